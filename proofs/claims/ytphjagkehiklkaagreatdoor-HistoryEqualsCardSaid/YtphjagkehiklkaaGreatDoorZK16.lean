/- Texts. -/
import Derived.Test.YtphjagkehiklkaaGreatDoorZK15
set_option linter.unusedVariables false
set_option linter.unusedSimpArgs false
set_option maxRecDepth 100000
set_option maxHeartbeats 8000000
namespace Go.Proofs.YtphjagkehiklkaaGreatDoor.Lt
open Go.RowKit
def aI(ds:List (List UInt8)):Nat→Nat→List UInt8
 |0,i=>ds.getD i []
 |l+1,i=>cR (aI ds l (2*i)) (aI ds l (2*i+1))
theorem pQ(ds:List (List UInt8)):∀l i,(i+1)*2^l≤ds.length→2^l≤1048576→aI ds l i=cW ((ds.drop (i*2^l)).take (2^l))
 |0,i,h,_=>by
  have d:i<ds.length:=by omega
  simp only[Nat.pow_zero,Nat.mul_one,aI];rw[List.drop_eq_getElem_cons d,List.take_succ_cons,List.take_zero,rp,List.getD_eq_getElem?_getD,List.getElem?_eq_getElem d];rfl
 |l+1,i,h,k=>by
  have m:1≤2^l:=Nat.one_le_two_pow;have b:2^(l+1)=2*2^l:=by rw[Nat.pow_succ];omega
  have c:i*2^(l+1)=2*i*2^l:=by rw[b,Nat.mul_comm 2 i,Nat.mul_assoc]
  have e:(i+1)*2^(l+1)=(2*i+1+1)*2^l:=by rw[b,←Nat.mul_assoc];congr 1;omega
  have a:(2*i+1)*2^l=2*i*2^l+2^l:=by rw[Nat.add_mul,Nat.one_mul]
  have j:(2*i+1+1)*2^l=2*i*2^l+2^l+2^l:=by rw[Nat.add_mul,Nat.one_mul,a]
  rw[e]at h;have f:((ds.drop (i*2^(l+1))).take (2^(l+1))).length=2^(l+1):=by
   rw[List.length_take,List.length_drop];omega
  have g:=yK (2^(l+1)) l (by omega) (by omega) (by omega);rw[mY _ _ f (by omega) (by omega),←g,aI,pQ ds l (2*i) (by rw[a];omega) (by omega),pQ ds l (2*i+1) h (by omega)];congr 2;·rw[List.take_take,c,show min (2^l) (2^(l+1))=2^l by omega]
  ·rw[List.drop_take,List.drop_drop,c,a,b,show 2*2^l-2^l=2^l by omega]
theorem pP(ds:List (List UInt8))(d:List UInt8):∀l i,(i+1)*2^l≤ds.length→aI (ds++[d]) l i=aI ds l i
 |0,i,h=>by
  have b:i<ds.length:=by omega
  simp only[aI];rw[List.getD_eq_getElem?_getD,List.getD_eq_getElem?_getD,List.getElem?_append_left b]
 |l+1,i,h=>by
  have c:2^(l+1)=2*2^l:=by rw[Nat.pow_succ];omega
  have a:(i+1)*2^(l+1)=(2*i+1+1)*2^l:=by rw[c,←Nat.mul_assoc];congr 1;omega
  have e:(2*i+1+1)*2^l=(2*i+1)*2^l+2^l:=by rw[Nat.add_mul,Nat.one_mul]
  rw[a]at h;rw[aI,aI,pP ds d l (2*i) (by omega),pP ds d l (2*i+1) h]
theorem dX(ds:List (List UInt8))(he:∀d∈ds,d.length=32)(l i:Nat)(h:(i+1)*2^l≤ds.length):(aI ds l i).length=32:=by
 cases l with
 |zero=>
  have a:i<ds.length:=by omega
  simp only[aI];rw[List.getD_eq_getElem?_getD,List.getElem?_eq_getElem a];exact he _ (List.getElem_mem a)
 |succ l=>exact eM _ _
def ia(l i:Nat):Value:= .agg #[.int .i64 (l:Int), .int .i64 (i:Int)]
theorem yI{l i a i':Nat}(h:ia l i=ia a i'):l=a∧i=i':=by
 unfold ia at h;simp only[Value.agg.injEq,Array.mk.injEq,List.cons.injEq,Value.int.injEq,true_and,and_true]at h;omega
theorem pB(e:Bool)(l i:Nat)(w:World):(Instr.checkKey e 10000 212 (ia l i)).run Tryz.prog w= .ok () w:=by kernel_rfl
theorem Bu{P:Program}(w:World)(d:Nat)(xs c:Array Value)(f1 f2:Field)(e g f h:Value)(a b:Bool)(k:f1.name≠ "_")(l:f2.name≠ "_")
  (m:(part f1.type xs f1.offset).run P w= .ok e w)(o:(part f1.type c f1.offset).run P w= .ok g w)(n:(part f2.type xs f2.offset).run P w= .ok f w)(p:(part f2.type c f2.offset).run P w= .ok h w)
  (i:(Op.equalIn d f1.type e g).run P w= .ok a w)(j:(Op.equalIn d f2.type f h).run P w= .ok b w):(Op.eqFields d xs c [f1,f2]).run P w= .ok (a&&b) w:=by
 simp only[Op.eqFields,k,l,ne_eq,not_false_eq_true,if_true,Sem.run_bind,m,o,Result.andThen_ok,i];cases a;·simp
 ·simp only[Bool.not_true,Bool.false_eq_true,if_false,Sem.run_bind,n,p,Result.andThen_ok,j,Bool.true_and];cases b;·simp
  ·simp
theorem zZ:(Tryz.prog.fieldsOf 212).toList.map (fun f=>(f.name,f.type,f.offset))=[("level",3,0),("index",3,1)]:=by kernel_rfl
theorem qt(a b:Value)(w:World):(part 3 #[a,b] 0).run Tryz.prog w= .ok a w∧(part 3 #[a,b] 1).run Tryz.prog w= .ok b w:=by
 have h:(isAgg 3).run Tryz.prog w= .ok false w:=by kernel_rfl
 unfold part;constructor<;>simp[Sem.run_bind,h]
theorem qW(l i d i':Nat)(w:World):(Op.equal 212 (ia l i) (ia d i')).run Tryz.prog w= .ok (decide (l=d)&&decide (i=i')) w:=by
 have k:Tryz.prog.underlying 212=some (.struct (Tryz.prog.fieldsOf 212)):=by kernel_rfl
 have j:Tryz.prog.stoodInHeld 212=false:=by kernel_rfl
 refine(run_equalIn_agg w 9999 _ _ _ k j).trans ?_;have c:=zZ;generalize(Tryz.prog.fieldsOf 212).toList=h at c;rcases h with _|⟨f1,_|⟨f2,_|⟨f3,fr⟩⟩⟩;·cases c
 ·simp at c
 ·simp only[List.map_cons,List.map_nil,List.cons.injEq,Prod.mk.injEq,and_true]at c;obtain⟨⟨n1,t1,f⟩,m,t2,g⟩:=c;have n:f1.name≠ "_":=by rw[n1];decide
  have o:f2.name≠ "_":=by rw[m];decide
  have e:∀a b:Nat,(((a:Int))==((b:Int)))=decide (a=b):=fun a b=>by
   rw[Bool.eq_iff_iff];simp;omega
  refine Bu w 9999 _ _ f1 f2 (.int .i64 (l:Int)) (.int .i64 (d:Int)) (.int .i64 (i:Int)) (.int .i64 (i':Int)) _ _ n o ?_ ?_ ?_ ?_ ?_ ?_;·rw[t1,f];exact(qt _ _ w).1
  ·rw[t1,f];exact(qt _ _ w).1
  ·rw[t2,g];exact(qt _ _ w).2
  ·rw[t2,g];exact(qt _ _ w).2
  ·rw[t1,←e];exact run_equalIn_int w 9998 _ .i64 .i64 _ _ Tryz.underlying3
  ·rw[t2,←e];exact run_equalIn_int w 9998 _ .i64 .i64 _ _ Tryz.underlying3
 ·simp at c
def rE(ds:List (List UInt8))(C:Nat→Nat→Prop)(e:MapEntry):Prop:=∃l i,e.key=ia l i∧e.val=aY (aI ds l i)∧C l i
def pv(es:Array MapEntry)(clock:Nat):Prop:=(∀e∈es.toList,e.born<clock)∧(es.toList.map (·.born)).Nodup∧es.toList.Pairwise (fun x y=>x.key≠y.key)
theorem pv.empty(clock:Nat):pv #[] clock:=⟨fun e he=>(by simp at he),by simp,by simp⟩
theorem pv.push{es:Array MapEntry}{clock:Nat}(h:pv es clock)(k v:Value)(g:∀e∈es.toList,e.key≠k):pv (es.push {key:=k,val:=v,born:=clock}) (clock+1):=by
 obtain⟨c,d,f⟩:=h;refine⟨fun e he=>?_,?_,?_⟩
 ·rw[Array.toList_push,List.mem_append]at he;rcases he with he|he;·have:=c e he;omega
  ·rw[List.mem_singleton]at he;subst he;exact Nat.lt_succ_self _
 ·rw[Array.toList_push,List.map_append,List.nodup_append];refine⟨d,by simp,fun x b y a=>?_⟩;obtain⟨e,he,rfl⟩:=List.mem_map.1 b;simp only[List.map_cons,List.map_nil,List.mem_singleton]at a;subst a;exact Nat.ne_of_lt (c e he)
 ·rw[Array.toList_push,List.pairwise_append];refine⟨f,by simp,fun x b y a=>?_⟩;rw[List.mem_singleton]at a;subst a;exact g x b
def dH(w:World)(b:Nat)(ds:List (List UInt8))(C:Nat→Nat→Prop):Prop:=
 ∃es clock,w.heap[b]? =some (.map es clock)∧(∀e∈es.toList,rE ds C e)∧(∀l i,C l i→∃e∈es.toList,e.key=ia l i)∧pv es clock
theorem dH.fr{w w':World}{T:Nat→Prop}{b:Nat}{ds:List (List UInt8)}{C:Nat→Nat→Prop}(h:dH w b ds C)(g:Fr T w w')(f:¬T b):dH w' b ds C:=by
 obtain⟨es,clock,a,c,d,e⟩:=h;exact⟨es,clock,(g.block b (Array.getElem?_eq_some_iff.1 a).1 f).trans a,c,d,e⟩
theorem dH.lt{w:World}{b:Nat}{ds:List (List UInt8)}{C:Nat→Nat→Prop}(h:dH w b ds C):b<w.heap.size:=by
 obtain⟨es,clock,a,_⟩:=h;exact(Array.getElem?_eq_some_iff.1 a).1
theorem dH.more{w:World}{b:Nat}{ds:List (List UInt8)}{C:Nat→Nat→Prop}(h:dH w b ds C)(d:List UInt8)(k:∀l i,C l i→(i+1)*2^l≤ds.length):dH w b (ds++[d]) C:=by
 obtain⟨es,clock,c,f,g,j⟩:=h;refine⟨es,clock,c,fun e he=>?_,g,j⟩;obtain⟨l,i,m,n,a⟩:=f e he;exact⟨l,i,m,by rw[n,pP ds d l i (k l i a)],a⟩
theorem sU(ds:List (List UInt8))(C:Nat→Nat→Prop)(l i:Nat)(w:World):∀(es:List MapEntry)(k:Nat),(∀e∈es,rE ds C e)→(∃e∈es,e.key=ia l i)→
  ∃j,(Instr.findAsking 212 (ia l i) es k).run Tryz.prog w= .ok (some (j,aY (aI ds l i))) w
 |[],_,_,h=>by obtain⟨e,he,_⟩:=h;cases he
 |e::es,k,d,h=>by
  obtain⟨o,i',n,u,v⟩:=d e (by simp);by_cases f:l=o∧i=i';·obtain⟨rfl,rfl⟩:=f;refine⟨k,?_⟩;simp only[Instr.findAsking,Sem.run_bind,n,qW,Result.andThen_ok,decide_true,Bool.and_self,if_true,u,Sem.run_pure]
  ·obtain⟨q,c,g⟩:=h;have m:(decide (l=o)&&decide (i=i'))=false:=by
    by_cases p:l=o;·rw[cD (show¬i=i' from fun r=>f ⟨p,r⟩),Bool.and_false]
    ·rw[decide_eq_false p,Bool.false_and]
   rcases List.mem_cons.1 c with rfl|c;·rw[n]at g;obtain⟨a,b⟩:=yI g;exact absurd ⟨a.symm,b.symm⟩ f
   ·obtain⟨j,s⟩:=sU ds C l i w es (k+1) (fun x t=>d x (by simp[t])) ⟨q,c,g⟩;refine⟨j,?_⟩;simp only[Instr.findAsking,Sem.run_bind,n,qW,Result.andThen_ok,m,Bool.false_eq_true,if_false];exact s
theorem vX(ds:List (List UInt8))(C:Nat→Nat→Prop)(l i:Nat)(w:World)(f:¬C l i):∀(es:List MapEntry)(k:Nat),(∀e∈es,rE ds C e)→
  (Instr.findAsking 212 (ia l i) es k).run Tryz.prog w= .ok none w
 |[],_,_=>by simp[Instr.findAsking]
 |e::es,k,a=>by
  obtain⟨g,i',j,n,m⟩:=a e (by simp);have b:(decide (l=g)&&decide (i=i'))=false:=by
   by_cases c:l=g
   ·by_cases d:i=i';·subst c d;exact absurd m f
    ·rw[decide_eq_false d,Bool.and_false]
   ·rw[decide_eq_false c,Bool.false_and]
  simp only[Instr.findAsking,Sem.run_bind,j,qW,Result.andThen_ok,b,Bool.false_eq_true,if_false];exact vX ds C l i w f es (k+1) (fun x h=>a x (by simp[h]))
theorem Jl:∃a,Tryz.prog.underlying 212=some (.struct a):=⟨_,Tryz.underlying212⟩
theorem qD(k:Value)(es:List MapEntry)(w:World)(r:Option (Nat×Value))(h:(Instr.findAsking 212 k es 0).run Tryz.prog w= .ok r w):(Instr.findKey 212 k es).run Tryz.prog w= .ok r w:=by
 obtain⟨a,hu⟩:=Jl;unfold Instr.findKey;simp only[Sem.run_bind,run_underlying hu,Result.andThen_ok];cases es with
 |nil=>
  simp only[Instr.findAsking,Sem.run_pure]at h;simpa[Instr.findNow]using h
 |cons e es=>
  simp only[Instr.findNow,Instr.sameNow];exact h
theorem pW:Tryz.prog.underlying 178=some (.map 212 38):=Tryz.underlying178
theorem th{w:World}{b:Nat}{ds:List (List UInt8)}{C:Nat→Nat→Prop}(h:dH w b ds C)(l i:Nat)(e:C l i):(Instr.lookup 178 (.map (some b)) (ia l i) false).run Tryz.prog w= .ok (aY (aI ds l i)) w:=by
 obtain⟨es,clock,a,c,d,_⟩:=h;obtain⟨j,f⟩:=sU ds C l i w es.toList 0 c (d l i e);unfold Instr.lookup;simp only[Sem.run_bind,run_underlying pW,Result.andThen_ok,MapKept.run_getObj_map a,Sem.run_pure,pB,qD _ _ _ _ f,Bool.false_eq_true,if_false]
theorem ti{w:World}{b:Nat}{ds:List (List UInt8)}{C:Nat→Nat→Prop}(h:dH w b ds C)(l i:Nat)(o:¬C l i)(v:Value)(t:v=aY (aI ds l i))(C':Nat→Nat→Prop)(c:∀a i',C' a i'↔C a i'∨(a=l∧i'=i)):
  ∃w',(Instr.mapUpdate 178 (.map (some b)) (ia l i) v).run Tryz.prog w= .ok () w'∧dH w' b ds C'∧Fr (fun k=>k=b) w w':=by
 obtain⟨es,clock,f,g,p,q⟩:=h;have s:=vX ds C l i w o es.toList 0 g;refine⟨w.putObj b (.map (es.push {key:=ia l i,val:=v,born:=clock}) (clock+1)),?_,?_,?_⟩;·unfold Instr.mapUpdate;simp only[Sem.run_bind,run_underlying pW,Result.andThen_ok,MapKept.run_getObj_map f,pB,qD _ _ _ _ s,MapKept.run_setObj_map _ f];rfl
 ·have r:=(Array.getElem?_eq_some_iff.1 f).1;refine⟨es.push {key:=ia l i,val:=v,born:=clock},clock+1,?_,fun e he=>?_,fun a i' j=>?_,q.push _ _ fun e he d=>?_⟩;·show(w.heap.setIfInBounds b _)[b]? =_;rw[Array.getElem?_setIfInBounds_self_of_lt r]
  ·rw[Array.toList_push,List.mem_append]at he;rcases he with he|he;·obtain⟨a,i',m,u,n⟩:=g e he;exact⟨a,i',m,u,(c _ _).2 (.inl n)⟩
   ·simp only[List.mem_singleton]at he;subst he;exact⟨l,i,rfl,t,(c _ _).2 (.inr ⟨rfl,rfl⟩)⟩
  ·rw[Array.toList_push];rcases(c _ _).1 j with j|⟨rfl,rfl⟩;·obtain⟨e,he,d⟩:=p a i' j;exact⟨e,List.mem_append_left _ he,d⟩
   ·exact⟨_,List.mem_append_right _ (List.mem_singleton.2 rfl),rfl⟩
  ·obtain⟨a,i',m,_,n⟩:=g e he;rw[m]at d;obtain⟨rfl,rfl⟩:=yI d;exact o n
 ·exact(Fr.grown (grownBy_putObj' w b _)).mono (fun k _ d=>by simpa using d)
end Go.Proofs.YtphjagkehiklkaaGreatDoor.Lt
namespace Go.Proofs.YtphjagkehiklkaaGreatDoor.Lt
open Go.RowKit
structure dZ(w:World)(p:Nat)(A:Option Addr)(n c:Nat)(mb:Option Nat)(ds:List (List UInt8))(C:Nat→Nat→Prop):Prop where
 aE:aq w p 180 #[.slice A n c, .map mb]
 row:w.ownsRow 0 38 32 (.slice A n c) n (ds.flatMap aA)
 len:ds.length=n
 each:∀d∈ds,d.length=32
 parts:(∃b,mb=some b∧dH w b ds C)∨(mb=none∧∀l i,¬C l i)
theorem dZ.ao{w w':World}{p:Nat}{A:Option Addr}{n c:Nat}{mb:Option Nat}{ds:List (List UInt8)}{C:Nat→Nat→Prop}(h:dZ w p A n c mb ds C)(a:Fr ag w w'):dZ w' p A n c mb ds C:=
 ⟨h.aE.fr a (fun x=>x),aL h.row a (fun _ _ x=>x),h.len,h.each,by
  rcases h.parts with⟨b,e,f⟩|d;·exact .inl ⟨b,e,f.fr a (fun x=>x)⟩
  ·exact .inr d⟩
theorem dZ.Nx{w:World}{p:Nat}{A:Option Addr}{n c:Nat}{mb:Option Nat}{ds:List (List UInt8)}{C:Nat→Nat→Prop}(h:dZ w p A n c mb ds C):gv w (oe (.slice A n c)) A n ds:=⟨Rd.gR h.row,h.len,h.each⟩
theorem dZ.part{w:World}{p:Nat}{A:Option Addr}{n c:Nat}{mb:Option Nat}{ds:List (List UInt8)}{C:Nat→Nat→Prop}(h:dZ w p A n c mb ds C){l i:Nat}(e:C l i):∃b,mb=some b∧dH w b ds C:=by
 rcases h.parts with d|⟨_,a⟩;·exact d
 ·exact absurd e (a l i)
theorem Dm{g:Oper}{a:Act}{w:World}{K:Act→World→Prop}{Q:Exit→Act→World→Prop}(m x:Operand)(d:g.op= .lookup 178 m x false)
  {c b v:Value}(hm:a.eval m=c)(f:a.eval x=b)(e:(Instr.lookup 178 c b false).run Tryz.prog w= .ok v w)(h:K (a.put g.dst v) w):g.wp Tryz.prog a w K Q:=by
 unfold Oper.wp execOp;simp only[d,hm,f,Sem.run_bind,e,Result.andThen_ok];exact h
theorem eL(p:Nat)(A:Option Addr)(n c:Nat)(mb:Option Nat)(ds:List (List UInt8))(C:Nat→Nat→Prop)(l i:Nat)(w:World)(B:dZ w p A n c mb ds C)(H:(i+1)*2^l≤n)(z:l≠0→C l i)(az:l≤64)(aM:n≤1048576):
  Calls Tryz.prog 131 #[.pointer (some ⟨p,0,none⟩),ia l i] w (aH w (aY (aI ds l i))):=by
 have N:(aI ds l i).length=32:=dX ds B.each l i (by rw[B.len];exact H);have ac:i<n:=by
  have:1≤2^l:=Nat.one_le_two_pow;have:(i+1)*1≤(i+1)*2^l:=Nat.mul_le_mul_left _ this;omega
 have y:Hid (dI (aA (aI ds l i)).toArray):=dI.of N;have U:Hid ((Tryz.prog.info? 38).map (·.size)=some (aA (aI ds l i)).length):=by rw[aA,List.length_map,N];exact fo
 have i4:i≤1048576:=by omega
 by_cases s:l=0
 ·obtain⟨J,d,rfl,_,am,_,I⟩:=B.Nx.at_ ac;have K:d=aI ds l i:=by
   rw[s];simp only[aI];rw[List.getD_eq_getElem?_getD,am];rfl
  rw[K]at I;have R:=af I;have X:Hid (w.cell? ⟨p,0,none⟩=some (.slice (some J) n c)):=B.aE.cell 0;have aL:(i:Int)<(n:Int):=by omega
  have t0:((l:Int)==0)=true:=by rw[s];rfl
  unfold aY;rw[show∀x:List UInt8,x.map bN=aA x from fun _=>rfl];generalize aA (aI ds l i)=q at*;clear B am K I N H z s;change Calls _ _ #[_, .agg #[.int .i64 (l:Int), .int .i64 (i:Int)]] _ _;go_enter Tryz.func131,Tryz.ntmps131;go_wp2_with(refine aB rfl 212 (.tmp 1) rfl _ rfl ?_);intro w1 n1;have r:=af n1;clear n1;go_wp2_with(refine an rfl 38 rfl aZ iR aD rfl ?_);intro w2 t;have D:Hid (aq w2 w.heap.size 212 #[.int .i64 (l:Int), .int .i64 (i:Int)]):=r.out.aE.fr t.fr (fun x=>x);have O:=af t.aE;have F:=af (r.out.fr.trans t.fr);have Q:Hid (w.heap.size≤w1.heap.size):=r.out.fr.size;have M:Hid (w2.cell? ⟨w.heap.size,0,none⟩=some (.int .i64 l)):=D.out.cell 0;have T:Hid (w2.cell? ⟨w.heap.size,1,none⟩=some (.int .i64 i)):=D.out.cell 1;clear t r D;generalize o:w.heap.size=g3 at*;have G:=af o;clear o;generalize w1.heap.size=g4 at*;have i0:=M.out;have av:Hid (w2.cell? ⟨p,0,none⟩=some (.slice (some J) n c)):=F.out.ak X.out (fun x=>x);have ao:Hid (∀j v,q[j]? =some v→w2.cell? ((J.add (i*32)).add j)=some v):=fun j v ad=>F.out.ak (R.out j v ad) (fun x=>x);go_upto_region 2 with fail;clear i0;refine ay 8 ag [Is (.pointer (some ⟨p,0,none⟩)),Is (.pointer (some ⟨p,0,none⟩)),Is (.pointer (some ⟨p,0,none⟩)),Is (.slice (some J) n c),Is (.pointer (some ⟨g3,1,none⟩)),Is (.int .i64 i),Is (.pointer (some (J.add (i*32)))),Is (.agg q.toArray)] [] (fun _=>True) (fun _ _=>false) (by kernel_rfl) (by kernel_rfl) (by kernel_rfl) (by kernel_rfl) ⟨Is.ah _,Is.ah _,Is.ah _,Is.ah _,Is.ah _,Is.ah _,Is.ah _,Is.ah _,trivial⟩ trivial (fun _ _ _ _ h=>h) trivial ?_ ?_
  ·refine⟨?_,?_,?_,?_,?_,?_,?_,?_,trivial⟩;all_goals intro u w' d f a m k g
   all_goals simp only[bw,bC,bD,bE,ar,Act.put,bF,bG,bH,Nat.reduceAdd,Nat.zero_add]
   ·clear a m k g;refine aj ?_;go_simp;exact⟨_,rfl,al⟩
   ·have s:u 0=_:=a 0;clear a m k g;simp only[s];refine aj ?_;go_simp;exact⟨_,rfl,al⟩
   ·have H:u 1=_:=a 1;clear a m k g;simp only[H];refine aj ?_;go_simp;exact⟨_,rfl,al⟩
   ·have z:u 2=_:=a 2;clear a m k g;simp only[z];refine aj ?_;have I:=f.ak av.out (fun x=>x);go_simp;exact⟨_,rfl,al⟩
   ·clear a m k g;refine aj ?_;go_simp;exact⟨_,rfl,al⟩
   ·have aa:u 4=_:=a 4;clear a m k g;simp only[aa];refine aj ?_;have I:=f.ak T.out (fun x=>x);go_simp;exact⟨_,rfl,al⟩
   ·have Z:u 3=_:=a 3;have ab:u 5=_:=a 5;clear a m k g;simp only[Z,ab];refine aj ?_;go_simp;exact⟨_,rfl,al⟩
   ·have aF:u 6=_:=a 6;clear a m k g;simp only[aF];refine aj ?_;exact au _ _ rfl (J.add (i*32)) rfl q _ (fun j v ad=>f.ak (ao.out j v ad) (fun x=>x)) Tryz.underlying38 rfl U.out ⟨_,rfl,al⟩
  ·intro u w' f a g;have aG:u 7=_:=a 7 (by omega);have E:=af (O.out.fr f (fun x=>x));have P:=af (F.out.trans f);clear a g f;simp only[bw,bC,bD,bE,ar,Act.put,bF,bG,bH,dj,dk,Nat.reduceAdd,Nat.zero_add,aG];refine ai rfl 38 (.tmp 4) _ rfl g4 q.toArray rfl rfl _ _ E.out y.out.info y.out.zero y.out.one ?_;intro L b5 f5;have V:=af b5;have W:Hid (Fr ag w L):=P.out.aw f5 (fun i aK e=>by have aC:i=g4:=e;have:=Q.out;have:=G.out;omega);clear b5 f5;go_wp2;exact bodyPost_ret (results_cell_row (fn:=Tryz.f131) (p:=4) (ty:=38) Tryz.results131 _ L _ 38 q.toArray (0,0) _ rfl V.out Tryz.underlying38 rfl y.out.info) rfl ⟨rfl,W.out⟩
 ·obtain⟨b,rfl,ae⟩:=B.part (z s);have S:Hid (∀w',Fr ag w w'→(Instr.lookup 178 (.map (some b)) (ia l i) false).run Tryz.prog w'= .ok (.agg (aA (aI ds l i)).toArray) w'):=fun w' f=>th (ae.fr f (fun x=>x)) l i (z s);have Y:Hid (w.cell? ⟨p,1,none⟩=some (.map (some b))):=B.aE.cell 1;have t0:((l:Int)==0)=false:=by rw[beq_eq_false_iff_ne];omega
  unfold aY;rw[show∀x:List UInt8,x.map bN=aA x from fun _=>rfl];generalize aA (aI ds l i)=q at*;clear B N H z ae;change Calls _ _ #[_, .agg #[.int .i64 (l:Int), .int .i64 (i:Int)]] _ _;go_enter Tryz.func131,Tryz.ntmps131;go_wp2_with(refine aB rfl 212 (.tmp 1) rfl _ rfl ?_);intro w1 n1;have r:=af n1;clear n1;go_wp2_with(refine an rfl 38 rfl aZ iR aD rfl ?_);intro w2 t;have D:Hid (aq w2 w.heap.size 212 #[.int .i64 (l:Int), .int .i64 (i:Int)]):=r.out.aE.fr t.fr (fun x=>x);have O:=af t.aE;have F:=af (r.out.fr.trans t.fr);have Q:Hid (w.heap.size≤w1.heap.size):=r.out.fr.size;have M:Hid (w2.cell? ⟨w.heap.size,0,none⟩=some (.int .i64 l)):=D.out.cell 0;have T:Hid (w2.cell? ⟨w.heap.size,1,none⟩=some (.int .i64 i)):=D.out.cell 1;clear t r D;generalize o:w.heap.size=g3 at*;have G:=af o;clear o;generalize w1.heap.size=g4 at*;have i0:=M.out;have ax:Hid (w2.cell? ⟨p,1,none⟩=some (.map (some b))):=F.out.ak Y.out (fun x=>x);have ap:Hid (∀w',Fr ag w2 w'→(Instr.lookup 178 (.map (some b)) (ia l i) false).run Tryz.prog w'= .ok (.agg q.toArray) w'):=fun w' f=>S.out _ (F.out.trans f);go_upto_region 3 with fail;clear i0;refine ay 6 ag [Is (.pointer (some ⟨p,0,none⟩)),Is (.pointer (some ⟨p,0,none⟩)),Is (.pointer (some ⟨p,1,none⟩)),Is (.map (some b)),Is (ia l i),Is (.agg q.toArray)] [] (fun _=>True) (fun _ _=>false) (by kernel_rfl) (by kernel_rfl) (by kernel_rfl) (by kernel_rfl) ⟨Is.ah _,Is.ah _,Is.ah _,Is.ah _,Is.ah _,Is.ah _,trivial⟩ trivial (fun _ _ _ _ h=>h) trivial ?_ ?_
  ·refine⟨?_,?_,?_,?_,?_,?_,trivial⟩;all_goals intro u w' d f a m k g
   all_goals simp only[bw,bC,bD,bE,ar,Act.put,bF,bG,bH,Nat.reduceAdd,Nat.zero_add]
   ·clear a m k g;refine aj ?_;go_simp;exact⟨_,rfl,al⟩
   ·have s:u 0=_:=a 0;clear a m k g;simp only[s];refine aj ?_;go_simp;exact⟨_,rfl,al⟩
   ·have H:u 1=_:=a 1;clear a m k g;simp only[H];refine aj ?_;go_simp;exact⟨_,rfl,al⟩
   ·have z:u 2=_:=a 2;clear a m k g;simp only[z];refine aj ?_;have I:=f.ak ax.out (fun x=>x);go_simp;exact⟨_,rfl,al⟩
   ·clear a m k g;refine aj ?_;have I:=f.ak M.out (fun x=>x);have aJ:=f.ak T.out (fun x=>x);go_simp;exact⟨_,rfl,al⟩
   ·have Z:u 3=_:=a 3;have aa:u 4=_:=a 4;clear a m k g;simp only[Z,aa];refine aj ?_;exact Dm _ _ rfl rfl rfl (ap.out _ f) ⟨_,rfl,al⟩
  ·intro u w' f a g;have ab:u 5=_:=a 5 (by omega);have E:=af (O.out.fr f (fun x=>x));have P:=af (F.out.trans f);clear a g f;simp only[bw,bC,bD,bE,ar,Act.put,bF,bG,bH,dj,dk,Nat.reduceAdd,Nat.zero_add,ab];refine ai rfl 38 (.tmp 4) _ rfl g4 q.toArray rfl rfl _ _ E.out y.out.info y.out.zero y.out.one ?_;intro L b5 f5;have V:=af b5;have W:Hid (Fr ag w L):=P.out.aw f5 (fun i aK e=>by have aC:i=g4:=e;have:=Q.out;have:=G.out;omega);clear b5 f5;go_wp2;exact bodyPost_ret (results_cell_row (fn:=Tryz.f131) (p:=4) (ty:=38) Tryz.results131 _ L _ 38 q.toArray (0,0) _ rfl V.out Tryz.underlying38 rfl y.out.info) rfl ⟨rfl,W.out⟩
end Go.Proofs.YtphjagkehiklkaaGreatDoor.Lt
namespace Go.Proofs.YtphjagkehiklkaaGreatDoor.Lt
open Go.RowKit
def Full(C:Nat→Nat→Prop)(n:Nat):Prop:=∀l i,l≠0→(i+1)*2^l≤n→C l i
def uG(m:Nat):Prop:=∀(w:World)(p:Nat)(A:Option Addr)(n c:Nat)(mb:Option Nat)(ds:List (List UInt8))(C:Nat→Nat→Prop)(f k:Nat),dZ w p A n c mb ds C→Full C n→n≤1048576→bT w→1≤m→f+m≤n→m≤2^k→2^k∣f→
 Calls Tryz.prog 110 #[.pointer (some ⟨p,0,none⟩), .int .i64 f, .int .i64 m] w (aH w (aY (cW ((ds.drop f).take m))))
theorem JS(m:Nat)(f:1≤m)(hm:m≤1048576):∃lv,Lib.bitLen m=lv+1∧2^lv≤m∧m<2*2^lv∧lv≤40:=by
 obtain⟨a,b,c⟩:=Lib.bitLenAux_bounds 64 m (by omega) (by omega);refine⟨Lib.bitLen m-1,by unfold Lib.bitLen;omega,b,?_,?_⟩
 ·have h:Lib.bitLen m=(Lib.bitLen m-1)+1:=by unfold Lib.bitLen;omega
  have d:m<2^Lib.bitLen m:=c;rw[h,Nat.pow_succ]at d;omega
 ·rcases Nat.lt_or_ge 40 (Lib.bitLen m-1)with h|h;·have:2^41≤2^(Lib.bitLen m-1):=Nat.pow_le_pow_right (by omega) h;have e:2^(Lib.bitLen m-1)≤m:=b;omega
  ·exact h
theorem pF{a b f:Nat}(h:a≤b)(c:2^b∣f):2^a∣f:=Nat.dvd_trans (Nat.pow_dvd_pow 2 h) c
theorem pS{a b:Nat}(h:2^a≤2^b):a≤b:=by
 rcases Nat.lt_or_ge b a with c|c;·have:=Nat.pow_lt_pow_right (a:=2) (by omega) c;omega
 ·exact c
theorem I8(m lv:Nat)(s:Lib.bitLen m=lv+1)(hm:m=2^lv)(S:lv≤40):uG m:=by
 intro w p A n c mb ds C f k j hF Q N V r t o;obtain⟨i,rfl⟩:∃i,f=i*2^lv:=by
  obtain⟨q,R⟩:=pF (pS (by rw[←hm];exact t)) o;exact⟨q,by rw[R,Nat.mul_comm]⟩
 have g:(i+1)*2^lv≤n:=by rw[Nat.add_mul,Nat.one_mul,←hm]at*;exact r
 have e:=pQ ds lv i (by rw[j.len];exact g) (by omega);rw[hm,←e];have G:(aI ds lv i).length=32:=dX ds j.each lv i (by rw[j.len];exact g);have J:Hid (∀w',Fr ag w w'→Calls Tryz.prog 131 #[.pointer (some ⟨p,0,none⟩), .agg #[.int .i64 (lv:Int), .int .i64 (i:Int)]] w' (aH w' (aY (aI ds lv i)))):=
  fun w' O=>eL p A n c mb ds C lv i w' (j.ao O) g (fun h=>hF lv i h g) (by omega) Q;have u:Hid (dI (aA (aI ds lv i)).toArray):=dI.of G;have z:Hid (∀w,Calls Tryz.prog 150 #[.int .u64 (m:Int)] w fun e w'=>e= .returned (.int .i64 (Lib.bitLen m:Nat))∧w'=w):=fun w=>Tryz.bits_Len (m:Int) w (by omega) (by omega);rw[s,hm]at z;obtain⟨P,y⟩:∃P,P=2^lv:=⟨_,rfl⟩;obtain⟨d,b⟩:∃d,d=i*2^lv:=⟨_,rfl⟩;have a:(d:Int)/((2^lv:Nat):Int)=(i:Int):=by
  have:d/2^lv=i:=by rw[b];exact Nat.mul_div_cancel _ Nat.one_le_two_pow
  omega
 have B:IntKind.i64.wrap (1*2^lv)=((P:Nat):Int):=by
  rw[y,Int.one_mul];have:(2:Int)^lv=((2^lv:Nat):Int):=by simp
  rw[this];exact IntWalk.i64_in _ (by omega)
 have F:IntKind.i64.wrap (2^lv)=((P:Nat):Int):=by rw[←B,Int.one_mul]
 have T:((lv+1:Nat):Int)-1=(lv:Int):=by omega
 have D:(d:Int)/2^lv=(i:Int):=by rw[←a];simp
 rw[←b,←y];rw[←y]at z a;have W:P≤1048576:=by omega
 have f4:d≤1048576:=by omega
 have i4:i≤1048576:=by
  have:i*1≤i*2^lv:=Nat.mul_le_mul_left _ Nat.one_le_two_pow;omega
 unfold aY at*;simp only[show∀l:List UInt8,l.map bN=aA l from fun _=>rfl]at*;generalize aA (aI ds lv i)=E at*;clear j hF N e G s hm y b r t o g;go_enter Tryz.func110,Tryz.ntmps110;go_wp2_with(refine an rfl 38 rfl aZ iR aD rfl ?_);intro w1 n1;have v:=af n1;clear n1;go_wp2_with fail;refine(z.out _).mono ?_;rintro e w'⟨rfl,rfl⟩;go_wp2_with fail;refine(J.out _ v.out.fr).mono ?_;rintro e w2⟨rfl,f2⟩;have K:=af (v.out.fr.trans f2);have I:=af (v.out.aE.fr f2 (fun x=>x));clear f2 v;go_wp2_with(refine ai rfl 38 (.tmp 6) _ rfl w.heap.size E.toArray rfl rfl _ _ I.out u.out.info u.out.zero u.out.one ?_);intro H b5 f5;have L:=af b5;have M:Hid (Fr ag w H):=K.out.aw f5 (fun i g e=>by have U:i=w.heap.size:=e;omega);clear b5 f5;go_wp2;exact bodyPost_ret (results_cell_row (fn:=Tryz.f110) (p:=6) (ty:=38) Tryz.results110 _ H _ 38 E.toArray (0,0) _ rfl L.out Tryz.underlying38 rfl u.out.info) rfl ⟨rfl,M.out⟩
theorem qJ{α:Type}(L:List α){a b:Nat}(h:a≤b):(L.take b).take a=L.take a:=by rw[List.take_take,Nat.min_eq_left h]
theorem Fq(m lv:Nat)(O:∀j,j<m→uG j)(t:Lib.bitLen m=lv+1)(D:2^lv<m)(W:m<2*2^lv)(am:lv≤40):uG m:=by
 intro w p A n c mb ds C f k a hF Z E al M N r;have F:1≤2^lv:=Nat.one_le_two_pow;have o:2^lv=aN m:=yK m lv (by omega) D (by omega);have Y:lv≤k:=pS (by omega);have K:2^lv∣f:=pF Y r;have hlen:((ds.drop f).take m).length=m:=by rw[List.length_take,List.length_drop,a.len];omega
 have e:=mY _ m hlen (by omega) (by omega);rw[←o,qJ _ (by omega),List.drop_take,List.drop_drop]at e;rw[e];have H:=af (fun w=>nt m w (by omega) (by omega));rw[←o]at H;have CL:Hid (∀w',Fr ag w w'→Calls Tryz.prog 110 #[.pointer (some ⟨p,0,none⟩), .int .i64 f, .int .i64 (2^lv:Nat)] w' (aH w' (aY (cW ((ds.drop f).take (2^lv)))))):=
  fun w' q=>O (2^lv) D w' p A n c mb ds C f lv (a.ao q) hF Z (E.ao q) F (by omega) (Nat.le_refl _) K;have G:Hid (∀w',Fr ag w w'→Calls Tryz.prog 110 #[.pointer (some ⟨p,0,none⟩), .int .i64 (f+2^lv:Nat), .int .i64 (m-2^lv:Nat)] w' (aH w' (aY (cW ((ds.drop (f+2^lv)).take (m-2^lv)))))):=
  fun w' q=>O (m-2^lv) (by omega) w' p A n c mb ds C (f+2^lv) lv (a.ao q) hF Z (E.ao q) (by omega) (by omega) (by omega) ((Nat.dvd_add_right K).2 (Nat.dvd_refl _));have l1:(cW ((ds.drop f).take (2^lv))).length=32:=gM (2^lv) _ (by rw[List.length_take,List.length_drop,a.len];omega) F (by omega) (fun d L=>a.each d (List.mem_of_mem_drop (List.mem_of_mem_take L)));have l2:(cW ((ds.drop (f+2^lv)).take (m-2^lv))).length=32:=gM (m-2^lv) _ (by rw[List.length_take,List.length_drop,a.len];omega) (by omega) (by omega) (fun d L=>a.each d (List.mem_of_mem_drop (List.mem_of_mem_take L)));have ac:Hid (∀w',Fr ag w w'→Calls Tryz.prog 122 #[aY (cW ((ds.drop f).take (2^lv))),aY (cW ((ds.drop (f+2^lv)).take (m-2^lv)))] w' (aH w' (aY (cR (cW ((ds.drop f).take (2^lv))) (cW ((ds.drop (f+2^lv)).take (m-2^lv))))))):=fun w' q=>lR _ _ l1 l2 w' (E.ao q);generalize cW ((ds.drop f).take (2^lv))=Q at*;generalize cW ((ds.drop (f+2^lv)).take (m-2^lv))=R at*;have z:Hid (dI (aA (cR Q R)).toArray):=dI.of (eM _ _);have U:Hid (∀w,Calls Tryz.prog 150 #[.int .u64 (m:Int)] w fun e w'=>e= .returned (.int .i64 (Lib.bitLen m:Nat))∧w'=w):=fun w=>Tryz.bits_Len (m:Int) w (by omega) (by omega);rw[t]at U;have v:IntKind.i64.wrap (1*2^lv)=((2^lv:Nat):Int):=by
  rw[Int.one_mul];have:(2:Int)^lv=((2^lv:Nat):Int):=by simp
  rw[this];exact IntWalk.i64_in _ (by omega)
 have y:IntKind.i64.wrap (2^lv)=((2^lv:Nat):Int):=by rw[←v,Int.one_mul]
 obtain⟨P,X⟩:∃P,P=2^lv:=⟨_,rfl⟩;rw[←X]at v y H CL G D W F;have ap:((lv+1:Nat):Int)-1=(lv:Int):=by omega
 have ay:((m:Int)==(P:Int))=false:=by rw[beq_eq_false_iff_ne];omega
 have aq:¬m=P:=by omega
 obtain⟨f2,s⟩:∃f2:Nat,f2=f+P:=⟨_,rfl⟩;obtain⟨m2,u⟩:∃m2:Nat,m2=m-P:=⟨_,rfl⟩;rw[←s,←u]at G;have s1:(f:Int)+(P:Int)=(f2:Int):=by omega
 have s2:(m:Int)-(P:Int)=(m2:Int):=by omega
 have f4:f≤1048576:=by omega
 have f24:f2≤1048576:=by omega
 have m4:m≤1048576:=by omega
 have m24:m2≤1048576:=by omega
 have au:P≤1048576:=by omega
 unfold aY at*;simp only[show∀l:List UInt8,l.map bN=aA l from fun _=>rfl]at*;generalize aA (cR Q R)=V at*;generalize aA Q=aj at*;generalize aA R=ak at*;clear a hF E e t X s u M N r K Y o hlen l1 l2 O al D W F;go_enter Tryz.func110,Tryz.ntmps110;go_wp2_with(refine an rfl 38 rfl aZ iR aD rfl ?_);intro w1 n1;have B:=af n1;clear n1;go_wp2_with fail;refine(U.out _).mono ?_;rintro e w'⟨rfl,rfl⟩;go_wp2_with fail;refine(H.out _).mono ?_;rintro e ar⟨rfl,rfl⟩;go_wp2_with fail;refine(CL.out _ B.out.fr).mono ?_;rintro e w2⟨rfl,b⟩;have I:=af (B.out.fr.trans b);have S:=af (B.out.aE.fr b (fun x=>x));clear b B;go_wp2_with fail;refine(G.out _ I.out).mono ?_;rintro e w3⟨rfl,g⟩;have J:=af (I.out.trans g);have T:=af (S.out.fr g (fun x=>x));clear g I S;go_wp2_with fail;refine(ac.out _ J.out).mono ?_;rintro e az⟨rfl,h⟩;have ad:=af (J.out.trans h);have ab:=af (T.out.fr h (fun x=>x));clear h J T;go_wp2_with(refine ai rfl 38 (.tmp 6) _ rfl w.heap.size V.toArray rfl rfl _ _ ab.out z.out.info z.out.zero z.out.one ?_);intro aa b5 f5;have ae:=af b5;have ah:Hid (Fr ag w aa):=ad.out.aw f5 (fun i ax e=>by have av:i=w.heap.size:=e;omega);clear b5 f5;go_wp2;exact bodyPost_ret (results_cell_row (fn:=Tryz.f110) (p:=6) (ty:=38) Tryz.results110 _ aa _ 38 V.toArray (0,0) _ rfl ae.out Tryz.underlying38 rfl z.out.info) rfl ⟨rfl,ah.out⟩
theorem xp(m:Nat)(hm:m≤1048576):uG m:=by
 induction m using Nat.strongRecOn with
 |_ m l=>
  rcases Nat.eq_zero_or_pos m with rfl|g;·intro w p A n c mb ds C f k _ _ _ _ h;omega
  ·obtain⟨lv,a,b,d,e⟩:=JS m g hm;by_cases h:m=2^lv;·exact I8 m lv a h e
   ·exact Fq m lv (fun j i=>l j i (by omega)) a (by omega) d e
end Go.Proofs.YtphjagkehiklkaaGreatDoor.Lt
namespace Go.Proofs.YtphjagkehiklkaaGreatDoor.Lt
open Go.RowKit
theorem yc(w:World)(A:Option Addr)(n c:Nat)(xs:List Value)(b:w.ownsRow 0 38 32 (.slice A n c) n xs)(F:¬n+1≤c)(H:n≤1048576)(f:Addr)(h:Nat)(news:List Value)(G:news.length=32)(a:∀j u,news[j]? =some u→w.cell? (f.add j)=some u)(x:∀u∈news,u.oneCell'=true)(ty:TypeId):
  ∃g cap w',(Builtin.append_ #[31,31] ty #[.slice A n c, .slice (some f) 1 h]).run Tryz.prog w= .ok (.slice (some ⟨g,0,none⟩) (n+1) cap) w'∧Fr ag w w'∧w.heap.size≤g∧
   w'.ownsRow 0 38 32 (.slice (some ⟨g,0,none⟩) (n+1) cap) (n+1) (xs++news):=by
 obtain⟨i,o,r,v,t⟩:=info_parts sd;have p:Tryz.prog.underlying 31=some (.slice 38):=Tryz.underlying31;obtain⟨I,w',d,s⟩:=Dd (P:=Tryz.prog) w 31 ty 38 i aZ 32 32 p o r v t rfl (by omega) (.slice A n c) n xs b (fun k=>k=f.block) (some f) 1 h news ⟨by omega,fun _=>⟨f,rfl,rfl,a⟩⟩ x (by omega) (by omega);have D:xs.length=n*32:=b.1;rcases b.2 with⟨q,E⟩|⟨g,cap,cur,q,_,_,C,_⟩;·cases q;have e:=run_append_nil (P:=Tryz.prog) w 31 ty 38 i aZ p o r f 1 h news (by omega) a (by omega) (by omega) (by omega);rw[d]at e;injection e with l m;subst l m;exact⟨w.heap.size,_,_,d,az.drew.alloc _,Nat.le_refl _,s.own⟩
 ·injection q with y B z;subst y;have holds:∀j u,xs[j]? =some u→w.cell? ((⟨g,0,none⟩:Addr).add j)=some u:=b.cells (g:=g) rfl;have e:=run_append_grow (P:=Tryz.prog) w 31 ty 38 i aZ p o r ⟨g,0,none⟩ n c xs (by rw[v];exact D) holds f 1 h news (by omega) a (by omega) (by omega) (by rw[t];exact growslice_fits (by omega) (by omega));rw[d]at e;injection e with l m;subst l m;exact⟨w.heap.size,_,_,d,az.drew.alloc _,Nat.le_refl _,s.own⟩
theorem sy{z:Oper}{a:Act}{w:World}{K:Act→World→Prop}{Q:Exit→Act→World→Prop}(s x:Operand)(t:z.op= .call {callee:= .builtin .append,args:=#[s,x],argTypes:=#[31,31]})
  (A:Option Addr)(n c:Nat)(xs:List Value)(v:a.eval s= .slice A n c)(e:w.ownsRow 0 38 32 (.slice A n c) n xs)(m:¬n+1≤c)(r:n≤1048576)(i:Addr)(k:Nat)(news:List Value)(y:a.eval x= .slice (some i) 1 k)(q:news.length=32)(b:∀j u,news[j]? =some u→w.cell? (i.add j)=some u)(l:∀u∈news,u.oneCell'=true)
  (h:∀g cap w',Fr ag w w'→w.heap.size≤g→w'.ownsRow 0 38 32 (.slice (some ⟨g,0,none⟩) (n+1) cap) (n+1) (xs++news)→K (a.put z.dst (.slice (some ⟨g,0,none⟩) (n+1) cap)) w'):z.wp Tryz.prog a w K Q:=by
 obtain⟨g,cap,w',f,o,p,d⟩:=yc w A n c xs e m r i k news q b l z.type;unfold Oper.wp execOp;simp only[t,resolve,invoke,builtin,Sem.run_bind,Sem.run_pure,Result.andThen_ok,List.map_toArray,List.map_cons,List.map_nil,v,y,f];exact h g cap w' o p d
theorem qL{E:Oper}{a:Act}{w:World}{K:Act→World→Prop}{Q:Exit→Act→World→Prop}(s x:Operand)(y:E.op= .call {callee:= .builtin .append,args:=#[s,x],argTypes:=#[31,31]})
  (g n c:Nat)(xs:List Value)(z:a.eval s= .slice (some ⟨g,0,none⟩) n c)(e:w.ownsRow 0 38 32 (.slice (some ⟨g,0,none⟩) n c) n xs)(q:n+1≤c)(l:Addr)(o:Nat)(news:List Value)(A:a.eval x= .slice (some l) 1 o)(C:news.length=32)(b:∀j u,news[j]? =some u→w.cell? (l.add j)=some u)(p:∀u∈news,u.oneCell'=true)
  (h:∀w',Fr (fun k=>k=g) w w'→w'.ownsRow 0 38 32 (.slice (some ⟨g,0,none⟩) (n+1) c) (n+1) (xs++news)→K (a.put E.dst (.slice (some ⟨g,0,none⟩) (n+1) c)) w'):E.wp Tryz.prog a w K Q:=by
 obtain⟨i,t,D,m,B⟩:=info_parts sd;obtain⟨w',f,d,r⟩:=run_append_fits (P:=Tryz.prog) w 0 31 E.type 38 i 32 Tryz.underlying31 t m g n c xs e l 1 o news (by omega) b p q;unfold Oper.wp execOp;simp only[y,resolve,invoke,builtin,Sem.run_bind,Sem.run_pure,Result.andThen_ok,List.map_toArray,List.map_cons,List.map_nil,z,A,f];exact h w' ((Fr.grown r).mono (fun k _ v=>by simpa using v)) d
def bp(n l i:Nat):Prop:=l≠0∧(i+1)*2^l≤n
def cT(n lv l i:Nat):Prop:=l≠0∧((i+1)*2^l≤n∨((i+1)*2^l=n+1∧l≤lv))
theorem ue(n:Nat):Full (bp n) n:=fun _ _ h a=>⟨h,a⟩
theorem dH.congr{w:World}{b:Nat}{ds:List (List UInt8)}{C C':Nat→Nat→Prop}(h:dH w b ds C)(a:∀l i,C l i↔C' l i):dH w b ds C':=by
 obtain⟨es,clock,c,d,f,g⟩:=h;refine⟨es,clock,c,fun e he=>?_,fun l i j=>f l i ((a l i).2 j),g⟩;obtain⟨l,i,k,m,n⟩:=d e he;exact⟨l,i,k,m,(a l i).1 n⟩
theorem lG(n l i:Nat):bp n l i↔cT n 0 l i:=by
 unfold bp cT;constructor;·rintro⟨a,b⟩;exact⟨a, .inl b⟩
 ·rintro⟨a,b|⟨_,b⟩⟩;·exact⟨a,b⟩
  ·omega
theorem mK(n lv q l i:Nat)(h:(q+1)*2^(lv+1)=n+1):cT n (lv+1) l i↔cT n lv l i∨(l=lv+1∧i=q):=by
 unfold cT;constructor
 ·rintro⟨a,b|⟨b,c⟩⟩;·exact .inl ⟨a, .inl b⟩
  ·by_cases d:l≤lv;·exact .inl ⟨a, .inr ⟨b,d⟩⟩
   ·obtain rfl:l=lv+1:=by omega
    refine .inr ⟨rfl,?_⟩;have:(i+1)=(q+1):=Nat.eq_of_mul_eq_mul_right (Nat.two_pow_pos (lv+1)) (by rw[b,h]);omega
 ·rintro(⟨a,b|⟨b,c⟩⟩|⟨rfl,rfl⟩);·exact⟨a, .inl b⟩
  ·exact⟨a, .inr ⟨b,by omega⟩⟩
  ·exact⟨by omega, .inr ⟨h,Nat.le_refl _⟩⟩
theorem oq(n lv q:Nat)(h:(q+1)*2^(lv+1)=n+1):¬cT n lv (lv+1) q:=by
 rintro⟨_,b|⟨_,c⟩⟩;·omega
 ·omega
theorem oo(n lv idx:Nat)(h:(idx+1)*2^lv=n+1)(he:idx%2=0)(l i:Nat):cT n lv l i↔bp (n+1) l i:=by
 unfold cT bp;constructor
 ·rintro⟨a,b|⟨b,_⟩⟩;·exact⟨a,by omega⟩
  ·exact⟨a,by omega⟩
 ·rintro⟨a,b⟩;refine⟨a,?_⟩;by_cases f:(i+1)*2^l≤n;·exact .inl f
  ·refine .inr ⟨by omega,?_⟩;rcases Nat.lt_or_ge lv l with c|c
   ·exfalso;obtain⟨d,rfl⟩:∃d,l=lv+1+d:=⟨l-lv-1,by omega⟩;have e:(i+1)*2^(lv+1+d)=(2*((i+1)*2^d))*2^lv:=by
     rw[Nat.pow_add,Nat.pow_succ];simp only[Nat.mul_assoc,Nat.mul_comm,Nat.mul_left_comm]
    have:idx+1=2*((i+1)*2^d):=Nat.eq_of_mul_eq_mul_right (Nat.two_pow_pos lv) (by rw[h,←e];omega);omega
   ·exact c
theorem jz{ops:Array Oper}{rest:List Oper}{u:Oper}{a:Act}{w:World}{Q:Exit→Act→World→Prop}(f:u.guard=none)(m k x:Operand)(r:u.op= .mapUpdate 178 m k x)
  {b:Nat}{ds:List (List UInt8)}{C:Nat→Nat→Prop}(h:dH w b ds C)(l i:Nat){v:Value}(hm:a.eval m= .map (some b))(q:a.eval k=ia l i)(t:a.eval x=v)(j:¬C l i)(s:v=aY (aI ds l i))(C':Nat→Nat→Prop)(d:∀g i',C' g i'↔C g i'∨(g=l∧i'=i))
  (n:∀w',dH w' b ds C'→Fr (fun k=>k=b) w w'→wpList Tryz.prog ops Q rest (a.put u.dst undef) w'):wpList Tryz.prog ops Q (u::rest) a w:=by
 obtain⟨w',c,o,p⟩:=ti h l i j v s C' d;refine wpList_plain f fun K e=>?_;unfold Oper.wp execOp;simp only[r,hm,q,t,Sem.run_bind,c,Sem.run_pure,Result.andThen_ok];exact e _ _ (n w' o p)
end Go.Proofs.YtphjagkehiklkaaGreatDoor.Lt
namespace Go.Proofs.YtphjagkehiklkaaGreatDoor
open Go.RowKit Go.Shelf
structure Ri(a W:World)(g:Nat)(S:Nat→Prop)(st:fX):Prop where
 fr:Fr ag a W
 rr:Rr W g S st.1 st.2.1 st.2.2
 new:a.heap.size≤g
 sn:∀k,S k→a.heap.size≤k∧k<W.heap.size
theorem Rr.aE{W:World}{g:Nat}{S:Nat→Prop}{l:List UInt8}{p:Nat}{f:Int}(h:Rr W g S l p f):∃A n c,aq W g 193 #[.slice A n c, .int .i64 p, .int .i64 f]:=by
 obtain⟨A,n,c,a,_⟩:=h.ex;exact⟨A,n,c,a⟩
theorem Ri.step{c W W':World}{g:Nat}{S:Nat→Prop}{st a:fX}(h:Ri c W g S st)(k:gP W g S W' a.1 a.2.1 a.2.2):Ri c W' g S a:=
 ⟨h.fr.aw k.fr (fun i b e=>by have d:i=g:=e;have:=h.new;omega),k.rr,h.new,fun i b=>⟨(h.sn i b).1,Nat.lt_of_lt_of_le (h.sn i b).2 k.fr.size⟩⟩
theorem Ri.later{b W W':World}{g:Nat}{S:Nat→Prop}{st:fX}(h:Ri b W g S st)(f:Fr ag W W'):Ri b W' g S st:=
 ⟨h.fr.trans f,h.rr.lg f,h.new,fun i a=>⟨(h.sn i a).1,Nat.lt_of_lt_of_le (h.sn i a).2 f.size⟩⟩
theorem Ri.wX{j l W W':World}{g b:Nat}{S:Nat→Prop}{d st:fX}(a:Ri j l g S d)(h:Ri j W g S st)(f:Fr (fun k=>k=b) W W')(q:l.heap.size≤b):Ri j W' g S st:=by
 have o:=a.rr.lt;have p:=a.fr.size;refine⟨h.fr.aw f (fun i c e=>by have m:i=b:=e;omega),h.rr.lA f (fun e=>by have m:g=b:=e;omega) (fun k n e=>by
  have m:k=b:=e;have:=(a.sn k n).2;omega),h.new,fun i c=>⟨(h.sn i c).1,Nat.lt_of_lt_of_le (h.sn i c).2 f.size⟩⟩
def rP(a W:World)(g:Nat)(S:Nat→Prop)(v:Value)(st:fX)(e:Ending)(W':World):Prop:=e= .returned v∧Ri a W' g S st∧Fr (eN g) W W'
theorem Ri.number{b W:World}{g:Nat}{S:Nat→Prop}{st:fX}(h:Ri b W g S st)(aP:Int):
  Calls Tryz.prog 107 #[.pointer (some ⟨g,0,none⟩), .int .i64 aP] W (rP b W g S (.int .i64 (aO 0 (bj aP) st).1) (aO 0 (bj aP) st).2):=by
 obtain⟨l,p,f⟩:=st;refine(kG g S l p f aP W h.rr).mono ?_;rintro e w'⟨rfl,a⟩;exact⟨rfl,h.step a,a.fr⟩
theorem Ri.text{b W:World}{g:Nat}{S:Nat→Prop}{st:fX}(h:Ri b W g S st)(aP:Int):
  Calls Tryz.prog 104 #[.pointer (some ⟨g,0,none⟩), .int .i64 aP] W (rP b W g S (.string ⟨(aO [] (cu aP) st).1.toArray⟩) (aO [] (cu aP) st).2):=by
 obtain⟨l,p,f⟩:=st;refine(oN g S l p f aP W h.rr).mono ?_;rintro e w'⟨rfl,a⟩;exact⟨rfl,h.step a,a.fr⟩
theorem Ri.flag{b W:World}{g:Nat}{S:Nat→Prop}{st:fX}(h:Ri b W g S st):
  Calls Tryz.prog 119 #[.pointer (some ⟨g,0,none⟩)] W (rP b W g S (.bool (aO false cZ st).1) (aO false cZ st).2):=by
 obtain⟨l,p,f⟩:=st;refine(Fj g S l p f W h.rr).mono ?_;rintro e w'⟨rfl,a⟩;exact⟨rfl,h.step a,a.fr⟩
theorem Ri.rest{a W:World}{g:Nat}{S:Nat→Prop}{st:fX}(h:Ri a W g S st):
  Calls Tryz.prog 117 #[.pointer (some ⟨g,0,none⟩)] W (bm W (.int .i64 (st.1.length:Nat))):=by
 obtain⟨l,p,f⟩:=st;exact Fl g S l p f W h.rr
theorem Ri.close{a W:World}{g:Nat}{S:Nat→Prop}{st:fX}(h:Ri a W g S st):
  Calls Tryz.prog 72 #[.pointer (some ⟨g,0,none⟩)] W (bm W (.int .i64 (gQ st))):=by
 obtain⟨l,p,f⟩:=st;exact uh g S l p f W h.rr
theorem aq.only{W W':World}{g b:Nat}{S:Nat→Prop}{j:World}{st:fX}{t:TypeId}{cs:Array Value}(h:aq W b t cs)(f:Ri j W g S st)(d:Fr (eN g) W W')(i:t≠193):aq W' b t cs:=
 h.fr d (fun e=>by
  obtain⟨A,n,c,a⟩:=f.rr.aE;exact eE h a i e)
theorem dV.only{W W' f:World}{g:Nat}{S:Nat→Prop}{st:fX}{v:Value}{l:List CV}(h:dV W v l)(e:Ri f W g S st)(b:Fr (eN g) W W'):dV W' v l:=
 h.cN b (fun k d=>by
  obtain rfl:k=g:=d;obtain⟨A,n,c,a⟩:=e.rr.aE;exact⟨fun x=>absurd (x.one a.ty) (by decide),fun x=>absurd (x.one a.ty) (by decide),fun x=>absurd (x.one a.ty) (by decide)⟩)
def Ay:Value:= .agg #[.int .i64 0, .int .i64 0, .int .i64 0, .string ByteArray.empty]
theorem Gg(w:World):(zeroValue 43).run Tryz.prog w= .ok Ay w:=by kernel_rfl
theorem dJ.one(k:dJ):k.cells.toArray.all (·.oneCell')=true:=by simp[dJ.cells,Value.oneCell']
theorem Ah(o W:World)(g:Nat)(S:Nat→Prop)(l:List UInt8)(h:Ri o W g S (l,0,0)):
  Calls Tryz.prog 70 #[.pointer (some ⟨g,0,none⟩)] W (rP o W g S (.agg (iZ l).1.cells.toArray) (iZ l).2):=by
 have z:=af h;have K:Hid ((iZ l)=(⟨(jx l).1,(ks l).1,(rdNum l).1,⟨(jm l).1.toArray⟩⟩,(jm l).2)):=rfl;have R:Hid (∀W',Ri o W' g S (l,0,0)→Calls Tryz.prog 107 #[.pointer (some ⟨g,0,none⟩), .int .i64 1073741824] W' (rP o W' g S (.int .i64 (jx l).1) (jx l).2)):=fun W' h=>h.number _;have T:Hid (∀W',Ri o W' g S (jx l).2→Calls Tryz.prog 107 #[.pointer (some ⟨g,0,none⟩), .int .i64 2] W' (rP o W' g S (.int .i64 (ks l).1) (ks l).2)):=fun W' h=>h.number _;have U:Hid (∀W',Ri o W' g S (ks l).2→Calls Tryz.prog 107 #[.pointer (some ⟨g,0,none⟩), .int .i64 999999] W' (rP o W' g S (.int .i64 (rdNum l).1) (rdNum l).2)):=fun W' h=>h.number _;have V:Hid (∀W',Ri o W' g S (rdNum l).2→Calls Tryz.prog 104 #[.pointer (some ⟨g,0,none⟩), .int .i64 16777216] W' (rP o W' g S (.string ⟨(jm l).1.toArray⟩) (jm l).2)):=fun W' h=>h.text _;rw[K.out];simp only[dJ.cells];generalize(jx l).1=n at*;generalize(jx l).2=s1 at*;generalize(ks l).1=q at*;generalize(ks l).2=s2 at*;generalize(rdNum l).1=t at*;generalize(rdNum l).2=ae at*;generalize(jm l).2=H at*;generalize(⟨(jm l).1.toArray⟩:ByteArray)=u at*;have w:Hid (∀W',Ri o W' g S H→Fr (eN g) W W'→rP o W g S (.agg [Value.int .i64 n, .int .i64 q, .int .i64 t, .string u].toArray) H (.returned (.agg [Value.int .i64 n, .int .i64 q, .int .i64 t, .string u].toArray)) W'):=fun W' a b=>⟨rfl,a,b⟩;clear h K;generalize rP o W g S (.agg [Value.int .i64 n, .int .i64 q, .int .i64 t, .string u].toArray) H=PP at*;go_enter Tryz.func70,Tryz.ntmps70;go_wp2_with(refine an rfl 43 rfl Ay Gg #[.int .i64 0, .int .i64 0, .int .i64 0, .string ByteArray.empty] rfl ?_);intro w1 n1;have D:=af n1;clear n1;generalize y:W.heap.size=g2 at*;have A:Hid (aq w1 g2 43 #[.int .i64 0, .int .i64 0, .int .i64 0, .string ByteArray.empty]):=by have h:=D.out.aE;rw[y]at h;exact h
 have B:=af y;clear y;go_wp2_with(refine an rfl 43 rfl Ay Gg #[.int .i64 0, .int .i64 0, .int .i64 0, .string ByteArray.empty] rfl ?_);intro w2 M;have E:=af M;clear M;generalize F:w1.heap.size=g3 at*;have k:Hid (aq w2 g3 43 #[.int .i64 0, .int .i64 0, .int .i64 0, .string ByteArray.empty]):=by have h:=E.out.aE;rw[F]at h;exact h
 have r:Hid (g2<g3):=by have:=D.out.size;have:=B.out;simp only[Hid];omega
 have d:Hid (W.heap.size≤g2∧W.heap.size≤g3):=by have:=B.out;have:=r.out;exact⟨by omega,by omega⟩
 clear F;have f:=af (A.out.fr E.out.fr (fun x=>x));have m:Hid (Fr (eN g) W w2):=(D.out.fr.trans E.out.fr).bO;have c:=af (z.out.later (D.out.fr.trans E.out.fr));clear D E A;go_wp2_with fail;refine(R.out _ c.out).mono ?_;rintro e ab⟨rfl,s,f3⟩;have f:=af (f.out.only c.out f3 (by decide));have k:=af (k.out.only c.out f3 (by decide));have m:Hid (Fr (eN g) W ab):=m.out.trans f3;have c:=af s;clear s f3;go_wp2_with(refine aW rfl 3 (.tmp 6) (.tmp 5) rfl g3 0 (.int .i64 n) rfl rfl rfl nN _ _ #[.int .i64 n, .int .i64 0, .int .i64 0, .string ByteArray.empty] k.out (show 0<4 by decide) rfl ?_);intro N b3 f3;have k:Hid (aq N g3 43 #[.int .i64 n, .int .i64 0, .int .i64 0, .string ByteArray.empty]):=b3;have f:=af (f.out.fr f3 (fun e=>by have v:g2=g3:=e;have:=r.out;omega));have c:=af (z.out.wX c.out f3 d.out.2);have m:Hid (Fr (eN g) W N):=m.out.aw f3 (fun i G e=>by have v:i=g3:=e;have:=d.out;omega);clear b3 f3;go_wp2_with fail;refine(T.out _ c.out).mono ?_;rintro e ac⟨rfl,s,f3⟩;have f:=af (f.out.only c.out f3 (by decide));have k:=af (k.out.only c.out f3 (by decide));have m:Hid (Fr (eN g) W ac):=m.out.trans f3;have c:=af s;clear s f3;go_wp2_with(refine aW rfl 3 (.tmp 9) (.tmp 8) rfl g3 1 (.int .i64 q) rfl rfl rfl nN _ _ #[.int .i64 n, .int .i64 q, .int .i64 0, .string ByteArray.empty] k.out (show 1<4 by decide) rfl ?_);intro O b3 f3;have k:Hid (aq O g3 43 #[.int .i64 n, .int .i64 q, .int .i64 0, .string ByteArray.empty]):=b3;have f:=af (f.out.fr f3 (fun e=>by have v:g2=g3:=e;have:=r.out;omega));have c:=af (z.out.wX c.out f3 d.out.2);have m:Hid (Fr (eN g) W O):=m.out.aw f3 (fun i G e=>by have v:i=g3:=e;have:=d.out;omega);clear b3 f3;go_wp2_with fail;refine(U.out _ c.out).mono ?_;rintro e ad⟨rfl,s,f3⟩;have f:=af (f.out.only c.out f3 (by decide));have k:=af (k.out.only c.out f3 (by decide));have m:Hid (Fr (eN g) W ad):=m.out.trans f3;have c:=af s;clear s f3;go_wp2_with(refine aW rfl 3 (.tmp 12) (.tmp 11) rfl g3 2 (.int .i64 t) rfl rfl rfl nN _ _ #[.int .i64 n, .int .i64 q, .int .i64 t, .string ByteArray.empty] k.out (show 2<4 by decide) rfl ?_);intro P b3 f3;have k:Hid (aq P g3 43 #[.int .i64 n, .int .i64 q, .int .i64 t, .string ByteArray.empty]):=b3;have f:=af (f.out.fr f3 (fun e=>by have v:g2=g3:=e;have:=r.out;omega));have c:=af (z.out.wX c.out f3 d.out.2);have m:Hid (Fr (eN g) W P):=m.out.aw f3 (fun i G e=>by have v:i=g3:=e;have:=d.out;omega);clear b3 f3;go_wp2_with fail;refine(V.out _ c.out).mono ?_;rintro e x3⟨rfl,s,f3⟩;have f:=af (f.out.only c.out f3 (by decide));have k:=af (k.out.only c.out f3 (by decide));have m:Hid (Fr (eN g) W x3):=m.out.trans f3;have c:=af s;clear s f3;go_wp2_with(refine aW rfl 41 (.tmp 15) (.tmp 14) rfl g3 3 (.string u) rfl rfl rfl wu _ _ #[.int .i64 n, .int .i64 q, .int .i64 t, .string u] k.out (show 3<4 by decide) rfl ?_);intro y3 b3 f3;have k:Hid (aq y3 g3 43 #[.int .i64 n, .int .i64 q, .int .i64 t, .string u]):=b3;have f:=af (f.out.fr f3 (fun e=>by have v:g2=g3:=e;have:=r.out;omega));have c:=af (z.out.wX c.out f3 d.out.2);have m:Hid (Fr (eN g) W y3):=m.out.aw f3 (fun i G e=>by have v:i=g3:=e;have:=d.out;omega);clear b3 f3;go_wp2_with(refine aC rfl 43 (.tmp 3) rfl ⟨g3,0,none⟩ rfl [Value.int .i64 n, .int .i64 q, .int .i64 t, .string u] _ ?zA Tryz.underlying43 rfl gH (aR.go ?zB));case zA=>
  intro j x aa;rw[Addr.add_mid,Nat.zero_add,k.out.cell j,bP];exact aa
 unfold aR;have C:Hid ([Value.int .i64 n, .int .i64 q, .int .i64 t, .string u].toArray.all (·.oneCell')=true):=by simp[Hid,Value.oneCell']
 go_wp2_with(refine ai rfl 43 (.tmp 2) _ rfl g2 [Value.int .i64 n, .int .i64 q, .int .i64 t, .string u].toArray rfl rfl _ _ f.out gH rfl C.out ?_);intro I L J;have Q:=af L;have Z:Hid (Ri o I g S H):=z.out.wX c.out J d.out.1;have X:Hid (Fr (eN g) W I):=m.out.aw J (fun i G e=>by have v:i=g2:=e;have:=d.out;omega);have Y:=af (w.out I Z.out X.out);clear L J;go_wp2;exact bodyPost_ret (results_cell_row (fn:=Tryz.f70) (p:=2) (ty:=43) Tryz.results70 _ I _ 43 _ (0,0) _ rfl Q.out Tryz.underlying43 rfl gH) rfl Y.out
theorem Mx(st:fX):(kB st).1.length≤16777216:=by
 unfold kB aO;split;·simp
 ·split;·simp
  next h=>
   simp only[cu]at h⊢;split;·simp
   ·split;·simp
    ·split;·simp
     next a b c=>
      simp only[List.length_take];omega
theorem Db(st:fX):(aO 0 (bj (st.1.length:Int)) st).1≤(st.1.length:Int)∧0≤(aO 0 (bj (st.1.length:Int)) st).1:=by
 unfold aO;split;·simp
 ·split;·simp
  next h=>
   simp only[ne_eq,Decidable.not_not,bj]at h⊢;by_cases c:(pn st.1 9).2.2=0∧(st.1.length:Int)<((pn st.1 9).1:Int);·rw[if_pos c]at h;cases h
   ·rw[if_neg c]at h;have a:(pn st.1 9).2.2=0:=by omega
    have:¬(st.1.length:Int)<((pn st.1 9).1:Int):=fun x=>c ⟨a,x⟩;omega
def Nw(c W:World)(g:Nat)(S:Nat→Prop)(a:Option (List CV×fX))(e:Ending)(W':World):Prop:=
 ∃v b,e= .returned (.tuple #[v, .bool b])∧Fr (eN g) W W'∧((b=true∧∃L st,a=some (L,st)∧dV W' v L∧L.length≤1099511627776∧Ri c W' g S st∧∀k,v.ownBlock=some k→W.heap.size≤k)∨(b=false∧a=none∧v= .slice none 0 0∧c.heap.size≤W'.heap.size∧Fr ag c W'))
def Nv(c W:World)(g:Nat)(S:Nat→Prop)(N:Nat)(a:Option (List CV×fX))(v i:Value)(wr:World):Prop:=
 ∃(k:Nat)(st:fX)(L:List CV),k≤N∧i= .int .i64 (k:Int)∧mA (N-k) st L=a∧L.length=k∧dV wr v L∧(∀b,v.ownBlock=some b→W.heap.size≤b)∧Ri c wr g S st∧Fr (eN g) W wr
theorem Hs(n:aJ)(s:ByteArray)(b:Bool):Tryz.prog.built 119 [(0, .agg n.cells.toArray),(2, .bool b),(1, .string s)]=some (CV.cells ⟨n,s,b⟩).toArray:=by kernel_rfl
theorem Kr(n:aJ):(Tryz.prog.info? 106).map (·.size)=some n.cells.toArray.size:=aT
theorem Lx(w:World):(zeroValue 106).run Tryz.prog w= .ok (.agg (aJ.cells ⟨0,ByteArray.empty,0,0,ByteArray.empty⟩).toArray) w:=by kernel_rfl
theorem td(q W:World)(g:Nat)(S:Nat→Prop)(st:fX)(h:Ri q W g S st)(bQ:eh q):
  Calls Tryz.prog 71 #[.pointer (some ⟨g,0,none⟩)] W (Nw q W g S (jF st)):=by
 have aB:=af h;have b2:=af bQ;have D:Hid (jF st=mA (aO 0 (bj (st.1.length:Int)) st).1.toNat (aO 0 (bj (st.1.length:Int)) st).2 []):=rfl;obtain⟨N,a8⟩:∃N:Nat,(aO 0 (bj (st.1.length:Int)) st).1=(N:Int):=⟨_,(Int.toNat_of_nonneg (Db st).2).symm⟩;have K:Hid (N≤1099511627776):=by
  have b5:=(Db st).1;have b6:=h.rr.small;simp only[Hid];omega
 rw[a8,Int.toNat_natCast]at D;have bs:Hid (∀W',Ri q W' g S st→Calls Tryz.prog 107 #[.pointer (some ⟨g,0,none⟩), .int .i64 (st.1.length:Nat)] W' (rP q W' g S (.int .i64 (N:Int)) (aO 0 (bj (st.1.length:Int)) st).2)):=fun W' h=>by
  rw[←a8];exact h.number _
 have bt:Hid (Calls Tryz.prog 117 #[.pointer (some ⟨g,0,none⟩)] W (bm W (.int .i64 (st.1.length:Nat)))):=h.rest;obtain⟨r,a9⟩:∃O,jF st=O:=⟨_,rfl⟩;rw[a9]at D;rw[a9];generalize(aO 0 (bj (st.1.length:Int)) st).2=s1 at*;obtain⟨i0,ak,am,E,ba⟩:=info_parts nV;have a4:Hid (¬1*i0.size>2^24):=by simp only[Hid];rw[E];omega
 have a5:Hid (¬1*i0.size=0):=by simp only[Hid];rw[E];omega
 have a6:Hid (∀c:CV,Instr.fill (fun i=>some (i*i0.size,i0.size)) ((Array.range (1*i0.size)).map (bY.cells[· %bY.cells.size]!)) [(0, .agg c.cells.toArray)]=some c.cells.toArray):=fun c=>by rw[E];exact kT _ _ rfl (by simp[bY,Value.cells])
 clear h bQ a8 a9;go_enter Tryz.func71,Tryz.ntmps71;go_wp2_with fail;refine bt.out.mono ?_;rintro e w1⟨rfl,rfl⟩;go_wp2_with fail;refine(bs.out _ aB.out).mono ?_;rintro e w1⟨rfl,bU,f1⟩;have aa:Hid (Nv q W g S N r (.slice none 0 0) (.int .i64 0) w1):=⟨0,s1,[],Nat.zero_le _,rfl,D.out.symm,rfl,dV.nil _,(fun b ac=>by simp[Value.ownBlock]at ac),bU,f1⟩;clear bU f1 bs bt D;go_wp2;go_loopw[4,12](fun v i wr=>Nv q W g S N r v i wr)(fun _ i _=>N-(intOf i).toNat);case atStart=>exact aa.out
 case round=>
  obtain⟨k,l,L,cf,rfl,bM,Q,bL,aG,a,hF⟩:=hrel;have aC:=af a;have aV:=af hF;have aZ:=af Q;have bk:=af aG;obtain⟨av,n4,aD,rfl,M⟩:=bL.form;have aM:=af M;have cd:Hid (n4=k):=by
   obtain⟨A,n,c,e,b8,_⟩:=M.cl;cases e;rw[Hid,b8,Q]
  have ax:=af bM;clear a hF Q aG bL M bM aa;by_cases b7:k<N
  ·have bN:(k:Int)<(N:Int):=by omega
   have t1:decide ((k:Int)<(N:Int))=true:=decide_eq_true bN;have bx:Hid (mA (N-k-1+1) l L=r):=by rw[Hid,show N-k-1+1=N-k by omega];exact ax.out
   have aY:Hid ((kB l).1.length≤16777216):=Mx l;have bu:Hid (∀W',Ri q W' g S l→Calls Tryz.prog 104 #[.pointer (some ⟨g,0,none⟩), .int .i64 16777216] W' (rP q W' g S (.string ⟨(kB l).1.toArray⟩) (kB l).2)):=fun W' h=>h.text _;have o:Hid (mA (N-k-1+1) l L=if(gU (kB l).1).2≠0 then none else mA (N-k-1) (dK (aO false cZ (kB l).2).2).2 (L++[⟨(gU (kB l).1).1,⟨(dK (aO false cZ (kB l).2).2).1.toArray⟩,(aO false cZ (kB l).2).1⟩])):=rfl;rw[bx.out]at o;generalize(kB l).1=V at*;generalize(kB l).2=s2 at*;clear ax bx;go_wp2_with fail;refine(bu.out _ aC.out).mono ?_;rintro e w2⟨rfl,bV,f2⟩;have a1:=af bV;have bz:Hid (Fr (eN g) W w2):=aV.out.trans f2;have bl:=af (aM.out.only aC.out f2);clear bV f2 bu;obtain⟨m,hm⟩:∃m,gU V=m:=⟨_,rfl⟩;have aL:Hid (∀w',Fr ag q w'→Calls Tryz.prog 118 #[.string ⟨V.toArray⟩] w' (fun e z=>e= .returned (.tuple #[.agg m.1.cells.toArray, .int .i64 m.2])∧Fr ag w' z)):=fun w' f=>by
    have h:=Hg ⟨V.toArray⟩ w' (b2.out.ao f) (by have:=aY.out;simp[ByteArray.size];omega);unfold vm at h;rw[show aQ ⟨V.toArray⟩=V from tp V,hm]at h;exact h
   rw[hm]at o;clear hm aC aV aM;obtain⟨nm,a2⟩:=m;simp only at aL o;go_wp2_with fail;refine(aL.out _ a1.out.fr).mono ?_;rintro e w3⟨rfl,f3⟩;have bB:=af (a1.out.later f3);have aN:Hid (Fr (eN g) W w3):=bz.out.trans f3.bO;have bn:=af (bl.out.ao f3);clear f3 aL a1 bz bl;go_wp2_with(refine an rfl 106 rfl (.agg (aJ.cells ⟨0,ByteArray.empty,0,0,ByteArray.empty⟩).toArray) Lx (aJ.cells ⟨0,ByteArray.empty,0,0,ByteArray.empty⟩).toArray rfl ?_);intro cb bT;have a0:=af bT;clear bT;generalize ae:w3.heap.size=g5 at*;have I:=af ae;clear ae;have bi:Hid (aq cb g5 106 (aJ.cells ⟨0,ByteArray.empty,0,0,ByteArray.empty⟩).toArray):=by have h:=a0.out.aE;rw[I.out]at h;exact h
   have b1:Hid (W.heap.size≤g5):=by have:=aN.out.size;have:=I.out;simp only[Hid];omega
   go_wp2_with(refine ai rfl 106 (.tmp 5) _ rfl g5 nm.cells.toArray rfl rfl _ _ bi.out (Kr nm) rfl nm.one ?_);intro bf bb bK;have bg:Hid (aq bf g5 106 nm.cells.toArray):=bb;have aA:Hid (Fr ag w3 bf):=a0.out.fr.aw bK (fun i y e=>by have b4:i=g5:=e;have:=I.out;omega);have T:=af (bB.out.later aA.out);have aP:Hid (Fr (eN g) W bf):=aN.out.trans aA.out.bO;have bo:=af (bn.out.ao aA.out);clear bb bK a0 bi aA bB aN bn;by_cases s:a2=0;case neg=>
    have t2:(a2 !=0)=true:=by rw[bne_iff_ne];exact s
    have t:Hid (r=none):=by rw[Hid,o.out,if_pos s]
    clear s o;go_wp2;go_ret2;exact⟨_,_,rfl,aP.out, .inr ⟨rfl,t.out,rfl,T.out.fr.size,T.out.fr⟩⟩
   have t2:(a2 !=0)=false:=by rw[bne_eq_false_iff_eq];exact s
   have ab:Hid (r=mA (N-k-1) (dK (aO false cZ s2).2).2 (L++[⟨nm,⟨(dK (aO false cZ s2).2).1.toArray⟩,(aO false cZ s2).1⟩])):=by rw[Hid,o.out,if_neg (by simp[s])]
   clear s o;have br:Hid (∀W',Ri q W' g S s2→Calls Tryz.prog 119 #[.pointer (some ⟨g,0,none⟩)] W' (rP q W' g S (.bool (aO false cZ s2).1) (aO false cZ s2).2)):=fun W' h=>h.flag;generalize(aO false cZ s2).1=aF at*;generalize(aO false cZ s2).2=p at*;go_wp2_with fail;refine(br.out _ T.out).mono ?_;rintro e bd⟨rfl,bW,f5⟩;have B:=af bW;have aR:Hid (Fr (eN g) W bd):=aP.out.trans f5;have bp:=af (bo.out.only T.out f5);have Y:=af (bg.out.only T.out f5 (by decide));clear bW f5 br T aP bo bg;have bv:Hid (∀W',Rr W' g S p.1 p.2.1 p.2.2→Calls Tryz.prog 104 #[.pointer (some ⟨g,0,none⟩), .int .i64 65536] W' (fun e z=>e= .returned (.string ⟨(dK p).1.toArray⟩)∧Fr (eN g) W' z∧Rr z g S (dK p).2.1 (dK p).2.2.1 (dK p).2.2.2)):=fun W' h=>by
    refine(oN g S _ _ _ 65536 W' h).mono ?_;rintro e z⟨rfl,bR⟩;exact⟨rfl,bR.fr,bR.rr⟩
   generalize(⟨(dK p).1.toArray⟩:ByteArray)=aH at*;generalize(dK p).2=G at*;have aI:=af (Hs nm aH aF);have Z:=af (CV.one ⟨nm,aH,aF⟩);obtain⟨cv,R⟩:∃cv:CV,cv=⟨nm,aH,aF⟩:=⟨_,rfl⟩;rw[←R]at aI Z ab;have aW:Hid (cv.cells.length=7):=by rw[R];rfl
   clear R;have aX:Hid (g<bd.heap.size):=B.out.rr.lt;go_upto_region 8 with fail;refine ay 7 (eN g) [Is (.slice av n4 aD),Is (.agg nm.cells.toArray),Is (.bool aF),Is (.pointer (some ⟨g,0,none⟩)),Is (.string aH),Is (.agg cv.cells.toArray),fun x X=>∃b,x= .slice (some ⟨b,0,none⟩) 1 1∧aq X b 119 cv.cells.toArray∧b≠g∧bd.heap.size≤b] [(4,fun X=>Rr X g S G.1 G.2.1 G.2.2)] (fun X=>Rr X g S p.1 p.2.1 p.2.2) (fun _ _=>false) (by kernel_rfl) (by kernel_rfl) (by kernel_rfl) (by kernel_rfl) ⟨Is.ah _,Is.ah _,Is.ah _,Is.ah _,Is.ah _,Is.ah _,fun _ _ _ _ w⟨b,h,k,n,m⟩=>⟨b,h,k.fr w n,n,m⟩,trivial⟩ ⟨fun _ _ _ h a7=>a7.lg h,trivial⟩ (fun _ _ _ h a7=>a7.lg h) (B.out.rr.lg az.drew) ?_ ?_
   ·refine⟨?zE,?zA,?zF,?zG,?zB,?zC,?zD,trivial⟩;all_goals intro u w' d w a ap F C
    all_goals simp only[bw,bC,bD,bE,ar,Act.put,bF,bG,bH,Nat.reduceAdd,Nat.zero_add]
    case zA=>
     clear a ap F C;refine aj ?_;exact au _ _ rfl ⟨g5,0,none⟩ rfl nm.cells _ (kX (Y.out.only B.out w (by decide))) Tryz.underlying106 rfl aT ⟨_,rfl,al⟩
    case zB=>
     simp only[show u 3=_ from a 3];clear a;refine aj ?_;have aG:Rr w' g S p.1 p.2.1 p.2.2:=by rw[dq,if_neg (by rw[F 4 (by kernel_rfl)];exact Bool.false_ne_true)]at C;exact C
     clear ap F C;go_simp;refine(bv.out _ aG).mono ?_;rintro e ch⟨rfl,f4,ca⟩;exact⟨_,rfl,f4,rfl,ca⟩
    case zC=>
     simp only[show u 1=_ from a 1,show u 2=_ from a 2,show u 4=_ from a 4];clear a ap F C;refine aj ?_;exact iA 119 _ rfl _ _ (by simp only[List.map_toArray,List.map_cons,List.map_nil];rfl) aI.out ⟨_,rfl,al⟩
    case zD=>
     simp only[show u 5=_ from a 5];clear a ap F C;refine aj ?_;refine wp_buildSlice 44 119 1 #[(0, .tmp 29)] rfl cv.cells.toArray i0 bY Tryz.underlying44 ak am a4.out a5.out ?_ ?_;·simp only[List.map_toArray,List.map_cons,List.map_nil];exact a6.out cv
     ·exact⟨_,rfl,az.alloc _,⟨w'.heap.size,rfl,aq.new _ _ _,by have:=aX.out;have:=w.size;omega,w.size⟩,trivial⟩
    all_goals
     clear a ap F C;refine aj ?_;go_simp;exact⟨_,rfl,al⟩
   intro u w' w a C;obtain⟨bI,bJ,ad,bc,a3⟩:=a 6 (by omega);have F:u 0=_:=a 0 (by omega);have bS:Rr w' g S G.1 G.2.1 G.2.2:=C;have aU:Hid (Fr (eN g) W w'):=aR.out.trans w;have bq:=af (bp.out.only B.out w);have bh:=af ad;have cc:Hid (W.heap.size≤bI):=by have:=aR.out.size;simp only[Hid];omega
   have U:Hid (Ri q w' g S G):=⟨B.out.fr.aw w (fun i y e=>by have b4:i=g:=e;have:=B.out.new;omega),bS,B.out.new,fun i y=>⟨(B.out.sn i y).1,Nat.lt_of_lt_of_le (B.out.sn i y).2 w.size⟩⟩;simp only[bw,bC,bD,bE,ar,Act.put,bF,bG,bH,dj,dk,Nat.reduceAdd,Nat.zero_add,F,bJ];clear w a C bS ad bc a3 F bJ B aR bp Y bv aI;have bA:Hid (w'.ownsRow 0 119 7 (.slice av n4 aD) L.length (L.flatMap CV.cells)):=bq.out;refine dR _ rfl _ _ 44 rfl 119 i0 bY 7 80 Tryz.underlying44 ak am E ba rfl (by decide) _ _ _ rfl bA.out (fun _=>True) (some ⟨bI,0,none⟩) 1 1 cv.cells rfl ⟨aW.out,fun _=>⟨_,rfl,trivial,fun j x b9=>by rw[Addr.add_mid,Nat.zero_add,bh.out.cell,bP];exact b9⟩⟩ (fun u hu=>by
    have h:=Z.out;rw[Array.all_eq_true_iff_forall_mem]at h;exact h u (by simpa using hu)) (by have:=K.out;have:=aZ.out;omega) (by decide) ?_;intro bX be P;have bZ:Hid (dV be bX (L++[cv])):=by
    rw[Hid,dV,aS,List.flatMap_append,List.flatMap_cons,List.flatMap_nil,List.append_nil];exact P.own
   have H:Hid (∀b,(Value.slice av n4 aD).ownBlock=some b→W.heap.size≤b):=bk.out;have aK:Hid (∀b,bX.ownBlock=some b→W.heap.size≤b):=fun b ac=>by
    rcases P.eG b ac with h|h;·exact H.out b h
    ·have:=aU.out.size;omega
   have J:Hid (∀b,(Value.slice av n4 aD).ownBlock=some b→b≠g∧¬S b∧q.heap.size≤b):=fun b ac=>by
    have b5:=H.out b ac;have b6:=aB.out.rr.lt;have ce:=aB.out.fr.size;exact⟨by omega,fun h=>by have:=(aB.out.sn b h).2;omega,by omega⟩
   have b0:Hid (Fr (eN g) W be):=aU.out.aw P.fr (fun i y e=>by have:=H.out i e;omega);have b3:Hid (Ri q be g S G):=⟨U.out.fr.aw P.fr (fun i y e=>by have:=(J.out i e).2.2;omega),U.out.rr.lA P.fr (fun e=>(J.out g e).1 rfl) (fun i y e=>(J.out i e).2.1 y),U.out.new,fun i y=>⟨(U.out.sn i y).1,Nat.lt_of_lt_of_le (U.out.sn i y).2 P.fr.size⟩⟩;clear P bA U aU bq bh;have cg:N≤1099511627776:=K.out;go_wp2;go_roundw;case rel=>exact⟨k+1,G,L++[cv],by omega,by go_num,by rw[ab.out,show N-(k+1)=N-k-1 by omega],by rw[aS,aZ.out];rfl,bZ.out,aK.out,b3.out,b0.out⟩
   case measure=>simp[intOf];omega
  ·obtain rfl:k=N:=by omega
   have bN:¬(k:Int)<(k:Int):=by omega
   have t:Hid (r=some (L,l)):=by
    rw[Hid,←ax.out,Nat.sub_self,mA]
   clear ax;go_wp2;go_ret2;exact⟨_,_,rfl,aV.out, .inl ⟨rfl,L,l,t.out,aM.out,by rw[aZ.out];exact K.out,aC.out,bk.out⟩⟩
theorem rz{P:Program}{ops:Array Oper}{rest:List Oper}{b c:Oper}{a:Act}{w:World}{Q:Exit→Act→World→Prop}(j:b.guard=none)(k:c.guard=none)(t:TypeId)(d:Tmp)(l:b.op= .alloc t)(v:b.dst=some d)(y:Operand)(m:c.op= .store t (.tmp d) y)
  (z:Value)(s:∀w,(zeroValue t).run P w= .ok z w)(f:Array Value)(n:z.cells=f)(cells:Array Value)
  (q:∀g,(a.put b.dst (.pointer (some ⟨g,0,none⟩))).eval (.tmp d)= .pointer (some ⟨g,0,none⟩))(r:∀g,(a.put b.dst (.pointer (some ⟨g,0,none⟩))).eval y= .agg cells)
  (o:(P.info? t).map (·.size)=some cells.size)(hold:f.size=cells.size)(p:cells.all (·.oneCell')=true)
  (h:∀w' g,w.heap.size≤g→g<w'.heap.size→aq w' g t cells→Fr ag w w'→wpList P ops Q rest ((a.put b.dst (.pointer (some ⟨g,0,none⟩))).put c.dst undef) w'):wpList P ops Q (b::c::rest) a w:=by
 refine an j t l z s f n fun w1 n1=>?_;refine ai k t (.tmp d) y m w.heap.size cells (q _) (r _) t f n1.aE o hold p fun w2 b2 f2=>?_;exact h w2 w.heap.size (Nat.le_refl _) b2.lt b2 (n1.fr.aw f2 (fun i o e=>by have u:i=w.heap.size:=e;omega))
theorem nf{P:Program}{ops:Array Oper}{rest:List Oper}{b F c:Oper}{a:Act}{w:World}{Q:Exit→Act→World→Prop}(j:b.guard=none)(r:F.guard=none)(k:c.guard=none)(t:TypeId)(d:Tmp)(l:b.op= .alloc t)(E:b.dst=some d)(x:Operand)(s:F.op= .assign x)(y:Operand)(m:c.op= .store t (.tmp d) y)
  (z:Value)(C:∀w,(zeroValue t).run P w= .ok z w)(f:Array Value)(n:z.cells=f)(v:Value)(cells:Array Value)
  (u:∀g,(a.put b.dst (.pointer (some ⟨g,0,none⟩))).eval x=v)
  (A:∀g,((a.put b.dst (.pointer (some ⟨g,0,none⟩))).put F.dst v).eval (.tmp d)= .pointer (some ⟨g,0,none⟩))(B:∀g,((a.put b.dst (.pointer (some ⟨g,0,none⟩))).put F.dst v).eval y= .agg cells)
  (o:(P.info? t).map (·.size)=some cells.size)(hold:f.size=cells.size)(p:cells.all (·.oneCell')=true)
  (h:∀w' g,w.heap.size≤g→g<w'.heap.size→aq w' g t cells→Fr ag w w'→wpList P ops Q rest (((a.put b.dst (.pointer (some ⟨g,0,none⟩))).put F.dst v).put c.dst undef) w'):wpList P ops Q (b::F::c::rest) a w:=by
 refine an j t l z C f n fun w1 n1=>?_;refine wpList_plain r fun K q=>?_;unfold Oper.wp execOp;simp only[s,Sem.run_pure,u];refine q _ _ ?_;refine ai k t (.tmp d) y m w.heap.size cells (A _) (B _) t f n1.aE o hold p fun w2 b2 f2=>?_;exact h w2 w.heap.size (Nat.le_refl _) b2.lt b2 (n1.fr.aw f2 (fun i o e=>by have D:i=w.heap.size:=e;omega))
end Go.Proofs.YtphjagkehiklkaaGreatDoor
