/- Texts. -/
import Derived.Test.YtphjagkehiklkaaGreatDoorWK29
set_option linter.unusedVariables false
set_option linter.unusedSimpArgs false
set_option maxRecDepth 100000
set_option maxHeartbeats 2000000
namespace Go.Proofs.YtphjagkehiklkaaGreatDoor.Lt
open Go.RowKit
def aL(ds:List (List UInt8)):Nat→Nat→List UInt8
 |0,i=>ds.getD i []
 |l+1,i=>bU (aL ds l (2*i)) (aL ds l (2*i+1))
theorem oS(ds:List (List UInt8)):∀l i,(i+1)*2^l≤ds.length→2^l≤1048576→aL ds l i=bQ ((ds.drop (i*2^l)).take (2^l))
 |0,i,h,_=>by
  have d:i<ds.length:=by omega
  simp only[Nat.pow_zero,Nat.mul_one,aL];rw[List.drop_eq_getElem_cons d,List.take_succ_cons,List.take_zero,qo,List.getD_eq_getElem?_getD,List.getElem?_eq_getElem d];rfl
 |l+1,i,h,k=>by
  have m:1≤2^l:=Nat.one_le_two_pow;have b:2^(l+1)=2*2^l:=by rw[Nat.pow_succ];omega
  have c:i*2^(l+1)=2*i*2^l:=by rw[b,Nat.mul_comm 2 i,Nat.mul_assoc]
  have e:(i+1)*2^(l+1)=(2*i+1+1)*2^l:=by rw[b,←Nat.mul_assoc];congr 1;omega
  have a:(2*i+1)*2^l=2*i*2^l+2^l:=by rw[Nat.add_mul,Nat.one_mul]
  have j:(2*i+1+1)*2^l=2*i*2^l+2^l+2^l:=by rw[Nat.add_mul,Nat.one_mul,a]
  rw[e]at h;have f:((ds.drop (i*2^(l+1))).take (2^(l+1))).length=2^(l+1):=by
   rw[List.length_take,List.length_drop];omega
  have g:=rL (2^(l+1)) l (by omega) (by omega) (by omega);rw[iC _ _ f (by omega) (by omega),←g,aL,oS ds l (2*i) (by rw[a];omega) (by omega),oS ds l (2*i+1) h (by omega)];congr 2;·rw[List.take_take,c,show min (2^l) (2^(l+1))=2^l by omega]
  ·rw[List.drop_take,List.drop_drop,c,a,b,show 2*2^l-2^l=2^l by omega]
theorem oR(ds:List (List UInt8))(d:List UInt8):∀l i,(i+1)*2^l≤ds.length→aL (ds++[d]) l i=aL ds l i
 |0,i,h=>by
  have b:i<ds.length:=by omega
  simp only[aL];rw[List.getD_eq_getElem?_getD,List.getD_eq_getElem?_getD,List.getElem?_append_left b]
 |l+1,i,h=>by
  have c:2^(l+1)=2*2^l:=by rw[Nat.pow_succ];omega
  have a:(i+1)*2^(l+1)=(2*i+1+1)*2^l:=by rw[c,←Nat.mul_assoc];congr 1;omega
  have e:(2*i+1+1)*2^l=(2*i+1)*2^l+2^l:=by rw[Nat.add_mul,Nat.one_mul]
  rw[a]at h;rw[aL,aL,oR ds d l (2*i) (by omega),oR ds d l (2*i+1) h]
theorem dP(ds:List (List UInt8))(he:∀d∈ds,d.length=32)(l i:Nat)(h:(i+1)*2^l≤ds.length):(aL ds l i).length=32:=by
 cases l with
 |zero=>
  have a:i<ds.length:=by omega
  simp only[aL];rw[List.getD_eq_getElem?_getD,List.getElem?_eq_getElem a];exact he _ (List.getElem_mem a)
 |succ l=>exact cJ _ _
def ia(l i:Nat):Value:= .agg #[.int .i64 (l:Int), .int .i64 (i:Int)]
theorem wR{l i a i':Nat}(h:ia l i=ia a i'):l=a∧i=i':=by
 unfold ia at h;simp only[Value.agg.injEq,Array.mk.injEq,List.cons.injEq,Value.int.injEq,true_and,and_true]at h;omega
theorem oB(e:Bool)(l i:Nat)(w:World):(Instr.checkKey e 10000 212 (ia l i)).run Tryz.prog w= .ok () w:=by kernel_rfl
theorem zk{P:Program}(w:World)(d:Nat)(xs c:Array Value)(f1 f2:Field)(e g f h:Value)(a b:Bool)(k:f1.name≠ "_")(l:f2.name≠ "_")
  (m:(part f1.type xs f1.offset).run P w= .ok e w)(o:(part f1.type c f1.offset).run P w= .ok g w)(n:(part f2.type xs f2.offset).run P w= .ok f w)(p:(part f2.type c f2.offset).run P w= .ok h w)
  (i:(Op.equalIn d f1.type e g).run P w= .ok a w)(j:(Op.equalIn d f2.type f h).run P w= .ok b w):(Op.eqFields d xs c [f1,f2]).run P w= .ok (a&&b) w:=by
 simp only[Op.eqFields,k,l,ne_eq,not_false_eq_true,if_true,Sem.run_bind,m,o,Result.andThen_ok,i];cases a;·simp
 ·simp only[Bool.not_true,Bool.false_eq_true,if_false,Sem.run_bind,n,p,Result.andThen_ok,j,Bool.true_and];cases b;·simp
  ·simp
theorem yg:(Tryz.prog.fieldsOf 212).toList.map (fun f=>(f.name,f.type,f.offset))=[("level",3,0),("index",3,1)]:=by kernel_rfl
theorem pB(a b:Value)(w:World):(part 3 #[a,b] 0).run Tryz.prog w= .ok a w∧(part 3 #[a,b] 1).run Tryz.prog w= .ok b w:=by
 have h:(isAgg 3).run Tryz.prog w= .ok false w:=by kernel_rfl
 unfold part;constructor<;>simp[Sem.run_bind,h]
theorem pZ(l i d i':Nat)(w:World):(Op.equal 212 (ia l i) (ia d i')).run Tryz.prog w= .ok (decide (l=d)&&decide (i=i')) w:=by
 have k:Tryz.prog.underlying 212=some (.struct (Tryz.prog.fieldsOf 212)):=by kernel_rfl
 have j:Tryz.prog.stoodInHeld 212=false:=by kernel_rfl
 refine(run_equalIn_agg w 9999 _ _ _ k j).trans ?_;have c:=yg;generalize(Tryz.prog.fieldsOf 212).toList=h at c;rcases h with _|⟨f1,_|⟨f2,_|⟨f3,fr⟩⟩⟩;·cases c
 ·simp at c
 ·simp only[List.map_cons,List.map_nil,List.cons.injEq,Prod.mk.injEq,and_true]at c;obtain⟨⟨n1,t1,f⟩,m,t2,g⟩:=c;have n:f1.name≠ "_":=by rw[n1];decide
  have o:f2.name≠ "_":=by rw[m];decide
  have e:∀a b:Nat,(((a:Int))==((b:Int)))=decide (a=b):=fun a b=>by
   rw[Bool.eq_iff_iff];simp;omega
  refine zk w 9999 _ _ f1 f2 (.int .i64 (l:Int)) (.int .i64 (d:Int)) (.int .i64 (i:Int)) (.int .i64 (i':Int)) _ _ n o ?_ ?_ ?_ ?_ ?_ ?_;·rw[t1,f];exact(pB _ _ w).1
  ·rw[t1,f];exact(pB _ _ w).1
  ·rw[t2,g];exact(pB _ _ w).2
  ·rw[t2,g];exact(pB _ _ w).2
  ·rw[t1,←e];exact run_equalIn_int w 9998 _ .i64 .i64 _ _ Tryz.underlying3
  ·rw[t2,←e];exact run_equalIn_int w 9998 _ .i64 .i64 _ _ Tryz.underlying3
 ·simp at c
def tw(ds:List (List UInt8))(C:Nat→Nat→Prop)(e:MapEntry):Prop:=∃l i,e.key=ia l i∧e.val=aE (aL ds l i)∧C l i
def pU(es:Array MapEntry)(clock:Nat):Prop:=(∀e∈es.toList,e.born<clock)∧(es.toList.map (·.born)).Nodup∧es.toList.Pairwise (fun x y=>x.key≠y.key)
theorem pU.empty(clock:Nat):pU #[] clock:=⟨fun e he=>(by simp at he),by simp,by simp⟩
theorem pU.push{es:Array MapEntry}{clock:Nat}(h:pU es clock)(k v:Value)(g:∀e∈es.toList,e.key≠k):pU (es.push {key:=k,val:=v,born:=clock}) (clock+1):=by
 obtain⟨c,d,f⟩:=h;refine⟨fun e he=>?_,?_,?_⟩
 ·rw[Array.toList_push,List.mem_append]at he;rcases he with he|he;·have:=c e he;omega
  ·rw[List.mem_singleton]at he;subst he;exact Nat.lt_succ_self _
 ·rw[Array.toList_push,List.map_append,List.nodup_append];refine⟨d,by simp,fun x b y a=>?_⟩;obtain⟨e,he,rfl⟩:=List.mem_map.1 b;simp only[List.map_cons,List.map_nil,List.mem_singleton]at a;subst a;exact Nat.ne_of_lt (c e he)
 ·rw[Array.toList_push,List.pairwise_append];refine⟨f,by simp,fun x b y a=>?_⟩;rw[List.mem_singleton]at a;subst a;exact g x b
def eD(w:World)(b:Nat)(ds:List (List UInt8))(C:Nat→Nat→Prop):Prop:=
 ∃es clock,w.heap[b]? =some (.map es clock)∧(∀e∈es.toList,tw ds C e)∧(∀l i,C l i→∃e∈es.toList,e.key=ia l i)∧pU es clock
theorem eD.fr{w w':World}{T:Nat→Prop}{b:Nat}{ds:List (List UInt8)}{C:Nat→Nat→Prop}(h:eD w b ds C)(g:Fr T w w')(f:¬T b):eD w' b ds C:=by
 obtain⟨es,clock,a,c,d,e⟩:=h;exact⟨es,clock,(g.block b (Array.getElem?_eq_some_iff.1 a).1 f).trans a,c,d,e⟩
theorem eD.lt{w:World}{b:Nat}{ds:List (List UInt8)}{C:Nat→Nat→Prop}(h:eD w b ds C):b<w.heap.size:=by
 obtain⟨es,clock,a,_⟩:=h;exact(Array.getElem?_eq_some_iff.1 a).1
theorem eD.more{w:World}{b:Nat}{ds:List (List UInt8)}{C:Nat→Nat→Prop}(h:eD w b ds C)(d:List UInt8)(k:∀l i,C l i→(i+1)*2^l≤ds.length):eD w b (ds++[d]) C:=by
 obtain⟨es,clock,c,f,g,j⟩:=h;refine⟨es,clock,c,fun e he=>?_,g,j⟩;obtain⟨l,i,m,n,a⟩:=f e he;exact⟨l,i,m,by rw[n,oR ds d l i (k l i a)],a⟩
theorem rG(ds:List (List UInt8))(C:Nat→Nat→Prop)(l i:Nat)(w:World):∀(es:List MapEntry)(k:Nat),(∀e∈es,tw ds C e)→(∃e∈es,e.key=ia l i)→
  ∃j,(Instr.findAsking 212 (ia l i) es k).run Tryz.prog w= .ok (some (j,aE (aL ds l i))) w
 |[],_,_,h=>by obtain⟨e,he,_⟩:=h;cases he
 |e::es,k,d,h=>by
  obtain⟨o,i',n,u,v⟩:=d e (by simp);by_cases f:l=o∧i=i';·obtain⟨rfl,rfl⟩:=f;refine⟨k,?_⟩;simp only[Instr.findAsking,Sem.run_bind,n,pZ,Result.andThen_ok,decide_true,Bool.and_self,if_true,u,Sem.run_pure]
  ·obtain⟨q,c,g⟩:=h;have m:(decide (l=o)&&decide (i=i'))=false:=by
    by_cases p:l=o;·rw[ct (show¬i=i' from fun r=>f ⟨p,r⟩),Bool.and_false]
    ·rw[decide_eq_false p,Bool.false_and]
   rcases List.mem_cons.1 c with rfl|c;·rw[n]at g;obtain⟨a,b⟩:=wR g;exact absurd ⟨a.symm,b.symm⟩ f
   ·obtain⟨j,s⟩:=rG ds C l i w es (k+1) (fun x t=>d x (by simp[t])) ⟨q,c,g⟩;refine⟨j,?_⟩;simp only[Instr.findAsking,Sem.run_bind,n,pZ,Result.andThen_ok,m,Bool.false_eq_true,if_false];exact s
theorem uw(ds:List (List UInt8))(C:Nat→Nat→Prop)(l i:Nat)(w:World)(f:¬C l i):∀(es:List MapEntry)(k:Nat),(∀e∈es,tw ds C e)→
  (Instr.findAsking 212 (ia l i) es k).run Tryz.prog w= .ok none w
 |[],_,_=>by simp[Instr.findAsking]
 |e::es,k,a=>by
  obtain⟨g,i',j,n,m⟩:=a e (by simp);have b:(decide (l=g)&&decide (i=i'))=false:=by
   by_cases c:l=g
   ·by_cases d:i=i';·subst c d;exact absurd m f
    ·rw[decide_eq_false d,Bool.and_false]
   ·rw[decide_eq_false c,Bool.false_and]
  simp only[Instr.findAsking,Sem.run_bind,j,pZ,Result.andThen_ok,b,Bool.false_eq_true,if_false];exact uw ds C l i w f es (k+1) (fun x h=>a x (by simp[h]))
theorem FP:∃a,Tryz.prog.underlying 212=some (.struct a):=⟨_,Tryz.underlying212⟩
theorem pK(k:Value)(es:List MapEntry)(w:World)(r:Option (Nat×Value))(h:(Instr.findAsking 212 k es 0).run Tryz.prog w= .ok r w):(Instr.findKey 212 k es).run Tryz.prog w= .ok r w:=by
 obtain⟨a,hu⟩:=FP;unfold Instr.findKey;simp only[Sem.run_bind,run_underlying hu,Result.andThen_ok];cases es with
 |nil=>
  simp only[Instr.findAsking,Sem.run_pure]at h;simpa[Instr.findNow]using h
 |cons e es=>
  simp only[Instr.findNow,Instr.sameNow];exact h
theorem Ai:Tryz.prog.underlying 178=some (.map 212 38):=Tryz.underlying178
theorem rV{w:World}{b:Nat}{ds:List (List UInt8)}{C:Nat→Nat→Prop}(h:eD w b ds C)(l i:Nat)(e:C l i):(Instr.lookup 178 (.map (some b)) (ia l i) false).run Tryz.prog w= .ok (aE (aL ds l i)) w:=by
 obtain⟨es,clock,a,c,d,_⟩:=h;obtain⟨j,f⟩:=rG ds C l i w es.toList 0 c (d l i e);unfold Instr.lookup;simp only[Sem.run_bind,run_underlying Ai,Result.andThen_ok,MapKept.run_getObj_map a,Sem.run_pure,oB,pK _ _ _ _ f,Bool.false_eq_true,if_false]
theorem rW{w:World}{b:Nat}{ds:List (List UInt8)}{C:Nat→Nat→Prop}(h:eD w b ds C)(l i:Nat)(o:¬C l i)(v:Value)(t:v=aE (aL ds l i))(C':Nat→Nat→Prop)(c:∀a i',C' a i'↔C a i'∨(a=l∧i'=i)):
  ∃w',(Instr.mapUpdate 178 (.map (some b)) (ia l i) v).run Tryz.prog w= .ok () w'∧eD w' b ds C'∧Fr (fun k=>k=b) w w':=by
 obtain⟨es,clock,f,g,p,q⟩:=h;have s:=uw ds C l i w o es.toList 0 g;refine⟨w.putObj b (.map (es.push {key:=ia l i,val:=v,born:=clock}) (clock+1)),?_,?_,?_⟩;·unfold Instr.mapUpdate;simp only[Sem.run_bind,run_underlying Ai,Result.andThen_ok,MapKept.run_getObj_map f,oB,pK _ _ _ _ s,MapKept.run_setObj_map _ f];rfl
 ·have r:=(Array.getElem?_eq_some_iff.1 f).1;refine⟨es.push {key:=ia l i,val:=v,born:=clock},clock+1,?_,fun e he=>?_,fun a i' j=>?_,q.push _ _ fun e he d=>?_⟩;·show(w.heap.setIfInBounds b _)[b]? =_;rw[Array.getElem?_setIfInBounds_self_of_lt r]
  ·rw[Array.toList_push,List.mem_append]at he;rcases he with he|he;·obtain⟨a,i',m,u,n⟩:=g e he;exact⟨a,i',m,u,(c _ _).2 (.inl n)⟩
   ·simp only[List.mem_singleton]at he;subst he;exact⟨l,i,rfl,t,(c _ _).2 (.inr ⟨rfl,rfl⟩)⟩
  ·rw[Array.toList_push];rcases(c _ _).1 j with j|⟨rfl,rfl⟩;·obtain⟨e,he,d⟩:=p a i' j;exact⟨e,List.mem_append_left _ he,d⟩
   ·exact⟨_,List.mem_append_right _ (List.mem_singleton.2 rfl),rfl⟩
  ·obtain⟨a,i',m,_,n⟩:=g e he;rw[m]at d;obtain⟨rfl,rfl⟩:=wR d;exact o n
 ·exact(Fr.grown (grownBy_putObj' w b _)).mono (fun k _ d=>by simpa using d)
end Go.Proofs.YtphjagkehiklkaaGreatDoor.Lt
namespace Go.Proofs.YtphjagkehiklkaaGreatDoor.Lt
open Go.RowKit
structure ec(w:World)(p:Nat)(A:Option Addr)(n c:Nat)(mb:Option Nat)(ds:List (List UInt8))(C:Nat→Nat→Prop):Prop where
 aH:aq w p 180 #[.slice A n c, .map mb]
 row:w.ownsRow 0 38 32 (.slice A n c) n (ds.flatMap ao)
 len:ds.length=n
 each:∀d∈ds,d.length=32
 parts:(∃b,mb=some b∧eD w b ds C)∨(mb=none∧∀l i,¬C l i)
theorem ec.ar{w w':World}{p:Nat}{A:Option Addr}{n c:Nat}{mb:Option Nat}{ds:List (List UInt8)}{C:Nat→Nat→Prop}(h:ec w p A n c mb ds C)(a:Fr ag w w'):ec w' p A n c mb ds C:=
 ⟨h.aH.fr a (fun x=>x),aQ h.row a (fun _ _ x=>x),h.len,h.each,by
  rcases h.parts with⟨b,e,f⟩|d;·exact .inl ⟨b,e,f.fr a (fun x=>x)⟩
  ·exact .inr d⟩
theorem ec.Km{w:World}{p:Nat}{A:Option Addr}{n c:Nat}{mb:Option Nat}{ds:List (List UInt8)}{C:Nat→Nat→Prop}(h:ec w p A n c mb ds C):eM w (mZ (.slice A n c)) A n ds:=⟨Rd.ib h.row,h.len,h.each⟩
theorem ec.part{w:World}{p:Nat}{A:Option Addr}{n c:Nat}{mb:Option Nat}{ds:List (List UInt8)}{C:Nat→Nat→Prop}(h:ec w p A n c mb ds C){l i:Nat}(e:C l i):∃b,mb=some b∧eD w b ds C:=by
 rcases h.parts with d|⟨_,a⟩;·exact d
 ·exact absurd e (a l i)
theorem Am{g:Oper}{a:Act}{w:World}{K:Act→World→Prop}{Q:Exit→Act→World→Prop}(m x:Operand)(d:g.op= .lookup 178 m x false)
  {c b v:Value}(hm:a.eval m=c)(f:a.eval x=b)(e:(Instr.lookup 178 c b false).run Tryz.prog w= .ok v w)(h:K (a.put g.dst v) w):g.wp Tryz.prog a w K Q:=by
 unfold Oper.wp execOp;simp only[d,hm,f,Sem.run_bind,e,Result.andThen_ok];exact h
theorem ez(p:Nat)(A:Option Addr)(n c:Nat)(mb:Option Nat)(ds:List (List UInt8))(C:Nat→Nat→Prop)(l i:Nat)(w:World)(B:ec w p A n c mb ds C)(H:(i+1)*2^l≤n)(z:l≠0→C l i)(ax:l≤64)(aO:n≤1048576):
  Calls Tryz.prog 131 #[.pointer (some ⟨p,0,none⟩),ia l i] w (aJ w (aE (aL ds l i))):=by
 have N:(aL ds l i).length=32:=dP ds B.each l i (by rw[B.len];exact H);have ac:i<n:=by
  have:1≤2^l:=Nat.one_le_two_pow;have:(i+1)*1≤(i+1)*2^l:=Nat.mul_le_mul_left _ this;omega
 have y:Hid (bT (ao (aL ds l i)).toArray):=bT.of N;have U:Hid ((Tryz.prog.info? 38).map (·.size)=some (ao (aL ds l i)).length):=by rw[ao,List.length_map,N];exact cg
 have i4:i≤1048576:=by omega
 by_cases s:l=0
 ·obtain⟨J,d,rfl,_,am,_,I⟩:=B.Km.at_ ac;have K:d=aL ds l i:=by
   rw[s];simp only[aL];rw[List.getD_eq_getElem?_getD,am];rfl
  rw[K]at I;have R:=af I;have X:Hid (w.cell? ⟨p,0,none⟩=some (.slice (some J) n c)):=B.aH.cell 0;have aN:(i:Int)<(n:Int):=by omega
  have t0:((l:Int)==0)=true:=by rw[s];rfl
  unfold aE;rw[show∀x:List UInt8,x.map aS=ao x from fun _=>rfl];generalize ao (aL ds l i)=q at*;clear B am K I N H z s;change Calls _ _ #[_, .agg #[.int .i64 (l:Int), .int .i64 (i:Int)]] _ _;go_enter Tryz.func131,Tryz.ntmps131;go_wp2_with(refine aA rfl 212 (.tmp 1) rfl _ rfl ?_);intro w1 n1;have r:=af n1;clear n1;go_wp2_with(refine ak rfl 38 rfl aI dW aB rfl ?_);intro w2 t;have D:Hid (aq w2 w.heap.size 212 #[.int .i64 (l:Int), .int .i64 (i:Int)]):=r.out.aH.fr t.fr (fun x=>x);have O:=af t.aH;have F:=af (r.out.fr.trans t.fr);have Q:Hid (w.heap.size≤w1.heap.size):=r.out.fr.size;have M:Hid (w2.cell? ⟨w.heap.size,0,none⟩=some (.int .i64 l)):=D.out.cell 0;have T:Hid (w2.cell? ⟨w.heap.size,1,none⟩=some (.int .i64 i)):=D.out.cell 1;clear t r D;generalize o:w.heap.size=g3 at*;have G:=af o;clear o;generalize w1.heap.size=g4 at*;have i0:=M.out;have au:Hid (w2.cell? ⟨p,0,none⟩=some (.slice (some J) n c)):=F.out.an X.out (fun x=>x);have ap:Hid (∀j v,q[j]? =some v→w2.cell? ((J.add (i*32)).add j)=some v):=fun j v ad=>F.out.an (R.out j v ad) (fun x=>x);go_upto_region 2 with fail;clear i0;refine aC 8 ag [Is (.pointer (some ⟨p,0,none⟩)),Is (.pointer (some ⟨p,0,none⟩)),Is (.pointer (some ⟨p,0,none⟩)),Is (.slice (some J) n c),Is (.pointer (some ⟨g3,1,none⟩)),Is (.int .i64 i),Is (.pointer (some (J.add (i*32)))),Is (.agg q.toArray)] [] (fun _=>True) (fun _ _=>false) (by kernel_rfl) (by kernel_rfl) (by kernel_rfl) (by kernel_rfl) ⟨Is.ah _,Is.ah _,Is.ah _,Is.ah _,Is.ah _,Is.ah _,Is.ah _,Is.ah _,trivial⟩ trivial (fun _ _ _ _ h=>h) trivial ?_ ?_
  ·refine⟨?_,?_,?_,?_,?_,?_,?_,?_,trivial⟩;all_goals intro u w' d f a m k g
   all_goals simp only[bH,bI,bJ,bK,ay,Act.put,bL,bM,bN,Nat.reduceAdd,Nat.zero_add]
   ·clear a m k g;refine aj ?_;go_simp;exact⟨_,rfl,al⟩
   ·have s:u 0=_:=a 0;clear a m k g;simp only[s];refine aj ?_;go_simp;exact⟨_,rfl,al⟩
   ·have H:u 1=_:=a 1;clear a m k g;simp only[H];refine aj ?_;go_simp;exact⟨_,rfl,al⟩
   ·have z:u 2=_:=a 2;clear a m k g;simp only[z];refine aj ?_;have I:=f.an au.out (fun x=>x);go_simp;exact⟨_,rfl,al⟩
   ·clear a m k g;refine aj ?_;go_simp;exact⟨_,rfl,al⟩
   ·have aa:u 4=_:=a 4;clear a m k g;simp only[aa];refine aj ?_;have I:=f.an T.out (fun x=>x);go_simp;exact⟨_,rfl,al⟩
   ·have Z:u 3=_:=a 3;have ab:u 5=_:=a 5;clear a m k g;simp only[Z,ab];refine aj ?_;go_simp;exact⟨_,rfl,al⟩
   ·have aF:u 6=_:=a 6;clear a m k g;simp only[aF];refine aj ?_;exact az _ _ rfl (J.add (i*32)) rfl q _ (fun j v ad=>f.an (ap.out j v ad) (fun x=>x)) Tryz.underlying38 rfl U.out ⟨_,rfl,al⟩
  ·intro u w' f a g;have aG:u 7=_:=a 7 (by omega);have E:=af (O.out.fr f (fun x=>x));have P:=af (F.out.trans f);clear a g f;simp only[bH,bI,bJ,bK,ay,Act.put,bL,bM,bN,dD,dE,Nat.reduceAdd,Nat.zero_add,aG];refine ai rfl 38 (.tmp 4) _ rfl g4 q.toArray rfl rfl _ _ E.out y.out.info y.out.zero y.out.one ?_;intro L b5 f5;have V:=af b5;have W:Hid (Fr ag w L):=P.out.aw f5 (fun i aM e=>by have aD:i=g4:=e;have:=Q.out;have:=G.out;omega);clear b5 f5;go_wp2;exact bodyPost_ret (results_cell_row (fn:=Tryz.f131) (p:=4) (ty:=38) Tryz.results131 _ L _ 38 q.toArray (0,0) _ rfl V.out Tryz.underlying38 rfl y.out.info) rfl ⟨rfl,W.out⟩
 ·obtain⟨b,rfl,ae⟩:=B.part (z s);have S:Hid (∀w',Fr ag w w'→(Instr.lookup 178 (.map (some b)) (ia l i) false).run Tryz.prog w'= .ok (.agg (ao (aL ds l i)).toArray) w'):=fun w' f=>rV (ae.fr f (fun x=>x)) l i (z s);have Y:Hid (w.cell? ⟨p,1,none⟩=some (.map (some b))):=B.aH.cell 1;have t0:((l:Int)==0)=false:=by rw[beq_eq_false_iff_ne];omega
  unfold aE;rw[show∀x:List UInt8,x.map aS=ao x from fun _=>rfl];generalize ao (aL ds l i)=q at*;clear B N H z ae;change Calls _ _ #[_, .agg #[.int .i64 (l:Int), .int .i64 (i:Int)]] _ _;go_enter Tryz.func131,Tryz.ntmps131;go_wp2_with(refine aA rfl 212 (.tmp 1) rfl _ rfl ?_);intro w1 n1;have r:=af n1;clear n1;go_wp2_with(refine ak rfl 38 rfl aI dW aB rfl ?_);intro w2 t;have D:Hid (aq w2 w.heap.size 212 #[.int .i64 (l:Int), .int .i64 (i:Int)]):=r.out.aH.fr t.fr (fun x=>x);have O:=af t.aH;have F:=af (r.out.fr.trans t.fr);have Q:Hid (w.heap.size≤w1.heap.size):=r.out.fr.size;have M:Hid (w2.cell? ⟨w.heap.size,0,none⟩=some (.int .i64 l)):=D.out.cell 0;have T:Hid (w2.cell? ⟨w.heap.size,1,none⟩=some (.int .i64 i)):=D.out.cell 1;clear t r D;generalize o:w.heap.size=g3 at*;have G:=af o;clear o;generalize w1.heap.size=g4 at*;have i0:=M.out;have av:Hid (w2.cell? ⟨p,1,none⟩=some (.map (some b))):=F.out.an Y.out (fun x=>x);have ar:Hid (∀w',Fr ag w2 w'→(Instr.lookup 178 (.map (some b)) (ia l i) false).run Tryz.prog w'= .ok (.agg q.toArray) w'):=fun w' f=>S.out _ (F.out.trans f);go_upto_region 3 with fail;clear i0;refine aC 6 ag [Is (.pointer (some ⟨p,0,none⟩)),Is (.pointer (some ⟨p,0,none⟩)),Is (.pointer (some ⟨p,1,none⟩)),Is (.map (some b)),Is (ia l i),Is (.agg q.toArray)] [] (fun _=>True) (fun _ _=>false) (by kernel_rfl) (by kernel_rfl) (by kernel_rfl) (by kernel_rfl) ⟨Is.ah _,Is.ah _,Is.ah _,Is.ah _,Is.ah _,Is.ah _,trivial⟩ trivial (fun _ _ _ _ h=>h) trivial ?_ ?_
  ·refine⟨?_,?_,?_,?_,?_,?_,trivial⟩;all_goals intro u w' d f a m k g
   all_goals simp only[bH,bI,bJ,bK,ay,Act.put,bL,bM,bN,Nat.reduceAdd,Nat.zero_add]
   ·clear a m k g;refine aj ?_;go_simp;exact⟨_,rfl,al⟩
   ·have s:u 0=_:=a 0;clear a m k g;simp only[s];refine aj ?_;go_simp;exact⟨_,rfl,al⟩
   ·have H:u 1=_:=a 1;clear a m k g;simp only[H];refine aj ?_;go_simp;exact⟨_,rfl,al⟩
   ·have z:u 2=_:=a 2;clear a m k g;simp only[z];refine aj ?_;have I:=f.an av.out (fun x=>x);go_simp;exact⟨_,rfl,al⟩
   ·clear a m k g;refine aj ?_;have I:=f.an M.out (fun x=>x);have aK:=f.an T.out (fun x=>x);go_simp;exact⟨_,rfl,al⟩
   ·have Z:u 3=_:=a 3;have aa:u 4=_:=a 4;clear a m k g;simp only[Z,aa];refine aj ?_;exact Am _ _ rfl rfl rfl (ar.out _ f) ⟨_,rfl,al⟩
  ·intro u w' f a g;have ab:u 5=_:=a 5 (by omega);have E:=af (O.out.fr f (fun x=>x));have P:=af (F.out.trans f);clear a g f;simp only[bH,bI,bJ,bK,ay,Act.put,bL,bM,bN,dD,dE,Nat.reduceAdd,Nat.zero_add,ab];refine ai rfl 38 (.tmp 4) _ rfl g4 q.toArray rfl rfl _ _ E.out y.out.info y.out.zero y.out.one ?_;intro L b5 f5;have V:=af b5;have W:Hid (Fr ag w L):=P.out.aw f5 (fun i aM e=>by have aD:i=g4:=e;have:=Q.out;have:=G.out;omega);clear b5 f5;go_wp2;exact bodyPost_ret (results_cell_row (fn:=Tryz.f131) (p:=4) (ty:=38) Tryz.results131 _ L _ 38 q.toArray (0,0) _ rfl V.out Tryz.underlying38 rfl y.out.info) rfl ⟨rfl,W.out⟩
end Go.Proofs.YtphjagkehiklkaaGreatDoor.Lt
namespace Go.Proofs.YtphjagkehiklkaaGreatDoor.Lt
open Go.RowKit
def Full(C:Nat→Nat→Prop)(n:Nat):Prop:=∀l i,l≠0→(i+1)*2^l≤n→C l i
def s8(m:Nat):Prop:=∀(w:World)(p:Nat)(A:Option Addr)(n c:Nat)(mb:Option Nat)(ds:List (List UInt8))(C:Nat→Nat→Prop)(f k:Nat),ec w p A n c mb ds C→Full C n→n≤1048576→bB w→1≤m→f+m≤n→m≤2^k→2^k∣f→
 Calls Tryz.prog 110 #[.pointer (some ⟨p,0,none⟩), .int .i64 f, .int .i64 m] w (aJ w (aE (bQ ((ds.drop f).take m))))
theorem GB(m:Nat)(f:1≤m)(hm:m≤1048576):∃lv,Lib.bitLen m=lv+1∧2^lv≤m∧m<2*2^lv∧lv≤40:=by
 obtain⟨a,b,c⟩:=Lib.bitLenAux_bounds 64 m (by omega) (by omega);refine⟨Lib.bitLen m-1,by unfold Lib.bitLen;omega,b,?_,?_⟩
 ·have h:Lib.bitLen m=(Lib.bitLen m-1)+1:=by unfold Lib.bitLen;omega
  have d:m<2^Lib.bitLen m:=c;rw[h,Nat.pow_succ]at d;omega
 ·rcases Nat.lt_or_ge 40 (Lib.bitLen m-1)with h|h;·have:2^41≤2^(Lib.bitLen m-1):=Nat.pow_le_pow_right (by omega) h;have e:2^(Lib.bitLen m-1)≤m:=b;omega
  ·exact h
theorem lY{a b f:Nat}(h:a≤b)(c:2^b∣f):2^a∣f:=Nat.dvd_trans (Nat.pow_dvd_pow 2 h) c
theorem mj{a b:Nat}(h:2^a≤2^b):a≤b:=by
 rcases Nat.lt_or_ge b a with c|c;·have:=Nat.pow_lt_pow_right (a:=2) (by omega) c;omega
 ·exact c
theorem Ft(m lv:Nat)(s:Lib.bitLen m=lv+1)(hm:m=2^lv)(S:lv≤40):s8 m:=by
 intro w p A n c mb ds C f k j hF Q N V r t o;obtain⟨i,rfl⟩:∃i,f=i*2^lv:=by
  obtain⟨q,R⟩:=lY (mj (by rw[←hm];exact t)) o;exact⟨q,by rw[R,Nat.mul_comm]⟩
 have g:(i+1)*2^lv≤n:=by rw[Nat.add_mul,Nat.one_mul,←hm]at*;exact r
 have e:=oS ds lv i (by rw[j.len];exact g) (by omega);rw[hm,←e];have G:(aL ds lv i).length=32:=dP ds j.each lv i (by rw[j.len];exact g);have J:Hid (∀w',Fr ag w w'→Calls Tryz.prog 131 #[.pointer (some ⟨p,0,none⟩), .agg #[.int .i64 (lv:Int), .int .i64 (i:Int)]] w' (aJ w' (aE (aL ds lv i)))):=
  fun w' O=>ez p A n c mb ds C lv i w' (j.ar O) g (fun h=>hF lv i h g) (by omega) Q;have u:Hid (bT (ao (aL ds lv i)).toArray):=bT.of G;have z:Hid (∀w,Calls Tryz.prog 150 #[.int .u64 (m:Int)] w fun e w'=>e= .returned (.int .i64 (Lib.bitLen m:Nat))∧w'=w):=fun w=>Tryz.bits_Len (m:Int) w (by omega) (by omega);rw[s,hm]at z;obtain⟨P,y⟩:∃P,P=2^lv:=⟨_,rfl⟩;obtain⟨d,b⟩:∃d,d=i*2^lv:=⟨_,rfl⟩;have a:(d:Int)/((2^lv:Nat):Int)=(i:Int):=by
  have:d/2^lv=i:=by rw[b];exact Nat.mul_div_cancel _ Nat.one_le_two_pow
  omega
 have B:IntKind.i64.wrap (1*2^lv)=((P:Nat):Int):=by
  rw[y,Int.one_mul];have:(2:Int)^lv=((2^lv:Nat):Int):=by simp
  rw[this];exact IntWalk.i64_in _ (by omega)
 have F:IntKind.i64.wrap (2^lv)=((P:Nat):Int):=by rw[←B,Int.one_mul]
 have T:((lv+1:Nat):Int)-1=(lv:Int):=by omega
 have D:(d:Int)/2^lv=(i:Int):=by rw[←a];simp
 rw[←b,←y];rw[←y]at z a;have W:P≤1048576:=by omega
 have f4:d≤1048576:=by omega
 have i4:i≤1048576:=by
  have:i*1≤i*2^lv:=Nat.mul_le_mul_left _ Nat.one_le_two_pow;omega
 unfold aE at*;simp only[show∀l:List UInt8,l.map aS=ao l from fun _=>rfl]at*;generalize ao (aL ds lv i)=E at*;clear j hF N e G s hm y b r t o g;go_enter Tryz.func110,Tryz.ntmps110;go_wp2_with(refine ak rfl 38 rfl aI dW aB rfl ?_);intro w1 n1;have v:=af n1;clear n1;go_wp2_with fail;refine(z.out _).mono ?_;rintro e w'⟨rfl,rfl⟩;go_wp2_with fail;refine(J.out _ v.out.fr).mono ?_;rintro e w2⟨rfl,f2⟩;have K:=af (v.out.fr.trans f2);have I:=af (v.out.aH.fr f2 (fun x=>x));clear f2 v;go_wp2_with(refine ai rfl 38 (.tmp 6) _ rfl w.heap.size E.toArray rfl rfl _ _ I.out u.out.info u.out.zero u.out.one ?_);intro H b5 f5;have L:=af b5;have M:Hid (Fr ag w H):=K.out.aw f5 (fun i g e=>by have U:i=w.heap.size:=e;omega);clear b5 f5;go_wp2;exact bodyPost_ret (results_cell_row (fn:=Tryz.f110) (p:=6) (ty:=38) Tryz.results110 _ H _ 38 E.toArray (0,0) _ rfl L.out Tryz.underlying38 rfl u.out.info) rfl ⟨rfl,M.out⟩
theorem mD{α:Type}(L:List α){a b:Nat}(h:a≤b):(L.take b).take a=L.take a:=by rw[List.take_take,Nat.min_eq_left h]
theorem Ct(m lv:Nat)(O:∀j,j<m→s8 j)(t:Lib.bitLen m=lv+1)(D:2^lv<m)(W:m<2*2^lv)(an:lv≤40):s8 m:=by
 intro w p A n c mb ds C f k a hF Z E am M N r;have F:1≤2^lv:=Nat.one_le_two_pow;have o:2^lv=au m:=rL m lv (by omega) D (by omega);have Y:lv≤k:=mj (by omega);have K:2^lv∣f:=lY Y r;have hlen:((ds.drop f).take m).length=m:=by rw[List.length_take,List.length_drop,a.len];omega
 have e:=iC _ m hlen (by omega) (by omega);rw[←o,mD _ (by omega),List.drop_take,List.drop_drop]at e;rw[e];have H:=af (fun w=>fV m w (by omega) (by omega));rw[←o]at H;have CL:Hid (∀w',Fr ag w w'→Calls Tryz.prog 110 #[.pointer (some ⟨p,0,none⟩), .int .i64 f, .int .i64 (2^lv:Nat)] w' (aJ w' (aE (bQ ((ds.drop f).take (2^lv)))))):=
  fun w' q=>O (2^lv) D w' p A n c mb ds C f lv (a.ar q) hF Z (E.ar q) F (by omega) (Nat.le_refl _) K;have G:Hid (∀w',Fr ag w w'→Calls Tryz.prog 110 #[.pointer (some ⟨p,0,none⟩), .int .i64 (f+2^lv:Nat), .int .i64 (m-2^lv:Nat)] w' (aJ w' (aE (bQ ((ds.drop (f+2^lv)).take (m-2^lv)))))):=
  fun w' q=>O (m-2^lv) (by omega) w' p A n c mb ds C (f+2^lv) lv (a.ar q) hF Z (E.ar q) (by omega) (by omega) (by omega) ((Nat.dvd_add_right K).2 (Nat.dvd_refl _));have l1:(bQ ((ds.drop f).take (2^lv))).length=32:=de (2^lv) _ (by rw[List.length_take,List.length_drop,a.len];omega) F (by omega) (fun d L=>a.each d (List.mem_of_mem_drop (List.mem_of_mem_take L)));have l2:(bQ ((ds.drop (f+2^lv)).take (m-2^lv))).length=32:=de (m-2^lv) _ (by rw[List.length_take,List.length_drop,a.len];omega) (by omega) (by omega) (fun d L=>a.each d (List.mem_of_mem_drop (List.mem_of_mem_take L)));have ac:Hid (∀w',Fr ag w w'→Calls Tryz.prog 122 #[aE (bQ ((ds.drop f).take (2^lv))),aE (bQ ((ds.drop (f+2^lv)).take (m-2^lv)))] w' (aJ w' (aE (bU (bQ ((ds.drop f).take (2^lv))) (bQ ((ds.drop (f+2^lv)).take (m-2^lv))))))):=fun w' q=>iG _ _ l1 l2 w' (E.ar q);generalize bQ ((ds.drop f).take (2^lv))=Q at*;generalize bQ ((ds.drop (f+2^lv)).take (m-2^lv))=R at*;have z:Hid (bT (ao (bU Q R)).toArray):=bT.of (cJ _ _);have U:Hid (∀w,Calls Tryz.prog 150 #[.int .u64 (m:Int)] w fun e w'=>e= .returned (.int .i64 (Lib.bitLen m:Nat))∧w'=w):=fun w=>Tryz.bits_Len (m:Int) w (by omega) (by omega);rw[t]at U;have v:IntKind.i64.wrap (1*2^lv)=((2^lv:Nat):Int):=by
  rw[Int.one_mul];have:(2:Int)^lv=((2^lv:Nat):Int):=by simp
  rw[this];exact IntWalk.i64_in _ (by omega)
 have y:IntKind.i64.wrap (2^lv)=((2^lv:Nat):Int):=by rw[←v,Int.one_mul]
 obtain⟨P,X⟩:∃P,P=2^lv:=⟨_,rfl⟩;rw[←X]at v y H CL G D W F;have ap:((lv+1:Nat):Int)-1=(lv:Int):=by omega
 have aA:((m:Int)==(P:Int))=false:=by rw[beq_eq_false_iff_ne];omega
 have aq:¬m=P:=by omega
 obtain⟨f2,s⟩:∃f2:Nat,f2=f+P:=⟨_,rfl⟩;obtain⟨m2,u⟩:∃m2:Nat,m2=m-P:=⟨_,rfl⟩;rw[←s,←u]at G;have s1:(f:Int)+(P:Int)=(f2:Int):=by omega
 have s2:(m:Int)-(P:Int)=(m2:Int):=by omega
 have f4:f≤1048576:=by omega
 have f24:f2≤1048576:=by omega
 have m4:m≤1048576:=by omega
 have m24:m2≤1048576:=by omega
 have ax:P≤1048576:=by omega
 unfold aE at*;simp only[show∀l:List UInt8,l.map aS=ao l from fun _=>rfl]at*;generalize ao (bU Q R)=V at*;generalize ao Q=aj at*;generalize ao R=al at*;clear a hF E e t X s u M N r K Y o hlen l1 l2 O am D W F;go_enter Tryz.func110,Tryz.ntmps110;go_wp2_with(refine ak rfl 38 rfl aI dW aB rfl ?_);intro w1 n1;have B:=af n1;clear n1;go_wp2_with fail;refine(U.out _).mono ?_;rintro e w'⟨rfl,rfl⟩;go_wp2_with fail;refine(H.out _).mono ?_;rintro e av⟨rfl,rfl⟩;go_wp2_with fail;refine(CL.out _ B.out.fr).mono ?_;rintro e w2⟨rfl,b⟩;have I:=af (B.out.fr.trans b);have S:=af (B.out.aH.fr b (fun x=>x));clear b B;go_wp2_with fail;refine(G.out _ I.out).mono ?_;rintro e w3⟨rfl,g⟩;have J:=af (I.out.trans g);have T:=af (S.out.fr g (fun x=>x));clear g I S;go_wp2_with fail;refine(ac.out _ J.out).mono ?_;rintro e aC⟨rfl,h⟩;have ad:=af (J.out.trans h);have ab:=af (T.out.fr h (fun x=>x));clear h J T;go_wp2_with(refine ai rfl 38 (.tmp 6) _ rfl w.heap.size V.toArray rfl rfl _ _ ab.out z.out.info z.out.zero z.out.one ?_);intro aa b5 f5;have ae:=af b5;have ah:Hid (Fr ag w aa):=ad.out.aw f5 (fun i az e=>by have ay:i=w.heap.size:=e;omega);clear b5 f5;go_wp2;exact bodyPost_ret (results_cell_row (fn:=Tryz.f110) (p:=6) (ty:=38) Tryz.results110 _ aa _ 38 V.toArray (0,0) _ rfl ae.out Tryz.underlying38 rfl z.out.info) rfl ⟨rfl,ah.out⟩
theorem mQ(m:Nat)(hm:m≤1048576):s8 m:=by
 induction m using Nat.strongRecOn with
 |_ m l=>
  rcases Nat.eq_zero_or_pos m with rfl|g;·intro w p A n c mb ds C f k _ _ _ _ h;omega
  ·obtain⟨lv,a,b,d,e⟩:=GB m g hm;by_cases h:m=2^lv;·exact Ft m lv a h e
   ·exact Ct m lv (fun j i=>l j i (by omega)) a (by omega) d e
end Go.Proofs.YtphjagkehiklkaaGreatDoor.Lt
namespace Go.Proofs.YtphjagkehiklkaaGreatDoor.Lt
open Go.RowKit
theorem vU(w:World)(A:Option Addr)(n c:Nat)(xs:List Value)(b:w.ownsRow 0 38 32 (.slice A n c) n xs)(F:¬n+1≤c)(H:n≤1048576)(f:Addr)(h:Nat)(news:List Value)(G:news.length=32)(a:∀j u,news[j]? =some u→w.cell? (f.add j)=some u)(x:∀u∈news,u.oneCell'=true)(ty:TypeId):
  ∃g cap w',(Builtin.append_ #[31,31] ty #[.slice A n c, .slice (some f) 1 h]).run Tryz.prog w= .ok (.slice (some ⟨g,0,none⟩) (n+1) cap) w'∧Fr ag w w'∧w.heap.size≤g∧
   w'.ownsRow 0 38 32 (.slice (some ⟨g,0,none⟩) (n+1) cap) (n+1) (xs++news):=by
 obtain⟨i,o,r,v,t⟩:=info_parts pz;have p:Tryz.prog.underlying 31=some (.slice 38):=Tryz.underlying31;obtain⟨I,w',d,s⟩:=Ac (P:=Tryz.prog) w 31 ty 38 i aI 32 32 p o r v t rfl (by omega) (.slice A n c) n xs b (fun k=>k=f.block) (some f) 1 h news ⟨by omega,fun _=>⟨f,rfl,rfl,a⟩⟩ x (by omega) (by omega);have D:xs.length=n*32:=b.1;rcases b.2 with⟨q,E⟩|⟨g,cap,cur,q,_,_,C,_⟩;·cases q;have e:=run_append_nil (P:=Tryz.prog) w 31 ty 38 i aI p o r f 1 h news (by omega) a (by omega) (by omega) (by omega);rw[d]at e;injection e with l m;subst l m;exact⟨w.heap.size,_,_,d,aD.drew.alloc _,Nat.le_refl _,s.own⟩
 ·injection q with y B z;subst y;have holds:∀j u,xs[j]? =some u→w.cell? ((⟨g,0,none⟩:Addr).add j)=some u:=b.cells (g:=g) rfl;have e:=run_append_grow (P:=Tryz.prog) w 31 ty 38 i aI p o r ⟨g,0,none⟩ n c xs (by rw[v];exact D) holds f 1 h news (by omega) a (by omega) (by omega) (by rw[t];exact growslice_fits (by omega) (by omega));rw[d]at e;injection e with l m;subst l m;exact⟨w.heap.size,_,_,d,aD.drew.alloc _,Nat.le_refl _,s.own⟩
theorem rm{z:Oper}{a:Act}{w:World}{K:Act→World→Prop}{Q:Exit→Act→World→Prop}(s x:Operand)(t:z.op= .call {callee:= .builtin .append,args:=#[s,x],argTypes:=#[31,31]})
  (A:Option Addr)(n c:Nat)(xs:List Value)(v:a.eval s= .slice A n c)(e:w.ownsRow 0 38 32 (.slice A n c) n xs)(m:¬n+1≤c)(r:n≤1048576)(i:Addr)(k:Nat)(news:List Value)(y:a.eval x= .slice (some i) 1 k)(q:news.length=32)(b:∀j u,news[j]? =some u→w.cell? (i.add j)=some u)(l:∀u∈news,u.oneCell'=true)
  (h:∀g cap w',Fr ag w w'→w.heap.size≤g→w'.ownsRow 0 38 32 (.slice (some ⟨g,0,none⟩) (n+1) cap) (n+1) (xs++news)→K (a.put z.dst (.slice (some ⟨g,0,none⟩) (n+1) cap)) w'):z.wp Tryz.prog a w K Q:=by
 obtain⟨g,cap,w',f,o,p,d⟩:=vU w A n c xs e m r i k news q b l z.type;unfold Oper.wp execOp;simp only[t,resolve,invoke,builtin,Sem.run_bind,Sem.run_pure,Result.andThen_ok,List.map_toArray,List.map_cons,List.map_nil,v,y,f];exact h g cap w' o p d
theorem pR{E:Oper}{a:Act}{w:World}{K:Act→World→Prop}{Q:Exit→Act→World→Prop}(s x:Operand)(y:E.op= .call {callee:= .builtin .append,args:=#[s,x],argTypes:=#[31,31]})
  (g n c:Nat)(xs:List Value)(z:a.eval s= .slice (some ⟨g,0,none⟩) n c)(e:w.ownsRow 0 38 32 (.slice (some ⟨g,0,none⟩) n c) n xs)(q:n+1≤c)(l:Addr)(o:Nat)(news:List Value)(A:a.eval x= .slice (some l) 1 o)(C:news.length=32)(b:∀j u,news[j]? =some u→w.cell? (l.add j)=some u)(p:∀u∈news,u.oneCell'=true)
  (h:∀w',Fr (fun k=>k=g) w w'→w'.ownsRow 0 38 32 (.slice (some ⟨g,0,none⟩) (n+1) c) (n+1) (xs++news)→K (a.put E.dst (.slice (some ⟨g,0,none⟩) (n+1) c)) w'):E.wp Tryz.prog a w K Q:=by
 obtain⟨i,t,D,m,B⟩:=info_parts pz;obtain⟨w',f,d,r⟩:=run_append_fits (P:=Tryz.prog) w 0 31 E.type 38 i 32 Tryz.underlying31 t m g n c xs e l 1 o news (by omega) b p q;unfold Oper.wp execOp;simp only[y,resolve,invoke,builtin,Sem.run_bind,Sem.run_pure,Result.andThen_ok,List.map_toArray,List.map_cons,List.map_nil,z,A,f];exact h w' ((Fr.grown r).mono (fun k _ v=>by simpa using v)) d
def bF(n l i:Nat):Prop:=l≠0∧(i+1)*2^l≤n
def cP(n lv l i:Nat):Prop:=l≠0∧((i+1)*2^l≤n∨((i+1)*2^l=n+1∧l≤lv))
theorem oQ(n:Nat):Full (bF n) n:=fun _ _ h a=>⟨h,a⟩
theorem eD.congr{w:World}{b:Nat}{ds:List (List UInt8)}{C C':Nat→Nat→Prop}(h:eD w b ds C)(a:∀l i,C l i↔C' l i):eD w b ds C':=by
 obtain⟨es,clock,c,d,f,g⟩:=h;refine⟨es,clock,c,fun e he=>?_,fun l i j=>f l i ((a l i).2 j),g⟩;obtain⟨l,i,k,m,n⟩:=d e he;exact⟨l,i,k,m,(a l i).1 n⟩
theorem kB(n l i:Nat):bF n l i↔cP n 0 l i:=by
 unfold bF cP;constructor;·rintro⟨a,b⟩;exact⟨a, .inl b⟩
 ·rintro⟨a,b|⟨_,b⟩⟩;·exact⟨a,b⟩
  ·omega
theorem lU(n lv q l i:Nat)(h:(q+1)*2^(lv+1)=n+1):cP n (lv+1) l i↔cP n lv l i∨(l=lv+1∧i=q):=by
 unfold cP;constructor
 ·rintro⟨a,b|⟨b,c⟩⟩;·exact .inl ⟨a, .inl b⟩
  ·by_cases d:l≤lv;·exact .inl ⟨a, .inr ⟨b,d⟩⟩
   ·obtain rfl:l=lv+1:=by omega
    refine .inr ⟨rfl,?_⟩;have:(i+1)=(q+1):=Nat.eq_of_mul_eq_mul_right (Nat.two_pow_pos (lv+1)) (by rw[b,h]);omega
 ·rintro(⟨a,b|⟨b,c⟩⟩|⟨rfl,rfl⟩);·exact⟨a, .inl b⟩
  ·exact⟨a, .inr ⟨b,by omega⟩⟩
  ·exact⟨by omega, .inr ⟨h,Nat.le_refl _⟩⟩
theorem ni(n lv q:Nat)(h:(q+1)*2^(lv+1)=n+1):¬cP n lv (lv+1) q:=by
 rintro⟨_,b|⟨_,c⟩⟩;·omega
 ·omega
theorem nh(n lv idx:Nat)(h:(idx+1)*2^lv=n+1)(he:idx%2=0)(l i:Nat):cP n lv l i↔bF (n+1) l i:=by
 unfold cP bF;constructor
 ·rintro⟨a,b|⟨b,_⟩⟩;·exact⟨a,by omega⟩
  ·exact⟨a,by omega⟩
 ·rintro⟨a,b⟩;refine⟨a,?_⟩;by_cases f:(i+1)*2^l≤n;·exact .inl f
  ·refine .inr ⟨by omega,?_⟩;rcases Nat.lt_or_ge lv l with c|c
   ·exfalso;obtain⟨d,rfl⟩:∃d,l=lv+1+d:=⟨l-lv-1,by omega⟩;have e:(i+1)*2^(lv+1+d)=(2*((i+1)*2^d))*2^lv:=by
     rw[Nat.pow_add,Nat.pow_succ];simp only[Nat.mul_assoc,Nat.mul_comm,Nat.mul_left_comm]
    have:idx+1=2*((i+1)*2^d):=Nat.eq_of_mul_eq_mul_right (Nat.two_pow_pos lv) (by rw[h,←e];omega);omega
   ·exact c
theorem jc{ops:Array Oper}{rest:List Oper}{u:Oper}{a:Act}{w:World}{Q:Exit→Act→World→Prop}(f:u.guard=none)(m k x:Operand)(r:u.op= .mapUpdate 178 m k x)
  {b:Nat}{ds:List (List UInt8)}{C:Nat→Nat→Prop}(h:eD w b ds C)(l i:Nat){v:Value}(hm:a.eval m= .map (some b))(q:a.eval k=ia l i)(t:a.eval x=v)(j:¬C l i)(s:v=aE (aL ds l i))(C':Nat→Nat→Prop)(d:∀g i',C' g i'↔C g i'∨(g=l∧i'=i))
  (n:∀w',eD w' b ds C'→Fr (fun k=>k=b) w w'→wpList Tryz.prog ops Q rest (a.put u.dst undef) w'):wpList Tryz.prog ops Q (u::rest) a w:=by
 obtain⟨w',c,o,p⟩:=rW h l i j v s C' d;refine wpList_plain f fun K e=>?_;unfold Oper.wp execOp;simp only[r,hm,q,t,Sem.run_bind,c,Sem.run_pure,Result.andThen_ok];exact e _ _ (n w' o p)
end Go.Proofs.YtphjagkehiklkaaGreatDoor.Lt
