/- Texts. -/
import Derived.Test.YtphjagkehiklkaaGreatDoorXK18
set_option linter.unusedVariables false
set_option linter.unusedSimpArgs false
set_option maxRecDepth 100000
set_option maxHeartbeats 2000000
namespace Go.Proofs.YtphjagkehiklkaaGreatDoor.Lt
open Go.RowKit
def aG(ds:List (List UInt8)):Nat→Nat→List UInt8
 |0,i=>ds.getD i []
 |l+1,i=>cN (aG ds l (2*i)) (aG ds l (2*i+1))
theorem o6(ds:List (List UInt8)):∀l i,(i+1)*2^l≤ds.length→2^l≤1048576→aG ds l i=cR ((ds.drop (i*2^l)).take (2^l))
 |0,i,h,_=>by
  have d:i<ds.length:=by omega
  simp only[Nat.pow_zero,Nat.mul_one,aG];rw[List.drop_eq_getElem_cons d,List.take_succ_cons,List.take_zero,qD,List.getD_eq_getElem?_getD,List.getElem?_eq_getElem d];rfl
 |l+1,i,h,k=>by
  have m:1≤2^l:=Nat.one_le_two_pow;have b:2^(l+1)=2*2^l:=by rw[Nat.pow_succ];omega
  have c:i*2^(l+1)=2*i*2^l:=by rw[b,Nat.mul_comm 2 i,Nat.mul_assoc]
  have e:(i+1)*2^(l+1)=(2*i+1+1)*2^l:=by rw[b,←Nat.mul_assoc];congr 1;omega
  have a:(2*i+1)*2^l=2*i*2^l+2^l:=by rw[Nat.add_mul,Nat.one_mul]
  have j:(2*i+1+1)*2^l=2*i*2^l+2^l+2^l:=by rw[Nat.add_mul,Nat.one_mul,a]
  rw[e]at h;have f:((ds.drop (i*2^(l+1))).take (2^(l+1))).length=2^(l+1):=by
   rw[List.length_take,List.length_drop];omega
  have g:=xv (2^(l+1)) l (by omega) (by omega) (by omega);rw[mz _ _ f (by omega) (by omega),←g,aG,o6 ds l (2*i) (by rw[a];omega) (by omega),o6 ds l (2*i+1) h (by omega)];congr 2;·rw[List.take_take,c,show min (2^l) (2^(l+1))=2^l by omega]
  ·rw[List.drop_take,List.drop_drop,c,a,b,show 2*2^l-2^l=2^l by omega]
theorem o3(ds:List (List UInt8))(d:List UInt8):∀l i,(i+1)*2^l≤ds.length→aG (ds++[d]) l i=aG ds l i
 |0,i,h=>by
  have b:i<ds.length:=by omega
  simp only[aG];rw[List.getD_eq_getElem?_getD,List.getD_eq_getElem?_getD,List.getElem?_append_left b]
 |l+1,i,h=>by
  have c:2^(l+1)=2*2^l:=by rw[Nat.pow_succ];omega
  have a:(i+1)*2^(l+1)=(2*i+1+1)*2^l:=by rw[c,←Nat.mul_assoc];congr 1;omega
  have e:(2*i+1+1)*2^l=(2*i+1)*2^l+2^l:=by rw[Nat.add_mul,Nat.one_mul]
  rw[a]at h;rw[aG,aG,o3 ds d l (2*i) (by omega),o3 ds d l (2*i+1) h]
theorem dJ(ds:List (List UInt8))(he:∀d∈ds,d.length=32)(l i:Nat)(h:(i+1)*2^l≤ds.length):(aG ds l i).length=32:=by
 cases l with
 |zero=>
  have a:i<ds.length:=by omega
  simp only[aG];rw[List.getD_eq_getElem?_getD,List.getElem?_eq_getElem a];exact he _ (List.getElem_mem a)
 |succ l=>exact eH _ _
def dS(l i:Nat):Value:= .agg #[.int .i64 (l:Int), .int .i64 (i:Int)]
theorem mS{l i a i':Nat}(h:dS l i=dS a i'):l=a∧i=i':=by
 unfold dS at h;simp only[Value.agg.injEq,Array.mk.injEq,List.cons.injEq,Value.int.injEq,true_and,and_true]at h;omega
theorem iw(e:Bool)(l i:Nat)(w:World):(Instr.checkKey e 10000 212 (dS l i)).run Tryz.prog w= .ok () w:=by kernel_rfl
theorem zX{P:Program}(w:World)(d:Nat)(xs c:Array Value)(f1 f2:Field)(e g f h:Value)(a b:Bool)(k:f1.name≠ "_")(l:f2.name≠ "_")
  (m:(part f1.type xs f1.offset).run P w= .ok e w)(o:(part f1.type c f1.offset).run P w= .ok g w)(n:(part f2.type xs f2.offset).run P w= .ok f w)(p:(part f2.type c f2.offset).run P w= .ok h w)
  (i:(Op.equalIn d f1.type e g).run P w= .ok a w)(j:(Op.equalIn d f2.type f h).run P w= .ok b w):(Op.eqFields d xs c [f1,f2]).run P w= .ok (a&&b) w:=by
 simp only[Op.eqFields,k,l,ne_eq,not_false_eq_true,if_true,Sem.run_bind,m,o,Result.andThen_ok,i];cases a;·simp
 ·simp only[Bool.not_true,Bool.false_eq_true,if_false,Sem.run_bind,n,p,Result.andThen_ok,j,Bool.true_and];cases b;·simp
  ·simp
theorem yK:(Tryz.prog.fieldsOf 212).toList.map (fun f=>(f.name,f.type,f.offset))=[("level",3,0),("index",3,1)]:=by kernel_rfl
theorem pL(a b:Value)(w:World):(part 3 #[a,b] 0).run Tryz.prog w= .ok a w∧(part 3 #[a,b] 1).run Tryz.prog w= .ok b w:=by
 have h:(isAgg 3).run Tryz.prog w= .ok false w:=by kernel_rfl
 unfold part;constructor<;>simp[Sem.run_bind,h]
theorem lL(l i d i':Nat)(w:World):(Op.equal 212 (dS l i) (dS d i')).run Tryz.prog w= .ok (decide (l=d)&&decide (i=i')) w:=by
 have k:Tryz.prog.underlying 212=some (.struct (Tryz.prog.fieldsOf 212)):=by kernel_rfl
 have j:Tryz.prog.stoodInHeld 212=false:=by kernel_rfl
 refine(run_equalIn_agg w 9999 _ _ _ k j).trans ?_;have c:=yK;generalize(Tryz.prog.fieldsOf 212).toList=h at c;rcases h with _|⟨f1,_|⟨f2,_|⟨f3,fr⟩⟩⟩;·cases c
 ·simp at c
 ·simp only[List.map_cons,List.map_nil,List.cons.injEq,Prod.mk.injEq,and_true]at c;obtain⟨⟨n1,t1,f⟩,m,t2,g⟩:=c;have n:f1.name≠ "_":=by rw[n1];decide
  have o:f2.name≠ "_":=by rw[m];decide
  have e:∀a b:Nat,(((a:Int))==((b:Int)))=decide (a=b):=fun a b=>by
   rw[Bool.eq_iff_iff];simp;omega
  refine zX w 9999 _ _ f1 f2 (.int .i64 (l:Int)) (.int .i64 (d:Int)) (.int .i64 (i:Int)) (.int .i64 (i':Int)) _ _ n o ?_ ?_ ?_ ?_ ?_ ?_;·rw[t1,f];exact(pL _ _ w).1
  ·rw[t1,f];exact(pL _ _ w).1
  ·rw[t2,g];exact(pL _ _ w).2
  ·rw[t2,g];exact(pL _ _ w).2
  ·rw[t1,←e];exact run_equalIn_int w 9998 _ .i64 .i64 _ _ Tryz.underlying3
  ·rw[t2,←e];exact run_equalIn_int w 9998 _ .i64 .i64 _ _ Tryz.underlying3
 ·simp at c
def oB(ds:List (List UInt8))(C:Nat→Nat→Prop)(e:MapEntry):Prop:=∃l i,e.key=dS l i∧e.val=aU (aG ds l i)∧C l i
def oI(es:Array MapEntry)(clock:Nat):Prop:=(∀e∈es.toList,e.born<clock)∧(es.toList.map (·.born)).Nodup∧es.toList.Pairwise (fun x y=>x.key≠y.key)
theorem oI.empty(clock:Nat):oI #[] clock:=⟨fun e he=>(by simp at he),by simp,by simp⟩
theorem oI.push{es:Array MapEntry}{clock:Nat}(h:oI es clock)(k v:Value)(g:∀e∈es.toList,e.key≠k):oI (es.push {key:=k,val:=v,born:=clock}) (clock+1):=by
 obtain⟨c,d,f⟩:=h;refine⟨fun e he=>?_,?_,?_⟩
 ·rw[Array.toList_push,List.mem_append]at he;rcases he with he|he;·have:=c e he;omega
  ·rw[List.mem_singleton]at he;subst he;exact Nat.lt_succ_self _
 ·rw[Array.toList_push,List.map_append,List.nodup_append];refine⟨d,by simp,fun x b y a=>?_⟩;obtain⟨e,he,rfl⟩:=List.mem_map.1 b;simp only[List.map_cons,List.map_nil,List.mem_singleton]at a;subst a;exact Nat.ne_of_lt (c e he)
 ·rw[Array.toList_push,List.pairwise_append];refine⟨f,by simp,fun x b y a=>?_⟩;rw[List.mem_singleton]at a;subst a;exact g x b
def df(w:World)(b:Nat)(ds:List (List UInt8))(C:Nat→Nat→Prop):Prop:=
 ∃es clock,w.heap[b]? =some (.map es clock)∧(∀e∈es.toList,oB ds C e)∧(∀l i,C l i→∃e∈es.toList,e.key=dS l i)∧oI es clock
theorem df.fr{w w':World}{T:Nat→Prop}{b:Nat}{ds:List (List UInt8)}{C:Nat→Nat→Prop}(h:df w b ds C)(g:Fr T w w')(f:¬T b):df w' b ds C:=by
 obtain⟨es,clock,a,c,d,e⟩:=h;exact⟨es,clock,(g.block b (Array.getElem?_eq_some_iff.1 a).1 f).trans a,c,d,e⟩
theorem df.lt{w:World}{b:Nat}{ds:List (List UInt8)}{C:Nat→Nat→Prop}(h:df w b ds C):b<w.heap.size:=by
 obtain⟨es,clock,a,_⟩:=h;exact(Array.getElem?_eq_some_iff.1 a).1
theorem df.more{w:World}{b:Nat}{ds:List (List UInt8)}{C:Nat→Nat→Prop}(h:df w b ds C)(d:List UInt8)(k:∀l i,C l i→(i+1)*2^l≤ds.length):df w b (ds++[d]) C:=by
 obtain⟨es,clock,c,f,g,j⟩:=h;refine⟨es,clock,c,fun e he=>?_,g,j⟩;obtain⟨l,i,m,n,a⟩:=f e he;exact⟨l,i,m,by rw[n,o3 ds d l i (k l i a)],a⟩
theorem rZ(ds:List (List UInt8))(C:Nat→Nat→Prop)(l i:Nat)(w:World):∀(es:List MapEntry)(k:Nat),(∀e∈es,oB ds C e)→(∃e∈es,e.key=dS l i)→
  ∃j,(Instr.findAsking 212 (dS l i) es k).run Tryz.prog w= .ok (some (j,aU (aG ds l i))) w
 |[],_,_,h=>by obtain⟨e,he,_⟩:=h;cases he
 |e::es,k,d,h=>by
  obtain⟨o,i',n,u,v⟩:=d e (by simp);by_cases f:l=o∧i=i';·obtain⟨rfl,rfl⟩:=f;refine⟨k,?_⟩;simp only[Instr.findAsking,Sem.run_bind,n,lL,Result.andThen_ok,decide_true,Bool.and_self,if_true,u,Sem.run_pure]
  ·obtain⟨q,c,g⟩:=h;have m:(decide (l=o)&&decide (i=i'))=false:=by
    by_cases p:l=o;·rw[bZ (show¬i=i' from fun r=>f ⟨p,r⟩),Bool.and_false]
    ·rw[decide_eq_false p,Bool.false_and]
   rcases List.mem_cons.1 c with rfl|c;·rw[n]at g;obtain⟨a,b⟩:=mS g;exact absurd ⟨a.symm,b.symm⟩ f
   ·obtain⟨j,s⟩:=rZ ds C l i w es (k+1) (fun x t=>d x (by simp[t])) ⟨q,c,g⟩;refine⟨j,?_⟩;simp only[Instr.findAsking,Sem.run_bind,n,lL,Result.andThen_ok,m,Bool.false_eq_true,if_false];exact s
theorem ql(ds:List (List UInt8))(C:Nat→Nat→Prop)(l i:Nat)(w:World)(f:¬C l i):∀(es:List MapEntry)(k:Nat),(∀e∈es,oB ds C e)→
  (Instr.findAsking 212 (dS l i) es k).run Tryz.prog w= .ok none w
 |[],_,_=>by simp[Instr.findAsking]
 |e::es,k,a=>by
  obtain⟨g,i',j,n,m⟩:=a e (by simp);have b:(decide (l=g)&&decide (i=i'))=false:=by
   by_cases c:l=g
   ·by_cases d:i=i';·subst c d;exact absurd m f
    ·rw[decide_eq_false d,Bool.and_false]
   ·rw[decide_eq_false c,Bool.false_and]
  simp only[Instr.findAsking,Sem.run_bind,j,lL,Result.andThen_ok,b,Bool.false_eq_true,if_false];exact ql ds C l i w f es (k+1) (fun x h=>a x (by simp[h]))
theorem Hb:∃a,Tryz.prog.underlying 212=some (.struct a):=⟨_,Tryz.underlying212⟩
theorem kf(k:Value)(es:List MapEntry)(w:World)(r:Option (Nat×Value))(h:(Instr.findAsking 212 k es 0).run Tryz.prog w= .ok r w):(Instr.findKey 212 k es).run Tryz.prog w= .ok r w:=by
 obtain⟨a,hu⟩:=Hb;unfold Instr.findKey;simp only[Sem.run_bind,run_underlying hu,Result.andThen_ok];cases es with
 |nil=>
  simp only[Instr.findAsking,Sem.run_pure]at h;simpa[Instr.findNow]using h
 |cons e es=>
  simp only[Instr.findNow,Instr.sameNow];exact h
theorem mW:Tryz.prog.underlying 178=some (.map 212 38):=Tryz.underlying178
theorem su{w:World}{b:Nat}{ds:List (List UInt8)}{C:Nat→Nat→Prop}(h:df w b ds C)(l i:Nat)(e:C l i):(Instr.lookup 178 (.map (some b)) (dS l i) false).run Tryz.prog w= .ok (aU (aG ds l i)) w:=by
 obtain⟨es,clock,a,c,d,_⟩:=h;obtain⟨j,f⟩:=rZ ds C l i w es.toList 0 c (d l i e);unfold Instr.lookup;simp only[Sem.run_bind,run_underlying mW,Result.andThen_ok,MapKept.run_getObj_map a,Sem.run_pure,iw,kf _ _ _ _ f,Bool.false_eq_true,if_false]
theorem sv{w:World}{b:Nat}{ds:List (List UInt8)}{C:Nat→Nat→Prop}(h:df w b ds C)(l i:Nat)(o:¬C l i)(v:Value)(t:v=aU (aG ds l i))(C':Nat→Nat→Prop)(c:∀a i',C' a i'↔C a i'∨(a=l∧i'=i)):
  ∃w',(Instr.mapUpdate 178 (.map (some b)) (dS l i) v).run Tryz.prog w= .ok () w'∧df w' b ds C'∧Fr (fun k=>k=b) w w':=by
 obtain⟨es,clock,f,g,p,q⟩:=h;have s:=ql ds C l i w o es.toList 0 g;refine⟨w.putObj b (.map (es.push {key:=dS l i,val:=v,born:=clock}) (clock+1)),?_,?_,?_⟩;·unfold Instr.mapUpdate;simp only[Sem.run_bind,run_underlying mW,Result.andThen_ok,MapKept.run_getObj_map f,iw,kf _ _ _ _ s,MapKept.run_setObj_map _ f];rfl
 ·have r:=(Array.getElem?_eq_some_iff.1 f).1;refine⟨es.push {key:=dS l i,val:=v,born:=clock},clock+1,?_,fun e he=>?_,fun a i' j=>?_,q.push _ _ fun e he d=>?_⟩;·show(w.heap.setIfInBounds b _)[b]? =_;rw[Array.getElem?_setIfInBounds_self_of_lt r]
  ·rw[Array.toList_push,List.mem_append]at he;rcases he with he|he;·obtain⟨a,i',m,u,n⟩:=g e he;exact⟨a,i',m,u,(c _ _).2 (.inl n)⟩
   ·simp only[List.mem_singleton]at he;subst he;exact⟨l,i,rfl,t,(c _ _).2 (.inr ⟨rfl,rfl⟩)⟩
  ·rw[Array.toList_push];rcases(c _ _).1 j with j|⟨rfl,rfl⟩;·obtain⟨e,he,d⟩:=p a i' j;exact⟨e,List.mem_append_left _ he,d⟩
   ·exact⟨_,List.mem_append_right _ (List.mem_singleton.2 rfl),rfl⟩
  ·obtain⟨a,i',m,_,n⟩:=g e he;rw[m]at d;obtain⟨rfl,rfl⟩:=mS d;exact o n
 ·exact(Fr.grown (grownBy_putObj' w b _)).mono (fun k _ d=>by simpa using d)
end Go.Proofs.YtphjagkehiklkaaGreatDoor.Lt
namespace Go.Proofs.YtphjagkehiklkaaGreatDoor.Lt
open Go.RowKit
structure ew(w:World)(p:Nat)(A:Option Addr)(n c:Nat)(mb:Option Nat)(ds:List (List UInt8))(C:Nat→Nat→Prop):Prop where
 aD:aq w p 180 #[.slice A n c, .map mb]
 row:w.ownsRow 0 38 32 (.slice A n c) n (ds.flatMap aA)
 len:ds.length=n
 each:∀d∈ds,d.length=32
 parts:(∃b,mb=some b∧df w b ds C)∨(mb=none∧∀l i,¬C l i)
theorem ew.ao{w w':World}{p:Nat}{A:Option Addr}{n c:Nat}{mb:Option Nat}{ds:List (List UInt8)}{C:Nat→Nat→Prop}(h:ew w p A n c mb ds C)(a:Fr ah w w'):ew w' p A n c mb ds C:=
 ⟨h.aD.fr a (fun x=>x),aJ h.row a (fun _ _ x=>x),h.len,h.each,by
  rcases h.parts with⟨b,e,f⟩|d;·exact .inl ⟨b,e,f.fr a (fun x=>x)⟩
  ·exact .inr d⟩
theorem ew.Lm{w:World}{p:Nat}{A:Option Addr}{n c:Nat}{mb:Option Nat}{ds:List (List UInt8)}{C:Nat→Nat→Prop}(h:ew w p A n c mb ds C):fL w (nk (.slice A n c)) A n ds:=⟨Rd.gO h.row,h.len,h.each⟩
theorem ew.part{w:World}{p:Nat}{A:Option Addr}{n c:Nat}{mb:Option Nat}{ds:List (List UInt8)}{C:Nat→Nat→Prop}(h:ew w p A n c mb ds C){l i:Nat}(e:C l i):∃b,mb=some b∧df w b ds C:=by
 rcases h.parts with d|⟨_,a⟩;·exact d
 ·exact absurd e (a l i)
theorem Bo{g:Oper}{a:Act}{w:World}{K:Act→World→Prop}{Q:Exit→Act→World→Prop}(m x:Operand)(d:g.op= .lookup 178 m x false)
  {c b v:Value}(hm:a.eval m=c)(f:a.eval x=b)(e:(Instr.lookup 178 c b false).run Tryz.prog w= .ok v w)(h:K (a.put g.dst v) w):g.wp Tryz.prog a w K Q:=by
 unfold Oper.wp execOp;simp only[d,hm,f,Sem.run_bind,e,Result.andThen_ok];exact h
theorem eG(p:Nat)(A:Option Addr)(n c:Nat)(mb:Option Nat)(ds:List (List UInt8))(C:Nat→Nat→Prop)(l i:Nat)(w:World)(B:ew w p A n c mb ds C)(H:(i+1)*2^l≤n)(z:l≠0→C l i)(az:l≤64)(aM:n≤1048576):
  Calls Tryz.prog 131 #[.pointer (some ⟨p,0,none⟩),dS l i] w (aK w (aU (aG ds l i))):=by
 have N:(aG ds l i).length=32:=dJ ds B.each l i (by rw[B.len];exact H);have ac:i<n:=by
  have:1≤2^l:=Nat.one_le_two_pow;have:(i+1)*1≤(i+1)*2^l:=Nat.mul_le_mul_left _ this;omega
 have y:Hid (dB (aA (aG ds l i)).toArray):=dB.of N;have U:Hid ((Tryz.prog.info? 38).map (·.size)=some (aA (aG ds l i)).length):=by rw[aA,List.length_map,N];exact eW
 have i4:i≤1048576:=by omega
 by_cases s:l=0
 ·obtain⟨J,d,rfl,_,am,_,I⟩:=B.Lm.at_ ac;have K:d=aG ds l i:=by
   rw[s];simp only[aG];rw[List.getD_eq_getElem?_getD,am];rfl
  rw[K]at I;have R:=af I;have X:Hid (w.cell? ⟨p,0,none⟩=some (.slice (some J) n c)):=B.aD.cell 0;have aL:(i:Int)<(n:Int):=by omega
  have t0:((l:Int)==0)=true:=by rw[s];rfl
  unfold aU;rw[show∀x:List UInt8,x.map bL=aA x from fun _=>rfl];generalize aA (aG ds l i)=q at*;clear B am K I N H z s;change Calls _ _ #[_, .agg #[.int .i64 (l:Int), .int .i64 (i:Int)]] _ _;go_enter Tryz.func131,Tryz.ntmps131;go_wp2_with(refine aB rfl 212 (.tmp 1) rfl _ rfl ?_);intro w1 n1;have r:=af n1;clear n1;go_wp2_with(refine an rfl 38 rfl aZ iJ aE rfl ?_);intro w2 t;have D:Hid (aq w2 w.heap.size 212 #[.int .i64 (l:Int), .int .i64 (i:Int)]):=r.out.aD.fr t.fr (fun x=>x);have O:=af t.aD;have F:=af (r.out.fr.trans t.fr);have Q:Hid (w.heap.size≤w1.heap.size):=r.out.fr.size;have M:Hid (w2.cell? ⟨w.heap.size,0,none⟩=some (.int .i64 l)):=D.out.cell 0;have T:Hid (w2.cell? ⟨w.heap.size,1,none⟩=some (.int .i64 i)):=D.out.cell 1;clear t r D;generalize o:w.heap.size=g3 at*;have G:=af o;clear o;generalize w1.heap.size=g4 at*;have i0:=M.out;have av:Hid (w2.cell? ⟨p,0,none⟩=some (.slice (some J) n c)):=F.out.aj X.out (fun x=>x);have ao:Hid (∀j v,q[j]? =some v→w2.cell? ((J.add (i*32)).add j)=some v):=fun j v ad=>F.out.aj (R.out j v ad) (fun x=>x);go_upto_region 2 with fail;clear i0;refine ay 8 ah [Is (.pointer (some ⟨p,0,none⟩)),Is (.pointer (some ⟨p,0,none⟩)),Is (.pointer (some ⟨p,0,none⟩)),Is (.slice (some J) n c),Is (.pointer (some ⟨g3,1,none⟩)),Is (.int .i64 i),Is (.pointer (some (J.add (i*32)))),Is (.agg q.toArray)] [] (fun _=>True) (fun _ _=>false) (by kernel_rfl) (by kernel_rfl) (by kernel_rfl) (by kernel_rfl) ⟨Is.ag _,Is.ag _,Is.ag _,Is.ag _,Is.ag _,Is.ag _,Is.ag _,Is.ag _,trivial⟩ trivial (fun _ _ _ _ h=>h) trivial ?_ ?_
  ·refine⟨?_,?_,?_,?_,?_,?_,?_,?_,trivial⟩;all_goals intro u w' d f a m k g
   all_goals simp only[bm,bp,bw,bC,ar,Act.put,bD,bE,bF,Nat.reduceAdd,Nat.zero_add]
   ·clear a m k g;refine ai ?_;go_simp;exact⟨_,rfl,al⟩
   ·have s:u 0=_:=a 0;clear a m k g;simp only[s];refine ai ?_;go_simp;exact⟨_,rfl,al⟩
   ·have H:u 1=_:=a 1;clear a m k g;simp only[H];refine ai ?_;go_simp;exact⟨_,rfl,al⟩
   ·have z:u 2=_:=a 2;clear a m k g;simp only[z];refine ai ?_;have I:=f.aj av.out (fun x=>x);go_simp;exact⟨_,rfl,al⟩
   ·clear a m k g;refine ai ?_;go_simp;exact⟨_,rfl,al⟩
   ·have aa:u 4=_:=a 4;clear a m k g;simp only[aa];refine ai ?_;have I:=f.aj T.out (fun x=>x);go_simp;exact⟨_,rfl,al⟩
   ·have Z:u 3=_:=a 3;have ab:u 5=_:=a 5;clear a m k g;simp only[Z,ab];refine ai ?_;go_simp;exact⟨_,rfl,al⟩
   ·have aF:u 6=_:=a 6;clear a m k g;simp only[aF];refine ai ?_;exact aw _ _ rfl (J.add (i*32)) rfl q _ (fun j v ad=>f.aj (ao.out j v ad) (fun x=>x)) Tryz.underlying38 rfl U.out ⟨_,rfl,al⟩
  ·intro u w' f a g;have aH:u 7=_:=a 7 (by omega);have E:=af (O.out.fr f (fun x=>x));have P:=af (F.out.trans f);clear a g f;simp only[bm,bp,bw,bC,ar,Act.put,bD,bE,bF,cZ,da,Nat.reduceAdd,Nat.zero_add,aH];refine ak rfl 38 (.tmp 4) _ rfl g4 q.toArray rfl rfl _ _ E.out y.out.info y.out.zero y.out.one ?_;intro L b5 f5;have V:=af b5;have W:Hid (Fr ah w L):=P.out.au f5 (fun i aJ e=>by have aC:i=g4:=e;have:=Q.out;have:=G.out;omega);clear b5 f5;go_wp2;exact bodyPost_ret (results_cell_row (fn:=Tryz.f131) (p:=4) (ty:=38) Tryz.results131 _ L _ 38 q.toArray (0,0) _ rfl V.out Tryz.underlying38 rfl y.out.info) rfl ⟨rfl,W.out⟩
 ·obtain⟨b,rfl,ae⟩:=B.part (z s);have S:Hid (∀w',Fr ah w w'→(Instr.lookup 178 (.map (some b)) (dS l i) false).run Tryz.prog w'= .ok (.agg (aA (aG ds l i)).toArray) w'):=fun w' f=>su (ae.fr f (fun x=>x)) l i (z s);have Y:Hid (w.cell? ⟨p,1,none⟩=some (.map (some b))):=B.aD.cell 1;have t0:((l:Int)==0)=false:=by rw[beq_eq_false_iff_ne];omega
  unfold aU;rw[show∀x:List UInt8,x.map bL=aA x from fun _=>rfl];generalize aA (aG ds l i)=q at*;clear B N H z ae;change Calls _ _ #[_, .agg #[.int .i64 (l:Int), .int .i64 (i:Int)]] _ _;go_enter Tryz.func131,Tryz.ntmps131;go_wp2_with(refine aB rfl 212 (.tmp 1) rfl _ rfl ?_);intro w1 n1;have r:=af n1;clear n1;go_wp2_with(refine an rfl 38 rfl aZ iJ aE rfl ?_);intro w2 t;have D:Hid (aq w2 w.heap.size 212 #[.int .i64 (l:Int), .int .i64 (i:Int)]):=r.out.aD.fr t.fr (fun x=>x);have O:=af t.aD;have F:=af (r.out.fr.trans t.fr);have Q:Hid (w.heap.size≤w1.heap.size):=r.out.fr.size;have M:Hid (w2.cell? ⟨w.heap.size,0,none⟩=some (.int .i64 l)):=D.out.cell 0;have T:Hid (w2.cell? ⟨w.heap.size,1,none⟩=some (.int .i64 i)):=D.out.cell 1;clear t r D;generalize o:w.heap.size=g3 at*;have G:=af o;clear o;generalize w1.heap.size=g4 at*;have i0:=M.out;have ax:Hid (w2.cell? ⟨p,1,none⟩=some (.map (some b))):=F.out.aj Y.out (fun x=>x);have ap:Hid (∀w',Fr ah w2 w'→(Instr.lookup 178 (.map (some b)) (dS l i) false).run Tryz.prog w'= .ok (.agg q.toArray) w'):=fun w' f=>S.out _ (F.out.trans f);go_upto_region 3 with fail;clear i0;refine ay 6 ah [Is (.pointer (some ⟨p,0,none⟩)),Is (.pointer (some ⟨p,0,none⟩)),Is (.pointer (some ⟨p,1,none⟩)),Is (.map (some b)),Is (dS l i),Is (.agg q.toArray)] [] (fun _=>True) (fun _ _=>false) (by kernel_rfl) (by kernel_rfl) (by kernel_rfl) (by kernel_rfl) ⟨Is.ag _,Is.ag _,Is.ag _,Is.ag _,Is.ag _,Is.ag _,trivial⟩ trivial (fun _ _ _ _ h=>h) trivial ?_ ?_
  ·refine⟨?_,?_,?_,?_,?_,?_,trivial⟩;all_goals intro u w' d f a m k g
   all_goals simp only[bm,bp,bw,bC,ar,Act.put,bD,bE,bF,Nat.reduceAdd,Nat.zero_add]
   ·clear a m k g;refine ai ?_;go_simp;exact⟨_,rfl,al⟩
   ·have s:u 0=_:=a 0;clear a m k g;simp only[s];refine ai ?_;go_simp;exact⟨_,rfl,al⟩
   ·have H:u 1=_:=a 1;clear a m k g;simp only[H];refine ai ?_;go_simp;exact⟨_,rfl,al⟩
   ·have z:u 2=_:=a 2;clear a m k g;simp only[z];refine ai ?_;have I:=f.aj ax.out (fun x=>x);go_simp;exact⟨_,rfl,al⟩
   ·clear a m k g;refine ai ?_;have I:=f.aj M.out (fun x=>x);have aI:=f.aj T.out (fun x=>x);go_simp;exact⟨_,rfl,al⟩
   ·have Z:u 3=_:=a 3;have aa:u 4=_:=a 4;clear a m k g;simp only[Z,aa];refine ai ?_;exact Bo _ _ rfl rfl rfl (ap.out _ f) ⟨_,rfl,al⟩
  ·intro u w' f a g;have ab:u 5=_:=a 5 (by omega);have E:=af (O.out.fr f (fun x=>x));have P:=af (F.out.trans f);clear a g f;simp only[bm,bp,bw,bC,ar,Act.put,bD,bE,bF,cZ,da,Nat.reduceAdd,Nat.zero_add,ab];refine ak rfl 38 (.tmp 4) _ rfl g4 q.toArray rfl rfl _ _ E.out y.out.info y.out.zero y.out.one ?_;intro L b5 f5;have V:=af b5;have W:Hid (Fr ah w L):=P.out.au f5 (fun i aJ e=>by have aC:i=g4:=e;have:=Q.out;have:=G.out;omega);clear b5 f5;go_wp2;exact bodyPost_ret (results_cell_row (fn:=Tryz.f131) (p:=4) (ty:=38) Tryz.results131 _ L _ 38 q.toArray (0,0) _ rfl V.out Tryz.underlying38 rfl y.out.info) rfl ⟨rfl,W.out⟩
end Go.Proofs.YtphjagkehiklkaaGreatDoor.Lt
namespace Go.Proofs.YtphjagkehiklkaaGreatDoor.Lt
open Go.RowKit
def Full(C:Nat→Nat→Prop)(n:Nat):Prop:=∀l i,l≠0→(i+1)*2^l≤n→C l i
def tK(m:Nat):Prop:=∀(w:World)(p:Nat)(A:Option Addr)(n c:Nat)(mb:Option Nat)(ds:List (List UInt8))(C:Nat→Nat→Prop)(f k:Nat),ew w p A n c mb ds C→Full C n→n≤1048576→bU w→1≤m→f+m≤n→m≤2^k→2^k∣f→
 Calls Tryz.prog 110 #[.pointer (some ⟨p,0,none⟩), .int .i64 f, .int .i64 m] w (aK w (aU (cR ((ds.drop f).take m))))
theorem Ih(m:Nat)(f:1≤m)(hm:m≤1048576):∃lv,Lib.bitLen m=lv+1∧2^lv≤m∧m<2*2^lv∧lv≤40:=by
 obtain⟨a,b,c⟩:=Lib.bitLenAux_bounds 64 m (by omega) (by omega);refine⟨Lib.bitLen m-1,by unfold Lib.bitLen;omega,b,?_,?_⟩
 ·have h:Lib.bitLen m=(Lib.bitLen m-1)+1:=by unfold Lib.bitLen;omega
  have d:m<2^Lib.bitLen m:=c;rw[h,Nat.pow_succ]at d;omega
 ·rcases Nat.lt_or_ge 40 (Lib.bitLen m-1)with h|h;·have:2^41≤2^(Lib.bitLen m-1):=Nat.pow_le_pow_right (by omega) h;have e:2^(Lib.bitLen m-1)≤m:=b;omega
  ·exact h
theorem oQ{a b f:Nat}(h:a≤b)(c:2^b∣f):2^a∣f:=Nat.dvd_trans (Nat.pow_dvd_pow 2 h) c
theorem pb{a b:Nat}(h:2^a≤2^b):a≤b:=by
 rcases Nat.lt_or_ge b a with c|c;·have:=Nat.pow_lt_pow_right (a:=2) (by omega) c;omega
 ·exact c
theorem GM(m lv:Nat)(s:Lib.bitLen m=lv+1)(hm:m=2^lv)(S:lv≤40):tK m:=by
 intro w p A n c mb ds C f k j hF Q N V r t o;obtain⟨i,rfl⟩:∃i,f=i*2^lv:=by
  obtain⟨q,R⟩:=oQ (pb (by rw[←hm];exact t)) o;exact⟨q,by rw[R,Nat.mul_comm]⟩
 have g:(i+1)*2^lv≤n:=by rw[Nat.add_mul,Nat.one_mul,←hm]at*;exact r
 have e:=o6 ds lv i (by rw[j.len];exact g) (by omega);rw[hm,←e];have G:(aG ds lv i).length=32:=dJ ds j.each lv i (by rw[j.len];exact g);have J:Hid (∀w',Fr ah w w'→Calls Tryz.prog 131 #[.pointer (some ⟨p,0,none⟩), .agg #[.int .i64 (lv:Int), .int .i64 (i:Int)]] w' (aK w' (aU (aG ds lv i)))):=
  fun w' O=>eG p A n c mb ds C lv i w' (j.ao O) g (fun h=>hF lv i h g) (by omega) Q;have u:Hid (dB (aA (aG ds lv i)).toArray):=dB.of G;have z:Hid (∀w,Calls Tryz.prog 150 #[.int .u64 (m:Int)] w fun e w'=>e= .returned (.int .i64 (Lib.bitLen m:Nat))∧w'=w):=fun w=>Tryz.bits_Len (m:Int) w (by omega) (by omega);rw[s,hm]at z;obtain⟨P,y⟩:∃P,P=2^lv:=⟨_,rfl⟩;obtain⟨d,b⟩:∃d,d=i*2^lv:=⟨_,rfl⟩;have a:(d:Int)/((2^lv:Nat):Int)=(i:Int):=by
  have:d/2^lv=i:=by rw[b];exact Nat.mul_div_cancel _ Nat.one_le_two_pow
  omega
 have B:IntKind.i64.wrap (1*2^lv)=((P:Nat):Int):=by
  rw[y,Int.one_mul];have:(2:Int)^lv=((2^lv:Nat):Int):=by simp
  rw[this];exact IntWalk.i64_in _ (by omega)
 have F:IntKind.i64.wrap (2^lv)=((P:Nat):Int):=by rw[←B,Int.one_mul]
 have T:((lv+1:Nat):Int)-1=(lv:Int):=by omega
 have D:(d:Int)/2^lv=(i:Int):=by rw[←a];simp
 rw[←b,←y];rw[←y]at z a;have W:P≤1048576:=by omega
 have f4:d≤1048576:=by omega
 have i4:i≤1048576:=by
  have:i*1≤i*2^lv:=Nat.mul_le_mul_left _ Nat.one_le_two_pow;omega
 unfold aU at*;simp only[show∀l:List UInt8,l.map bL=aA l from fun _=>rfl]at*;generalize aA (aG ds lv i)=E at*;clear j hF N e G s hm y b r t o g;go_enter Tryz.func110,Tryz.ntmps110;go_wp2_with(refine an rfl 38 rfl aZ iJ aE rfl ?_);intro w1 n1;have v:=af n1;clear n1;go_wp2_with fail;refine(z.out _).mono ?_;rintro e w'⟨rfl,rfl⟩;go_wp2_with fail;refine(J.out _ v.out.fr).mono ?_;rintro e w2⟨rfl,f2⟩;have K:=af (v.out.fr.trans f2);have I:=af (v.out.aD.fr f2 (fun x=>x));clear f2 v;go_wp2_with(refine ak rfl 38 (.tmp 6) _ rfl w.heap.size E.toArray rfl rfl _ _ I.out u.out.info u.out.zero u.out.one ?_);intro H b5 f5;have L:=af b5;have M:Hid (Fr ah w H):=K.out.au f5 (fun i g e=>by have U:i=w.heap.size:=e;omega);clear b5 f5;go_wp2;exact bodyPost_ret (results_cell_row (fn:=Tryz.f110) (p:=6) (ty:=38) Tryz.results110 _ H _ 38 E.toArray (0,0) _ rfl L.out Tryz.underlying38 rfl u.out.info) rfl ⟨rfl,M.out⟩
theorem p9{α:Type}(L:List α){a b:Nat}(h:a≤b):(L.take b).take a=L.take a:=by rw[List.take_take,Nat.min_eq_left h]
theorem DU(m lv:Nat)(O:∀j,j<m→tK j)(t:Lib.bitLen m=lv+1)(D:2^lv<m)(W:m<2*2^lv)(am:lv≤40):tK m:=by
 intro w p A n c mb ds C f k a hF Z E al M N r;have F:1≤2^lv:=Nat.one_le_two_pow;have o:2^lv=aN m:=xv m lv (by omega) D (by omega);have Y:lv≤k:=pb (by omega);have K:2^lv∣f:=oQ Y r;have hlen:((ds.drop f).take m).length=m:=by rw[List.length_take,List.length_drop,a.len];omega
 have e:=mz _ m hlen (by omega) (by omega);rw[←o,p9 _ (by omega),List.drop_take,List.drop_drop]at e;rw[e];have H:=af (fun w=>mH m w (by omega) (by omega));rw[←o]at H;have CL:Hid (∀w',Fr ah w w'→Calls Tryz.prog 110 #[.pointer (some ⟨p,0,none⟩), .int .i64 f, .int .i64 (2^lv:Nat)] w' (aK w' (aU (cR ((ds.drop f).take (2^lv)))))):=
  fun w' q=>O (2^lv) D w' p A n c mb ds C f lv (a.ao q) hF Z (E.ao q) F (by omega) (Nat.le_refl _) K;have G:Hid (∀w',Fr ah w w'→Calls Tryz.prog 110 #[.pointer (some ⟨p,0,none⟩), .int .i64 (f+2^lv:Nat), .int .i64 (m-2^lv:Nat)] w' (aK w' (aU (cR ((ds.drop (f+2^lv)).take (m-2^lv)))))):=
  fun w' q=>O (m-2^lv) (by omega) w' p A n c mb ds C (f+2^lv) lv (a.ao q) hF Z (E.ao q) (by omega) (by omega) (by omega) ((Nat.dvd_add_right K).2 (Nat.dvd_refl _));have l1:(cR ((ds.drop f).take (2^lv))).length=32:=fV (2^lv) _ (by rw[List.length_take,List.length_drop,a.len];omega) F (by omega) (fun d L=>a.each d (List.mem_of_mem_drop (List.mem_of_mem_take L)));have l2:(cR ((ds.drop (f+2^lv)).take (m-2^lv))).length=32:=fV (m-2^lv) _ (by rw[List.length_take,List.length_drop,a.len];omega) (by omega) (by omega) (fun d L=>a.each d (List.mem_of_mem_drop (List.mem_of_mem_take L)));have ac:Hid (∀w',Fr ah w w'→Calls Tryz.prog 122 #[aU (cR ((ds.drop f).take (2^lv))),aU (cR ((ds.drop (f+2^lv)).take (m-2^lv)))] w' (aK w' (aU (cN (cR ((ds.drop f).take (2^lv))) (cR ((ds.drop (f+2^lv)).take (m-2^lv))))))):=fun w' q=>lj _ _ l1 l2 w' (E.ao q);generalize cR ((ds.drop f).take (2^lv))=Q at*;generalize cR ((ds.drop (f+2^lv)).take (m-2^lv))=R at*;have z:Hid (dB (aA (cN Q R)).toArray):=dB.of (eH _ _);have U:Hid (∀w,Calls Tryz.prog 150 #[.int .u64 (m:Int)] w fun e w'=>e= .returned (.int .i64 (Lib.bitLen m:Nat))∧w'=w):=fun w=>Tryz.bits_Len (m:Int) w (by omega) (by omega);rw[t]at U;have v:IntKind.i64.wrap (1*2^lv)=((2^lv:Nat):Int):=by
  rw[Int.one_mul];have:(2:Int)^lv=((2^lv:Nat):Int):=by simp
  rw[this];exact IntWalk.i64_in _ (by omega)
 have y:IntKind.i64.wrap (2^lv)=((2^lv:Nat):Int):=by rw[←v,Int.one_mul]
 obtain⟨P,X⟩:∃P,P=2^lv:=⟨_,rfl⟩;rw[←X]at v y H CL G D W F;have ap:((lv+1:Nat):Int)-1=(lv:Int):=by omega
 have ay:((m:Int)==(P:Int))=false:=by rw[beq_eq_false_iff_ne];omega
 have aq:¬m=P:=by omega
 obtain⟨f2,s⟩:∃f2:Nat,f2=f+P:=⟨_,rfl⟩;obtain⟨m2,u⟩:∃m2:Nat,m2=m-P:=⟨_,rfl⟩;rw[←s,←u]at G;have s1:(f:Int)+(P:Int)=(f2:Int):=by omega
 have s2:(m:Int)-(P:Int)=(m2:Int):=by omega
 have f4:f≤1048576:=by omega
 have f24:f2≤1048576:=by omega
 have m4:m≤1048576:=by omega
 have m24:m2≤1048576:=by omega
 have av:P≤1048576:=by omega
 unfold aU at*;simp only[show∀l:List UInt8,l.map bL=aA l from fun _=>rfl]at*;generalize aA (cN Q R)=V at*;generalize aA Q=ai at*;generalize aA R=aj at*;clear a hF E e t X s u M N r K Y o hlen l1 l2 O al D W F;go_enter Tryz.func110,Tryz.ntmps110;go_wp2_with(refine an rfl 38 rfl aZ iJ aE rfl ?_);intro w1 n1;have B:=af n1;clear n1;go_wp2_with fail;refine(U.out _).mono ?_;rintro e w'⟨rfl,rfl⟩;go_wp2_with fail;refine(H.out _).mono ?_;rintro e ar⟨rfl,rfl⟩;go_wp2_with fail;refine(CL.out _ B.out.fr).mono ?_;rintro e w2⟨rfl,b⟩;have I:=af (B.out.fr.trans b);have S:=af (B.out.aD.fr b (fun x=>x));clear b B;go_wp2_with fail;refine(G.out _ I.out).mono ?_;rintro e w3⟨rfl,g⟩;have J:=af (I.out.trans g);have T:=af (S.out.fr g (fun x=>x));clear g I S;go_wp2_with fail;refine(ac.out _ J.out).mono ?_;rintro e az⟨rfl,h⟩;have ad:=af (J.out.trans h);have ab:=af (T.out.fr h (fun x=>x));clear h J T;go_wp2_with(refine ak rfl 38 (.tmp 6) _ rfl w.heap.size V.toArray rfl rfl _ _ ab.out z.out.info z.out.zero z.out.one ?_);intro aa b5 f5;have ae:=af b5;have ag:Hid (Fr ah w aa):=ad.out.au f5 (fun i ax e=>by have aw:i=w.heap.size:=e;omega);clear b5 f5;go_wp2;exact bodyPost_ret (results_cell_row (fn:=Tryz.f110) (p:=6) (ty:=38) Tryz.results110 _ aa _ 38 V.toArray (0,0) _ rfl ae.out Tryz.underlying38 rfl z.out.info) rfl ⟨rfl,ag.out⟩
theorem vC(m:Nat)(hm:m≤1048576):tK m:=by
 induction m using Nat.strongRecOn with
 |_ m l=>
  rcases Nat.eq_zero_or_pos m with rfl|g;·intro w p A n c mb ds C f k _ _ _ _ h;omega
  ·obtain⟨lv,a,b,d,e⟩:=Ih m g hm;by_cases h:m=2^lv;·exact GM m lv a h e
   ·exact DU m lv (fun j i=>l j i (by omega)) a (by omega) d e
end Go.Proofs.YtphjagkehiklkaaGreatDoor.Lt
namespace Go.Proofs.YtphjagkehiklkaaGreatDoor.Lt
open Go.RowKit
theorem wN(w:World)(A:Option Addr)(n c:Nat)(xs:List Value)(b:w.ownsRow 0 38 32 (.slice A n c) n xs)(F:¬n+1≤c)(H:n≤1048576)(f:Addr)(h:Nat)(news:List Value)(G:news.length=32)(a:∀j u,news[j]? =some u→w.cell? (f.add j)=some u)(x:∀u∈news,u.oneCell'=true)(ty:TypeId):
  ∃g cap w',(Builtin.append_ #[31,31] ty #[.slice A n c, .slice (some f) 1 h]).run Tryz.prog w= .ok (.slice (some ⟨g,0,none⟩) (n+1) cap) w'∧Fr ah w w'∧w.heap.size≤g∧
   w'.ownsRow 0 38 32 (.slice (some ⟨g,0,none⟩) (n+1) cap) (n+1) (xs++news):=by
 obtain⟨i,o,r,v,t⟩:=info_parts rm;have p:Tryz.prog.underlying 31=some (.slice 38):=Tryz.underlying31;obtain⟨I,w',d,s⟩:=Ba (P:=Tryz.prog) w 31 ty 38 i aZ 32 32 p o r v t rfl (by omega) (.slice A n c) n xs b (fun k=>k=f.block) (some f) 1 h news ⟨by omega,fun _=>⟨f,rfl,rfl,a⟩⟩ x (by omega) (by omega);have D:xs.length=n*32:=b.1;rcases b.2 with⟨q,E⟩|⟨g,cap,cur,q,_,_,C,_⟩;·cases q;have e:=run_append_nil (P:=Tryz.prog) w 31 ty 38 i aZ p o r f 1 h news (by omega) a (by omega) (by omega) (by omega);rw[d]at e;injection e with l m;subst l m;exact⟨w.heap.size,_,_,d,az.drew.alloc _,Nat.le_refl _,s.own⟩
 ·injection q with y B z;subst y;have holds:∀j u,xs[j]? =some u→w.cell? ((⟨g,0,none⟩:Addr).add j)=some u:=b.cells (g:=g) rfl;have e:=run_append_grow (P:=Tryz.prog) w 31 ty 38 i aZ p o r ⟨g,0,none⟩ n c xs (by rw[v];exact D) holds f 1 h news (by omega) a (by omega) (by omega) (by rw[t];exact growslice_fits (by omega) (by omega));rw[d]at e;injection e with l m;subst l m;exact⟨w.heap.size,_,_,d,az.drew.alloc _,Nat.le_refl _,s.own⟩
theorem rH{z:Oper}{a:Act}{w:World}{K:Act→World→Prop}{Q:Exit→Act→World→Prop}(s x:Operand)(t:z.op= .call {callee:= .builtin .append,args:=#[s,x],argTypes:=#[31,31]})
  (A:Option Addr)(n c:Nat)(xs:List Value)(v:a.eval s= .slice A n c)(e:w.ownsRow 0 38 32 (.slice A n c) n xs)(m:¬n+1≤c)(r:n≤1048576)(i:Addr)(k:Nat)(news:List Value)(y:a.eval x= .slice (some i) 1 k)(q:news.length=32)(b:∀j u,news[j]? =some u→w.cell? (i.add j)=some u)(l:∀u∈news,u.oneCell'=true)
  (h:∀g cap w',Fr ah w w'→w.heap.size≤g→w'.ownsRow 0 38 32 (.slice (some ⟨g,0,none⟩) (n+1) cap) (n+1) (xs++news)→K (a.put z.dst (.slice (some ⟨g,0,none⟩) (n+1) cap)) w'):z.wp Tryz.prog a w K Q:=by
 obtain⟨g,cap,w',f,o,p,d⟩:=wN w A n c xs e m r i k news q b l z.type;unfold Oper.wp execOp;simp only[t,resolve,invoke,builtin,Sem.run_bind,Sem.run_pure,Result.andThen_ok,List.map_toArray,List.map_cons,List.map_nil,v,y,f];exact h g cap w' o p d
theorem qb{E:Oper}{a:Act}{w:World}{K:Act→World→Prop}{Q:Exit→Act→World→Prop}(s x:Operand)(y:E.op= .call {callee:= .builtin .append,args:=#[s,x],argTypes:=#[31,31]})
  (g n c:Nat)(xs:List Value)(z:a.eval s= .slice (some ⟨g,0,none⟩) n c)(e:w.ownsRow 0 38 32 (.slice (some ⟨g,0,none⟩) n c) n xs)(q:n+1≤c)(l:Addr)(o:Nat)(news:List Value)(A:a.eval x= .slice (some l) 1 o)(C:news.length=32)(b:∀j u,news[j]? =some u→w.cell? (l.add j)=some u)(p:∀u∈news,u.oneCell'=true)
  (h:∀w',Fr (fun k=>k=g) w w'→w'.ownsRow 0 38 32 (.slice (some ⟨g,0,none⟩) (n+1) c) (n+1) (xs++news)→K (a.put E.dst (.slice (some ⟨g,0,none⟩) (n+1) c)) w'):E.wp Tryz.prog a w K Q:=by
 obtain⟨i,t,D,m,B⟩:=info_parts rm;obtain⟨w',f,d,r⟩:=run_append_fits (P:=Tryz.prog) w 0 31 E.type 38 i 32 Tryz.underlying31 t m g n c xs e l 1 o news (by omega) b p q;unfold Oper.wp execOp;simp only[y,resolve,invoke,builtin,Sem.run_bind,Sem.run_pure,Result.andThen_ok,List.map_toArray,List.map_cons,List.map_nil,z,A,f];exact h w' ((Fr.grown r).mono (fun k _ v=>by simpa using v)) d
def aY(n l i:Nat):Prop:=l≠0∧(i+1)*2^l≤n
def cP(n lv l i:Nat):Prop:=l≠0∧((i+1)*2^l≤n∨((i+1)*2^l=n+1∧l≤lv))
theorem th(n:Nat):Full (aY n) n:=fun _ _ h a=>⟨h,a⟩
theorem df.congr{w:World}{b:Nat}{ds:List (List UInt8)}{C C':Nat→Nat→Prop}(h:df w b ds C)(a:∀l i,C l i↔C' l i):df w b ds C':=by
 obtain⟨es,clock,c,d,f,g⟩:=h;refine⟨es,clock,c,fun e he=>?_,fun l i j=>f l i ((a l i).2 j),g⟩;obtain⟨l,i,k,m,n⟩:=d e he;exact⟨l,i,k,m,(a l i).1 n⟩
theorem kQ(n l i:Nat):aY n l i↔cP n 0 l i:=by
 unfold aY cP;constructor;·rintro⟨a,b⟩;exact⟨a, .inl b⟩
 ·rintro⟨a,b|⟨_,b⟩⟩;·exact⟨a,b⟩
  ·omega
theorem mh(n lv q l i:Nat)(h:(q+1)*2^(lv+1)=n+1):cP n (lv+1) l i↔cP n lv l i∨(l=lv+1∧i=q):=by
 unfold cP;constructor
 ·rintro⟨a,b|⟨b,c⟩⟩;·exact .inl ⟨a, .inl b⟩
  ·by_cases d:l≤lv;·exact .inl ⟨a, .inr ⟨b,d⟩⟩
   ·obtain rfl:l=lv+1:=by omega
    refine .inr ⟨rfl,?_⟩;have:(i+1)=(q+1):=Nat.eq_of_mul_eq_mul_right (Nat.two_pow_pos (lv+1)) (by rw[b,h]);omega
 ·rintro(⟨a,b|⟨b,c⟩⟩|⟨rfl,rfl⟩);·exact⟨a, .inl b⟩
  ·exact⟨a, .inr ⟨b,by omega⟩⟩
  ·exact⟨by omega, .inr ⟨h,Nat.le_refl _⟩⟩
theorem nC(n lv q:Nat)(h:(q+1)*2^(lv+1)=n+1):¬cP n lv (lv+1) q:=by
 rintro⟨_,b|⟨_,c⟩⟩;·omega
 ·omega
theorem nz(n lv idx:Nat)(h:(idx+1)*2^lv=n+1)(he:idx%2=0)(l i:Nat):cP n lv l i↔aY (n+1) l i:=by
 unfold cP aY;constructor
 ·rintro⟨a,b|⟨b,_⟩⟩;·exact⟨a,by omega⟩
  ·exact⟨a,by omega⟩
 ·rintro⟨a,b⟩;refine⟨a,?_⟩;by_cases f:(i+1)*2^l≤n;·exact .inl f
  ·refine .inr ⟨by omega,?_⟩;rcases Nat.lt_or_ge lv l with c|c
   ·exfalso;obtain⟨d,rfl⟩:∃d,l=lv+1+d:=⟨l-lv-1,by omega⟩;have e:(i+1)*2^(lv+1+d)=(2*((i+1)*2^d))*2^lv:=by
     rw[Nat.pow_add,Nat.pow_succ];simp only[Nat.mul_assoc,Nat.mul_comm,Nat.mul_left_comm]
    have:idx+1=2*((i+1)*2^d):=Nat.eq_of_mul_eq_mul_right (Nat.two_pow_pos lv) (by rw[h,←e];omega);omega
   ·exact c
theorem jf{ops:Array Oper}{rest:List Oper}{u:Oper}{a:Act}{w:World}{Q:Exit→Act→World→Prop}(f:u.guard=none)(m k x:Operand)(r:u.op= .mapUpdate 178 m k x)
  {b:Nat}{ds:List (List UInt8)}{C:Nat→Nat→Prop}(h:df w b ds C)(l i:Nat){v:Value}(hm:a.eval m= .map (some b))(q:a.eval k=dS l i)(t:a.eval x=v)(j:¬C l i)(s:v=aU (aG ds l i))(C':Nat→Nat→Prop)(d:∀g i',C' g i'↔C g i'∨(g=l∧i'=i))
  (n:∀w',df w' b ds C'→Fr (fun k=>k=b) w w'→wpList Tryz.prog ops Q rest (a.put u.dst undef) w'):wpList Tryz.prog ops Q (u::rest) a w:=by
 obtain⟨w',c,o,p⟩:=sv h l i j v s C' d;refine wpList_plain f fun K e=>?_;unfold Oper.wp execOp;simp only[r,hm,q,t,Sem.run_bind,c,Sem.run_pure,Result.andThen_ok];exact e _ _ (n w' o p)
end Go.Proofs.YtphjagkehiklkaaGreatDoor.Lt
