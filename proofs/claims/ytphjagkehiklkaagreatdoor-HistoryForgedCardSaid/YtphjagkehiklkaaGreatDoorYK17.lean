/- Texts. -/
import Derived.Test.YtphjagkehiklkaaGreatDoorYK16
set_option linter.unusedVariables false
set_option linter.unusedSimpArgs false
set_option maxRecDepth 100000
set_option maxHeartbeats 8000000
namespace Go.Proofs.YtphjagkehiklkaaGreatDoor.Lt
open Go.RowKit
def aH(ds:List (List UInt8)):Nat→Nat→List UInt8
 |0,i=>ds.getD i []
 |l+1,i=>cF (aH ds l (2*i)) (aH ds l (2*i+1))
theorem oO(ds:List (List UInt8)):∀l i,(i+1)*2^l≤ds.length→2^l≤1048576→aH ds l i=cS ((ds.drop (i*2^l)).take (2^l))
 |0,i,h,_=>by
  have d:i<ds.length:=by omega
  simp only[Nat.pow_zero,Nat.mul_one,aH];rw[List.drop_eq_getElem_cons d,List.take_succ_cons,List.take_zero,qo,List.getD_eq_getElem?_getD,List.getElem?_eq_getElem d];rfl
 |l+1,i,h,k=>by
  have m:1≤2^l:=Nat.one_le_two_pow;have b:2^(l+1)=2*2^l:=by rw[Nat.pow_succ];omega
  have c:i*2^(l+1)=2*i*2^l:=by rw[b,Nat.mul_comm 2 i,Nat.mul_assoc]
  have e:(i+1)*2^(l+1)=(2*i+1+1)*2^l:=by rw[b,←Nat.mul_assoc];congr 1;omega
  have a:(2*i+1)*2^l=2*i*2^l+2^l:=by rw[Nat.add_mul,Nat.one_mul]
  have j:(2*i+1+1)*2^l=2*i*2^l+2^l+2^l:=by rw[Nat.add_mul,Nat.one_mul,a]
  rw[e]at h;have f:((ds.drop (i*2^(l+1))).take (2^(l+1))).length=2^(l+1):=by
   rw[List.length_take,List.length_drop];omega
  have g:=xv (2^(l+1)) l (by omega) (by omega) (by omega);rw[mw _ _ f (by omega) (by omega),←g,aH,oO ds l (2*i) (by rw[a];omega) (by omega),oO ds l (2*i+1) h (by omega)];congr 2;·rw[List.take_take,c,show min (2^l) (2^(l+1))=2^l by omega]
  ·rw[List.drop_take,List.drop_drop,c,a,b,show 2*2^l-2^l=2^l by omega]
theorem oN(ds:List (List UInt8))(d:List UInt8):∀l i,(i+1)*2^l≤ds.length→aH (ds++[d]) l i=aH ds l i
 |0,i,h=>by
  have b:i<ds.length:=by omega
  simp only[aH];rw[List.getD_eq_getElem?_getD,List.getD_eq_getElem?_getD,List.getElem?_append_left b]
 |l+1,i,h=>by
  have c:2^(l+1)=2*2^l:=by rw[Nat.pow_succ];omega
  have a:(i+1)*2^(l+1)=(2*i+1+1)*2^l:=by rw[c,←Nat.mul_assoc];congr 1;omega
  have e:(2*i+1+1)*2^l=(2*i+1)*2^l+2^l:=by rw[Nat.add_mul,Nat.one_mul]
  rw[a]at h;rw[aH,aH,oN ds d l (2*i) (by omega),oN ds d l (2*i+1) h]
theorem dV(ds:List (List UInt8))(he:∀d∈ds,d.length=32)(l i:Nat)(h:(i+1)*2^l≤ds.length):(aH ds l i).length=32:=by
 cases l with
 |zero=>
  have a:i<ds.length:=by omega
  simp only[aH];rw[List.getD_eq_getElem?_getD,List.getElem?_eq_getElem a];exact he _ (List.getElem_mem a)
 |succ l=>exact eC _ _
def gE(l i:Nat):Value:= .agg #[.int .i64 (l:Int), .int .i64 (i:Int)]
theorem xt{l i a i':Nat}(h:gE l i=gE a i'):l=a∧i=i':=by
 unfold gE at h;simp only[Value.agg.injEq,Array.mk.injEq,List.cons.injEq,Value.int.injEq,true_and,and_true]at h;omega
theorem oA(e:Bool)(l i:Nat)(w:World):(Instr.checkKey e 10000 212 (gE l i)).run Tryz.prog w= .ok () w:=by kernel_rfl
theorem zN{P:Program}(w:World)(d:Nat)(xs c:Array Value)(f1 f2:Field)(e g f h:Value)(a b:Bool)(k:f1.name≠ "_")(l:f2.name≠ "_")
  (m:(part f1.type xs f1.offset).run P w= .ok e w)(o:(part f1.type c f1.offset).run P w= .ok g w)(n:(part f2.type xs f2.offset).run P w= .ok f w)(p:(part f2.type c f2.offset).run P w= .ok h w)
  (i:(Op.equalIn d f1.type e g).run P w= .ok a w)(j:(Op.equalIn d f2.type f h).run P w= .ok b w):(Op.eqFields d xs c [f1,f2]).run P w= .ok (a&&b) w:=by
 simp only[Op.eqFields,k,l,ne_eq,not_false_eq_true,if_true,Sem.run_bind,m,o,Result.andThen_ok,i];cases a;·simp
 ·simp only[Bool.not_true,Bool.false_eq_true,if_false,Sem.run_bind,n,p,Result.andThen_ok,j,Bool.true_and];cases b;·simp
  ·simp
theorem yK:(Tryz.prog.fieldsOf 212).toList.map (fun f=>(f.name,f.type,f.offset))=[("level",3,0),("index",3,1)]:=by kernel_rfl
theorem pD(a b:Value)(w:World):(part 3 #[a,b] 0).run Tryz.prog w= .ok a w∧(part 3 #[a,b] 1).run Tryz.prog w= .ok b w:=by
 have h:(isAgg 3).run Tryz.prog w= .ok false w:=by kernel_rfl
 unfold part;constructor<;>simp[Sem.run_bind,h]
theorem qa(l i d i':Nat)(w:World):(Op.equal 212 (gE l i) (gE d i')).run Tryz.prog w= .ok (decide (l=d)&&decide (i=i')) w:=by
 have k:Tryz.prog.underlying 212=some (.struct (Tryz.prog.fieldsOf 212)):=by kernel_rfl
 have j:Tryz.prog.stoodInHeld 212=false:=by kernel_rfl
 refine(run_equalIn_agg w 9999 _ _ _ k j).trans ?_;have c:=yK;generalize(Tryz.prog.fieldsOf 212).toList=h at c;rcases h with _|⟨f1,_|⟨f2,_|⟨f3,fr⟩⟩⟩;·cases c
 ·simp at c
 ·simp only[List.map_cons,List.map_nil,List.cons.injEq,Prod.mk.injEq,and_true]at c;obtain⟨⟨n1,t1,f⟩,m,t2,g⟩:=c;have n:f1.name≠ "_":=by rw[n1];decide
  have o:f2.name≠ "_":=by rw[m];decide
  have e:∀a b:Nat,(((a:Int))==((b:Int)))=decide (a=b):=fun a b=>by
   rw[Bool.eq_iff_iff];simp;omega
  refine zN w 9999 _ _ f1 f2 (.int .i64 (l:Int)) (.int .i64 (d:Int)) (.int .i64 (i:Int)) (.int .i64 (i':Int)) _ _ n o ?_ ?_ ?_ ?_ ?_ ?_;·rw[t1,f];exact(pD _ _ w).1
  ·rw[t1,f];exact(pD _ _ w).1
  ·rw[t2,g];exact(pD _ _ w).2
  ·rw[t2,g];exact(pD _ _ w).2
  ·rw[t1,←e];exact run_equalIn_int w 9998 _ .i64 .i64 _ _ Tryz.underlying3
  ·rw[t2,←e];exact run_equalIn_int w 9998 _ .i64 .i64 _ _ Tryz.underlying3
 ·simp at c
def qA(ds:List (List UInt8))(C:Nat→Nat→Prop)(e:MapEntry):Prop:=∃l i,e.key=gE l i∧e.val=aP (aH ds l i)∧C l i
def ou(es:Array MapEntry)(clock:Nat):Prop:=(∀e∈es.toList,e.born<clock)∧(es.toList.map (·.born)).Nodup∧es.toList.Pairwise (fun x y=>x.key≠y.key)
theorem ou.empty(clock:Nat):ou #[] clock:=⟨fun e he=>(by simp at he),by simp,by simp⟩
theorem ou.push{es:Array MapEntry}{clock:Nat}(h:ou es clock)(k v:Value)(g:∀e∈es.toList,e.key≠k):ou (es.push {key:=k,val:=v,born:=clock}) (clock+1):=by
 obtain⟨c,d,f⟩:=h;refine⟨fun e he=>?_,?_,?_⟩
 ·rw[Array.toList_push,List.mem_append]at he;rcases he with he|he;·have:=c e he;omega
  ·rw[List.mem_singleton]at he;subst he;exact Nat.lt_succ_self _
 ·rw[Array.toList_push,List.map_append,List.nodup_append];refine⟨d,by simp,fun x b y a=>?_⟩;obtain⟨e,he,rfl⟩:=List.mem_map.1 b;simp only[List.map_cons,List.map_nil,List.mem_singleton]at a;subst a;exact Nat.ne_of_lt (c e he)
 ·rw[Array.toList_push,List.pairwise_append];refine⟨f,by simp,fun x b y a=>?_⟩;rw[List.mem_singleton]at a;subst a;exact g x b
def dO(w:World)(b:Nat)(ds:List (List UInt8))(C:Nat→Nat→Prop):Prop:=
 ∃es clock,w.heap[b]? =some (.map es clock)∧(∀e∈es.toList,qA ds C e)∧(∀l i,C l i→∃e∈es.toList,e.key=gE l i)∧ou es clock
theorem dO.fr{w w':World}{T:Nat→Prop}{b:Nat}{ds:List (List UInt8)}{C:Nat→Nat→Prop}(h:dO w b ds C)(g:Fr T w w')(f:¬T b):dO w' b ds C:=by
 obtain⟨es,clock,a,c,d,e⟩:=h;exact⟨es,clock,(g.block b (Array.getElem?_eq_some_iff.1 a).1 f).trans a,c,d,e⟩
theorem dO.lt{w:World}{b:Nat}{ds:List (List UInt8)}{C:Nat→Nat→Prop}(h:dO w b ds C):b<w.heap.size:=by
 obtain⟨es,clock,a,_⟩:=h;exact(Array.getElem?_eq_some_iff.1 a).1
theorem dO.more{w:World}{b:Nat}{ds:List (List UInt8)}{C:Nat→Nat→Prop}(h:dO w b ds C)(d:List UInt8)(k:∀l i,C l i→(i+1)*2^l≤ds.length):dO w b (ds++[d]) C:=by
 obtain⟨es,clock,c,f,g,j⟩:=h;refine⟨es,clock,c,fun e he=>?_,g,j⟩;obtain⟨l,i,m,n,a⟩:=f e he;exact⟨l,i,m,by rw[n,oN ds d l i (k l i a)],a⟩
theorem rR(ds:List (List UInt8))(C:Nat→Nat→Prop)(l i:Nat)(w:World):∀(es:List MapEntry)(k:Nat),(∀e∈es,qA ds C e)→(∃e∈es,e.key=gE l i)→
  ∃j,(Instr.findAsking 212 (gE l i) es k).run Tryz.prog w= .ok (some (j,aP (aH ds l i))) w
 |[],_,_,h=>by obtain⟨e,he,_⟩:=h;cases he
 |e::es,k,d,h=>by
  obtain⟨o,i',n,u,v⟩:=d e (by simp);by_cases f:l=o∧i=i';·obtain⟨rfl,rfl⟩:=f;refine⟨k,?_⟩;simp only[Instr.findAsking,Sem.run_bind,n,qa,Result.andThen_ok,decide_true,Bool.and_self,if_true,u,Sem.run_pure]
  ·obtain⟨q,c,g⟩:=h;have m:(decide (l=o)&&decide (i=i'))=false:=by
    by_cases p:l=o;·rw[cN (show¬i=i' from fun r=>f ⟨p,r⟩),Bool.and_false]
    ·rw[decide_eq_false p,Bool.false_and]
   rcases List.mem_cons.1 c with rfl|c;·rw[n]at g;obtain⟨a,b⟩:=xt g;exact absurd ⟨a.symm,b.symm⟩ f
   ·obtain⟨j,s⟩:=rR ds C l i w es (k+1) (fun x t=>d x (by simp[t])) ⟨q,c,g⟩;refine⟨j,?_⟩;simp only[Instr.findAsking,Sem.run_bind,n,qa,Result.andThen_ok,m,Bool.false_eq_true,if_false];exact s
theorem uP(ds:List (List UInt8))(C:Nat→Nat→Prop)(l i:Nat)(w:World)(f:¬C l i):∀(es:List MapEntry)(k:Nat),(∀e∈es,qA ds C e)→
  (Instr.findAsking 212 (gE l i) es k).run Tryz.prog w= .ok none w
 |[],_,_=>by simp[Instr.findAsking]
 |e::es,k,a=>by
  obtain⟨g,i',j,n,m⟩:=a e (by simp);have b:(decide (l=g)&&decide (i=i'))=false:=by
   by_cases c:l=g
   ·by_cases d:i=i';·subst c d;exact absurd m f
    ·rw[decide_eq_false d,Bool.and_false]
   ·rw[decide_eq_false c,Bool.false_and]
  simp only[Instr.findAsking,Sem.run_bind,j,qa,Result.andThen_ok,b,Bool.false_eq_true,if_false];exact uP ds C l i w f es (k+1) (fun x h=>a x (by simp[h]))
theorem GX:∃a,Tryz.prog.underlying 212=some (.struct a):=⟨_,Tryz.underlying212⟩
theorem pL(k:Value)(es:List MapEntry)(w:World)(r:Option (Nat×Value))(h:(Instr.findAsking 212 k es 0).run Tryz.prog w= .ok r w):(Instr.findKey 212 k es).run Tryz.prog w= .ok r w:=by
 obtain⟨a,hu⟩:=GX;unfold Instr.findKey;simp only[Sem.run_bind,run_underlying hu,Result.andThen_ok];cases es with
 |nil=>
  simp only[Instr.findAsking,Sem.run_pure]at h;simpa[Instr.findNow]using h
 |cons e es=>
  simp only[Instr.findNow,Instr.sameNow];exact h
theorem AY:Tryz.prog.underlying 178=some (.map 212 38):=Tryz.underlying178
theorem sh{w:World}{b:Nat}{ds:List (List UInt8)}{C:Nat→Nat→Prop}(h:dO w b ds C)(l i:Nat)(e:C l i):(Instr.lookup 178 (.map (some b)) (gE l i) false).run Tryz.prog w= .ok (aP (aH ds l i)) w:=by
 obtain⟨es,clock,a,c,d,_⟩:=h;obtain⟨j,f⟩:=rR ds C l i w es.toList 0 c (d l i e);unfold Instr.lookup;simp only[Sem.run_bind,run_underlying AY,Result.andThen_ok,MapKept.run_getObj_map a,Sem.run_pure,oA,pL _ _ _ _ f,Bool.false_eq_true,if_false]
theorem si{w:World}{b:Nat}{ds:List (List UInt8)}{C:Nat→Nat→Prop}(h:dO w b ds C)(l i:Nat)(o:¬C l i)(v:Value)(t:v=aP (aH ds l i))(C':Nat→Nat→Prop)(c:∀a i',C' a i'↔C a i'∨(a=l∧i'=i)):
  ∃w',(Instr.mapUpdate 178 (.map (some b)) (gE l i) v).run Tryz.prog w= .ok () w'∧dO w' b ds C'∧Fr (fun k=>k=b) w w':=by
 obtain⟨es,clock,f,g,p,q⟩:=h;have s:=uP ds C l i w o es.toList 0 g;refine⟨w.putObj b (.map (es.push {key:=gE l i,val:=v,born:=clock}) (clock+1)),?_,?_,?_⟩;·unfold Instr.mapUpdate;simp only[Sem.run_bind,run_underlying AY,Result.andThen_ok,MapKept.run_getObj_map f,oA,pL _ _ _ _ s,MapKept.run_setObj_map _ f];rfl
 ·have r:=(Array.getElem?_eq_some_iff.1 f).1;refine⟨es.push {key:=gE l i,val:=v,born:=clock},clock+1,?_,fun e he=>?_,fun a i' j=>?_,q.push _ _ fun e he d=>?_⟩;·show(w.heap.setIfInBounds b _)[b]? =_;rw[Array.getElem?_setIfInBounds_self_of_lt r]
  ·rw[Array.toList_push,List.mem_append]at he;rcases he with he|he;·obtain⟨a,i',m,u,n⟩:=g e he;exact⟨a,i',m,u,(c _ _).2 (.inl n)⟩
   ·simp only[List.mem_singleton]at he;subst he;exact⟨l,i,rfl,t,(c _ _).2 (.inr ⟨rfl,rfl⟩)⟩
  ·rw[Array.toList_push];rcases(c _ _).1 j with j|⟨rfl,rfl⟩;·obtain⟨e,he,d⟩:=p a i' j;exact⟨e,List.mem_append_left _ he,d⟩
   ·exact⟨_,List.mem_append_right _ (List.mem_singleton.2 rfl),rfl⟩
  ·obtain⟨a,i',m,_,n⟩:=g e he;rw[m]at d;obtain⟨rfl,rfl⟩:=xt d;exact o n
 ·exact(Fr.grown (grownBy_putObj' w b _)).mono (fun k _ d=>by simpa using d)
end Go.Proofs.YtphjagkehiklkaaGreatDoor.Lt
namespace Go.Proofs.YtphjagkehiklkaaGreatDoor.Lt
open Go.RowKit
structure eL(w:World)(p:Nat)(A:Option Addr)(n c:Nat)(mb:Option Nat)(ds:List (List UInt8))(C:Nat→Nat→Prop):Prop where
 aF:ao w p 180 #[.slice A n c, .map mb]
 row:w.ownsRow 0 38 32 (.slice A n c) n (ds.flatMap ar)
 len:ds.length=n
 each:∀d∈ds,d.length=32
 parts:(∃b,mb=some b∧dO w b ds C)∨(mb=none∧∀l i,¬C l i)
theorem eL.aq{w w':World}{p:Nat}{A:Option Addr}{n c:Nat}{mb:Option Nat}{ds:List (List UInt8)}{C:Nat→Nat→Prop}(h:eL w p A n c mb ds C)(a:Fr ag w w'):eL w' p A n c mb ds C:=
 ⟨h.aF.fr a (fun x=>x),aQ h.row a (fun _ _ x=>x),h.len,h.each,by
  rcases h.parts with⟨b,e,f⟩|d;·exact .inl ⟨b,e,f.fr a (fun x=>x)⟩
  ·exact .inr d⟩
theorem eL.JB{w:World}{p:Nat}{A:Option Addr}{n c:Nat}{mb:Option Nat}{ds:List (List UInt8)}{C:Nat→Nat→Prop}(h:eL w p A n c mb ds C):ed w (gj (.slice A n c)) A n ds:=⟨Rd.gO h.row,h.len,h.each⟩
theorem eL.part{w:World}{p:Nat}{A:Option Addr}{n c:Nat}{mb:Option Nat}{ds:List (List UInt8)}{C:Nat→Nat→Prop}(h:eL w p A n c mb ds C){l i:Nat}(e:C l i):∃b,mb=some b∧dO w b ds C:=by
 rcases h.parts with d|⟨_,a⟩;·exact d
 ·exact absurd e (a l i)
theorem Bc{g:Oper}{a:Act}{w:World}{K:Act→World→Prop}{Q:Exit→Act→World→Prop}(m x:Operand)(d:g.op= .lookup 178 m x false)
  {c b v:Value}(hm:a.eval m=c)(f:a.eval x=b)(e:(Instr.lookup 178 c b false).run Tryz.prog w= .ok v w)(h:K (a.put g.dst v) w):g.wp Tryz.prog a w K Q:=by
 unfold Oper.wp execOp;simp only[d,hm,f,Sem.run_bind,e,Result.andThen_ok];exact h
theorem eB(p:Nat)(A:Option Addr)(n c:Nat)(mb:Option Nat)(ds:List (List UInt8))(C:Nat→Nat→Prop)(l i:Nat)(w:World)(z:eL w p A n c mb ds C)(G:(i+1)*2^l≤n)(y:l≠0→C l i)(ax:l≤64)(aL:n≤1048576):
  Calls Tryz.prog 131 #[.pointer (some ⟨p,0,none⟩),gE l i] w (aK w (aP (aH ds l i))):=by
 have M:(aH ds l i).length=32:=dV ds z.each l i (by rw[z.len];exact G);have ab:i<n:=by
  have:1≤2^l:=Nat.one_le_two_pow;have:(i+1)*1≤(i+1)*2^l:=Nat.mul_le_mul_left _ this;omega
 have DP:Hid (cX (ar (aH ds l i)).toArray):=cX.of M;have T:Hid ((Tryz.prog.info? 38).map (·.size)=some (ar (aH ds l i)).length):=by rw[ar,List.length_map,M];exact ef
 have i4:i≤1048576:=by omega
 by_cases s:l=0
 ·obtain⟨I,d,rfl,_,ae,_,H⟩:=z.JB.at_ ab;have J:d=aH ds l i:=by
   rw[s];simp only[aH];rw[List.getD_eq_getElem?_getD,ae];rfl
  rw[J]at H;have Q:=af H;have W:Hid (w.cell? ⟨p,0,none⟩=some (.slice (some I) n c)):=z.aF.cell 0;have aJ:(i:Int)<(n:Int):=by omega
  have t0:((l:Int)==0)=true:=by rw[s];rfl
  unfold aP;rw[show∀x:List UInt8,x.map aT=ar x from fun _=>rfl];generalize ar (aH ds l i)=q at*;clear z ae J H M G y s;change Calls _ _ #[_, .agg #[.int .i64 (l:Int), .int .i64 (i:Int)]] _ _;go_enter Tryz.func131,Tryz.ntmps131;go_wp2_with(refine ay rfl 212 (.tmp 1) rfl _ rfl ?_);intro w1 n1;have r:=af n1;clear n1;go_wp2_with(refine ak rfl 38 rfl aR fV aD rfl ?_);intro w2 t;have B:Hid (ao w2 w.heap.size 212 #[.int .i64 (l:Int), .int .i64 (i:Int)]):=r.out.aF.fr t.fr (fun x=>x);have N:=af t.aF;have E:=af (r.out.fr.trans t.fr);have P:Hid (w.heap.size≤w1.heap.size):=r.out.fr.size;have L:Hid (w2.cell? ⟨w.heap.size,0,none⟩=some (.int .i64 l)):=B.out.cell 0;have S:Hid (w2.cell? ⟨w.heap.size,1,none⟩=some (.int .i64 i)):=B.out.cell 1;clear t r B;generalize o:w.heap.size=g3 at*;have F:=af o;clear o;generalize w1.heap.size=g4 at*;have i0:=L.out;have aq:Hid (w2.cell? ⟨p,0,none⟩=some (.slice (some I) n c)):=E.out.an W.out (fun x=>x);have am:Hid (∀j v,q[j]? =some v→w2.cell? ((I.add (i*32)).add j)=some v):=fun j v ac=>E.out.an (Q.out j v ac) (fun x=>x);go_upto_region 2 with fail;clear i0;refine aE 8 ag [Is (.pointer (some ⟨p,0,none⟩)),Is (.pointer (some ⟨p,0,none⟩)),Is (.pointer (some ⟨p,0,none⟩)),Is (.slice (some I) n c),Is (.pointer (some ⟨g3,1,none⟩)),Is (.int .i64 i),Is (.pointer (some (I.add (i*32)))),Is (.agg q.toArray)] [] (fun _=>True) (fun _ _=>false) (by kernel_rfl) (by kernel_rfl) (by kernel_rfl) (by kernel_rfl) ⟨Is.ah _,Is.ah _,Is.ah _,Is.ah _,Is.ah _,Is.ah _,Is.ah _,Is.ah _,trivial⟩ trivial (fun _ _ _ _ h=>h) trivial ?_ ?_
  ·refine⟨?_,?_,?_,?_,?_,?_,?_,?_,trivial⟩;all_goals intro u w' d f a m k g
   all_goals simp only[bJ,bK,bL,bM,au,Act.put,bN,bO,bP,Nat.reduceAdd,Nat.zero_add]
   ·clear a m k g;refine aj ?_;go_simp;exact⟨_,rfl,al⟩
   ·have s:u 0=_:=a 0;clear a m k g;simp only[s];refine aj ?_;go_simp;exact⟨_,rfl,al⟩
   ·have G:u 1=_:=a 1;clear a m k g;simp only[G];refine aj ?_;go_simp;exact⟨_,rfl,al⟩
   ·have y:u 2=_:=a 2;clear a m k g;simp only[y];refine aj ?_;have H:=f.an aq.out (fun x=>x);go_simp;exact⟨_,rfl,al⟩
   ·clear a m k g;refine aj ?_;go_simp;exact⟨_,rfl,al⟩
   ·have Z:u 4=_:=a 4;clear a m k g;simp only[Z];refine aj ?_;have H:=f.an S.out (fun x=>x);go_simp;exact⟨_,rfl,al⟩
   ·have Y:u 3=_:=a 3;have aa:u 5=_:=a 5;clear a m k g;simp only[Y,aa];refine aj ?_;go_simp;exact⟨_,rfl,al⟩
   ·have aB:u 6=_:=a 6;clear a m k g;simp only[aB];refine aj ?_;exact az _ _ rfl (I.add (i*32)) rfl q _ (fun j v ac=>f.an (am.out j v ac) (fun x=>x)) Tryz.underlying38 rfl T.out ⟨_,rfl,al⟩
  ·intro u w' f a g;have aC:u 7=_:=a 7 (by omega);have D:=af (N.out.fr f (fun x=>x));have O:=af (E.out.trans f);clear a g f;simp only[bJ,bK,bL,bM,au,Act.put,bN,bO,bP,dL,dM,Nat.reduceAdd,Nat.zero_add,aC];refine ai rfl 38 (.tmp 4) _ rfl g4 q.toArray rfl rfl _ _ D.out DP.out.info DP.out.zero DP.out.one ?_;intro K b5 f5;have U:=af b5;have V:Hid (Fr ag w K):=O.out.aw f5 (fun i aI e=>by have aA:i=g4:=e;have:=P.out;have:=F.out;omega);clear b5 f5;go_wp2;exact bodyPost_ret (results_cell_row (fn:=Tryz.f131) (p:=4) (ty:=38) Tryz.results131 _ K _ 38 q.toArray (0,0) _ rfl U.out Tryz.underlying38 rfl DP.out.info) rfl ⟨rfl,V.out⟩
 ·obtain⟨b,rfl,ad⟩:=z.part (y s);have R:Hid (∀w',Fr ag w w'→(Instr.lookup 178 (.map (some b)) (gE l i) false).run Tryz.prog w'= .ok (.agg (ar (aH ds l i)).toArray) w'):=fun w' f=>sh (ad.fr f (fun x=>x)) l i (y s);have X:Hid (w.cell? ⟨p,1,none⟩=some (.map (some b))):=z.aF.cell 1;have t0:((l:Int)==0)=false:=by rw[beq_eq_false_iff_ne];omega
  unfold aP;rw[show∀x:List UInt8,x.map aT=ar x from fun _=>rfl];generalize ar (aH ds l i)=q at*;clear z M G y ad;change Calls _ _ #[_, .agg #[.int .i64 (l:Int), .int .i64 (i:Int)]] _ _;go_enter Tryz.func131,Tryz.ntmps131;go_wp2_with(refine ay rfl 212 (.tmp 1) rfl _ rfl ?_);intro w1 n1;have r:=af n1;clear n1;go_wp2_with(refine ak rfl 38 rfl aR fV aD rfl ?_);intro w2 t;have B:Hid (ao w2 w.heap.size 212 #[.int .i64 (l:Int), .int .i64 (i:Int)]):=r.out.aF.fr t.fr (fun x=>x);have N:=af t.aF;have E:=af (r.out.fr.trans t.fr);have P:Hid (w.heap.size≤w1.heap.size):=r.out.fr.size;have L:Hid (w2.cell? ⟨w.heap.size,0,none⟩=some (.int .i64 l)):=B.out.cell 0;have S:Hid (w2.cell? ⟨w.heap.size,1,none⟩=some (.int .i64 i)):=B.out.cell 1;clear t r B;generalize o:w.heap.size=g3 at*;have F:=af o;clear o;generalize w1.heap.size=g4 at*;have i0:=L.out;have av:Hid (w2.cell? ⟨p,1,none⟩=some (.map (some b))):=E.out.an X.out (fun x=>x);have ap:Hid (∀w',Fr ag w2 w'→(Instr.lookup 178 (.map (some b)) (gE l i) false).run Tryz.prog w'= .ok (.agg q.toArray) w'):=fun w' f=>R.out _ (E.out.trans f);go_upto_region 3 with fail;clear i0;refine aE 6 ag [Is (.pointer (some ⟨p,0,none⟩)),Is (.pointer (some ⟨p,0,none⟩)),Is (.pointer (some ⟨p,1,none⟩)),Is (.map (some b)),Is (gE l i),Is (.agg q.toArray)] [] (fun _=>True) (fun _ _=>false) (by kernel_rfl) (by kernel_rfl) (by kernel_rfl) (by kernel_rfl) ⟨Is.ah _,Is.ah _,Is.ah _,Is.ah _,Is.ah _,Is.ah _,trivial⟩ trivial (fun _ _ _ _ h=>h) trivial ?_ ?_
  ·refine⟨?_,?_,?_,?_,?_,?_,trivial⟩;all_goals intro u w' d f a m k g
   all_goals simp only[bJ,bK,bL,bM,au,Act.put,bN,bO,bP,Nat.reduceAdd,Nat.zero_add]
   ·clear a m k g;refine aj ?_;go_simp;exact⟨_,rfl,al⟩
   ·have s:u 0=_:=a 0;clear a m k g;simp only[s];refine aj ?_;go_simp;exact⟨_,rfl,al⟩
   ·have G:u 1=_:=a 1;clear a m k g;simp only[G];refine aj ?_;go_simp;exact⟨_,rfl,al⟩
   ·have y:u 2=_:=a 2;clear a m k g;simp only[y];refine aj ?_;have H:=f.an av.out (fun x=>x);go_simp;exact⟨_,rfl,al⟩
   ·clear a m k g;refine aj ?_;have H:=f.an L.out (fun x=>x);have aG:=f.an S.out (fun x=>x);go_simp;exact⟨_,rfl,al⟩
   ·have Y:u 3=_:=a 3;have Z:u 4=_:=a 4;clear a m k g;simp only[Y,Z];refine aj ?_;exact Bc _ _ rfl rfl rfl (ap.out _ f) ⟨_,rfl,al⟩
  ·intro u w' f a g;have aa:u 5=_:=a 5 (by omega);have D:=af (N.out.fr f (fun x=>x));have O:=af (E.out.trans f);clear a g f;simp only[bJ,bK,bL,bM,au,Act.put,bN,bO,bP,dL,dM,Nat.reduceAdd,Nat.zero_add,aa];refine ai rfl 38 (.tmp 4) _ rfl g4 q.toArray rfl rfl _ _ D.out DP.out.info DP.out.zero DP.out.one ?_;intro K b5 f5;have U:=af b5;have V:Hid (Fr ag w K):=O.out.aw f5 (fun i aI e=>by have aA:i=g4:=e;have:=P.out;have:=F.out;omega);clear b5 f5;go_wp2;exact bodyPost_ret (results_cell_row (fn:=Tryz.f131) (p:=4) (ty:=38) Tryz.results131 _ K _ 38 q.toArray (0,0) _ rfl U.out Tryz.underlying38 rfl DP.out.info) rfl ⟨rfl,V.out⟩
end Go.Proofs.YtphjagkehiklkaaGreatDoor.Lt
namespace Go.Proofs.YtphjagkehiklkaaGreatDoor.Lt
open Go.RowKit
def Full(C:Nat→Nat→Prop)(n:Nat):Prop:=∀l i,l≠0→(i+1)*2^l≤n→C l i
def tF(m:Nat):Prop:=∀(w:World)(p:Nat)(A:Option Addr)(n c:Nat)(mb:Option Nat)(ds:List (List UInt8))(C:Nat→Nat→Prop)(f k:Nat),eL w p A n c mb ds C→Full C n→n≤1048576→bH w→1≤m→f+m≤n→m≤2^k→2^k∣f→
 Calls Tryz.prog 110 #[.pointer (some ⟨p,0,none⟩), .int .i64 f, .int .i64 m] w (aK w (aP (cS ((ds.drop f).take m))))
theorem Ib(m:Nat)(f:1≤m)(hm:m≤1048576):∃lv,Lib.bitLen m=lv+1∧2^lv≤m∧m<2*2^lv∧lv≤40:=by
 obtain⟨a,b,c⟩:=Lib.bitLenAux_bounds 64 m (by omega) (by omega);refine⟨Lib.bitLen m-1,by unfold Lib.bitLen;omega,b,?_,?_⟩
 ·have h:Lib.bitLen m=(Lib.bitLen m-1)+1:=by unfold Lib.bitLen;omega
  have d:m<2^Lib.bitLen m:=c;rw[h,Nat.pow_succ]at d;omega
 ·rcases Nat.lt_or_ge 40 (Lib.bitLen m-1)with h|h;·have:2^41≤2^(Lib.bitLen m-1):=Nat.pow_le_pow_right (by omega) h;have e:2^(Lib.bitLen m-1)≤m:=b;omega
  ·exact h
theorem oD{a b f:Nat}(h:a≤b)(c:2^b∣f):2^a∣f:=Nat.dvd_trans (Nat.pow_dvd_pow 2 h) c
theorem oQ{a b:Nat}(h:2^a≤2^b):a≤b:=by
 rcases Nat.lt_or_ge b a with c|c;·have:=Nat.pow_lt_pow_right (a:=2) (by omega) c;omega
 ·exact c
theorem GH(m lv:Nat)(s:Lib.bitLen m=lv+1)(hm:m=2^lv)(R:lv≤40):tF m:=by
 intro w p A n c mb ds C f k j hF O M U r t o;obtain⟨i,rfl⟩:∃i,f=i*2^lv:=by
  obtain⟨q,Q⟩:=oD (oQ (by rw[←hm];exact t)) o;exact⟨q,by rw[Q,Nat.mul_comm]⟩
 have g:(i+1)*2^lv≤n:=by rw[Nat.add_mul,Nat.one_mul,←hm]at*;exact r
 have e:=oO ds lv i (by rw[j.len];exact g) (by omega);rw[hm,←e];have F:(aH ds lv i).length=32:=dV ds j.each lv i (by rw[j.len];exact g);have I:Hid (∀w',Fr ag w w'→Calls Tryz.prog 131 #[.pointer (some ⟨p,0,none⟩), .agg #[.int .i64 (lv:Int), .int .i64 (i:Int)]] w' (aK w' (aP (aH ds lv i)))):=
  fun w' N=>eB p A n c mb ds C lv i w' (j.aq N) g (fun h=>hF lv i h g) (by omega) O;have DP:Hid (cX (ar (aH ds lv i)).toArray):=cX.of F;have y:Hid (∀w,Calls Tryz.prog 150 #[.int .u64 (m:Int)] w fun e w'=>e= .returned (.int .i64 (Lib.bitLen m:Nat))∧w'=w):=fun w=>Tryz.bits_Len (m:Int) w (by omega) (by omega);rw[s,hm]at y;obtain⟨P,v⟩:∃P,P=2^lv:=⟨_,rfl⟩;obtain⟨d,b⟩:∃d,d=i*2^lv:=⟨_,rfl⟩;have a:(d:Int)/((2^lv:Nat):Int)=(i:Int):=by
  have:d/2^lv=i:=by rw[b];exact Nat.mul_div_cancel _ Nat.one_le_two_pow
  omega
 have z:IntKind.i64.wrap (1*2^lv)=((P:Nat):Int):=by
  rw[v,Int.one_mul];have:(2:Int)^lv=((2^lv:Nat):Int):=by simp
  rw[this];exact IntWalk.i64_in _ (by omega)
 have E:IntKind.i64.wrap (2^lv)=((P:Nat):Int):=by rw[←z,Int.one_mul]
 have S:((lv+1:Nat):Int)-1=(lv:Int):=by omega
 have B:(d:Int)/2^lv=(i:Int):=by rw[←a];simp
 rw[←b,←v];rw[←v]at y a;have V:P≤1048576:=by omega
 have f4:d≤1048576:=by omega
 have i4:i≤1048576:=by
  have:i*1≤i*2^lv:=Nat.mul_le_mul_left _ Nat.one_le_two_pow;omega
 unfold aP at*;simp only[show∀l:List UInt8,l.map aT=ar l from fun _=>rfl]at*;generalize ar (aH ds lv i)=D at*;clear j hF M e F s hm v b r t o g;go_enter Tryz.func110,Tryz.ntmps110;go_wp2_with(refine ak rfl 38 rfl aR fV aD rfl ?_);intro w1 n1;have u:=af n1;clear n1;go_wp2_with fail;refine(y.out _).mono ?_;rintro e w'⟨rfl,rfl⟩;go_wp2_with fail;refine(I.out _ u.out.fr).mono ?_;rintro e w2⟨rfl,f2⟩;have J:=af (u.out.fr.trans f2);have H:=af (u.out.aF.fr f2 (fun x=>x));clear f2 u;go_wp2_with(refine ai rfl 38 (.tmp 6) _ rfl w.heap.size D.toArray rfl rfl _ _ H.out DP.out.info DP.out.zero DP.out.one ?_);intro G b5 f5;have K:=af b5;have L:Hid (Fr ag w G):=J.out.aw f5 (fun i g e=>by have T:i=w.heap.size:=e;omega);clear b5 f5;go_wp2;exact bodyPost_ret (results_cell_row (fn:=Tryz.f110) (p:=6) (ty:=38) Tryz.results110 _ G _ 38 D.toArray (0,0) _ rfl K.out Tryz.underlying38 rfl DP.out.info) rfl ⟨rfl,L.out⟩
theorem pS{α:Type}(L:List α){a b:Nat}(h:a≤b):(L.take b).take a=L.take a:=by rw[List.take_take,Nat.min_eq_left h]
theorem Dw(m lv:Nat)(N:∀j,j<m→tF j)(t:Lib.bitLen m=lv+1)(B:2^lv<m)(V:m<2*2^lv)(am:lv≤40):tF m:=by
 intro w p A n c mb ds C f k a hF Y D al L M r;have E:1≤2^lv:=Nat.one_le_two_pow;have o:2^lv=aM m:=xv m lv (by omega) B (by omega);have X:lv≤k:=oQ (by omega);have J:2^lv∣f:=oD X r;have hlen:((ds.drop f).take m).length=m:=by rw[List.length_take,List.length_drop,a.len];omega
 have e:=mw _ m hlen (by omega) (by omega);rw[←o,pS _ (by omega),List.drop_take,List.drop_drop]at e;rw[e];have G:=af (fun w=>mF m w (by omega) (by omega));rw[←o]at G;have CL:Hid (∀w',Fr ag w w'→Calls Tryz.prog 110 #[.pointer (some ⟨p,0,none⟩), .int .i64 f, .int .i64 (2^lv:Nat)] w' (aK w' (aP (cS ((ds.drop f).take (2^lv)))))):=
  fun w' q=>N (2^lv) B w' p A n c mb ds C f lv (a.aq q) hF Y (D.aq q) E (by omega) (Nat.le_refl _) J;have F:Hid (∀w',Fr ag w w'→Calls Tryz.prog 110 #[.pointer (some ⟨p,0,none⟩), .int .i64 (f+2^lv:Nat), .int .i64 (m-2^lv:Nat)] w' (aK w' (aP (cS ((ds.drop (f+2^lv)).take (m-2^lv)))))):=
  fun w' q=>N (m-2^lv) (by omega) w' p A n c mb ds C (f+2^lv) lv (a.aq q) hF Y (D.aq q) (by omega) (by omega) (by omega) ((Nat.dvd_add_right J).2 (Nat.dvd_refl _));have l1:(cS ((ds.drop f).take (2^lv))).length=32:=fX (2^lv) _ (by rw[List.length_take,List.length_drop,a.len];omega) E (by omega) (fun d K=>a.each d (List.mem_of_mem_drop (List.mem_of_mem_take K)));have l2:(cS ((ds.drop (f+2^lv)).take (m-2^lv))).length=32:=fX (m-2^lv) _ (by rw[List.length_take,List.length_drop,a.len];omega) (by omega) (by omega) (fun d K=>a.each d (List.mem_of_mem_drop (List.mem_of_mem_take K)));have ab:Hid (∀w',Fr ag w w'→Calls Tryz.prog 122 #[aP (cS ((ds.drop f).take (2^lv))),aP (cS ((ds.drop (f+2^lv)).take (m-2^lv)))] w' (aK w' (aP (cF (cS ((ds.drop f).take (2^lv))) (cS ((ds.drop (f+2^lv)).take (m-2^lv))))))):=fun w' q=>kW _ _ l1 l2 w' (D.aq q);generalize cS ((ds.drop f).take (2^lv))=O at*;generalize cS ((ds.drop (f+2^lv)).take (m-2^lv))=Q at*;have DP:Hid (cX (ar (cF O Q)).toArray):=cX.of (eC _ _);have T:Hid (∀w,Calls Tryz.prog 150 #[.int .u64 (m:Int)] w fun e w'=>e= .returned (.int .i64 (Lib.bitLen m:Nat))∧w'=w):=fun w=>Tryz.bits_Len (m:Int) w (by omega) (by omega);rw[t]at T;have v:IntKind.i64.wrap (1*2^lv)=((2^lv:Nat):Int):=by
  rw[Int.one_mul];have:(2:Int)^lv=((2^lv:Nat):Int):=by simp
  rw[this];exact IntWalk.i64_in _ (by omega)
 have y:IntKind.i64.wrap (2^lv)=((2^lv:Nat):Int):=by rw[←v,Int.one_mul]
 obtain⟨P,W⟩:∃P,P=2^lv:=⟨_,rfl⟩;rw[←W]at v y G CL F B V E;have an:((lv+1:Nat):Int)-1=(lv:Int):=by omega
 have ay:((m:Int)==(P:Int))=false:=by rw[beq_eq_false_iff_ne];omega
 have ao:¬m=P:=by omega
 obtain⟨f2,s⟩:∃f2:Nat,f2=f+P:=⟨_,rfl⟩;obtain⟨m2,u⟩:∃m2:Nat,m2=m-P:=⟨_,rfl⟩;rw[←s,←u]at F;have s1:(f:Int)+(P:Int)=(f2:Int):=by omega
 have s2:(m:Int)-(P:Int)=(m2:Int):=by omega
 have f4:f≤1048576:=by omega
 have f24:f2≤1048576:=by omega
 have m4:m≤1048576:=by omega
 have m24:m2≤1048576:=by omega
 have au:P≤1048576:=by omega
 unfold aP at*;simp only[show∀l:List UInt8,l.map aT=ar l from fun _=>rfl]at*;generalize ar (cF O Q)=U at*;generalize ar O=ah at*;generalize ar Q=aj at*;clear a hF D e t W s u L M r J X o hlen l1 l2 N al B V E;go_enter Tryz.func110,Tryz.ntmps110;go_wp2_with(refine ak rfl 38 rfl aR fV aD rfl ?_);intro w1 n1;have z:=af n1;clear n1;go_wp2_with fail;refine(T.out _).mono ?_;rintro e w'⟨rfl,rfl⟩;go_wp2_with fail;refine(G.out _).mono ?_;rintro e ap⟨rfl,rfl⟩;go_wp2_with fail;refine(CL.out _ z.out.fr).mono ?_;rintro e w2⟨rfl,b⟩;have H:=af (z.out.fr.trans b);have R:=af (z.out.aF.fr b (fun x=>x));clear b z;go_wp2_with fail;refine(F.out _ H.out).mono ?_;rintro e az⟨rfl,g⟩;have I:=af (H.out.trans g);have S:=af (R.out.fr g (fun x=>x));clear g H R;go_wp2_with fail;refine(ab.out _ I.out).mono ?_;rintro e aA⟨rfl,h⟩;have ac:=af (I.out.trans h);have aa:=af (S.out.fr h (fun x=>x));clear h I S;go_wp2_with(refine ai rfl 38 (.tmp 6) _ rfl w.heap.size U.toArray rfl rfl _ _ aa.out DP.out.info DP.out.zero DP.out.one ?_);intro Z b5 f5;have ad:=af b5;have ae:Hid (Fr ag w Z):=ac.out.aw f5 (fun i ax e=>by have av:i=w.heap.size:=e;omega);clear b5 f5;go_wp2;exact bodyPost_ret (results_cell_row (fn:=Tryz.f110) (p:=6) (ty:=38) Tryz.results110 _ Z _ 38 U.toArray (0,0) _ rfl ad.out Tryz.underlying38 rfl DP.out.info) rfl ⟨rfl,ae.out⟩
theorem vA(m:Nat)(hm:m≤1048576):tF m:=by
 induction m using Nat.strongRecOn with
 |_ m l=>
  rcases Nat.eq_zero_or_pos m with rfl|g;·intro w p A n c mb ds C f k _ _ _ _ h;omega
  ·obtain⟨lv,a,b,d,e⟩:=Ib m g hm;by_cases h:m=2^lv;·exact GH m lv a h e
   ·exact Dw m lv (fun j i=>l j i (by omega)) a (by omega) d e
end Go.Proofs.YtphjagkehiklkaaGreatDoor.Lt
namespace Go.Proofs.YtphjagkehiklkaaGreatDoor.Lt
open Go.RowKit
theorem wQ(w:World)(A:Option Addr)(n c:Nat)(xs:List Value)(b:w.ownsRow 0 38 32 (.slice A n c) n xs)(F:¬n+1≤c)(H:n≤1048576)(f:Addr)(h:Nat)(news:List Value)(G:news.length=32)(a:∀j u,news[j]? =some u→w.cell? (f.add j)=some u)(x:∀u∈news,u.oneCell'=true)(ty:TypeId):
  ∃g cap w',(Builtin.append_ #[31,31] ty #[.slice A n c, .slice (some f) 1 h]).run Tryz.prog w= .ok (.slice (some ⟨g,0,none⟩) (n+1) cap) w'∧Fr ag w w'∧w.heap.size≤g∧
   w'.ownsRow 0 38 32 (.slice (some ⟨g,0,none⟩) (n+1) cap) (n+1) (xs++news):=by
 obtain⟨i,o,r,v,t⟩:=info_parts tM;have p:Tryz.prog.underlying 31=some (.slice 38):=Tryz.underlying31;obtain⟨I,w',d,s⟩:=AO (P:=Tryz.prog) w 31 ty 38 i aR 32 32 p o r v t rfl (by omega) (.slice A n c) n xs b (fun k=>k=f.block) (some f) 1 h news ⟨by omega,fun _=>⟨f,rfl,rfl,a⟩⟩ x (by omega) (by omega);have D:xs.length=n*32:=b.1;rcases b.2 with⟨q,E⟩|⟨g,cap,cur,q,_,_,C,_⟩;·cases q;have e:=run_append_nil (P:=Tryz.prog) w 31 ty 38 i aR p o r f 1 h news (by omega) a (by omega) (by omega) (by omega);rw[d]at e;injection e with l m;subst l m;exact⟨w.heap.size,_,_,d,aA.drew.alloc _,Nat.le_refl _,s.own⟩
 ·injection q with y B z;subst y;have holds:∀j u,xs[j]? =some u→w.cell? ((⟨g,0,none⟩:Addr).add j)=some u:=b.cells (g:=g) rfl;have e:=run_append_grow (P:=Tryz.prog) w 31 ty 38 i aR p o r ⟨g,0,none⟩ n c xs (by rw[v];exact D) holds f 1 h news (by omega) a (by omega) (by omega) (by rw[t];exact growslice_fits (by omega) (by omega));rw[d]at e;injection e with l m;subst l m;exact⟨w.heap.size,_,_,d,aA.drew.alloc _,Nat.le_refl _,s.own⟩
theorem rD{z:Oper}{a:Act}{w:World}{K:Act→World→Prop}{Q:Exit→Act→World→Prop}(s x:Operand)(t:z.op= .call {callee:= .builtin .append,args:=#[s,x],argTypes:=#[31,31]})
  (A:Option Addr)(n c:Nat)(xs:List Value)(v:a.eval s= .slice A n c)(e:w.ownsRow 0 38 32 (.slice A n c) n xs)(m:¬n+1≤c)(r:n≤1048576)(i:Addr)(k:Nat)(news:List Value)(y:a.eval x= .slice (some i) 1 k)(q:news.length=32)(b:∀j u,news[j]? =some u→w.cell? (i.add j)=some u)(l:∀u∈news,u.oneCell'=true)
  (h:∀g cap w',Fr ag w w'→w.heap.size≤g→w'.ownsRow 0 38 32 (.slice (some ⟨g,0,none⟩) (n+1) cap) (n+1) (xs++news)→K (a.put z.dst (.slice (some ⟨g,0,none⟩) (n+1) cap)) w'):z.wp Tryz.prog a w K Q:=by
 obtain⟨g,cap,w',f,o,p,d⟩:=wQ w A n c xs e m r i k news q b l z.type;unfold Oper.wp execOp;simp only[t,resolve,invoke,builtin,Sem.run_bind,Sem.run_pure,Result.andThen_ok,List.map_toArray,List.map_cons,List.map_nil,v,y,f];exact h g cap w' o p d
theorem pU{E:Oper}{a:Act}{w:World}{K:Act→World→Prop}{Q:Exit→Act→World→Prop}(s x:Operand)(y:E.op= .call {callee:= .builtin .append,args:=#[s,x],argTypes:=#[31,31]})
  (g n c:Nat)(xs:List Value)(z:a.eval s= .slice (some ⟨g,0,none⟩) n c)(e:w.ownsRow 0 38 32 (.slice (some ⟨g,0,none⟩) n c) n xs)(q:n+1≤c)(l:Addr)(o:Nat)(news:List Value)(A:a.eval x= .slice (some l) 1 o)(C:news.length=32)(b:∀j u,news[j]? =some u→w.cell? (l.add j)=some u)(p:∀u∈news,u.oneCell'=true)
  (h:∀w',Fr (fun k=>k=g) w w'→w'.ownsRow 0 38 32 (.slice (some ⟨g,0,none⟩) (n+1) c) (n+1) (xs++news)→K (a.put E.dst (.slice (some ⟨g,0,none⟩) (n+1) c)) w'):E.wp Tryz.prog a w K Q:=by
 obtain⟨i,t,D,m,B⟩:=info_parts tM;obtain⟨w',f,d,r⟩:=run_append_fits (P:=Tryz.prog) w 0 31 E.type 38 i 32 Tryz.underlying31 t m g n c xs e l 1 o news (by omega) b p q;unfold Oper.wp execOp;simp only[y,resolve,invoke,builtin,Sem.run_bind,Sem.run_pure,Result.andThen_ok,List.map_toArray,List.map_cons,List.map_nil,z,A,f];exact h w' ((Fr.grown r).mono (fun k _ v=>by simpa using v)) d
def bC(n l i:Nat):Prop:=l≠0∧(i+1)*2^l≤n
def cO(n lv l i:Nat):Prop:=l≠0∧((i+1)*2^l≤n∨((i+1)*2^l=n+1∧l≤lv))
theorem s8(n:Nat):Full (bC n) n:=fun _ _ h a=>⟨h,a⟩
theorem dO.congr{w:World}{b:Nat}{ds:List (List UInt8)}{C C':Nat→Nat→Prop}(h:dO w b ds C)(a:∀l i,C l i↔C' l i):dO w b ds C':=by
 obtain⟨es,clock,c,d,f,g⟩:=h;refine⟨es,clock,c,fun e he=>?_,fun l i j=>f l i ((a l i).2 j),g⟩;obtain⟨l,i,k,m,n⟩:=d e he;exact⟨l,i,k,m,(a l i).1 n⟩
theorem kN(n l i:Nat):bC n l i↔cO n 0 l i:=by
 unfold bC cO;constructor;·rintro⟨a,b⟩;exact⟨a, .inl b⟩
 ·rintro⟨a,b|⟨_,b⟩⟩;·exact⟨a,b⟩
  ·omega
theorem mc(n lv q l i:Nat)(h:(q+1)*2^(lv+1)=n+1):cO n (lv+1) l i↔cO n lv l i∨(l=lv+1∧i=q):=by
 unfold cO;constructor
 ·rintro⟨a,b|⟨b,c⟩⟩;·exact .inl ⟨a, .inl b⟩
  ·by_cases d:l≤lv;·exact .inl ⟨a, .inr ⟨b,d⟩⟩
   ·obtain rfl:l=lv+1:=by omega
    refine .inr ⟨rfl,?_⟩;have:(i+1)=(q+1):=Nat.eq_of_mul_eq_mul_right (Nat.two_pow_pos (lv+1)) (by rw[b,h]);omega
 ·rintro(⟨a,b|⟨b,c⟩⟩|⟨rfl,rfl⟩);·exact⟨a, .inl b⟩
  ·exact⟨a, .inr ⟨b,by omega⟩⟩
  ·exact⟨by omega, .inr ⟨h,Nat.le_refl _⟩⟩
theorem nk(n lv q:Nat)(h:(q+1)*2^(lv+1)=n+1):¬cO n lv (lv+1) q:=by
 rintro⟨_,b|⟨_,c⟩⟩;·omega
 ·omega
theorem nj(n lv idx:Nat)(h:(idx+1)*2^lv=n+1)(he:idx%2=0)(l i:Nat):cO n lv l i↔bC (n+1) l i:=by
 unfold cO bC;constructor
 ·rintro⟨a,b|⟨b,_⟩⟩;·exact⟨a,by omega⟩
  ·exact⟨a,by omega⟩
 ·rintro⟨a,b⟩;refine⟨a,?_⟩;by_cases f:(i+1)*2^l≤n;·exact .inl f
  ·refine .inr ⟨by omega,?_⟩;rcases Nat.lt_or_ge lv l with c|c
   ·exfalso;obtain⟨d,rfl⟩:∃d,l=lv+1+d:=⟨l-lv-1,by omega⟩;have e:(i+1)*2^(lv+1+d)=(2*((i+1)*2^d))*2^lv:=by
     rw[Nat.pow_add,Nat.pow_succ];simp only[Nat.mul_assoc,Nat.mul_comm,Nat.mul_left_comm]
    have:idx+1=2*((i+1)*2^d):=Nat.eq_of_mul_eq_mul_right (Nat.two_pow_pos lv) (by rw[h,←e];omega);omega
   ·exact c
theorem jd{ops:Array Oper}{rest:List Oper}{u:Oper}{a:Act}{w:World}{Q:Exit→Act→World→Prop}(f:u.guard=none)(m k x:Operand)(r:u.op= .mapUpdate 178 m k x)
  {b:Nat}{ds:List (List UInt8)}{C:Nat→Nat→Prop}(h:dO w b ds C)(l i:Nat){v:Value}(hm:a.eval m= .map (some b))(q:a.eval k=gE l i)(t:a.eval x=v)(j:¬C l i)(s:v=aP (aH ds l i))(C':Nat→Nat→Prop)(d:∀g i',C' g i'↔C g i'∨(g=l∧i'=i))
  (n:∀w',dO w' b ds C'→Fr (fun k=>k=b) w w'→wpList Tryz.prog ops Q rest (a.put u.dst undef) w'):wpList Tryz.prog ops Q (u::rest) a w:=by
 obtain⟨w',c,o,p⟩:=si h l i j v s C' d;refine wpList_plain f fun K e=>?_;unfold Oper.wp execOp;simp only[r,hm,q,t,Sem.run_bind,c,Sem.run_pure,Result.andThen_ok];exact e _ _ (n w' o p)
end Go.Proofs.YtphjagkehiklkaaGreatDoor.Lt
namespace Go.Proofs.YtphjagkehiklkaaGreatDoor
open Go.RowKit Go.Shelf
def jF:ActV:=⟨⟨0,0,0,ByteArray.empty⟩,[],[]⟩
def bS:List Value:=[.int .i64 0, .int .i64 0, .int .i64 0, .string ByteArray.empty, .slice none 0 0, .slice none 0 0]
theorem nX(w:World):cT w bS jF:=⟨_,_,rfl,dU.nil _,dU.nil _⟩
def xN(w:World)(l:List UInt8)(e:Ending)(w':World):Prop:=
 ∃cs a b,e= .returned (.tuple #[.agg cs.toArray, .int .i64 b])∧cT w' cs a∧Fr ag w w'∧((b=0∧ly l=some a)∨(b=3∧ly l=none∧a=jF))
theorem AX(st:fC):(jX st).1.length≤st.1.length∧(jX st).2.1.length≤st.1.length:=by
 unfold jX aN;split;·simp
 ·split;·simp
  ·refine⟨?_,by simp⟩;simp only[cj];repeat' split
   all_goals simp
   all_goals omega
theorem Jj(st:fC):(dF st).1.length≤st.1.length∧(dF st).2.1.length≤st.1.length:=by
 unfold dF aN;split;·simp
 ·split;·simp
  ·refine⟨?_,by simp⟩;simp only[cj];repeat' split
   all_goals simp
   all_goals omega
theorem Ga(st:fC):(aN false cZ st).2.1.length≤st.1.length:=AF st
theorem sd(B:Nat)(f:B≤16777216):∀(n:Nat)(st:fC)(L M:List CV)(a:fC),lQ n st L=some (M,a)→st.1.length≤B→(∀c∈L,c.nm.owner.size≤16777216∧c.nm.text.size≤16777216)→(∀c∈M,c.nm.owner.size≤16777216∧c.nm.text.size≤16777216)∧a.1.length≤B
 |0,st,L,M,a,h,e,d=>by
  simp only[lQ,Option.some.injEq,Prod.mk.injEq]at h;obtain⟨rfl,rfl⟩:=h;exact⟨d,e⟩
 |n+1,st,L,M,a,h,e,d=>by
  rw[lQ]at h;by_cases c:(gz (jX st).1).2≠0;·rw[if_pos c]at h;cases h
  rw[if_neg c]at h;have g:=AX st;have i:=Ga (jX st).2;have j:=Jj (aN false cZ (jX st).2).2;refine sd B f n _ _ _ _ h (by omega) (fun x b=>?_);rcases List.mem_append.1 b with b|b;·exact d x b
  ·rw[List.mem_singleton]at b;subst b;have:=sN (jX st).1;simp only;omega
theorem AI(l:List UInt8):(iB l).2.1.length≤l.length∧(iB l).1.fF.size≤l.length:=by
 have a:∀(aO:Int)(st:fC),(aN 0 (aZ aO) st).2.1.length≤st.1.length:=fun aO st=>by
  unfold aN;split;·simp
  ·split;·simp
   ·simp
 have b:=a 1073741824 (l,0,0);have a2:=a 2 (jb l).2;have a3:=a 999999 (jU l).2;have a4:=AX (rdNum l).2;have c:(jb l).2.1.length≤l.length:=b;have d:(jU l).2.1.length≤(jb l).2.1.length:=a2;have e:(rdNum l).2.1.length≤(jU l).2.1.length:=a3;refine⟨?_,?_⟩;·show(iT l).2.1.length≤l.length;have:(iT l).2.1.length≤(rdNum l).2.1.length:=a4.2;omega
 ·show(⟨(iT l).1.toArray⟩:ByteArray).size≤l.length;have f:(iT l).1.length≤(rdNum l).2.1.length:=a4.1;have:(⟨(iT l).1.toArray⟩:ByteArray).size=(iT l).1.length:=by simp[ByteArray.size]
  omega
def Ju(a:fC)(k:Nat)(d Wr:List CV)(c b:Value)(st:fC):Prop:=
 (k=0∧d=[]∧Wr=[]∧c= .slice none 0 0∧b= .slice none 0 0∧st=a)∨(k=1∧jm a=some (d,st)∧Wr=[]∧b= .slice none 0 0)∨(k=2∧∃s1,jm a=some (d,s1)∧jm s1=some (Wr,st))
def Kn(w:World)(c:List Value)(g d g2:Nat)(S:Nat→Prop)(e:fC)(i:Value)(wr:World):Prop:=
 ∃(k:Nat)(f Wr:List CV)(a b:Value)(st:fC),k≤2∧i= .int .i64 (k:Int)∧ao wr d 46 (c++[a,b]).toArray∧ao wr g2 46 bS.toArray∧dU wr a f∧dU wr b Wr∧f.length≤1099511627776∧Wr.length≤1099511627776∧Ri w wr g S st∧Ju e k f Wr a b st
theorem BS(t c n:Int)(s:ByteArray):Tryz.prog.built 46 [(0, .agg [Value.int .i64 t, .int .i64 c, .int .i64 n, .string s].toArray)]=some ([Value.int .i64 t, .int .i64 c, .int .i64 n, .string s]++[Value.slice none 0 0, .slice none 0 0]).toArray:=by kernel_rfl
theorem fj:Tryz.prog.built 46 []=some bS.toArray:=by kernel_rfl
theorem zS(a b:Addr)(w:World):(Instr.index 128 (.agg #[.pointer (some a), .pointer (some b)]) (.int .i64 ((0:Nat):Int))).run Tryz.prog w= .ok (.pointer (some a)) w:=by kernel_rfl
theorem zT(a b:Addr)(w:World):(Instr.index 128 (.agg #[.pointer (some a), .pointer (some b)]) (.int .i64 ((1:Nat):Int))).run Tryz.prog w= .ok (.pointer (some b)) w:=by kernel_rfl
theorem zX:(Tryz.prog.info? 44).map (·.size)=some 1:=by kernel_rfl
theorem pB(cs:List Value)(h:cs.length=6):(Tryz.prog.info? 46).map (·.size)=some cs.toArray.size:=by rw[List.size_toArray,h];exact bT
theorem fU:bS.toArray.all (·.oneCell')=true:=by simp[bS,Value.oneCell']
theorem dU.kb{W W':World}{g:Nat}{t:TypeId}{cs:Array Value}{v:Value}{l:List CV}(h:dU W v l)(a:ao W g t cs)(e:Fr (fun k=>k=g) W W')(b:t≠177)(c:t≠174)(d:t≠119):dU W' v l:=
 h.cC e (fun k f=>by
  obtain rfl:k=g:=f;exact⟨fun x=>b (a.ty.one x),fun x=>c (a.ty.one x),fun x=>d (a.ty.one x)⟩)
theorem GR(a:List Value)(c b v:Value)(h:a.length=4):(a++[c,b]).set (4+0) v=a++[v,b]:=by
 rw[List.set_append_right _ _ (by omega),h];rfl
theorem GQ(a:List Value)(b c v:Value)(h:a.length=4):(a++[b,c]).set (4+1) v=a++[b,v]:=by
 rw[List.set_append_right _ _ (by omega),h];rfl
theorem EM(s:ByteArray)(w:World)(cw:eG w)(cy:s.size≤16777216):Calls Tryz.prog 20 #[.string s] w (xN w (aJ s)):=by
 obtain⟨l,bH⟩:∃l,aJ s=l:=⟨_,rfl⟩;have ba:Hid (l.length=s.size):=by rw[Hid,←bH];exact aL s
 have bU:Hid (aJ s=l):=bH;rw[bH];have cc:=af cw;have bQ:=af cy;have b7:Hid (∀W g S,Ri w W g S (l,0,0)→Calls Tryz.prog 70 #[.pointer (some ⟨g,0,none⟩)] W (qL w W g S (.agg (iB l).1.cells.toArray) (iB l).2)):=fun W g S h=>yQ w W g S l h;have N:Hid (ly l=match jm (iB l).2 with
  |none=>none
  |some (R,st)=>match jm st with
   |none=>none
   |some (W,st2)=>if gh st2=0∧gA ⟨(iB l).1,R,W⟩=true then some ⟨(iB l).1,R,W⟩else none):=rfl;have a8:=af (AI l);obtain⟨A,J⟩:∃O,ly l=O:=⟨_,rfl⟩;have y:Hid (∀cs a bg w',cT w' cs a→Fr ag w w'→((bg=0∧A=some a)∨(bg=3∧A=none∧a=jF))→xN w l (.returned (.tuple #[.agg cs.toArray, .int .i64 bg])) w'):=fun cs a bg w' U al bi=>⟨cs,a,bg,rfl,U,al,by rw[J];exact bi⟩;rw[J]at N;generalize xN w l=PP at*;generalize b2:(iB l).1=r at*;generalize(iB l).2=aO at*;clear cw cy bH J b2;have ad:Hid (r.cells.length=4):=rfl;have aP:Hid (Tryz.prog.built 46 [(0, .agg r.cells.toArray)]=some (r.cells++[Value.slice none 0 0, .slice none 0 0]).toArray):=BS _ _ _ _;have bO:Hid (∀m n:Value,m.oneCell'=true→n.oneCell'=true→(r.cells++[m,n]).toArray.all (·.oneCell')=true):=fun m n U al=>by simp only[eE.cells,List.cons_append,List.nil_append,List.all_toArray,List.all_cons,List.all_nil,U,al];rfl
 have a5:Hid (∀(W:World)(m n:Value)(R Wr:List CV),dU W m R→dU W n Wr→cT W (r.cells++[m,n]) ⟨r,R,Wr⟩):=fun W m n R Wr U al=>⟨m,n,rfl,U,al⟩;have bc:Hid (∀(W:World)(m n:Value)(R Wr:List CV),Fr ag w W→dU W m R→dU W n Wr→R.length≤1099511627776→Wr.length≤1099511627776→(∀c∈R,mB c)→(∀c∈Wr,mB c)→Calls Tryz.prog 60 #[.agg (r.cells++[m,n]).toArray] W (aK W (.bool (gA ⟨r,R,Wr⟩)))):=fun W m n R Wr f U al bi cD bY bj=>
  od ⟨r,R,Wr⟩ _ W (cc.out.aq f) ⟨m,n,rfl,U,al⟩ (by show r.fF.size≤1099511627776;have:=a8.out.2;have:=ba.out;have:=bQ.out;omega) bY bj bi cD;generalize r.cells=t at*;go_enter Tryz.func20,Tryz.ntmps20;go_wp2_with(refine ak rfl 46 rfl fH mJ bS.toArray rfl ?_);intro w1 n1;have b9:=af n1.fr;have cn:=af n1.aF;clear n1;generalize bs:w.heap.size=g2 at*;have HG2:=af bs;clear bs;obtain⟨cB,w2,bZ,ax,bx⟩:=sL w1 s;have bC:=af (b9.out.trans ax);have co:=af (cn.out.fr ax (fun x=>x));have ci:=af bx;clear ax bx cn b9;generalize w1.heap.size=gc at*;go_wp2_with fail;refine(oq _ _ cB l _ _ (by have h:=ci.out;rw[bU.out]at h;exact h) (by have:=bQ.out;omega)).mono ?_;rintro e cG⟨g,S,rfl,bz,f3,b0,ar⟩;have bV:Hid (Ri w cG g S (l,0,0)):=⟨bC.out.trans f3,bz,by have:=bC.out.size;omega,fun k bt=>⟨by have:=(ar k bt).1;have:=bC.out.size;omega,(ar k bt).2⟩⟩;have cp:=af (co.out.fr f3 (fun x=>x));clear bz f3 b0 ar bZ ci co bC;go_wp2_with fail;refine(b7.out _ g S bV.out).mono ?_;rintro e bA⟨rfl,cz,f4⟩;have bW:=af cz;have bX:=af (cp.out.only bV.out f4 (by decide));clear cz f4 bV cp b7;go_wp2_with(first|(refine wpList_buildTo rfl 46 #[(0, .tmp 13)] rfl (t++[Value.slice none 0 0, .slice none 0 0]).toArray (by simp only[List.map_toArray,List.map_cons,List.map_nil];exact aP.out) ?_)|(refine ak rfl 46 rfl fH mJ bS.toArray rfl ?_));intro cH n5;have bd:=af n5;clear n5;generalize aD:bA.heap.size=o at*;have b5:Hid (ao cH o 46 bS.toArray):=by have h:=bd.out.aF;rw[aD]at h;exact h
 have ac:Hid (bA.heap.size≤o):=by rw[Hid,aD];exact Nat.le_refl _
 clear aD;have d:Hid (∀m n:Value,(t++[m,n]).length=6):=fun m n=>by rw[aY,ad.out];rfl
 have C:Hid (g2<o):=by have:=bX.out.lt;have:=ac.out;simp only[Hid];omega
 go_wp2_with(refine ai rfl 46 (.tmp 5) _ rfl o (t++[Value.slice none 0 0, .slice none 0 0]).toArray rfl rfl _ _ b5.out (pB _ (d.out _ _)) (by rw[List.size_toArray,List.size_toArray,d.out];rfl) (bO.out _ _ rfl rfl) ?_);intro b3 ct f6;have b6:=af ct;have cj:=af (bW.out.later bd.out.fr);have cq:=af ((bX.out.fr bd.out.fr (fun x=>x)).fr f6 (fun e=>by have aN:g2=o:=e;have:=C.out;omega));have ck:Hid (Ri w b3 g S aO):=bW.out.uX cj.out f6 ac.out;have a9:Hid (Kn w t g o g2 S aO (.int .i64 0) b3):=⟨0,[],[],_,_,aO,by omega,rfl,b6.out,cq.out,dU.nil _,dU.nil _,by simp,by simp,ck.out, .inl ⟨rfl,rfl,rfl,rfl,rfl,rfl⟩⟩;have cA:Hid (bA.heap.size≤b3.heap.size):=Nat.le_trans bd.out.fr.size f6.size;clear ct f6 bd b5 cj bX b6 cq ck aP;go_wp2;go_loopw[18](fun i wr=>Kn w t g o g2 S aO i wr)(fun i _=>2-(intOf i).toNat);case atStart=>exact a9.out
 case round=>
  obtain⟨k,R,Wr,m,n,st,bt,rfl,cu,cx,bq,br,bv,bw,F,bo⟩:=hrel;have aH:=af cu;have bf:=af cx;have aI:=af bq;have aM:=af br;have cg:=af bv;have ch:=af bw;have I:=af F;have ST:=af bo;clear cu cx bq br bv bw F bo a9;by_cases cE:k<2
  ·have t0:decide ((k:Int)<2)=true:=dJ (by omega);have a7:Hid (∀W,(Instr.index 128 (.agg #[.pointer (some ⟨o,4,none⟩), .pointer (some ⟨o,5,none⟩)]) (.int .i64 (k:Int))).run Tryz.prog W= .ok (.pointer (some ⟨o,4+k,none⟩)) W):=fun W=>by
    by_cases Z:k=0;·subst Z;exact zS _ _ W
    ·obtain rfl:k=1:=by omega
     exact zT _ _ W
   have am:=a7.out;have bK:Hid (Calls Tryz.prog 71 #[.pointer (some ⟨g,0,none⟩)] wr (Ld w wr g S (jm st))):=se w wr g S st I.out cc.out;obtain⟨f4,ay⟩:∃f,f=4+k:=⟨_,rfl⟩;have Q:=af ay;rw[←ay]at am;clear ay a7;go_wp2_with fail;refine bK.out.mono ?_;rintro e cI⟨v,b,rfl,f7,av⟩;have aa:=af (aH.out.only I.out f7 (by decide));have be:=af (bf.out.only I.out f7 (by decide));have aU:=af (aI.out.only I.out f7);have aV:=af (aM.out.only I.out f7);rcases av with⟨rfl,L,aE,J,bF,bl,bn,_⟩|⟨rfl,J,rfl,_,bk⟩
   ·obtain⟨bB,bI,cv,rfl,bF⟩:=bF.form;have cb:=af J;have aR:=af bF;have cf:=af bl;have cl:=af bn;clear J bF bl bn f7 am bK aH bf aI aM I;go_wp2_with(refine aS rfl 44 (.tmp 27) (.tmp 25) rfl o f4 (.slice bB bI cv) rfl rfl rfl zX _ _ ((t++[m,n]).toArray.setIfInBounds f4 (.slice bB bI cv)) aa.out (by rw[List.size_toArray,d.out];have:=Q.out;omega) rfl ?_);intro b4 b8 f8;have bJ:=af b8;have H:=af (be.out.fr f8 (fun e=>by have aN:g2=o:=e;have:=C.out;omega));have bL:=af (aU.out.kb aa.out f8 (by decide) (by decide) (by decide));have bM:=af (aV.out.kb aa.out f8 (by decide) (by decide) (by decide));have aT:=af (aR.out.kb aa.out f8 (by decide) (by decide) (by decide));have cm:Hid (Ri w b4 g S aE):=bW.out.uX cl.out f8 ac.out;clear b8 f8 aa be aU aV aR cl;go_wp2;go_roundw;case rel=>
     by_cases Z:k=0
     ·subst Z;refine⟨1,L,Wr, .slice bB bI cv,n,aE,by omega,rfl,?_,H.out,aT.out,bM.out,cf.out,ch.out,cm.out, .inr (.inl ⟨rfl,?_⟩)⟩
      ·have h:=bJ.out;rw[Q.out]at h;try rw[List.setIfInBounds_toArray]at h
       rw[GR _ _ _ _ ad.out]at h;exact h
      ·rcases ST.out with⟨_,_,bi,_,bY,bj⟩|⟨h,_⟩|⟨h,_⟩;·subst bj;exact⟨cb.out,bi,bY⟩
       ·cases h
       ·cases h
     ·obtain rfl:k=1:=by omega
      refine⟨2,R,L,m, .slice bB bI cv,aE,by omega,rfl,?_,H.out,bL.out,aT.out,cg.out,cf.out,cm.out, .inr (.inr ⟨rfl,st,?_⟩)⟩
      ·have h:=bJ.out;rw[Q.out]at h;try rw[List.setIfInBounds_toArray]at h
       rw[GQ _ _ _ _ ad.out]at h;exact h
      ·rcases ST.out with⟨h,_⟩|⟨_,h,_⟩|⟨h,_⟩;·cases h
       ·exact⟨h,cb.out⟩
       ·cases h
    case measure=>simp[intOf];omega
   ·have G:Hid (A=none):=by
     rw[Hid,N.out];rcases ST.out with⟨_,_,_,_,_,bj⟩|⟨_,h,_⟩|⟨h,_⟩;·subst bj;rw[J]
     ·rw[h];simp only;rw[J]
     ·omega
    have ca:=af bk;clear J bk f7 am bK aH bf aI aM I;go_wp2_with(first|(refine wpList_buildTo rfl 46 #[] rfl bS.toArray fj ?_)|(refine ai rfl 46 (.tmp 2) _ rfl g2 bS.toArray rfl rfl _ _ be.out bT rfl fU ?_)|(refine aS rfl 44 (.tmp 27) (.tmp 25) rfl o f4 (.slice none 0 0) rfl rfl rfl zX _ _ ((t++[m,n]).toArray.setIfInBounds f4 (.slice none 0 0)) aa.out (by rw[List.size_toArray,d.out];have:=Q.out;omega) rfl ?_));intro b4 b8 f8;have H:=af (be.out.fr f8 (fun e=>by have aN:g2=o:=e;have:=C.out;omega));have aZ:Hid (Fr ag w b4):=ca.out.aw f8 (fun i b1 e=>by have aN:i=o:=e;have:=C.out;have:=HG2.out;omega);clear b8 f8 aa be ca;go_wp2_with(first|(refine wpList_buildTo rfl 46 #[] rfl bS.toArray fj ?_)|(refine ai rfl 46 (.tmp 2) _ rfl g2 bS.toArray rfl rfl _ _ H.out bT rfl fU ?_));intro E Y T;have aQ:=af Y;have a0:Hid (Fr ag w E):=aZ.out.aw T (fun i b1 e=>by have aN:i=g2:=e;have:=HG2.out;omega);have bb:=af (y.out bS jF 3 E (nX E) a0.out (.inr ⟨rfl,G.out,rfl⟩));clear Y T H aZ;go_wp2;exact bodyPost_ret (aX (fn:=Tryz.f20) (p:=2) (q:=3) (ty:=46) Tryz.results20 _ E _ 46 bS.toArray (0,0) _ rfl aQ.out Tryz.underlying46 rfl bT _ rfl) rfl bb.out
  ·obtain rfl:k=2:=by omega
   obtain⟨s1,an,ap⟩:∃s1,jm aO=some (R,s1)∧jm s1=some (Wr,st):=by
    rcases ST.out with⟨h,_⟩|⟨h,_⟩|⟨_,h⟩;·cases h
    ·cases h
    ·exact h
   have ae:Hid (A=if gh st=0∧gA ⟨r,R,Wr⟩=true then some ⟨r,R,Wr⟩else none):=by
    rw[Hid,N.out,an];simp only;rw[ap]
   have a6:Hid ((∀c∈R,mB c)∧∀c∈Wr,mB c):=by
    have bE:aO.1.length≤l.length:=a8.out.1;have bu:l.length≤16777216:=by have:=ba.out;have:=bQ.out;omega
    obtain⟨cr,a2⟩:=sd _ bu _ _ _ _ _ an (Nat.le_trans (lO _ _) bE) (fun c V=>by cases V);obtain⟨a3,_⟩:=sd _ bu _ _ _ _ _ ap (Nat.le_trans (lO _ _) a2) (fun c V=>by cases V);exact⟨fun c V=>⟨by have:=cr c V;omega,by have:=cr c V;omega⟩,fun c V=>⟨by have:=a3 c V;omega,by have:=a3 c V;omega⟩⟩
   have ab:Hid (∀W,Fr ag wr W→Calls Tryz.prog 72 #[.pointer (some ⟨g,0,none⟩)] W (bG W (.int .i64 (gh st)))):=fun W f=>(I.out.later f).close;clear an ap N ST;have aj:Hid (Fr ag w wr):=I.out.fr;have a4:=af (a5.out wr m n R Wr aI.out aM.out);obtain⟨ce,bp⟩:∃ce,gh st=ce:=⟨_,rfl⟩;rw[bp]at ae ab;clear bp;have aW:Hid (∀W,Fr ag wr W→Calls Tryz.prog 60 #[.agg (t++[m,n]).toArray] W (aK W (.bool (gA ⟨r,R,Wr⟩)))):=fun W f=>bc.out W m n R Wr (aj.out.trans f) (aI.out.aq f) (aM.out.aq f) cg.out ch.out a6.out.1 a6.out.2;generalize gA ⟨r,R,Wr⟩=ok at*;clear bc a5;obtain⟨P,bm⟩:∃P,(ce !=0)=P:=⟨_,rfl⟩;have ah:=af bm;clear bm;have M:Hid (∀W,Fr ag wr W→∀j x,(t++[m,n])[j]? =some x→W.cell? ((⟨o,0,none⟩:Addr).add j)=some x):=fun W f j x cF=>by
    rw[Addr.add_mid,Nat.zero_add,(aH.out.fr f (fun x=>x)).cell j,bD];exact cF
   have cd:Hid ((Tryz.prog.info? 46).map (·.size)=some (t++[m,n]).length):=by rw[Hid,d.out];exact bT
   obtain⟨B,bE⟩:∃z:Bool,(bif P then true else(!ok))=z:=⟨_,rfl⟩;have HB:=af bE;clear bE;go_upto_region 11 with fail;refine gZ 8 [.pointer (some ⟨g,0,none⟩), .int .i64 ce, .bool P, .bool P,bif P then undef else .agg (t++[m,n]).toArray,bif P then undef else .bool ok,bif P then undef else .bool (!ok), .bool B] ?zC ?_;case zC=>
    refine⟨?zK,?zD,?zE,?zF,?zG,?zH,?zI,?zJ,trivial⟩;all_goals intro u w' K F
    all_goals simp only[z1,z2,z3,z4,au,Act.put,z5,z6,z7,Nat.reduceAdd,Nat.zero_add]
    case zD=>
     simp only[show u 0=_ from F 0];refine aC ?_;go_simp;refine(ab.out _ K).mono ?_;rintro e bA⟨rfl,rfl⟩;exact aG
    case zE=>
     simp only[show u 1=_ from F 1];refine aC ?_;have t1:=ah.out;go_simp;exact aG
    case' zF=>simp only[show u 2=_ from F 2]
    case zG=>
     simp only[show u 3=_ from F 3];cases P;case true=>exact bR
     refine aC ?_;exact az _ _ rfl ⟨o,0,none⟩ rfl (t++[m,n]) _ (M.out _ K) Tryz.underlying46 rfl cd.out aG
    case zH=>
     simp only[show u 4=_ from F 4,show u 3=_ from F 3];cases P;case true=>exact bR
     refine aC ?_;go_simp;refine(aW.out _ K).mono ?_;rintro e bA⟨rfl,f4⟩;exact⟨rfl,f4⟩
    case' zI=>
     simp only[show u 5=_ from F 5,show u 3=_ from F 3];cases P;case true=>exact bR
    case zJ=>
     simp only[show u 3=_ from F 3,show u 6=_ from F 6];cases P<;>exact aC (by go_simp;exact⟨by rw[←HB.out];rfl,aA⟩)
    all_goals
     try simp only[cond]
     refine aC ?_;go_simp;exact aG
   intro w' K;simp only[z1,z2,z3,z4,au,Act.put,z5,z6,z7,z8,z9,iO,iP,Nat.reduceAdd,Nat.zero_add];have D:Hid (A=if B=false then some ⟨r,R,Wr⟩else none):=by
    rw[Hid,ae.out,←HB.out];have Z:(ce=0)↔P=false:=by rw[←ah.out,bne_eq_false_iff_eq]
    cases bm:P
    ·rw[bm]at Z;have U:ce=0:=Z.2 rfl;cases ok;·rw[if_neg (fun h=>by cases h.2)];rfl
     ·rw[if_pos ⟨U,rfl⟩];rfl
    ·rw[bm]at Z;rw[if_neg (fun h=>by cases(Z.1 h.1))];rfl
   have aZ:=af (aj.out.trans K);have H:=af (bf.out.fr K (fun x=>x));have bJ:=af (aH.out.fr K (fun x=>x));have a1:=af (a4.out.aq K);have M:=af (M.out _ K);clear K aW aj bf aH a4 aI aM I ab ae HB ah;cases X:B;case true=>
    have G:Hid (A=none):=by rw[Hid,D.out,X];rfl
    clear X D;go_wp2_with(first|(refine wpList_buildTo rfl 46 #[] rfl bS.toArray fj ?_)|(refine ai rfl 46 (.tmp 2) _ rfl g2 bS.toArray rfl rfl _ _ H.out bT rfl fU ?_));intro E Y T;have aQ:=af Y;have a0:Hid (Fr ag w E):=aZ.out.aw T (fun i b1 e=>by have aN:i=g2:=e;have:=HG2.out;omega);have bb:=af (y.out bS jF 3 E (nX E) a0.out (.inr ⟨rfl,G.out,rfl⟩));clear Y T;go_wp2;exact bodyPost_ret (aX (fn:=Tryz.f20) (p:=2) (q:=3) (ty:=46) Tryz.results20 _ E _ 46 bS.toArray (0,0) _ rfl aQ.out Tryz.underlying46 rfl bT _ rfl) rfl bb.out
   case false=>
    have G:Hid (A=some ⟨r,R,Wr⟩):=by rw[Hid,D.out,X];rfl
    have bP:Hid ((t++[m,n]).toArray.all (·.oneCell')=true):=ActV.one a1.out;clear X D;go_wp2_with(refine aB rfl 46 (.tmp 5) rfl ⟨o,0,none⟩ rfl (t++[m,n]) _ ?zA Tryz.underlying46 rfl cd.out (bh.go ?zB));case zA=>exact M.out
    unfold bh;go_wp2_with(refine ai rfl 46 (.tmp 2) _ rfl g2 (t++[m,n]).toArray rfl rfl _ _ H.out (pB _ (d.out _ _)) (by rw[List.size_toArray,List.size_toArray,d.out];rfl) bP.out ?_);intro E Y T;have aQ:=af Y;have a0:Hid (Fr ag w E):=aZ.out.aw T (fun i b1 e=>by have aN:i=g2:=e;have:=HG2.out;omega);have bN:Hid (cT E (t++[m,n]) ⟨r,R,Wr⟩):=a1.out.cC T (fun k bt=>by
     obtain rfl:k=g2:=bt;exact⟨fun x=>absurd (x.one H.out.ty) (by decide),fun x=>absurd (x.one H.out.ty) (by decide),fun x=>absurd (x.one H.out.ty) (by decide)⟩);have bb:=af (y.out _ _ 0 E bN.out a0.out (.inl ⟨rfl,G.out⟩));clear Y T;go_wp2;exact bodyPost_ret (aX (fn:=Tryz.f20) (p:=2) (q:=3) (ty:=46) Tryz.results20 _ E _ 46 (t++[m,n]).toArray (0,0) _ rfl aQ.out Tryz.underlying46 rfl (pB _ (d.out _ _)) _ rfl) rfl bb.out
end Go.Proofs.YtphjagkehiklkaaGreatDoor
