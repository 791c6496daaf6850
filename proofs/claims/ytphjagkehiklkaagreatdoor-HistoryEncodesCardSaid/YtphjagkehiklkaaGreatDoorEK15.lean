/- Texts. -/
import Derived.Test.YtphjagkehiklkaaGreatDoorEK14
set_option linter.unusedVariables false
set_option linter.unusedSimpArgs false
set_option maxRecDepth 100000
set_option maxHeartbeats 8000000
namespace Go.Proofs.YtphjagkehiklkaaGreatDoor.Lt
open Proofs.Tryz Go.RowKit
def aJ(ds:List (List UInt8)):Nat->Nat->List UInt8
 |0,i=>ds.getD i []
 |l+1,i=>cS (aJ ds l (2*i)) (aJ ds l (2*i+1))
theorem pM(ds:List (List UInt8)):∀l i,(i+1)*2^l<=ds.length->2^l<=1048576->aJ ds l i=cY ((ds.drop (i*2^l)).take (2^l))
 |0,i,h,_=>by
  have d:i<ds.length:=by omega
  simp only[Nat.pow_zero,Nat.mul_one,aJ];rw[List.drop_eq_getElem_cons d,List.take_succ_cons,List.take_zero,q9,List.getD_eq_getElem?_getD,List.getElem?_eq_getElem d];rfl
 |l+1,i,h,k=>by
  have m:1<=2^l:=Nat.one_le_two_pow;have b:2^(l+1)=2*2^l:=by rw[Nat.pow_succ];omega
  have c:i*2^(l+1)=2*i*2^l:=by rw[b,Nat.mul_comm 2 i,Nat.mul_assoc]
  have e:(i+1)*2^(l+1)=(2*i+1+1)*2^l:=by rw[b,<-Nat.mul_assoc];congr 1;omega
  have a:(2*i+1)*2^l=2*i*2^l+2^l:=by rw[Nat.add_mul,Nat.one_mul]
  have j:(2*i+1+1)*2^l=2*i*2^l+2^l+2^l:=by rw[Nat.add_mul,Nat.one_mul,a]
  rw[e]at h;have f:((ds.drop (i*2^(l+1))).take (2^(l+1))).length=2^(l+1):=by
   rw[List.length_take,List.length_drop];omega
  have g:=yt (2^(l+1)) l (by omega) (by omega) (by omega);rw[nd _ _ f (by omega) (by omega),<-g,aJ,pM ds l (2*i) (by rw[a];omega) (by omega),pM ds l (2*i+1) h (by omega)];congr 2;·rw[List.take_take,c,show min (2^l) (2^(l+1))=2^l by omega]
  ·rw[List.drop_take,List.drop_drop,c,a,b,show 2*2^l-2^l=2^l by omega]
theorem pL(ds:List (List UInt8))(d:List UInt8):∀l i,(i+1)*2^l<=ds.length->aJ (ds++[d]) l i=aJ ds l i
 |0,i,h=>by
  have b:i<ds.length:=by omega
  simp only[aJ];rw[List.getD_eq_getElem?_getD,List.getD_eq_getElem?_getD,List.getElem?_append_left b]
 |l+1,i,h=>by
  have c:2^(l+1)=2*2^l:=by rw[Nat.pow_succ];omega
  have a:(i+1)*2^(l+1)=(2*i+1+1)*2^l:=by rw[c,<-Nat.mul_assoc];congr 1;omega
  have e:(2*i+1+1)*2^l=(2*i+1)*2^l+2^l:=by rw[Nat.add_mul,Nat.one_mul]
  rw[a]at h;rw[aJ,aJ,pL ds d l (2*i) (by omega),pL ds d l (2*i+1) h]
theorem ef(ds:List (List UInt8))(he:∀d∈ds,d.length=32)(l i:Nat)(h:(i+1)*2^l<=ds.length):(aJ ds l i).length=32:=by
 cases l with
 |zero=>
  have a:i<ds.length:=by omega
  simp only[aJ];rw[List.getD_eq_getElem?_getD,List.getElem?_eq_getElem a];exact he _ (List.getElem_mem a)
 |succ l=>exact eT _ _
def gS(l i:Nat):Value:= .agg #[.int .i64 (l:Int), .int .i64 (i:Int)]
theorem yq{l i a i':Nat}(h:gS l i=gS a i'):l=a/\i=i':=by
 unfold gS at h;simp only[Value.agg.injEq,Array.mk.injEq,List.cons.injEq,Value.int.injEq,true_and,and_true]at h;omega
theorem pf(e:Bool)(l i:Nat)(w:World):(Instr.checkKey e 10000 212 (gS l i)).run prog w= .ok () w:=by kernel_rfl
theorem Bd{P:Program}(w:World)(d:Nat)(xs c:Array Value)(f1 f2:Field)(e g f h:Value)(a b:Bool)(k:f1.name≠ "_")(l:f2.name≠ "_")
  (m:(part f1.type xs f1.offset).run P w= .ok e w)(o:(part f1.type c f1.offset).run P w= .ok g w)(n:(part f2.type xs f2.offset).run P w= .ok f w)(p:(part f2.type c f2.offset).run P w= .ok h w)
  (i:(Op.equalIn d f1.type e g).run P w= .ok a w)(j:(Op.equalIn d f2.type f h).run P w= .ok b w):(Op.eqFields d xs c [f1,f2]).run P w= .ok (a&&b) w:=by
 simp only[Op.eqFields,k,l,ne_eq,not_false_eq_true,if_true,Sem.run_bind,m,o,Result.andThen_ok,i];cases a;·simp
 ·simp only[Bool.not_true,Bool.false_eq_true,if_false,Sem.run_bind,n,p,Result.andThen_ok,j,Bool.true_and];cases b;·simp
  ·simp
theorem zO:(prog.fieldsOf 212).toList.map (λf=>(f.name,f.type,f.offset))=[("level",3,0),("index",3,1)]:=by kernel_rfl
theorem qp(a b:Value)(w:World):(part 3 #[a,b] 0).run prog w= .ok a w/\(part 3 #[a,b] 1).run prog w= .ok b w:=by
 have h:(isAgg 3).run prog w= .ok false w:=by kernel_rfl
 unfold part;constructor<;>simp[Sem.run_bind,h]
theorem qO(l i d i':Nat)(w:World):(Op.equal 212 (gS l i) (gS d i')).run prog w= .ok (decide (l=d)&&decide (i=i')) w:=by
 have k:prog.underlying 212=some (.struct (prog.fieldsOf 212)):=by kernel_rfl
 have j:prog.stoodInHeld 212=false:=by kernel_rfl
 refine(run_equalIn_agg w 9999 _ _ _ k j).trans ?_;have c:=zO;generalize(prog.fieldsOf 212).toList=h at c;rcases h with _|⟨f1,_|⟨f2,_|⟨f3,fr⟩⟩⟩;·cases c
 ·simp at c
 ·simp only[List.map_cons,List.map_nil,List.cons.injEq,Prod.mk.injEq,and_true]at c;obtain⟨⟨n1,t1,f⟩,m,t2,g⟩:=c;have n:f1.name≠ "_":=by rw[n1];decide
  have o:f2.name≠ "_":=by rw[m];decide
  have e:∀a b:Nat,(((a:Int))==((b:Int)))=decide (a=b):=λa b=>by
   rw[Bool.eq_iff_iff];simp;omega
  refine Bd w 9999 _ _ f1 f2 (.int .i64 (l:Int)) (.int .i64 (d:Int)) (.int .i64 (i:Int)) (.int .i64 (i':Int)) _ _ n o ?_ ?_ ?_ ?_ ?_ ?_;·rw[t1,f];exact(qp _ _ w).1
  ·rw[t1,f];exact(qp _ _ w).1
  ·rw[t2,g];exact(qp _ _ w).2
  ·rw[t2,g];exact(qp _ _ w).2
  ·rw[t1,<-e];exact run_equalIn_int w 9998 _ .i64 .i64 _ _ underlying3
  ·rw[t2,<-e];exact run_equalIn_int w 9998 _ .i64 .i64 _ _ underlying3
 ·simp at c
def rq(ds:List (List UInt8))(C:Nat->Nat->Prop)(e:MapEntry):Prop:=∃l i,e.key=gS l i/\e.val=bj (aJ ds l i)/\C l i
def pb(es:Array MapEntry)(clock:Nat):Prop:=(∀e∈es.toList,e.born<clock)/\(es.toList.map (·.born)).Nodup/\es.toList.Pairwise (λx y=>x.key≠y.key)
theorem pb.empty(clock:Nat):pb #[] clock:=⟨λe he=>(by simp at he),by simp,by simp⟩
theorem pb.push{es:Array MapEntry}{clock:Nat}(h:pb es clock)(k v:Value)(g:∀e∈es.toList,e.key≠k):pb (es.push {key:=k,val:=v,born:=clock}) (clock+1):=by
 obtain⟨c,d,f⟩:=h;refine⟨λe he=>?_,?_,?_⟩
 ·rw[Array.toList_push,List.mem_append]at he;rcases he with he|he;·have:=c e he;omega
  ·rw[List.mem_singleton]at he;subst he;exact Nat.lt_succ_self _
 ·rw[Array.toList_push,List.map_append,List.nodup_append];refine⟨d,by simp,λx b y a=>?_⟩;obtain⟨e,he,rfl⟩:=List.mem_map.1 b;simp only[List.map_cons,List.map_nil,List.mem_singleton]at a;subst a;exact Nat.ne_of_lt (c e he)
 ·rw[Array.toList_push,List.pairwise_append];refine⟨f,by simp,λx b y a=>?_⟩;rw[List.mem_singleton]at a;subst a;exact g x b
def dY(w:World)(b:Nat)(ds:List (List UInt8))(C:Nat->Nat->Prop):Prop:=
 ∃es clock,w.heap[b]? =some (.map es clock)/\(∀e∈es.toList,rq ds C e)/\(∀l i,C l i->∃e∈es.toList,e.key=gS l i)/\pb es clock
theorem dY.fr{w w':World}{T:Nat->Prop}{b:Nat}{ds:List (List UInt8)}{C:Nat->Nat->Prop}(h:dY w b ds C)(g:Fr T w w')(f:¬T b):dY w' b ds C:=by
 obtain⟨es,clock,a,c,d,e⟩:=h;exact⟨es,clock,(g.block b (Array.getElem?_eq_some_iff.1 a).1 f).trans a,c,d,e⟩
theorem dY.lt{w:World}{b:Nat}{ds:List (List UInt8)}{C:Nat->Nat->Prop}(h:dY w b ds C):b<w.heap.size:=by
 obtain⟨es,clock,a,_⟩:=h;exact(Array.getElem?_eq_some_iff.1 a).1
theorem dY.more{w:World}{b:Nat}{ds:List (List UInt8)}{C:Nat->Nat->Prop}(h:dY w b ds C)(d:List UInt8)(k:∀l i,C l i->(i+1)*2^l<=ds.length):dY w b (ds++[d]) C:=by
 obtain⟨es,clock,c,f,g,j⟩:=h;refine⟨es,clock,c,λe he=>?_,g,j⟩;obtain⟨l,i,m,n,a⟩:=f e he;exact⟨l,i,m,by rw[n,pL ds d l i (k l i a)],a⟩
theorem sP(ds:List (List UInt8))(C:Nat->Nat->Prop)(l i:Nat)(w:World):∀(es:List MapEntry)(k:Nat),(∀e∈es,rq ds C e)->(∃e∈es,e.key=gS l i)->
  ∃j,(Instr.findAsking 212 (gS l i) es k).run prog w= .ok (some (j,bj (aJ ds l i))) w
 |[],_,_,h=>by obtain⟨e,he,_⟩:=h;cases he
 |e::es,k,d,h=>by
  obtain⟨o,i',n,u,v⟩:=d e (by simp);by_cases f:l=o/\i=i';·obtain⟨rfl,rfl⟩:=f;refine⟨k,?_⟩;simp only[Instr.findAsking,Sem.run_bind,n,qO,Result.andThen_ok,decide_true,Bool.and_self,if_true,u,Sem.run_pure]
  ·obtain⟨q,c,g⟩:=h;have m:(decide (l=o)&&decide (i=i'))=false:=by
    by_cases p:l=o;·rw[ct (show¬i=i' fromλr=>f ⟨p,r⟩),Bool.and_false]
    ·rw[decide_eq_false p,Bool.false_and]
   rcases List.mem_cons.1 c with rfl|c;·rw[n]at g;obtain⟨a,b⟩:=yq g;exact absurd ⟨a.symm,b.symm⟩ f
   ·obtain⟨j,s⟩:=sP ds C l i w es (k+1) (λx t=>d x (by simp[t])) ⟨q,c,g⟩;refine⟨j,?_⟩;simp only[Instr.findAsking,Sem.run_bind,n,qO,Result.andThen_ok,m,Bool.false_eq_true,if_false];exact s
theorem vU(ds:List (List UInt8))(C:Nat->Nat->Prop)(l i:Nat)(w:World)(f:¬C l i):∀(es:List MapEntry)(k:Nat),(∀e∈es,rq ds C e)->
  (Instr.findAsking 212 (gS l i) es k).run prog w= .ok none w
 |[],_,_=>by simp[Instr.findAsking]
 |e::es,k,a=>by
  obtain⟨g,i',j,n,m⟩:=a e (by simp);have b:(decide (l=g)&&decide (i=i'))=false:=by
   by_cases c:l=g
   ·by_cases d:i=i';·subst c d;exact absurd m f
    ·rw[decide_eq_false d,Bool.and_false]
   ·rw[decide_eq_false c,Bool.false_and]
  simp only[Instr.findAsking,Sem.run_bind,j,qO,Result.andThen_ok,b,Bool.false_eq_true,if_false];exact vU ds C l i w f es (k+1) (λx h=>a x (by simp[h]))
theorem IV:∃a,prog.underlying 212=some (.struct a):=⟨_,underlying212⟩
theorem qz(k:Value)(es:List MapEntry)(w:World)(r:Option (Nat×Value))(h:(Instr.findAsking 212 k es 0).run prog w= .ok r w):(Instr.findKey 212 k es).run prog w= .ok r w:=by
 obtain⟨a,hu⟩:=IV;unfold Instr.findKey;simp only[Sem.run_bind,run_underlying hu,Result.andThen_ok];cases es with
 |nil=>
  simp only[Instr.findAsking,Sem.run_pure]at h;simpa[Instr.findNow]using h
 |cons e es=>
  simp only[Instr.findNow,Instr.sameNow];exact h
theorem Cv:prog.underlying 178=some (.map 212 38):=underlying178
theorem tf{w:World}{b:Nat}{ds:List (List UInt8)}{C:Nat->Nat->Prop}(h:dY w b ds C)(l i:Nat)(e:C l i):(Instr.lookup 178 (.map (some b)) (gS l i) false).run prog w= .ok (bj (aJ ds l i)) w:=by
 obtain⟨es,clock,a,c,d,_⟩:=h;obtain⟨j,f⟩:=sP ds C l i w es.toList 0 c (d l i e);unfold Instr.lookup;simp only[Sem.run_bind,run_underlying Cv,Result.andThen_ok,MapKept.run_getObj_map a,Sem.run_pure,pf,qz _ _ _ _ f,Bool.false_eq_true,if_false]
theorem th{w:World}{b:Nat}{ds:List (List UInt8)}{C:Nat->Nat->Prop}(h:dY w b ds C)(l i:Nat)(o:¬C l i)(v:Value)(t:v=bj (aJ ds l i))(C':Nat->Nat->Prop)(c:∀a i',C' a i'↔C a i'\/(a=l/\i'=i)):
  ∃w',(Instr.mapUpdate 178 (.map (some b)) (gS l i) v).run prog w= .ok () w'/\dY w' b ds C'/\Fr (λk=>k=b) w w':=by
 obtain⟨es,clock,f,g,p,q⟩:=h;have s:=vU ds C l i w o es.toList 0 g;refine⟨w.putObj b (.map (es.push {key:=gS l i,val:=v,born:=clock}) (clock+1)),?_,?_,?_⟩;·unfold Instr.mapUpdate;simp only[Sem.run_bind,run_underlying Cv,Result.andThen_ok,MapKept.run_getObj_map f,pf,qz _ _ _ _ s,MapKept.run_setObj_map _ f];rfl
 ·have r:=(Array.getElem?_eq_some_iff.1 f).1;refine⟨es.push {key:=gS l i,val:=v,born:=clock},clock+1,?_,λe he=>?_,λa i' j=>?_,q.push _ _ λe he d=>?_⟩;·show(w.heap.setIfInBounds b _)[b]? =_;rw[Array.getElem?_setIfInBounds_self_of_lt r]
  ·rw[Array.toList_push,List.mem_append]at he;rcases he with he|he;·obtain⟨a,i',m,u,n⟩:=g e he;exact⟨a,i',m,u,(c _ _).2 (.inl n)⟩
   ·simp only[List.mem_singleton]at he;subst he;exact⟨l,i,rfl,t,(c _ _).2 (.inr ⟨rfl,rfl⟩)⟩
  ·rw[Array.toList_push];rcases(c _ _).1 j with j|⟨rfl,rfl⟩;·obtain⟨e,he,d⟩:=p a i' j;exact⟨e,List.mem_append_left _ he,d⟩
   ·exact⟨_,List.mem_append_right _ (List.mem_singleton.2 rfl),rfl⟩
  ·obtain⟨a,i',m,_,n⟩:=g e he;rw[m]at d;obtain⟨rfl,rfl⟩:=yq d;exact o n
 ·exact(Fr.grown (grownBy_putObj' w b _)).mono (λk _ d=>by simpa using d)
end Go.Proofs.YtphjagkehiklkaaGreatDoor.Lt
namespace Go.Proofs.YtphjagkehiklkaaGreatDoor.Lt
open Proofs.Tryz Go.RowKit
structure eU(w:World)(p:Nat)(A:Option Addr)(n c:Nat)(mb:Option Nat)(ds:List (List UInt8))(C:Nat->Nat->Prop):Prop where
 aF:aq w p 180 #[.slice A n c, .map mb]
 row:w.ownsRow 0 38 32 (.slice A n c) n (ds.flatMap aC)
 len:ds.length=n
 each:∀d∈ds,d.length=32
 parts:(∃b,mb=some b/\dY w b ds C)\/(mb=none/\∀l i,¬C l i)
theorem eU.ao{w w':World}{p:Nat}{A:Option Addr}{n c:Nat}{mb:Option Nat}{ds:List (List UInt8)}{C:Nat->Nat->Prop}(h:eU w p A n c mb ds C)(a:Fr Nothing w w'):eU w' p A n c mb ds C:=
 ⟨h.aF.fr a id,aP h.row a (λ_ _ x=>x),h.len,h.each,by
  rcases h.parts with⟨b,e,f⟩|d;·exact .inl ⟨b,e,f.fr a id⟩
  ·exact .inr d⟩
theorem eU.NG{w:World}{p:Nat}{A:Option Addr}{n c:Nat}{mb:Option Nat}{ds:List (List UInt8)}{C:Nat->Nat->Prop}(h:eU w p A n c mb ds C):gK w (od (.slice A n c)) A n ds:=⟨Rd.ia h.row,h.len,h.each⟩
theorem eU.part{w:World}{p:Nat}{A:Option Addr}{n c:Nat}{mb:Option Nat}{ds:List (List UInt8)}{C:Nat->Nat->Prop}(h:eU w p A n c mb ds C){l i:Nat}(e:C l i):∃b,mb=some b/\dY w b ds C:=by
 rcases h.parts with d|⟨_,a⟩;·exact d
 ·exact absurd e (a l i)
theorem Cy{g:Oper}{a:Act}{w:World}{K:Act->World->Prop}{Q:Exit->Act->World->Prop}(m x:Operand)(d:g.op= .lookup 178 m x false)
  {c b v:Value}(hm:a.eval m=c)(f:a.eval x=b)(e:(Instr.lookup 178 c b false).run prog w= .ok v w)(h:K (a.put g.dst v) w):g.wp prog a w K Q:=by
 unfold Oper.wp execOp;simp only[d,hm,f,Sem.run_bind,e,Result.andThen_ok];exact h
theorem eN(p:Nat)(A:Option Addr)(n c:Nat)(mb:Option Nat)(ds:List (List UInt8))(C:Nat->Nat->Prop)(l i:Nat)(w:World)(hT:eU w p A n c mb ds C)(F:(i+1)*2^l<=n)(y:l≠0->C l i)(ap:l<=64)(aG:n<=1048576):
  Calls prog 131 #[.pointer (some ⟨p,0,none⟩),gS l i] w (aM w (bj (aJ ds l i))):=by
 have L:(aJ ds l i).length=32:=ef ds hT.each l i (by rw[hT.len];exact F);have aa:i<n:=by
  have:1<=2^l:=Nat.one_le_two_pow;have:(i+1)*1<=(i+1)*2^l:=Nat.mul_le_mul_left _ this;omega
 have DP:Hid (dL (aC (aJ ds l i)).toArray):=dL.of L;have S:Hid ((prog.info? 38).map (·.size)=some (aC (aJ ds l i)).length):=by rw[aC,List.length_map,L];exact fC
 have i4:i<=1048576:=by omega
 by_cases s:l=0
 ·obtain⟨H,d,rfl,_,ad,_,G⟩:=hT.NG.at_ aa;have I:d=aJ ds l i:=by
   rw[s];simp only[aJ];rw[List.getD_eq_getElem?_getD,ad];rfl
  rw[I]at G;have P:=af G;have V:Hid (w.cell? ⟨p,0,none⟩=some (.slice (some H) n c)):=hT.aF.cell 0;have aE:(i:Int)<(n:Int):=by omega
  have t0:((l:Int)==0)=true:=by rw[s];rfl
  unfold bj;rw[show∀x:List UInt8,x.map bK=aC x fromλ_=>rfl];generalize aC (aJ ds l i)=q at*;clear hT ad I G L F y s;change Calls _ _ #[_, .agg #[.int .i64 (l:Int), .int .i64 (i:Int)]] _ _;go_enter func131,ntmps131;go_wp2_with(refine aD rfl 212 (.tmp 1) rfl _ rfl ?_);intro w1 n1;have r:=af n1;clear n1;go_wp2_with(refine an rfl 38 rfl bp jn aH rfl ?_);intro w2 t;have z:Hid (aq w2 w.heap.size 212 #[.int .i64 (l:Int), .int .i64 (i:Int)]):=r.out.aF.fr t.fr id;have M:=af t.aF;have D:=af (r.out.fr.trans t.fr);have O:Hid (w.heap.size<=w1.heap.size):=r.out.fr.size;have K:Hid (w2.cell? ⟨w.heap.size,0,none⟩=some (.int .i64 l)):=z.out.cell 0;have R:Hid (w2.cell? ⟨w.heap.size,1,none⟩=some (.int .i64 i)):=z.out.cell 1;clear t r z;generalize o:w.heap.size=g3 at*;have E:=af o;clear o;generalize w1.heap.size=g4 at*;have i0:=K.out;have am:Hid (w2.cell? ⟨p,0,none⟩=some (.slice (some H) n c)):=D.out.ak V.out id;have ae:Hid (∀j v,q[j]? =some v->w2.cell? ((H.add (i*32)).add j)=some v):=λj v ab=>D.out.ak (P.out j v ab) id;go_upto_region 2 with fail;clear i0;refine ay 8 Nothing [Is (.pointer (some ⟨p,0,none⟩)),Is (.pointer (some ⟨p,0,none⟩)),Is (.pointer (some ⟨p,0,none⟩)),Is (.slice (some H) n c),Is (.pointer (some ⟨g3,1,none⟩)),Is (.int .i64 i),Is (.pointer (some (H.add (i*32)))),Is (.agg q.toArray)] [] (λ_=>True) (λ_ _=>false) (by kernel_rfl) (by kernel_rfl) (by kernel_rfl) (by kernel_rfl) ⟨Is.ag _,Is.ag _,Is.ag _,Is.ag _,Is.ag _,Is.ag _,Is.ag _,Is.ag _,trivial⟩ trivial (λ_ _ _ _ h=>h) trivial ?_ ?_
  ·refine⟨?_,?_,?_,?_,?_,?_,?_,?_,trivial⟩;all_goals intro u w' d f a m k g
   all_goals simp only[bC,bD,bE,bF,ar,Act.put,bG,bH,bI,Nat.reduceAdd,Nat.zero_add]
   ·clear a m k g;refine aj ?_;go_simp;exact⟨_,rfl,al⟩
   ·have s:u 0=_:=a 0;clear a m k g;simp only[s];refine aj ?_;go_simp;exact⟨_,rfl,al⟩
   ·have F:u 1=_:=a 1;clear a m k g;simp only[F];refine aj ?_;go_simp;exact⟨_,rfl,al⟩
   ·have y:u 2=_:=a 2;clear a m k g;simp only[y];refine aj ?_;have G:=f.ak am.out id;go_simp;exact⟨_,rfl,al⟩
   ·clear a m k g;refine aj ?_;go_simp;exact⟨_,rfl,al⟩
   ·have Y:u 4=_:=a 4;clear a m k g;simp only[Y];refine aj ?_;have G:=f.ak R.out id;go_simp;exact⟨_,rfl,al⟩
   ·have X:u 3=_:=a 3;have Z:u 5=_:=a 5;clear a m k g;simp only[X,Z];refine aj ?_;go_simp;exact⟨_,rfl,al⟩
   ·have ax:u 6=_:=a 6;clear a m k g;simp only[ax];refine aj ?_;exact au _ _ rfl (H.add (i*32)) rfl q _ (λj v ab=>f.ak (ae.out j v ab) id) underlying38 rfl S.out ⟨_,rfl,al⟩
  ·intro u w' f a g;have az:u 7=_:=a 7 (by omega);have B:=af (M.out.fr f id);have N:=af (D.out.trans f);clear a g f;simp only[bC,bD,bE,bF,ar,Act.put,bG,bH,bI,dt,du,Nat.reduceAdd,Nat.zero_add,az];refine ai rfl 38 (.tmp 4) _ rfl g4 q.toArray rfl rfl _ _ B.out DP.out.info DP.out.zero DP.out.one ?_;intro J b5 f5;have T:=af b5;have U:Hid (Fr Nothing w J):=N.out.aw f5 (λi aB e=>by have av:i=g4:=e;have:=O.out;have:=E.out;omega);clear b5 f5;go_wp2;exact bodyPost_ret (results_cell_row (fn:=Tryz.f131) (p:=4) (ty:=38) results131 _ J _ 38 q.toArray (0,0) _ rfl T.out underlying38 rfl DP.out.info) rfl ⟨rfl,U.out⟩
 ·obtain⟨b,rfl,ac⟩:=hT.part (y s);have Q:Hid (∀w',Fr Nothing w w'->(Instr.lookup 178 (.map (some b)) (gS l i) false).run prog w'= .ok (.agg (aC (aJ ds l i)).toArray) w'):=λw' f=>tf (ac.fr f id) l i (y s);have W:Hid (w.cell? ⟨p,1,none⟩=some (.map (some b))):=hT.aF.cell 1;have t0:((l:Int)==0)=false:=by rw[beq_eq_false_iff_ne];omega
  unfold bj;rw[show∀x:List UInt8,x.map bK=aC x fromλ_=>rfl];generalize aC (aJ ds l i)=q at*;clear hT L F y ac;change Calls _ _ #[_, .agg #[.int .i64 (l:Int), .int .i64 (i:Int)]] _ _;go_enter func131,ntmps131;go_wp2_with(refine aD rfl 212 (.tmp 1) rfl _ rfl ?_);intro w1 n1;have r:=af n1;clear n1;go_wp2_with(refine an rfl 38 rfl bp jn aH rfl ?_);intro w2 t;have z:Hid (aq w2 w.heap.size 212 #[.int .i64 (l:Int), .int .i64 (i:Int)]):=r.out.aF.fr t.fr id;have M:=af t.aF;have D:=af (r.out.fr.trans t.fr);have O:Hid (w.heap.size<=w1.heap.size):=r.out.fr.size;have K:Hid (w2.cell? ⟨w.heap.size,0,none⟩=some (.int .i64 l)):=z.out.cell 0;have R:Hid (w2.cell? ⟨w.heap.size,1,none⟩=some (.int .i64 i)):=z.out.cell 1;clear t r z;generalize o:w.heap.size=g3 at*;have E:=af o;clear o;generalize w1.heap.size=g4 at*;have i0:=K.out;have ao:Hid (w2.cell? ⟨p,1,none⟩=some (.map (some b))):=D.out.ak W.out id;have ah:Hid (∀w',Fr Nothing w2 w'->(Instr.lookup 178 (.map (some b)) (gS l i) false).run prog w'= .ok (.agg q.toArray) w'):=λw' f=>Q.out _ (D.out.trans f);go_upto_region 3 with fail;clear i0;refine ay 6 Nothing [Is (.pointer (some ⟨p,0,none⟩)),Is (.pointer (some ⟨p,0,none⟩)),Is (.pointer (some ⟨p,1,none⟩)),Is (.map (some b)),Is (gS l i),Is (.agg q.toArray)] [] (λ_=>True) (λ_ _=>false) (by kernel_rfl) (by kernel_rfl) (by kernel_rfl) (by kernel_rfl) ⟨Is.ag _,Is.ag _,Is.ag _,Is.ag _,Is.ag _,Is.ag _,trivial⟩ trivial (λ_ _ _ _ h=>h) trivial ?_ ?_
  ·refine⟨?_,?_,?_,?_,?_,?_,trivial⟩;all_goals intro u w' d f a m k g
   all_goals simp only[bC,bD,bE,bF,ar,Act.put,bG,bH,bI,Nat.reduceAdd,Nat.zero_add]
   ·clear a m k g;refine aj ?_;go_simp;exact⟨_,rfl,al⟩
   ·have s:u 0=_:=a 0;clear a m k g;simp only[s];refine aj ?_;go_simp;exact⟨_,rfl,al⟩
   ·have F:u 1=_:=a 1;clear a m k g;simp only[F];refine aj ?_;go_simp;exact⟨_,rfl,al⟩
   ·have y:u 2=_:=a 2;clear a m k g;simp only[y];refine aj ?_;have G:=f.ak ao.out id;go_simp;exact⟨_,rfl,al⟩
   ·clear a m k g;refine aj ?_;have G:=f.ak K.out id;have aA:=f.ak R.out id;go_simp;exact⟨_,rfl,al⟩
   ·have X:u 3=_:=a 3;have Y:u 4=_:=a 4;clear a m k g;simp only[X,Y];refine aj ?_;exact Cy _ _ rfl rfl rfl (ah.out _ f) ⟨_,rfl,al⟩
  ·intro u w' f a g;have Z:u 5=_:=a 5 (by omega);have B:=af (M.out.fr f id);have N:=af (D.out.trans f);clear a g f;simp only[bC,bD,bE,bF,ar,Act.put,bG,bH,bI,dt,du,Nat.reduceAdd,Nat.zero_add,Z];refine ai rfl 38 (.tmp 4) _ rfl g4 q.toArray rfl rfl _ _ B.out DP.out.info DP.out.zero DP.out.one ?_;intro J b5 f5;have T:=af b5;have U:Hid (Fr Nothing w J):=N.out.aw f5 (λi aB e=>by have av:i=g4:=e;have:=O.out;have:=E.out;omega);clear b5 f5;go_wp2;exact bodyPost_ret (results_cell_row (fn:=Tryz.f131) (p:=4) (ty:=38) results131 _ J _ 38 q.toArray (0,0) _ rfl T.out underlying38 rfl DP.out.info) rfl ⟨rfl,U.out⟩
end Go.Proofs.YtphjagkehiklkaaGreatDoor.Lt
namespace Go.Proofs.YtphjagkehiklkaaGreatDoor.Lt
open Proofs.Tryz Go.RowKit
def Full(C:Nat->Nat->Prop)(n:Nat):Prop:=∀l i,l≠0->(i+1)*2^l<=n->C l i
def uD(m:Nat):Prop:=∀(w:World)(p:Nat)(A:Option Addr)(n c:Nat)(mb:Option Nat)(ds:List (List UInt8))(C:Nat->Nat->Prop)(f k:Nat),eU w p A n c mb ds C->Full C n->n<=1048576->bU w->1<=m->f+m<=n->m<=2^k->2^k∣f->
 Calls prog 110 #[.pointer (some ⟨p,0,none⟩), .int .i64 f, .int .i64 m] w (aM w (bj (cY ((ds.drop f).take m))))
theorem Jv(m:Nat)(f:1<=m)(hm:m<=1048576):∃lv,Lib.bitLen m=lv+1/\2^lv<=m/\m<2*2^lv/\lv<=40:=by
 obtain⟨a,b,c⟩:=Lib.bitLenAux_bounds 64 m (by omega) (by omega);refine⟨Lib.bitLen m-1,by unfold Lib.bitLen;omega,b,?_,?_⟩
 ·have h:Lib.bitLen m=(Lib.bitLen m-1)+1:=by unfold Lib.bitLen;omega
  have d:m<2^Lib.bitLen m:=c;rw[h,Nat.pow_succ]at d;omega
 ·rcases Nat.lt_or_ge 40 (Lib.bitLen m-1)with h|h;·have:2^41<=2^(Lib.bitLen m-1):=Nat.pow_le_pow_right (by omega) h;have e:2^(Lib.bitLen m-1)<=m:=b;omega
  ·exact h
theorem pq{a b f:Nat}(h:a<=b)(c:2^b∣f):2^a∣f:=Nat.dvd_trans (Nat.pow_dvd_pow 2 h) c
theorem pO{a b:Nat}(h:2^a<=2^b):a<=b:=by
 rcases Nat.lt_or_ge b a with c|c;·have:=Nat.pow_lt_pow_right (a:=2) (by omega) c;omega
 ·exact c
theorem IH(m lv:Nat)(r:Lib.bitLen m=lv+1)(hm:m=2^lv)(O:lv<=40):uD m:=by
 intro w p A n c mb ds C f k hT hF M K S o s j;obtain⟨i,rfl⟩:∃i,f=i*2^lv:=by
  obtain⟨q,N⟩:=pq (pO (by rw[<-hm];exact s)) j;exact⟨q,by rw[N,Nat.mul_comm]⟩
 have g:(i+1)*2^lv<=n:=by rw[Nat.add_mul,Nat.one_mul,<-hm]at*;exact o
 have e:=pM ds lv i (by rw[hT.len];exact g) (by omega);rw[hm,<-e];have D:(aJ ds lv i).length=32:=ef ds hT.each lv i (by rw[hT.len];exact g);have G:Hid (∀w',Fr Nothing w w'->Calls prog 131 #[.pointer (some ⟨p,0,none⟩), .agg #[.int .i64 (lv:Int), .int .i64 (i:Int)]] w' (aM w' (bj (aJ ds lv i)))):=
  λw' L=>eN p A n c mb ds C lv i w' (hT.ao L) g (λh=>hF lv i h g) (by omega) M;have DP:Hid (dL (aC (aJ ds lv i)).toArray):=dL.of D;have v:Hid (∀w,Calls prog 150 #[.int .u64 (m:Int)] w λe w'=>e= .returned (.int .i64 (Lib.bitLen m:Nat))/\w'=w):=λw=>Tryz.bits_Len (m:Int) w (by omega) (by omega);rw[r,hm]at v;obtain⟨P,u⟩:∃P,P=2^lv:=⟨_,rfl⟩;obtain⟨d,b⟩:∃d,d=i*2^lv:=⟨_,rfl⟩;have a:(d:Int)/((2^lv:Nat):Int)=(i:Int):=by
  have:d/2^lv=i:=by rw[b];exact Nat.mul_div_cancel _ Nat.one_le_two_pow
  omega
 have x:IntKind.i64.wrap (1*2^lv)=((P:Nat):Int):=by
  rw[u,Int.one_mul];have:(2:Int)^lv=((2^lv:Nat):Int):=by simp
  rw[this];exact IntWalk.i64_in _ (by omega)
 have B:IntKind.i64.wrap (2^lv)=((P:Nat):Int):=by rw[<-x,Int.one_mul]
 have Q:((lv+1:Nat):Int)-1=(lv:Int):=by omega
 have y:(d:Int)/2^lv=(i:Int):=by rw[<-a];simp
 rw[<-b,<-u];rw[<-u]at v a;have T:P<=1048576:=by omega
 have f4:d<=1048576:=by omega
 have i4:i<=1048576:=by
  have:i*1<=i*2^lv:=Nat.mul_le_mul_left _ Nat.one_le_two_pow;omega
 unfold bj at*;simp only[show∀l:List UInt8,l.map bK=aC l fromλ_=>rfl]at*;generalize aC (aJ ds lv i)=z at*;clear hT hF K e D r hm u b o s j g;go_enter func110,ntmps110;go_wp2_with(refine an rfl 38 rfl bp jn aH rfl ?_);intro w1 n1;have t:=af n1;clear n1;go_wp2_with fail;refine(v.out _).mono ?_;rintro e w'⟨rfl,rfl⟩;go_wp2_with fail;refine(G.out _ t.out.fr).mono ?_;rintro e w2⟨rfl,f2⟩;have H:=af (t.out.fr.trans f2);have F:=af (t.out.aF.fr f2 id);clear f2 t;go_wp2_with(refine ai rfl 38 (.tmp 6) _ rfl w.heap.size z.toArray rfl rfl _ _ F.out DP.out.info DP.out.zero DP.out.one ?_);intro E b5 f5;have I:=af b5;have J:Hid (Fr Nothing w E):=H.out.aw f5 (λi g e=>by have R:i=w.heap.size:=e;omega);clear b5 f5;go_wp2;exact bodyPost_ret (results_cell_row (fn:=Tryz.f110) (p:=6) (ty:=38) results110 _ E _ 38 z.toArray (0,0) _ rfl I.out underlying38 rfl DP.out.info) rfl ⟨rfl,J.out⟩
theorem qE{α:Type}(L:List α){a b:Nat}(h:a<=b):(L.take b).take a=L.take a:=by rw[List.take_take,Nat.min_eq_left h]
theorem Fk(m lv:Nat)(L:∀j,j<m->uD j)(s:Lib.bitLen m=lv+1)(y:2^lv<m)(T:m<2*2^lv)(ah:lv<=40):uD m:=by
 intro w p A n c mb ds C f k hT hF W z ag J K q;have B:1<=2^lv:=Nat.one_le_two_pow;have h:2^lv=aU m:=yt m lv (by omega) y (by omega);have V:lv<=k:=pO (by omega);have H:2^lv∣f:=pq V q;have hlen:((ds.drop f).take m).length=m:=by rw[List.length_take,List.length_drop,hT.len];omega
 have e:=nd _ m hlen (by omega) (by omega);rw[<-h,qE _ (by omega),List.drop_take,List.drop_drop]at e;rw[e];have E:=af (λw=>ny m w (by omega) (by omega));rw[<-h]at E;have CL:Hid (∀w',Fr Nothing w w'->Calls prog 110 #[.pointer (some ⟨p,0,none⟩), .int .i64 f, .int .i64 (2^lv:Nat)] w' (aM w' (bj (cY ((ds.drop f).take (2^lv)))))):=
  λw' o=>L (2^lv) y w' p A n c mb ds C f lv (hT.ao o) hF W (z.ao o) B (by omega) (Nat.le_refl _) H;have D:Hid (∀w',Fr Nothing w w'->Calls prog 110 #[.pointer (some ⟨p,0,none⟩), .int .i64 (f+2^lv:Nat), .int .i64 (m-2^lv:Nat)] w' (aM w' (bj (cY ((ds.drop (f+2^lv)).take (m-2^lv)))))):=
  λw' o=>L (m-2^lv) (by omega) w' p A n c mb ds C (f+2^lv) lv (hT.ao o) hF W (z.ao o) (by omega) (by omega) (by omega) ((Nat.dvd_add_right H).2 (Nat.dvd_refl _));have l1:(cY ((ds.drop f).take (2^lv))).length=32:=gH (2^lv) _ (by rw[List.length_take,List.length_drop,hT.len];omega) B (by omega) (λd I=>hT.each d (List.mem_of_mem_drop (List.mem_of_mem_take I)));have l2:(cY ((ds.drop (f+2^lv)).take (m-2^lv))).length=32:=gH (m-2^lv) _ (by rw[List.length_take,List.length_drop,hT.len];omega) (by omega) (by omega) (λd I=>hT.each d (List.mem_of_mem_drop (List.mem_of_mem_take I)));have Z:Hid (∀w',Fr Nothing w w'->Calls prog 122 #[bj (cY ((ds.drop f).take (2^lv))),bj (cY ((ds.drop (f+2^lv)).take (m-2^lv)))] w' (aM w' (bj (cS (cY ((ds.drop f).take (2^lv))) (cY ((ds.drop (f+2^lv)).take (m-2^lv))))))):=λw' o=>lZ _ _ l1 l2 w' (z.ao o);generalize cY ((ds.drop f).take (2^lv))=M at*;generalize cY ((ds.drop (f+2^lv)).take (m-2^lv))=N at*;have DP:Hid (dL (aC (cS M N)).toArray):=dL.of (eT _ _);have R:Hid (∀w,Calls prog 150 #[.int .u64 (m:Int)] w λe w'=>e= .returned (.int .i64 (Lib.bitLen m:Nat))/\w'=w):=λw=>Tryz.bits_Len (m:Int) w (by omega) (by omega);rw[s]at R;have u:IntKind.i64.wrap (1*2^lv)=((2^lv:Nat):Int):=by
  rw[Int.one_mul];have:(2:Int)^lv=((2^lv:Nat):Int):=by simp
  rw[this];exact IntWalk.i64_in _ (by omega)
 have v:IntKind.i64.wrap (2^lv)=((2^lv:Nat):Int):=by rw[<-u,Int.one_mul]
 obtain⟨P,U⟩:∃P,P=2^lv:=⟨_,rfl⟩;rw[<-U]at u v E CL D y T B;have aj:((lv+1:Nat):Int)-1=(lv:Int):=by omega
 have ar:((m:Int)==(P:Int))=false:=by rw[beq_eq_false_iff_ne];omega
 have ak:¬m=P:=by omega
 obtain⟨f2,r⟩:∃f2:Nat,f2=f+P:=⟨_,rfl⟩;obtain⟨m2,t⟩:∃m2:Nat,m2=m-P:=⟨_,rfl⟩;rw[<-r,<-t]at D;have s1:(f:Int)+(P:Int)=(f2:Int):=by omega
 have s2:(m:Int)-(P:Int)=(m2:Int):=by omega
 have f4:f<=1048576:=by omega
 have f24:f2<=1048576:=by omega
 have m4:m<=1048576:=by omega
 have m24:m2<=1048576:=by omega
 have am:P<=1048576:=by omega
 unfold bj at*;simp only[show∀l:List UInt8,l.map bK=aC l fromλ_=>rfl]at*;generalize aC (cS M N)=S at*;generalize aC M=ad at*;generalize aC N=ae at*;clear hT hF z e s U r t J K q H V h hlen l1 l2 L ag y T B;go_enter func110,ntmps110;go_wp2_with(refine an rfl 38 rfl bp jn aH rfl ?_);intro w1 n1;have x:=af n1;clear n1;go_wp2_with fail;refine(R.out _).mono ?_;rintro e w'⟨rfl,rfl⟩;go_wp2_with fail;refine(E.out _).mono ?_;rintro e al⟨rfl,rfl⟩;go_wp2_with fail;refine(CL.out _ x.out.fr).mono ?_;rintro e w2⟨rfl,a⟩;have F:=af (x.out.fr.trans a);have O:=af (x.out.aF.fr a id);clear a x;go_wp2_with fail;refine(D.out _ F.out).mono ?_;rintro e w3⟨rfl,b⟩;have G:=af (F.out.trans b);have Q:=af (O.out.fr b id);clear b F O;go_wp2_with fail;refine(Z.out _ G.out).mono ?_;rintro e au⟨rfl,g⟩;have aa:=af (G.out.trans g);have Y:=af (Q.out.fr g id);clear g G Q;go_wp2_with(refine ai rfl 38 (.tmp 6) _ rfl w.heap.size S.toArray rfl rfl _ _ Y.out DP.out.info DP.out.zero DP.out.one ?_);intro X b5 f5;have ab:=af b5;have ac:Hid (Fr Nothing w X):=aa.out.aw f5 (λi aq e=>by have ap:i=w.heap.size:=e;omega);clear b5 f5;go_wp2;exact bodyPost_ret (results_cell_row (fn:=Tryz.f110) (p:=6) (ty:=38) results110 _ X _ 38 S.toArray (0,0) _ rfl ab.out underlying38 rfl DP.out.info) rfl ⟨rfl,ac.out⟩
theorem wQ(m:Nat)(hm:m<=1048576):uD m:=by
 induction m using Nat.strongRecOn with
 |_ m l=>
  rcases Nat.eq_zero_or_pos m with rfl|g;·intro w p A n c mb ds C f k _ _ _ _ h;omega
  ·obtain⟨lv,a,b,d,e⟩:=Jv m g hm;by_cases h:m=2^lv;·exact IH m lv a h e
   ·exact Fk m lv (λj i=>l j i (by omega)) a (by omega) d e
end Go.Proofs.YtphjagkehiklkaaGreatDoor.Lt
namespace Go.Proofs.YtphjagkehiklkaaGreatDoor.Lt
open Proofs.Tryz Go.RowKit
theorem xC(w:World)(A:Option Addr)(n c:Nat)(xs:List Value)(b:w.ownsRow 0 38 32 (.slice A n c) n xs)(F:¬n+1<=c)(H:n<=1048576)(f:Addr)(h:Nat)(news:List Value)(G:news.length=32)(a:∀j u,news[j]? =some u->w.cell? (f.add j)=some u)(x:∀u∈news,u.oneCell'=true)(ty:TypeId):
  ∃g cap w',(Builtin.append_ #[31,31] ty #[.slice A n c, .slice (some f) 1 h]).run prog w= .ok (.slice (some ⟨g,0,none⟩) (n+1) cap) w'/\Fr Nothing w w'/\w.heap.size<=g/\
   w'.ownsRow 0 38 32 (.slice (some ⟨g,0,none⟩) (n+1) cap) (n+1) (xs++news):=by
 obtain⟨i,o,r,v,t⟩:=info_parts uJ;have p:prog.underlying 31=some (.slice 38):=underlying31;obtain⟨I,w',d,s⟩:=Cq (P:=prog) w 31 ty 38 i bp 32 32 p o r v t rfl (by omega) (.slice A n c) n xs b (λk=>k=f.block) (some f) 1 h news ⟨by omega,λ_=>⟨f,rfl,rfl,a⟩⟩ x (by omega) (by omega);have D:xs.length=n*32:=b.1;rcases b.2 with⟨q,E⟩|⟨g,cap,cur,q,_,_,C,_⟩;·cases q;have e:=run_append_nil (P:=prog) w 31 ty 38 i bp p o r f 1 h news (by omega) a (by omega) (by omega) (by omega);rw[d]at e;injection e with l m;subst l m;exact⟨w.heap.size,_,_,d,aA.drew.alloc _,Nat.le_refl _,s.own⟩
 ·injection q with y B z;subst y;have holds:∀j u,xs[j]? =some u->w.cell? ((⟨g,0,none⟩:Addr).add j)=some u:=b.cells (g:=g) rfl;have e:=run_append_grow (P:=prog) w 31 ty 38 i bp p o r ⟨g,0,none⟩ n c xs (by rw[v];exact D) holds f 1 h news (by omega) a (by omega) (by omega) (by rw[t];exact growslice_fits (by omega) (by omega));rw[d]at e;injection e with l m;subst l m;exact⟨w.heap.size,_,_,d,aA.drew.alloc _,Nat.le_refl _,s.own⟩
theorem sh{z:Oper}{a:Act}{w:World}{K:Act->World->Prop}{Q:Exit->Act->World->Prop}(s x:Operand)(t:z.op= .call {callee:= .builtin .append,args:=#[s,x],argTypes:=#[31,31]})
  (A:Option Addr)(n c:Nat)(xs:List Value)(v:a.eval s= .slice A n c)(e:w.ownsRow 0 38 32 (.slice A n c) n xs)(m:¬n+1<=c)(r:n<=1048576)(i:Addr)(k:Nat)(news:List Value)(y:a.eval x= .slice (some i) 1 k)(q:news.length=32)(b:∀j u,news[j]? =some u->w.cell? (i.add j)=some u)(l:∀u∈news,u.oneCell'=true)
  (h:∀g cap w',Fr Nothing w w'->w.heap.size<=g->w'.ownsRow 0 38 32 (.slice (some ⟨g,0,none⟩) (n+1) cap) (n+1) (xs++news)->K (a.put z.dst (.slice (some ⟨g,0,none⟩) (n+1) cap)) w'):z.wp prog a w K Q:=by
 obtain⟨g,cap,w',f,o,p,d⟩:=xC w A n c xs e m r i k news q b l z.type;unfold Oper.wp execOp;simp only[t,resolve,invoke,builtin,Sem.run_bind,Sem.run_pure,Result.andThen_ok,List.map_toArray,List.map_cons,List.map_nil,v,y,f];exact h g cap w' o p d
theorem qG{E:Oper}{a:Act}{w:World}{K:Act->World->Prop}{Q:Exit->Act->World->Prop}(s x:Operand)(y:E.op= .call {callee:= .builtin .append,args:=#[s,x],argTypes:=#[31,31]})
  (g n c:Nat)(xs:List Value)(z:a.eval s= .slice (some ⟨g,0,none⟩) n c)(e:w.ownsRow 0 38 32 (.slice (some ⟨g,0,none⟩) n c) n xs)(q:n+1<=c)(l:Addr)(o:Nat)(news:List Value)(A:a.eval x= .slice (some l) 1 o)(C:news.length=32)(b:∀j u,news[j]? =some u->w.cell? (l.add j)=some u)(p:∀u∈news,u.oneCell'=true)
  (h:∀w',Fr (λk=>k=g) w w'->w'.ownsRow 0 38 32 (.slice (some ⟨g,0,none⟩) (n+1) c) (n+1) (xs++news)->K (a.put E.dst (.slice (some ⟨g,0,none⟩) (n+1) c)) w'):E.wp prog a w K Q:=by
 obtain⟨i,t,D,m,B⟩:=info_parts uJ;obtain⟨w',f,d,r⟩:=run_append_fits (P:=prog) w 0 31 E.type 38 i 32 underlying31 t m g n c xs e l 1 o news (by omega) b p q;unfold Oper.wp execOp;simp only[y,resolve,invoke,builtin,Sem.run_bind,Sem.run_pure,Result.andThen_ok,List.map_toArray,List.map_cons,List.map_nil,z,A,f];exact h w' ((Fr.grown r).mono (λk _ v=>by simpa using v)) d
def bN(n l i:Nat):Prop:=l≠0/\(i+1)*2^l<=n
def cU(n lv l i:Nat):Prop:=l≠0/\((i+1)*2^l<=n\/((i+1)*2^l=n+1/\l<=lv))
theorem ue(n:Nat):Full (bN n) n:=λ_ _ h a=>⟨h,a⟩
theorem dY.congr{w:World}{b:Nat}{ds:List (List UInt8)}{C C':Nat->Nat->Prop}(h:dY w b ds C)(a:∀l i,C l i↔C' l i):dY w b ds C':=by
 obtain⟨es,clock,c,d,f,g⟩:=h;refine⟨es,clock,c,λe he=>?_,λl i j=>f l i ((a l i).2 j),g⟩;obtain⟨l,i,k,m,n⟩:=d e he;exact⟨l,i,k,m,(a l i).1 n⟩
theorem lM(n l i:Nat):bN n l i↔cU n 0 l i:=by
 unfold bN cU;constructor;·rintro⟨a,b⟩;exact⟨a, .inl b⟩
 ·rintro⟨a,b|⟨_,b⟩⟩;·exact⟨a,b⟩
  ·omega
theorem mO(n lv q l i:Nat)(h:(q+1)*2^(lv+1)=n+1):cU n (lv+1) l i↔cU n lv l i\/(l=lv+1/\i=q):=by
 unfold cU;constructor
 ·rintro⟨a,b|⟨b,c⟩⟩;·exact .inl ⟨a, .inl b⟩
  ·by_cases d:l<=lv;·exact .inl ⟨a, .inr ⟨b,d⟩⟩
   ·obtain rfl:l=lv+1:=by omega
    refine .inr ⟨rfl,?_⟩;have:(i+1)=(q+1):=Nat.eq_of_mul_eq_mul_right (Nat.two_pow_pos (lv+1)) (by rw[b,h]);omega
 ·rintro(⟨a,b|⟨b,c⟩⟩|⟨rfl,rfl⟩);·exact⟨a, .inl b⟩
  ·exact⟨a, .inr ⟨b,by omega⟩⟩
  ·exact⟨by omega, .inr ⟨h,Nat.le_refl _⟩⟩
theorem oi(n lv q:Nat)(h:(q+1)*2^(lv+1)=n+1):¬cU n lv (lv+1) q:=by
 rintro⟨_,b|⟨_,c⟩⟩;·omega
 ·omega
theorem oh(n lv idx:Nat)(h:(idx+1)*2^lv=n+1)(he:idx%2=0)(l i:Nat):cU n lv l i↔bN (n+1) l i:=by
 unfold cU bN;constructor
 ·rintro⟨a,b|⟨b,_⟩⟩;·exact⟨a,by omega⟩
  ·exact⟨a,by omega⟩
 ·rintro⟨a,b⟩;refine⟨a,?_⟩;by_cases f:(i+1)*2^l<=n;·exact .inl f
  ·refine .inr ⟨by omega,?_⟩;rcases Nat.lt_or_ge lv l with c|c
   ·exfalso;obtain⟨d,rfl⟩:∃d,l=lv+1+d:=⟨l-lv-1,by omega⟩;have e:(i+1)*2^(lv+1+d)=(2*((i+1)*2^d))*2^lv:=by
     rw[Nat.pow_add,Nat.pow_succ];simp only[Nat.mul_assoc,Nat.mul_comm,Nat.mul_left_comm]
    have:idx+1=2*((i+1)*2^d):=Nat.eq_of_mul_eq_mul_right (Nat.two_pow_pos lv) (by rw[h,<-e];omega);omega
   ·exact c
theorem jE{ops:Array Oper}{rest:List Oper}{u:Oper}{a:Act}{w:World}{Q:Exit->Act->World->Prop}(f:u.guard=none)(m k x:Operand)(r:u.op= .mapUpdate 178 m k x)
  {b:Nat}{ds:List (List UInt8)}{C:Nat->Nat->Prop}(h:dY w b ds C)(l i:Nat){v:Value}(hm:a.eval m= .map (some b))(q:a.eval k=gS l i)(t:a.eval x=v)(j:¬C l i)(s:v=bj (aJ ds l i))(C':Nat->Nat->Prop)(d:∀g i',C' g i'↔C g i'\/(g=l/\i'=i))
  (n:∀w',dY w' b ds C'->Fr (λk=>k=b) w w'->wpList prog ops Q rest (a.put u.dst undef) w'):wpList prog ops Q (u::rest) a w:=by
 obtain⟨w',c,o,p⟩:=th h l i j v s C' d;refine wpList_plain f λK e=>?_;unfold Oper.wp execOp;simp only[r,hm,q,t,Sem.run_bind,c,Sem.run_pure,Result.andThen_ok];exact e _ _ (n w' o p)
end Go.Proofs.YtphjagkehiklkaaGreatDoor.Lt
namespace Go.Proofs.YtphjagkehiklkaaGreatDoor
open Proofs.Tryz Go.RowKit
def nJ(late:Nat->Bool)(T:Nat->Prop)(w:World):Nat->List (Value->World->Prop)->Prop
 |_,[]=>True
 |i,p::r=>(∀v w' a,Fr T w w'->Fr (if late i=true then Nothing else T) w' a->p v w'->p v a)/\nJ late T w (i+1) r
theorem nJ.at_{late:Nat->Bool}{T:Nat->Prop}{w:World}:∀{b:List (Value->World->Prop)}{i:Nat},nJ late T w i b->∀j v w' a,Fr T w w'->Fr (if late (i+j)=true then Nothing else T) w' a->cF b j v w'->cF b j v a
 |[],_,_,_,_,_,_,_,_,_=>trivial
 |p::r,i,h,0,v,w',a,c,d,e=>h.1 v w' a c d e
 |p::r,i,h,j+1,v,w',a,c,d,e=>nJ.at_ h.2 j v w' a c (by rw[show i+1+j=i+(j+1)by omega];exact d) e
def Ex(late:Nat->Bool)(ws:List (Nat×(World->Prop)))(B:Nat->Nat->Bool)(n:Nat):Bool:=(List.range n).all λk=>!late k||(ws.map (·.1)).all λp=>p==k||B p k
theorem It{late:Nat->Bool}{ws:List (Nat×(World->Prop))}{B:Nat->Nat->Bool}{n k i:Nat}(h:Ex late ws B n=true)(d:k<n)(e:late k=true)(hw:eI ws i=true)(a:i≠k):B i k=true:=by
 have b:=List.all_eq_true.1 h k (List.mem_range.2 d);rw[e,Bool.not_true,Bool.false_or]at b;simp only[eI,List.any_eq_true,beq_iff_eq]at hw;obtain⟨p,f,rfl⟩:=hw;have c:=List.all_eq_true.1 b p f;simp only[Bool.or_eq_true,beq_iff_eq]at c;exact c.resolve_left a
theorem Ng{P:Program}{ops:Array Oper}{Q:Exit->Act->World->Prop}{T:Nat->Prop}{w:World}{a:Act}{ab:List (Value->World->Prop)}{ws:List (Nat×(World->Prop))}{C:World->Prop}{B:Nat->Nat->Bool}{n:Nat}(ok:qI ops n)(ac:fY ops n B=true)
  (J:(gW B (ws.map (·.1))&&(ws.map (·.1)).all (λp=>decide (p<n)))=true)
  (late:Nat->Bool)(an:Ex late ws B n=true)(au:nJ late T w 0 ab)(av:jv T w ws)(aq:∀w' l,Fr T w w'->Fr Nothing w' l->C w'->C l)
  (aB:iL P ops Q T w (λu=>ar ((ops.toList.take n).map (·.dst)) 0 u a) (cF ab) ws C B n 0 (ops.toList.take n))
  (aE:∀u w',Fr T w w'->(∀j,j<n->cF ab j (u j) w')->mA ws C w'->wpList P ops Q (ops.toList.drop n) (ar ((ops.toList.take n).map (·.dst)) 0 u a) w'):
  ∀(f:Nat)(listed:Array Bool)(u:Nat->Value)(w':World),HeadInv .any ops n listed->cI (λj=>!listed.getD j false) n=f->Fr T w w'->dx ws C (λj=>listed.getD j false) w'->
   (∀j,j<n->listed.getD j false=true->cF ab j (u j) w')->wpAny P .any ops Q (f+(ops.size-n)) listed (ar ((ops.toList.take n).map (·.dst)) 0 u a) w':=by
 rw[Bool.and_eq_true]at J;have X:∀x∈ws,x.1<n:=λx I=>by simpa using List.all_eq_true.1 J.2 x.1 (List.mem_map.2 ⟨x,I,rfl⟩)
 intro f;induction f with
 |zero=>
  intro listed u w' inv ay N R S;have s:∀j,j<n->listed.getD j false=true:=λj F=>by simpa using lQ _ n ay j F
  have he:listed=Array.replicate n true++Array.replicate (ops.size-n) false:=by
   apply Array.ext;·rw[inv.size];have:=ok.le;simp;omega
   ·intro i ad aI;rcases Nat.lt_or_ge i n with D|D;·have:=s i D;rw[Array.getElem_append_left (by simpa using D)];simpa[ad]using this
    ·have:=inv.tail i D (by rw[<-inv.size];exact ad);rw[Array.getElem_append_right (by simpa using D)];simpa[ad]using this
  rw[oI ws C _ (λx I=>s x.1 (X x I))]at R;subst he;have U:(ops.toList.drop n).length=ops.size-n:=by simp
  have:=wpAny_of_seq (P:=P) (md:= .any) (ops:=ops) (Q':=Q) (ops.toList.drop n) n _ (ar ((ops.toList.take n).map (·.dst)) 0 u a) w' (λj=>by simp[List.getElem?_drop]) (by rw[U];exact ok.seq) (aE u w' N (λj F=>S j F (s j F)) R);rw[U]at this;rwa[Nat.zero_add]
 |succ f aF=>
  intro listed u w' inv ay N R S;obtain⟨j,F,aw,L⟩:=mR (λj=>!listed.getD j false) n (by omega);have K:j<ops.size:=by have:=ok.le;omega
  have H:listed.getD j true=false:=getD_in (by rw[inv.size];exact K) (by simpa using aw);have W:j∈Region.ready .any ops listed:=by
   refine mem_ready.2 ⟨H,ops[j],Array.getElem?_eq_getElem K,λe he c=>?_⟩;have:=ok.each j _ F (Array.getElem?_eq_getElem K) e he c;simpa using L e.on this
  rw[show f+1+(ops.size-n)=(f+(ops.size-n))+1 by omega];refine⟨λaz=>(by rw[az]at W;cases W),λi D=>?_⟩;obtain⟨am,o,Y,aa⟩:=mem_ready.1 D;have al:i<ops.size:=(Array.getElem?_eq_some_iff.1 Y).1;have m:i<n:=by
   rcases ok.tail with h|⟨aD,ai⟩;·omega
   ·rcases Nat.lt_or_ge i n with h|h;·exact h
    ·exact absurd D (tail_waits aD ai (by omega) inv (n-j) j rfl F H i h)
  have E:listed.getD i false=false:=getD_both am;have Z:(ops.toList.take n)[i]? =some o:=by rw[List.getElem?_take,if_pos m];simpa using Y
  have b:∀k,Region.waitsFor .any ops i k=true->k<i/\listed.getD k false=true:=by
   intro k t;obtain⟨aG,ao,e,he,c,ap⟩:=Region.waitsFor_spec t;have:aG=o:=Option.some.inj (ao.symm.trans Y);subst this;subst ap;exact⟨ok.each i _ m Y e he c,aa e he c⟩
  have d:∀p,p<n->B p i=true->listed.getD p false=true:=by
   intro p A c;have h:=List.all_eq_true.1 (List.all_eq_true.1 ac i (List.mem_range.2 m)) p (List.mem_range.2 A);simp only[c,Bool.not_true,Bool.false_or,Bool.or_eq_true,List.any_eq_true,Bool.and_eq_true,List.mem_range]at h;rcases h with h|⟨k,t,hw,ag⟩;·exact(b p h).2
   ·exact ja ac inv k (by omega) (b k hw).2 p A ag
  have g:∀p,(p==i||B i p)=true->listed.getD p false=false:=by
   intro p A;simp only[Bool.or_eq_true,beq_iff_eq]at A;rcases A with rfl|c;·exact E
   ·rcases Nat.lt_or_ge p n with M|M
    ·cases O:listed.getD p false;·rfl
     ·have:=ja ac inv p M O i m c;rw[E]at this;cases this
    ·rcases Nat.lt_or_ge p ops.size with ax|ax;·exact getD_both (inv.tail p M ax)
     ·have:¬p<listed.size:=by rw[inv.size];omega
      simp[this]
  have hw:=aB.at_ i o Z u w' (λj=>listed.getD j false) N (λk t=>by
   rw[Nat.zero_add]at t;exact S k (by have:=(b k t).1;omega) (b k t).2) (λp A c=>by rw[Nat.zero_add]at c;exact d p A c) (λp A=>by rw[Nat.zero_add]at A;exact g p A) R;rw[Nat.zero_add]at hw;refine oL Y (fV (λaH l aA=>?_) hw);obtain⟨v,rfl,hf',af,ae⟩:=aA;have V:Fr T w' l:=by
   unfold iB at hf';split at hf';·exact hf'
   ·exact hf'.bR
  rw[mE _ 0 i u a o.dst v ok.nodup (by rw[List.getElem?_map,Z];rfl),Nat.zero_add];have G:(listed.setIfInBounds i true).getD i false=true:=by
   have ak:i<listed.size:=by rw[inv.size];exact al
   simp[ak]
  refine aF (listed.setIfInBounds i true) (dW u i v) l (inv.set D m) ?_ (N.trans V) ?_ (λk t O=>?_);·have:=lP (λj=>!listed.getD j false) (λj=>!(listed.setIfInBounds i true).getD j false) i (by simp only[E];rfl) (by simp only[G];rfl) (λj F=>by simp only[getD_set_ne false (Ne.symm F)]) n m;omega
  ·cases r:eI ws i
   ·have aj:Fr Nothing w' l:=by simpa[iB,r]using hf'
    have ah:=lU ws C (λj=>(listed.setIfInBounds i true).getD j false) (λj=>listed.getD j false) (λx I=>by
     have:i≠x.1:=by
      rintro rfl;have:eI ws x.1=true:=by
       simp only[eI,List.any_eq_true,beq_iff_eq];exact⟨x.1,List.mem_map.2 ⟨x,I,rfl⟩,rfl⟩
      rw[r]at this;cases this
     simp only[getD_set_ne false this]);rw[ah];exact kU N aj ws C _ av aq R
   ·exact lV B i (λj=>listed.getD j false) _ l G (λq aC=>by simp only[getD_set_ne false (Ne.symm aC)]) ws C J.1 r (λx I c=>d x.1 (X x I) c) (λx I c=>g x.1 (by rw[c,Bool.or_true])) ae
  ·by_cases e:k=i;·subst e;simp only[dW,if_true];exact af
   ·simp only[dW];rw[if_neg e];rw[getD_set_ne false (λh=>e h.symm)]at O;have z:=au.at_ k (u k) w' l N;rw[Nat.zero_add]at z;cases y:late k;·rw[y]at z;exact z V (S k t O)
    ·rw[y]at z;cases r:eI ws i;·exact z (by simpa[iB,r]using hf') (S k t O)
     ·have c:=It an t y r (λh=>e h.symm);have:=ja ac inv k t O i m c;rw[E]at this;cases this
theorem xH{P:Program}{id:Nat}{Q:Exit->Act->World->Prop}{a:Act}{w:World}{l:List Oper}(n:Nat)(T:Nat->Prop)(f:List (Value->World->Prop))(ws:List (Nat×(World->Prop)))(b:World->Prop)(B:Nat->Nat->Bool)(hm:P.follows .mixedOrders=true)(A:pA l.toArray n=true)
  (y:fY l.toArray n B=true)(g:(gW B (ws.map (·.1))&&(ws.map (·.1)).all (λp=>decide (p<n)))=true)
  (late:Nat->Bool)(i:Ex late ws B n=true)(o:nJ late T w 0 f)(q:jv T w ws)(k:∀w' e,Fr T w w'->Fr Nothing w' e->b w'->b e)(v:b w.drew)
  (C:iL P l.toArray Q T w (λu=>ar ((l.take n).map (·.dst)) 0 u a) (cF f) ws b B n 0 (l.take n))
  (r:∀u w',Fr T w w'->(∀j,j<n->cF f j (u j) w')->mA ws b w'->wpList P l.toArray Q (l.drop n) (ar ((l.take n).map (·.dst)) 0 u a) w'):(Code.region id l.toArray true).wp P Q a w:=by
 have ok:=qI.of A;obtain⟨E,s⟩:=gT ((l.take n).map (·.dst)) 0 a;refine wp_region_any hm ?_;have d:HeadInv .any l.toArray n (Array.replicate l.toArray.size false):=
  ⟨by simp,λj G _ c=>(by rw[getD_replicate_false]at c;cases c),λt _ r=>getD_in (by simpa using r) (getD_replicate_false _ _)⟩;have z:cI (λj=>!(Array.replicate l.toArray.size false).getD j false) n=n:=by
  have h:∀m,cI (λj=>!(Array.replicate l.toArray.size false).getD j false) m=m:=by
   intro m;induction m with
   |zero=>rfl
   |succ m D=>rw[cI,D,getD_replicate_false];rfl
  exact h n
 have:=Ng (P:=P) (Q:=Q) (a:=a) ok y g late i o q k (by simpa using C) (by simpa using r) n _ E w.drew d z (aA.drew) (by rw[lx ws b _ (λx _=>getD_replicate_false _ _)];exact v) (λj F c=>by rw[getD_replicate_false]at c;cases c);rw[show(l.toArray.toList.take n).map (·.dst)=(l.take n).map (·.dst)by simp,s,show n+(l.toArray.size-n)=l.toArray.size by have:=ok.le;omega]at this;exact this
end Go.Proofs.YtphjagkehiklkaaGreatDoor
namespace Go.Proofs.YtphjagkehiklkaaGreatDoor
open Proofs.Tryz Go.RowKit Go.Shelf
structure Ri(a W:World)(g:Nat)(S:Nat->Prop)(st:dc):Prop where
 fr:Fr Nothing a W
 rr:Rr W g S st.1 st.2.1 st.2.2
 new:a.heap.size<=g
 sn:∀k,S k->a.heap.size<=k/\k<W.heap.size
theorem Rr.aF{W:World}{g:Nat}{S:Nat->Prop}{l:List UInt8}{p:Nat}{f:Int}(h:Rr W g S l p f):∃A n c,aq W g 193 #[.slice A n c, .int .i64 p, .int .i64 f]:=by
 obtain⟨A,n,c,a,_⟩:=h.ex;exact⟨A,n,c,a⟩
theorem Ri.step{b W W':World}{g:Nat}{S:Nat->Prop}{st st':dc}(h:Ri b W g S st)(k:fp W g S W' st'.1 st'.2.1 st'.2.2):Ri b W' g S st':=
 ⟨h.fr.aw k.fr (λi a e=>by have c:i=g:=e;have:=h.new;omega),k.rr,h.new,λi a=>⟨(h.sn i a).1,Nat.lt_of_lt_of_le (h.sn i a).2 k.fr.size⟩⟩
theorem Ri.later{b W W':World}{g:Nat}{S:Nat->Prop}{st:dc}(h:Ri b W g S st)(f:Fr Nothing W W'):Ri b W' g S st:=
 ⟨h.fr.trans f,h.rr.iZ f,h.new,λi a=>⟨(h.sn i a).1,Nat.lt_of_lt_of_le (h.sn i a).2 f.size⟩⟩
theorem Ri.wu{j l W W':World}{g b:Nat}{S:Nat->Prop}{d st:dc}(a:Ri j l g S d)(h:Ri j W g S st)(f:Fr (λk=>k=b) W W')(q:l.heap.size<=b):Ri j W' g S st:=by
 have o:=a.rr.lt;have p:=a.fr.size;refine⟨h.fr.aw f (λi c e=>by have m:i=b:=e;omega),h.rr.kl f (λe=>by have m:g=b:=e;omega) (λk n e=>by
  have m:k=b:=e;have:=(a.sn k n).2;omega),h.new,λi c=>⟨(h.sn i c).1,Nat.lt_of_lt_of_le (h.sn i c).2 f.size⟩⟩
def rG(a W:World)(g:Nat)(S:Nat->Prop)(v:Value)(st:dc)(e:Ending)(W':World):Prop:=e= .returned v/\Ri a W' g S st/\Fr (eH g) W W'
theorem Ri.number{b W:World}{g:Nat}{S:Nat->Prop}{st:dc}(h:Ri b W g S st)(aS:Int):
  Calls prog 107 #[.pointer (some ⟨g,0,none⟩), .int .i64 aS] W (rG b W g S (.int .i64 (aE 0 (aO aS) st).1) (aE 0 (aO aS) st).2):=by
 obtain⟨l,p,f⟩:=st;refine(jz g S l p f aS W h.rr).mono ?_;rintro e w'⟨rfl,a⟩;exact⟨rfl,h.step a,a.fr⟩
theorem Ri.text{b W:World}{g:Nat}{S:Nat->Prop}{st:dc}(h:Ri b W g S st)(aS:Int):
  Calls prog 104 #[.pointer (some ⟨g,0,none⟩), .int .i64 aS] W (rG b W g S (.string ⟨(aE [] (cg aS) st).1.toArray⟩) (aE [] (cg aS) st).2):=by
 obtain⟨l,p,f⟩:=st;refine(kH g S l p f aS W h.rr).mono ?_;rintro e w'⟨rfl,a⟩;exact⟨rfl,h.step a,a.fr⟩
theorem Ri.flag{b W:World}{g:Nat}{S:Nat->Prop}{st:dc}(h:Ri b W g S st):
  Calls prog 119 #[.pointer (some ⟨g,0,none⟩)] W (rG b W g S (.bool (aE false cC st).1) (aE false cC st).2):=by
 obtain⟨l,p,f⟩:=st;refine(Fb g S l p f W h.rr).mono ?_;rintro e w'⟨rfl,a⟩;exact⟨rfl,h.step a,a.fr⟩
theorem Ri.rest{a W:World}{g:Nat}{S:Nat->Prop}{st:dc}(h:Ri a W g S st):
  Calls prog 117 #[.pointer (some ⟨g,0,none⟩)] W (bJ W (.int .i64 (st.1.length:Nat))):=by
 obtain⟨l,p,f⟩:=st;exact Fg g S l p f W h.rr
theorem Ri.close{a W:World}{g:Nat}{S:Nat->Prop}{st:dc}(h:Ri a W g S st):
  Calls prog 72 #[.pointer (some ⟨g,0,none⟩)] W (bJ W (.int .i64 (dK st))):=by
 obtain⟨l,p,f⟩:=st;exact pP g S l p f W h.rr
theorem aq.only{W W':World}{g b:Nat}{S:Nat->Prop}{j:World}{st:dc}{t:TypeId}{cs:Array Value}(h:aq W b t cs)(f:Ri j W g S st)(d:Fr (eH g) W W')(i:t≠193):aq W' b t cs:=
 h.fr d (λe=>by
  obtain⟨A,n,c,a⟩:=f.rr.aF;exact dn h a i e)
theorem ed.only{W W' f:World}{g:Nat}{S:Nat->Prop}{st:dc}{v:Value}{l:List CV}(h:ed W v l)(e:Ri f W g S st)(b:Fr (eH g) W W'):ed W' v l:=
 h.cJ b (λk d=>by
  obtain rfl:k=g:=d;obtain⟨A,n,c,a⟩:=e.rr.aF;exact⟨λx=>absurd (x.one a.ty) (by decide),λx=>absurd (x.one a.ty) (by decide),λx=>absurd (x.one a.ty) (by decide)⟩)
def Ai:Value:= .agg #[.int .i64 0, .int .i64 0, .int .i64 0, .string ByteArray.empty]
theorem FM(w:World):(zeroValue 43).run prog w= .ok Ai w:=by kernel_rfl
theorem dM.one(k:dM):k.cells.toArray.all (·.oneCell')=true:=by simp[dM.cells,Value.oneCell']
theorem zV(o W:World)(g:Nat)(S:Nat->Prop)(l:List UInt8)(h:Ri o W g S (l,0,0)):
  Calls prog 70 #[.pointer (some ⟨g,0,none⟩)] W (rG o W g S (.agg (gM l).1.cells.toArray) (gM l).2):=by
 have z:=af h;have K:Hid ((gM l)=(⟨(gJ l).1,(jc l).1,(rdNum l).1,⟨(im l).1.toArray⟩⟩,(im l).2)):=rfl;have R:Hid (∀W',Ri o W' g S (l,0,0)->Calls prog 107 #[.pointer (some ⟨g,0,none⟩), .int .i64 1073741824] W' (rG o W' g S (.int .i64 (gJ l).1) (gJ l).2)):=λW' h=>h.number _;have T:Hid (∀W',Ri o W' g S (gJ l).2->Calls prog 107 #[.pointer (some ⟨g,0,none⟩), .int .i64 2] W' (rG o W' g S (.int .i64 (jc l).1) (jc l).2)):=λW' h=>h.number _;have U:Hid (∀W',Ri o W' g S (jc l).2->Calls prog 107 #[.pointer (some ⟨g,0,none⟩), .int .i64 999999] W' (rG o W' g S (.int .i64 (rdNum l).1) (rdNum l).2)):=λW' h=>h.number _;have V:Hid (∀W',Ri o W' g S (rdNum l).2->Calls prog 104 #[.pointer (some ⟨g,0,none⟩), .int .i64 16777216] W' (rG o W' g S (.string ⟨(im l).1.toArray⟩) (im l).2)):=λW' h=>h.text _;rw[K.out];simp only[dM.cells];generalize(gJ l).1=n at*;generalize(gJ l).2=s1 at*;generalize(jc l).1=q at*;generalize(jc l).2=s2 at*;generalize(rdNum l).1=t at*;generalize(rdNum l).2=ae at*;generalize(im l).2=H at*;generalize(⟨(im l).1.toArray⟩:ByteArray)=u at*;have w:Hid (∀W',Ri o W' g S H->Fr (eH g) W W'->rG o W g S (.agg [Value.int .i64 n, .int .i64 q, .int .i64 t, .string u].toArray) H (.returned (.agg [Value.int .i64 n, .int .i64 q, .int .i64 t, .string u].toArray)) W'):=λW' a b=>⟨rfl,a,b⟩;clear h K;generalize rG o W g S (.agg [Value.int .i64 n, .int .i64 q, .int .i64 t, .string u].toArray) H=PP at*;go_enter func70,ntmps70;go_wp2_with(refine an rfl 43 rfl Ai FM #[.int .i64 0, .int .i64 0, .int .i64 0, .string ByteArray.empty] rfl ?_);intro w1 n1;have D:=af n1;clear n1;generalize y:W.heap.size=g2 at*;have A:Hid (aq w1 g2 43 #[.int .i64 0, .int .i64 0, .int .i64 0, .string ByteArray.empty]):=by have h:=D.out.aF;rw[y]at h;exact h
 have B:=af y;clear y;go_wp2_with(refine an rfl 43 rfl Ai FM #[.int .i64 0, .int .i64 0, .int .i64 0, .string ByteArray.empty] rfl ?_);intro w2 M;have E:=af M;clear M;generalize F:w1.heap.size=g3 at*;have k:Hid (aq w2 g3 43 #[.int .i64 0, .int .i64 0, .int .i64 0, .string ByteArray.empty]):=by have h:=E.out.aF;rw[F]at h;exact h
 have r:Hid (g2<g3):=by have:=D.out.size;have:=B.out;simp only[Hid];omega
 have d:Hid (W.heap.size<=g2/\W.heap.size<=g3):=by have:=B.out;have:=r.out;exact⟨by omega,by omega⟩
 clear F;have f:=af (A.out.fr E.out.fr id);have m:Hid (Fr (eH g) W w2):=(D.out.fr.trans E.out.fr).bR;have c:=af (z.out.later (D.out.fr.trans E.out.fr));clear D E A;go_wp2_with fail;refine(R.out _ c.out).mono ?_;rintro e ab⟨rfl,s,f3⟩;have f:=af (f.out.only c.out f3 (by decide));have k:=af (k.out.only c.out f3 (by decide));have m:Hid (Fr (eH g) W ab):=m.out.trans f3;have c:=af s;clear s f3;go_wp2_with(refine aZ rfl 3 (.tmp 6) (.tmp 5) rfl g3 0 (.int .i64 n) rfl rfl rfl nO _ _ #[.int .i64 n, .int .i64 0, .int .i64 0, .string ByteArray.empty] k.out (show 0<4 by decide) rfl ?_);intro N b3 f3;have k:Hid (aq N g3 43 #[.int .i64 n, .int .i64 0, .int .i64 0, .string ByteArray.empty]):=b3;have f:=af (f.out.fr f3 (λe=>by have v:g2=g3:=e;have:=r.out;omega));have c:=af (z.out.wu c.out f3 d.out.2);have m:Hid (Fr (eH g) W N):=m.out.aw f3 (λi G e=>by have v:i=g3:=e;have:=d.out;omega);clear b3 f3;go_wp2_with fail;refine(T.out _ c.out).mono ?_;rintro e ac⟨rfl,s,f3⟩;have f:=af (f.out.only c.out f3 (by decide));have k:=af (k.out.only c.out f3 (by decide));have m:Hid (Fr (eH g) W ac):=m.out.trans f3;have c:=af s;clear s f3;go_wp2_with(refine aZ rfl 3 (.tmp 9) (.tmp 8) rfl g3 1 (.int .i64 q) rfl rfl rfl nO _ _ #[.int .i64 n, .int .i64 q, .int .i64 0, .string ByteArray.empty] k.out (show 1<4 by decide) rfl ?_);intro O b3 f3;have k:Hid (aq O g3 43 #[.int .i64 n, .int .i64 q, .int .i64 0, .string ByteArray.empty]):=b3;have f:=af (f.out.fr f3 (λe=>by have v:g2=g3:=e;have:=r.out;omega));have c:=af (z.out.wu c.out f3 d.out.2);have m:Hid (Fr (eH g) W O):=m.out.aw f3 (λi G e=>by have v:i=g3:=e;have:=d.out;omega);clear b3 f3;go_wp2_with fail;refine(U.out _ c.out).mono ?_;rintro e ad⟨rfl,s,f3⟩;have f:=af (f.out.only c.out f3 (by decide));have k:=af (k.out.only c.out f3 (by decide));have m:Hid (Fr (eH g) W ad):=m.out.trans f3;have c:=af s;clear s f3;go_wp2_with(refine aZ rfl 3 (.tmp 12) (.tmp 11) rfl g3 2 (.int .i64 t) rfl rfl rfl nO _ _ #[.int .i64 n, .int .i64 q, .int .i64 t, .string ByteArray.empty] k.out (show 2<4 by decide) rfl ?_);intro P b3 f3;have k:Hid (aq P g3 43 #[.int .i64 n, .int .i64 q, .int .i64 t, .string ByteArray.empty]):=b3;have f:=af (f.out.fr f3 (λe=>by have v:g2=g3:=e;have:=r.out;omega));have c:=af (z.out.wu c.out f3 d.out.2);have m:Hid (Fr (eH g) W P):=m.out.aw f3 (λi G e=>by have v:i=g3:=e;have:=d.out;omega);clear b3 f3;go_wp2_with fail;refine(V.out _ c.out).mono ?_;rintro e x3⟨rfl,s,f3⟩;have f:=af (f.out.only c.out f3 (by decide));have k:=af (k.out.only c.out f3 (by decide));have m:Hid (Fr (eH g) W x3):=m.out.trans f3;have c:=af s;clear s f3;go_wp2_with(refine aZ rfl 41 (.tmp 15) (.tmp 14) rfl g3 3 (.string u) rfl rfl rfl vW _ _ #[.int .i64 n, .int .i64 q, .int .i64 t, .string u] k.out (show 3<4 by decide) rfl ?_);intro y3 b3 f3;have k:Hid (aq y3 g3 43 #[.int .i64 n, .int .i64 q, .int .i64 t, .string u]):=b3;have f:=af (f.out.fr f3 (λe=>by have v:g2=g3:=e;have:=r.out;omega));have c:=af (z.out.wu c.out f3 d.out.2);have m:Hid (Fr (eH g) W y3):=m.out.aw f3 (λi G e=>by have v:i=g3:=e;have:=d.out;omega);clear b3 f3;go_wp2_with(refine aB rfl 43 (.tmp 3) rfl ⟨g3,0,none⟩ rfl [Value.int .i64 n, .int .i64 q, .int .i64 t, .string u] _ ?zA underlying43 rfl gj (aX.go ?zB));case zA=>
  intro j x aa;rw[Addr.add_mid,Nat.zero_add,k.out.cell j,bP];exact aa
 unfold aX;have C:Hid ([Value.int .i64 n, .int .i64 q, .int .i64 t, .string u].toArray.all (·.oneCell')=true):=by simp[Hid,Value.oneCell']
 go_wp2_with(refine ai rfl 43 (.tmp 2) _ rfl g2 [Value.int .i64 n, .int .i64 q, .int .i64 t, .string u].toArray rfl rfl _ _ f.out gj rfl C.out ?_);intro I L J;have Q:=af L;have Z:Hid (Ri o I g S H):=z.out.wu c.out J d.out.1;have X:Hid (Fr (eH g) W I):=m.out.aw J (λi G e=>by have v:i=g2:=e;have:=d.out;omega);have Y:=af (w.out I Z.out X.out);clear L J;go_wp2;exact bodyPost_ret (results_cell_row (fn:=Tryz.f70) (p:=2) (ty:=43) results70 _ I _ 43 _ (0,0) _ rfl Q.out underlying43 rfl gj) rfl Y.out
theorem Mh(st:dc):(dH st).1.length<=16777216:=by
 unfold dH aE;split;·simp
 ·split;·simp
  next h=>
   simp only[cg]at h⊢;split;·simp
   ·split;·simp
    ·split;·simp
     next a b c=>
      simp only[List.length_take];omega
theorem Co(st:dc):(aE 0 (aO (st.1.length:Int)) st).1<=(st.1.length:Int)/\0<=(aE 0 (aO (st.1.length:Int)) st).1:=by
 unfold aE;split;·simp
 ·split;·simp
  next h=>
   simp only[ne_eq,Decidable.not_not,aO]at h⊢;by_cases c:(pn st.1 9).2.2=0/\(st.1.length:Int)<((pn st.1 9).1:Int);·rw[if_pos c]at h;cases h
   ·rw[if_neg c]at h;have a:(pn st.1 9).2.2=0:=by omega
    have:¬(st.1.length:Int)<((pn st.1 9).1:Int):=λx=>c ⟨a,x⟩;omega
def Nl(c W:World)(g:Nat)(S:Nat->Prop)(a:Option (List CV×dc))(e:Ending)(W':World):Prop:=
 ∃v b,e= .returned (.tuple #[v, .bool b])/\Fr (eH g) W W'/\((b=true/\∃L st,a=some (L,st)/\ed W' v L/\L.length<=1099511627776/\Ri c W' g S st/\∀k,v.ownBlock=some k->W.heap.size<=k)\/(b=false/\a=none/\v= .slice none 0 0/\c.heap.size<=W'.heap.size/\Fr Nothing c W'))
def Nk(c W:World)(g:Nat)(S:Nat->Prop)(N:Nat)(a:Option (List CV×dc))(v i:Value)(wr:World):Prop:=
 ∃(k:Nat)(st:dc)(L:List CV),k<=N/\i= .int .i64 (k:Int)/\ko (N-k) st L=a/\L.length=k/\ed wr v L/\(∀b,v.ownBlock=some b->W.heap.size<=b)/\Ri c wr g S st/\Fr (eH g) W wr
theorem Hc(n:aG)(s:ByteArray)(b:Bool):prog.built 119 [(0, .agg n.cells.toArray),(2, .bool b),(1, .string s)]=some (CV.cells ⟨n,s,b⟩).toArray:=by kernel_rfl
theorem JV(n:aG):(prog.info? 106).map (·.size)=some n.cells.toArray.size:=aW
theorem KY(w:World):(zeroValue 106).run prog w= .ok (.agg (aG.cells ⟨0,ByteArray.empty,0,0,ByteArray.empty⟩).toArray) w:=by kernel_rfl
theorem tc(q W:World)(g:Nat)(S:Nat->Prop)(st:dc)(h:Ri q W g S st)(bO:dO q):
  Calls prog 71 #[.pointer (some ⟨g,0,none⟩)] W (Nl q W g S (ik st)):=by
 have aB:=af h;have b1:=af bO;have D:Hid (ik st=ko (aE 0 (aO (st.1.length:Int)) st).1.toNat (aE 0 (aO (st.1.length:Int)) st).2 []):=rfl;obtain⟨N,hN⟩:∃N:Nat,(aE 0 (aO (st.1.length:Int)) st).1=(N:Int):=⟨_,(Int.toNat_of_nonneg (Co st).2).symm⟩;have K:Hid (N<=1099511627776):=by
  have b4:=(Co st).1;have b5:=h.rr.small;simp only[Hid];omega
 rw[hN,Int.toNat_natCast]at D;have br:Hid (∀W',Ri q W' g S st->Calls prog 107 #[.pointer (some ⟨g,0,none⟩), .int .i64 (st.1.length:Nat)] W' (rG q W' g S (.int .i64 (N:Int)) (aE 0 (aO (st.1.length:Int)) st).2)):=λW' h=>by
  rw[<-hN];exact h.number _
 have bs:Hid (Calls prog 117 #[.pointer (some ⟨g,0,none⟩)] W (bJ W (.int .i64 (st.1.length:Nat)))):=h.rest;obtain⟨r,ba⟩:∃O,ik st=O:=⟨_,rfl⟩;rw[ba]at D;rw[ba];generalize(aE 0 (aO (st.1.length:Int)) st).2=s1 at*;obtain⟨i0,ak,am,E,bc⟩:=info_parts nX;have a6:Hid (¬1*i0.size>2^24):=by simp only[Hid];rw[E];omega
 have a7:Hid (¬1*i0.size=0):=by simp only[Hid];rw[E];omega
 have a8:Hid (∀c:CV,Instr.fill (λi=>some (i*i0.size,i0.size)) ((Array.range (1*i0.size)).map (cm.cells[· %cm.cells.size]!)) [(0, .agg c.cells.toArray)]=some c.cells.toArray):=λc=>by rw[E];exact lj _ _ rfl (by simp[cm,Value.cells])
 clear h bO hN ba;go_enter func71,ntmps71;go_wp2_with fail;refine bs.out.mono ?_;rintro e w1⟨rfl,rfl⟩;go_wp2_with fail;refine(br.out _ aB.out).mono ?_;rintro e w1⟨rfl,bU,f1⟩;have aa:Hid (Nk q W g S N r (.slice none 0 0) (.int .i64 0) w1):=⟨0,s1,[],Nat.zero_le _,rfl,D.out.symm,rfl,ed.nil _,(λb ac=>by simp[Value.ownBlock]at ac),bU,f1⟩;clear bU f1 br bs D;go_wp2;go_loopw[4,12](λv i wr=>Nk q W g S N r v i wr)(λ_ i _=>N-(intOf i).toNat);case atStart=>exact aa.out
 case round=>
  obtain⟨k,l,L,ce,rfl,bM,Q,bL,aI,a,hF⟩:=hrel;have aC:=af a;have aX:=af hF;have a1:=af Q;have bk:=af aI;obtain⟨av,n4,aD,rfl,M⟩:=bL.form;have aN:=af M;have cc:Hid (n4=k):=by
   obtain⟨A,n,c,e,b7,_⟩:=M.cl;cases e;rw[Hid,b7,Q]
  have ax:=af bM;clear a hF Q aI bL M bM aa;by_cases b6:k<N
  ·have bN:(k:Int)<(N:Int):=by omega
   have t1:decide ((k:Int)<(N:Int))=true:=decide_eq_true bN;have bv:Hid (ko (N-k-1+1) l L=r):=by rw[Hid,show N-k-1+1=N-k by omega];exact ax.out
   have a0:Hid ((dH l).1.length<=16777216):=Mh l;have bt:Hid (∀W',Ri q W' g S l->Calls prog 104 #[.pointer (some ⟨g,0,none⟩), .int .i64 16777216] W' (rG q W' g S (.string ⟨(dH l).1.toArray⟩) (dH l).2)):=λW' h=>h.text _;have o:Hid (ko (N-k-1+1) l L=if(dh (dH l).1).2≠0 then none else ko (N-k-1) (aV (aE false cC (dH l).2).2).2 (L++[⟨(dh (dH l).1).1,⟨(aV (aE false cC (dH l).2).2).1.toArray⟩,(aE false cC (dH l).2).1⟩])):=rfl;rw[bv.out]at o;generalize(dH l).1=V at*;generalize(dH l).2=s2 at*;clear ax bv;go_wp2_with fail;refine(bt.out _ aC.out).mono ?_;rintro e w2⟨rfl,bV,f2⟩;have a3:=af bV;have bw:Hid (Fr (eH g) W w2):=aX.out.trans f2;have bl:=af (aN.out.only aC.out f2);clear bV f2 bt;obtain⟨m,hm⟩:∃m,dh V=m:=⟨_,rfl⟩;have aM:Hid (∀w',Fr Nothing q w'->Calls prog 118 #[.string ⟨V.toArray⟩] w' (λe z=>e= .returned (.tuple #[.agg m.1.cells.toArray, .int .i64 m.2])/\Fr Nothing w' z)):=λw' f=>by
    have h:=xO ⟨V.toArray⟩ w' (b1.out.ao f) (by have:=a0.out;simp[ByteArray.size];omega);unfold rB at h;rw[show aQ ⟨V.toArray⟩=V from nS V,hm]at h;exact h
   rw[hm]at o;clear hm aC aX aN;obtain⟨nm,a4⟩:=m;simp only at aM o;go_wp2_with fail;refine(aM.out _ a3.out.fr).mono ?_;rintro e w3⟨rfl,f3⟩;have bz:=af (a3.out.later f3);have aP:Hid (Fr (eH g) W w3):=bw.out.trans f3.bR;have bm:=af (bl.out.ao f3);clear f3 aM a3 bw bl;go_wp2_with(refine an rfl 106 rfl (.agg (aG.cells ⟨0,ByteArray.empty,0,0,ByteArray.empty⟩).toArray) KY (aG.cells ⟨0,ByteArray.empty,0,0,ByteArray.empty⟩).toArray rfl ?_);intro ca bT;have a2:=af bT;clear bT;generalize ae:w3.heap.size=g5 at*;have I:=af ae;clear ae;have bj:Hid (aq ca g5 106 (aG.cells ⟨0,ByteArray.empty,0,0,ByteArray.empty⟩).toArray):=by have h:=a2.out.aF;rw[I.out]at h;exact h
   have b0:Hid (W.heap.size<=g5):=by have:=aP.out.size;have:=I.out;simp only[Hid];omega
   go_wp2_with(refine ai rfl 106 (.tmp 5) _ rfl g5 nm.cells.toArray rfl rfl _ _ bj.out (JV nm) rfl nm.one ?_);intro bg bb bK;have bh:Hid (aq bg g5 106 nm.cells.toArray):=bb;have az:Hid (Fr Nothing w3 bg):=a2.out.fr.aw bK (λi y e=>by have b3:i=g5:=e;have:=I.out;omega);have T:=af (bz.out.later az.out);have aR:Hid (Fr (eH g) W bg):=aP.out.trans az.out.bR;have bn:=af (bm.out.ao az.out);clear bb bK a2 bj az bz aP bm;by_cases s:a4=0;case neg=>
    have t2:(a4 !=0)=true:=by rw[bne_iff_ne];exact s
    have t:Hid (r=none):=by rw[Hid,o.out,if_pos s]
    clear s o;go_wp2;go_ret2;exact⟨_,_,rfl,aR.out, .inr ⟨rfl,t.out,rfl,T.out.fr.size,T.out.fr⟩⟩
   have t2:(a4 !=0)=false:=by rw[bne_eq_false_iff_eq];exact s
   have ab:Hid (r=ko (N-k-1) (aV (aE false cC s2).2).2 (L++[⟨nm,⟨(aV (aE false cC s2).2).1.toArray⟩,(aE false cC s2).1⟩])):=by rw[Hid,o.out,if_neg (by simp[s])]
   clear s o;have bq:Hid (∀W',Ri q W' g S s2->Calls prog 119 #[.pointer (some ⟨g,0,none⟩)] W' (rG q W' g S (.bool (aE false cC s2).1) (aE false cC s2).2)):=λW' h=>h.flag;generalize(aE false cC s2).1=aH at*;generalize(aE false cC s2).2=p at*;go_wp2_with fail;refine(bq.out _ T.out).mono ?_;rintro e be⟨rfl,bW,f5⟩;have B:=af bW;have aS:Hid (Fr (eH g) W be):=aR.out.trans f5;have bo:=af (bn.out.only T.out f5);have Y:=af (bh.out.only T.out f5 (by decide));clear bW f5 bq T aR bn bh;have bu:Hid (∀W',Rr W' g S p.1 p.2.1 p.2.2->Calls prog 104 #[.pointer (some ⟨g,0,none⟩), .int .i64 65536] W' (λe z=>e= .returned (.string ⟨(aV p).1.toArray⟩)/\Fr (eH g) W' z/\Rr z g S (aV p).2.1 (aV p).2.2.1 (aV p).2.2.2)):=λW' h=>by
    refine(kH g S _ _ _ 65536 W' h).mono ?_;rintro e z⟨rfl,bQ⟩;exact⟨rfl,bQ.fr,bQ.rr⟩
   generalize(⟨(aV p).1.toArray⟩:ByteArray)=aJ at*;generalize(aV p).2=G at*;have aK:=af (Hc nm aJ aH);have Z:=af (CV.one ⟨nm,aJ,aH⟩);obtain⟨cv,R⟩:∃cv:CV,cv=⟨nm,aJ,aH⟩:=⟨_,rfl⟩;rw[<-R]at aK Z ab;have aY:Hid (cv.cells.length=7):=by rw[R];rfl
   clear R;have aZ:Hid (g<be.heap.size):=B.out.rr.lt;go_upto_region 8 with fail;refine ay 7 (eH g) [Is (.slice av n4 aD),Is (.agg nm.cells.toArray),Is (.bool aH),Is (.pointer (some ⟨g,0,none⟩)),Is (.string aJ),Is (.agg cv.cells.toArray),λx X=>∃b,x= .slice (some ⟨b,0,none⟩) 1 1/\aq X b 119 cv.cells.toArray/\b≠g/\be.heap.size<=b] [(4,λX=>Rr X g S G.1 G.2.1 G.2.2)] (λX=>Rr X g S p.1 p.2.1 p.2.2) (λ_ _=>false) (by kernel_rfl) (by kernel_rfl) (by kernel_rfl) (by kernel_rfl) ⟨Is.ag _,Is.ag _,Is.ag _,Is.ag _,Is.ag _,Is.ag _,λ_ _ _ _ w⟨b,h,k,n,m⟩=>⟨b,h,k.fr w n,n,m⟩,trivial⟩ ⟨λ_ _ _ h a9=>a9.iZ h,trivial⟩ (λ_ _ _ h a9=>a9.iZ h) (B.out.rr.iZ aA.drew) ?_ ?_
   ·refine⟨?zE,?zA,?zF,?zG,?zB,?zC,?zD,trivial⟩;all_goals intro u w' d w a ap F C
    all_goals simp only[bC,bD,bE,bF,ar,Act.put,bG,bH,bI,Nat.reduceAdd,Nat.zero_add]
    case zA=>
     clear a ap F C;refine aj ?_;exact au _ _ rfl ⟨g5,0,none⟩ rfl nm.cells _ (ly (Y.out.only B.out w (by decide))) underlying106 rfl aW ⟨_,rfl,al⟩
    case zB=>
     simp only[ah (a 3)];clear a;refine aj ?_;have aI:Rr w' g S p.1 p.2.1 p.2.2:=by rw[dx,if_neg (by rw[F 4 (by kernel_rfl)];exact Bool.false_ne_true)]at C;exact C
     clear ap F C;go_simp;refine(bu.out _ aI).mono ?_;rintro e cg⟨rfl,f4,b9⟩;exact⟨_,rfl,f4,rfl,b9⟩
    case zC=>
     simp only[ah (a 1),ah (a 2),ah (a 4)];clear a ap F C;refine aj ?_;exact iw 119 _ rfl _ _ (by simp only[List.map_toArray,List.map_cons,List.map_nil];rfl) aK.out ⟨_,rfl,al⟩
    case zD=>
     simp only[ah (a 5)];clear a ap F C;refine aj ?_;refine wp_buildSlice 44 119 1 #[(0, .tmp 29)] rfl cv.cells.toArray i0 cm underlying44 ak am a6.out a7.out ?_ ?_;·simp only[List.map_toArray,List.map_cons,List.map_nil];exact a8.out cv
     ·exact⟨_,rfl,aA.alloc _,⟨w'.heap.size,rfl,aq.new _ _ _,by have:=aZ.out;have:=w.size;omega,w.size⟩,trivial⟩
    all_goals
     clear a ap F C;refine aj ?_;go_simp;exact⟨_,rfl,al⟩
   intro u w' w a C;obtain⟨bA,bB,ad,bd,a5⟩:=a 6 (by omega);have F:u 0=_:=a 0 (by omega);have bS:Rr w' g S G.1 G.2.1 G.2.2:=C;have aU:Hid (Fr (eH g) W w'):=aS.out.trans w;have bp:=af (bo.out.only B.out w);have bi:=af ad;have cb:Hid (W.heap.size<=bA):=by have:=aS.out.size;simp only[Hid];omega
   have U:Hid (Ri q w' g S G):=⟨B.out.fr.aw w (λi y e=>by have b3:i=g:=e;have:=B.out.new;omega),bS,B.out.new,λi y=>⟨(B.out.sn i y).1,Nat.lt_of_lt_of_le (B.out.sn i y).2 w.size⟩⟩;simp only[bC,bD,bE,bF,ar,Act.put,bG,bH,bI,dt,du,Nat.reduceAdd,Nat.zero_add,F,bB];clear w a C bS ad bd a5 F bB B aS bo Y bu aK;have bx:Hid (w'.ownsRow 0 119 7 (.slice av n4 aD) L.length (L.flatMap CV.cells)):=bp.out;refine fJ _ rfl _ _ 44 rfl 119 i0 cm 7 80 underlying44 ak am E bc rfl (by decide) _ _ _ rfl bx.out (λ_=>True) (some ⟨bA,0,none⟩) 1 1 cv.cells rfl ⟨aY.out,λ_=>⟨_,rfl,trivial,λj x b8=>by rw[Addr.add_mid,Nat.zero_add,bi.out.cell,bP];exact b8⟩⟩ (λu hu=>by
    have h:=Z.out;rw[Array.all_eq_true_iff_forall_mem]at h;exact h u (by simpa using hu)) (by have:=K.out;have:=a1.out;omega) (by decide) ?_;intro bX bf P;have bY:Hid (ed bf bX (L++[cv])):=by
    rw[Hid,ed,aT,List.flatMap_append,List.flatMap_cons,List.flatMap_nil,List.append_nil];exact P.own
   have H:Hid (∀b,(Value.slice av n4 aD).ownBlock=some b->W.heap.size<=b):=bk.out;have aL:Hid (∀b,bX.ownBlock=some b->W.heap.size<=b):=λb ac=>by
    rcases P.eL b ac with h|h;·exact H.out b h
    ·have:=aU.out.size;omega
   have J:Hid (∀b,(Value.slice av n4 aD).ownBlock=some b->b≠g/\¬S b/\q.heap.size<=b):=λb ac=>by
    have b4:=H.out b ac;have b5:=aB.out.rr.lt;have cd:=aB.out.fr.size;exact⟨by omega,λh=>by have:=(aB.out.sn b h).2;omega,by omega⟩
   have bZ:Hid (Fr (eH g) W bf):=aU.out.aw P.fr (λi y e=>by have:=H.out i e;omega);have b2:Hid (Ri q bf g S G):=⟨U.out.fr.aw P.fr (λi y e=>by have:=(J.out i e).2.2;omega),U.out.rr.kl P.fr (λe=>(J.out g e).1 rfl) (λi y e=>(J.out i e).2.1 y),U.out.new,λi y=>⟨(U.out.sn i y).1,Nat.lt_of_lt_of_le (U.out.sn i y).2 P.fr.size⟩⟩;clear P bx U aU bp bi;have cf:N<=1099511627776:=K.out;go_wp2;go_roundw;case rel=>exact⟨k+1,G,L++[cv],by omega,by go_num,by rw[ab.out,show N-(k+1)=N-k-1 by omega],by rw[aT,a1.out];rfl,bY.out,aL.out,b2.out,bZ.out⟩
   case measure=>simp[intOf];omega
  ·obtain rfl:k=N:=by omega
   have bN:¬(k:Int)<(k:Int):=by omega
   have t:Hid (r=some (L,l)):=by
    rw[Hid,<-ax.out,Nat.sub_self,ko]
   clear ax;go_wp2;go_ret2;exact⟨_,_,rfl,aX.out, .inl ⟨rfl,L,l,t.out,aN.out,by rw[a1.out];exact K.out,aC.out,bk.out⟩⟩
theorem rk{P:Program}{ops:Array Oper}{rest:List Oper}{b c:Oper}{a:Act}{w:World}{Q:Exit->Act->World->Prop}(j:b.guard=none)(k:c.guard=none)(t:TypeId)(d:Tmp)(l:b.op= .alloc t)(v:b.dst=some d)(y:Operand)(m:c.op= .store t (.tmp d) y)
  (z:Value)(s:∀w,(zeroValue t).run P w= .ok z w)(f:Array Value)(n:z.cells=f)(cells:Array Value)
  (q:∀g,(a.put b.dst (.pointer (some ⟨g,0,none⟩))).eval (.tmp d)= .pointer (some ⟨g,0,none⟩))(r:∀g,(a.put b.dst (.pointer (some ⟨g,0,none⟩))).eval y= .agg cells)
  (o:(P.info? t).map (·.size)=some cells.size)(hold:f.size=cells.size)(p:cells.all (·.oneCell')=true)
  (h:∀w' g,w.heap.size<=g->g<w'.heap.size->aq w' g t cells->Fr Nothing w w'->wpList P ops Q rest ((a.put b.dst (.pointer (some ⟨g,0,none⟩))).put c.dst undef) w'):wpList P ops Q (b::c::rest) a w:=by
 refine an j t l z s f n λw1 n1=>?_;refine ai k t (.tmp d) y m w.heap.size cells (q _) (r _) t f n1.aF o hold p λw2 b2 f2=>?_;exact h w2 w.heap.size (Nat.le_refl _) b2.lt b2 (n1.fr.aw f2 (λi o e=>by have u:i=w.heap.size:=e;omega))
theorem pW{P:Program}{ops:Array Oper}{rest:List Oper}{b F c:Oper}{a:Act}{w:World}{Q:Exit->Act->World->Prop}(j:b.guard=none)(r:F.guard=none)(k:c.guard=none)(t:TypeId)(d:Tmp)(l:b.op= .alloc t)(E:b.dst=some d)(x:Operand)(s:F.op= .assign x)(y:Operand)(m:c.op= .store t (.tmp d) y)
  (z:Value)(C:∀w,(zeroValue t).run P w= .ok z w)(f:Array Value)(n:z.cells=f)(v:Value)(cells:Array Value)
  (u:∀g,(a.put b.dst (.pointer (some ⟨g,0,none⟩))).eval x=v)
  (A:∀g,((a.put b.dst (.pointer (some ⟨g,0,none⟩))).put F.dst v).eval (.tmp d)= .pointer (some ⟨g,0,none⟩))(B:∀g,((a.put b.dst (.pointer (some ⟨g,0,none⟩))).put F.dst v).eval y= .agg cells)
  (o:(P.info? t).map (·.size)=some cells.size)(hold:f.size=cells.size)(p:cells.all (·.oneCell')=true)
  (h:∀w' g,w.heap.size<=g->g<w'.heap.size->aq w' g t cells->Fr Nothing w w'->wpList P ops Q rest (((a.put b.dst (.pointer (some ⟨g,0,none⟩))).put F.dst v).put c.dst undef) w'):wpList P ops Q (b::F::c::rest) a w:=by
 refine an j t l z C f n λw1 n1=>?_;refine wpList_plain r λK q=>?_;unfold Oper.wp execOp;simp only[s,Sem.run_pure,u];refine q _ _ ?_;refine ai k t (.tmp d) y m w.heap.size cells (A _) (B _) t f n1.aF o hold p λw2 b2 f2=>?_;exact h w2 w.heap.size (Nat.le_refl _) b2.lt b2 (n1.fr.aw f2 (λi o e=>by have D:i=w.heap.size:=e;omega))
end Go.Proofs.YtphjagkehiklkaaGreatDoor
