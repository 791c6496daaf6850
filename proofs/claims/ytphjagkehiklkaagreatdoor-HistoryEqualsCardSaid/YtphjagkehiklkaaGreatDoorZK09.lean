/- Texts. -/
import Derived.Test.YtphjagkehiklkaaGreatDoorZK08
set_option linter.unusedVariables false
set_option linter.unusedSimpArgs false
set_option maxRecDepth 100000
set_option maxHeartbeats 4000000
namespace Go.Proofs.YtphjagkehiklkaaGreatDoor
open Go.RowKit Go.Shelf
theorem kt{P:Program}(w:World)(t e:TypeId)(c:TypeInfo)(hu:P.underlying t=some (.slice e))(a:P.info? e=some c):
  (Instr.buildSlice t 0 #[]).run P w= .ok (.slice (some ⟨w.heap.size,0,none⟩) 0 0) (w.alloc (.cells #[] e)):=by
 have b:∀cs:Array Value,(newRow e cs).run P w= .ok ⟨w.heap.size,0,none⟩ (w.alloc (.cells cs e)):=fun cs=>rfl;simp[Instr.buildSlice,run_underlying hu,sizeOf,typeInfo,a,Result.andThen,Instr.fill,b];rw[show(Array.range 0).map (fun _=>(default:Value))=#[]from Array.eq_empty_of_size_eq_zero (by simp)]
theorem jW{P:Program}{f:Oper}{a:Act}{w:World}{K:Act→World→Prop}{Q:Exit→Act→World→Prop}(t e:TypeId)(d:f.op= .buildSlice t 0 #[])(c:TypeInfo)
  (hu:P.underlying t=some (.slice e))(b:P.info? e=some c)(h:∀w',dm w w' e #[]→K (a.put f.dst (.slice (some ⟨w.heap.size,0,none⟩) 0 0)) w'):f.wp P a w K Q:=by
 unfold Oper.wp;simp[execOp,d,kt w t e c hu b,Result.andThen];exact h _ (dm.alloc w e #[])
theorem gY{P:Program}{ops:Array Oper}{rest:List Oper}{j:Oper}{a:Act}{w:World}{Q:Exit→Act→World→Prop}(f:j.guard=none)(t e:TypeId)(i:j.op= .buildSlice t 0 #[])(c:TypeInfo)
  (hu:P.underlying t=some (.slice e))(b:P.info? e=some c)(h:∀w',dm w w' e #[]→wpList P ops Q rest (a.put j.dst (.slice (some ⟨w.heap.size,0,none⟩) 0 0)) w'):wpList P ops Q (j::rest) a w:=
 wpList_plain f fun _ d=>jW t e i c hu b fun w' g=>d _ _ (h w' g)
theorem dm.Cq{w w':World}{e:TypeId}{size:Nat}(h:dm w w' e #[]):w'.ownsRow 0 e size (.slice (some ⟨w.heap.size,0,none⟩) 0 0) 0 []:=
 ⟨by simp, .inr ⟨w.heap.size,0,#[],rfl,Nat.zero_le _,h.aE,Nat.le_refl _,Nat.zero_le _,by simp,by simp⟩⟩
theorem Jd{P:Program}(w:World)(t ty e:TypeId)(i:TypeInfo)(d:P.underlying t=some (.slice e))(b:P.info? e=some i)(g:Nat)(A:Option Addr)(c:Nat):
  (Builtin.append_ #[t,t] ty #[.slice (some ⟨g,0,none⟩) 0 0, .slice A 0 c]).run P w= .ok (.slice (some ⟨g,0,none⟩) 0 0) w:=by
 cases A with
 |none=>simp[Builtin.append_,run_underlying d,sizeOf,typeInfo,b,Builtin.lenOf,Builtin.firstCells,storeCells,Result.andThen]
 |some a=>
  have h:=run_append_room_cells (P:=P) (w:=w) t ty e i d b g 0 0 0 a 0 c [] (by simp) (by simp) (by simp) (by simp) (by simp) (by simp);simpa[World.setCells]using h
theorem IY{w:World}{base:Nat}{e:TypeId}{size n:Nat}{v:Value}{xs:List Value}(h:w.ownsRow base e size v n xs):w.ownsRow 0 e size v n xs:=by
 refine⟨h.1,?_⟩;rcases h.2 with h|⟨g,cap,cur,a,_,b⟩;·exact .inl h
 ·exact .inr ⟨g,cap,cur,a,Nat.zero_le _,b⟩
theorem Dl{P:Program}{O:Oper}{a:Act}{w:World}{K:Act→World→Prop}{Q:Exit→Act→World→Prop}(s x:Operand)(t:TypeId)(C:O.op= .call {callee:= .builtin .append,args:=#[s,x],argTypes:=#[t,t]})
  (e:TypeId)(i:TypeInfo)(z:Value)(size bytes:Nat)(E:P.underlying t=some (.slice e))(B:P.info? e=some i)(M:i.zero=some z)(j:i.size=size)(p:i.bytes=bytes)(v:z.cells.size=size)(u:0<size)
  (g:Nat)(D:a.eval s= .slice (some ⟨g,0,none⟩) 0 0)(l:w.ownsRow 0 e size (.slice (some ⟨g,0,none⟩) 0 0) 0 [])(S:Nat→Prop)(A:Option Addr)(m c:Nat)(news:List Value)(F:a.eval x= .slice A m c)(r:Rd w S size A m news)(d:m*bytes≤140737488355328)(hm:m≤1048576)
  (h:∀o w',w'.ownsRow 0 e size o m news→Fr ag w w'→(∀k,o.ownBlock=some k→k=g∨w.heap.size≤k)→K (a.put O.dst o) w'):O.wp P a w K Q:=by
 by_cases q:m=0;·subst q;have L:news=[]:=List.length_eq_zero_iff.1 (by have:=r.1;omega);subst L;have b:=Jd (P:=P) w t O.type e i E B g A c;unfold Oper.wp execOp;simp only[C,resolve,invoke,builtin,Sem.run_bind,Sem.run_pure,Result.andThen_ok,List.map_toArray,List.map_cons,List.map_nil,D,F,b];exact h _ _ l az (fun k n=> .inl (by simpa[Value.ownBlock]using n.symm))
 ·obtain⟨G,rfl,_,H⟩:=r.2 (by omega);obtain⟨o,w',b,f,I⟩:=run_append_arg_grows (P:=P) (w:=w) t O.type e i z size bytes E B M j p v u ⟨g,0,none⟩ 0 0 [] (by simp) (by simp) G m c news r.1 H (by omega) (by simp only[maxLen];omega) (by simpa using d);rw[Nat.zero_add]at f;unfold Oper.wp execOp;simp only[C,resolve,invoke,builtin,Sem.run_bind,Sem.run_pure,Result.andThen_ok,List.map_toArray,List.map_cons,List.map_nil,D,F,b];refine h _ _ (IY f) ((Fr.grown I).mono (fun _ _ e=>by cases e)) (fun k n=> .inr ?_);rcases f.2 with⟨rfl,_⟩|⟨N,y,cur,rfl,J,_⟩;·simp[Value.ownBlock]at n
  ·simp[Value.ownBlock]at n;omega
theorem mQ(L:List Ent):(L.flatMap mj).length=L.length*6:=by
 induction L with
 |nil=>rfl
 |cons x L a=>rw[List.flatMap_cons,aS,a,iq,List.length_cons];omega
theorem xS(L:List Ent)(k:Nat):(L.take k).flatMap mj=(L.flatMap mj).take (k*6):=by
 induction L generalizing k with
 |nil=>simp
 |cons x L a=>
  cases k with
  |zero=>simp
  |succ k=>
   rw[List.take_succ_cons,List.flatMap_cons,List.flatMap_cons,a,List.take_append,iq,show(mj x).take ((k+1)*6)=mj x from List.take_of_length_le (by rw[iq];omega),show(k+1)*6-6=k*6 by omega]
theorem xR(L:List Ent)(k:Nat):(L.drop k).flatMap mj=(L.flatMap mj).drop (k*6):=by
 induction L generalizing k with
 |nil=>simp
 |cons x L a=>
  cases k with
  |zero=>simp
  |succ k=>
   rw[List.drop_succ_cons,List.flatMap_cons,a,List.drop_append,iq,show(mj x).drop ((k+1)*6)=[]from List.drop_of_length_le (by rw[iq];omega),List.nil_append,show(k+1)*6-6=k*6 by omega]
theorem EL.take{w:World}{S:Nat→Prop}{A:Option Addr}{n k:Nat}{L:List Ent}(h:EL w S A n L)(g:k≤n):Rd w S 6 A k ((L.take k).flatMap mj):=by
 refine⟨by rw[mQ,List.length_take,h.len];omega,fun f=>?_⟩;obtain⟨a,e,d,b⟩:=h.rd.2 (by omega);refine⟨a,e,d,fun j u hu=>b j u ?_⟩;rw[xS]at hu;have c:=(List.getElem?_eq_some_iff.1 hu).1;rw[List.getElem?_take_of_lt (by rw[List.length_take]at c;omega)]at hu;exact hu
theorem EL.drop{w:World}{S:Nat→Prop}{a:Addr}{n k:Nat}{L:List Ent}(h:EL w S (some a) n L)(g:k≤n):Rd w S 6 (some (a.add (k*6))) (n-k) ((L.drop k).flatMap mj):=by
 refine⟨by rw[mQ,List.length_drop,h.len],fun f=>?_⟩;obtain⟨b,e,d,c⟩:=h.rd.2 (by omega);cases e;refine⟨_,rfl,by unfold Addr.add;split<;>exact d,fun j u hu=>?_⟩;rw[Addr.add_add];refine c _ u ?_;rw[xR,List.getElem?_drop]at hu;exact hu
def lh(c:CV)(L:List Ent):List Ent:=if c.bI then di c.nm L else dE c.nm c.value L
def js(xs:List CV)(L:List Ent):List Ent:=xs.foldl (fun l c=>lh c l) L
def Fx(c:CV)(L:List Ent):List Ent:=if du c.nm then lh c L else L
structure ev(c:CV):Prop where
 owner:c.nm.owner.size≤100
 text:c.nm.text.size≤100
 value:c.value.size≤200
structure cE(k:Nat)(L:List Ent):Prop where
 sort:cG L
 len:L.length≤k
 ok:∀x∈L,du x.1=true
 owner:∀x∈L,x.1.owner.size≤100
 text:∀x∈L,x.1.text.size≤100
 value:∀x∈L,x.2.size≤200
theorem cE.nil:cE 0 []:=⟨List.Pairwise.nil,Nat.le_refl _,(fun _ h=>by cases h),(fun _ h=>by cases h),(fun _ h=>by cases h),(fun _ h=>by cases h)⟩
theorem vC:∀L:List Ent,(∀x∈L,x.2.size≤200)→cJ L≤200*L.length
 |[],_=>by simp[cJ]
 |x::L,h=>by
  have a:=vC L (fun y b=>h y (List.mem_cons_of_mem _ b));have c:=h x (List.mem_cons_self ..);simp only[cJ,List.map_cons,List.sum_cons,List.length_cons]at a⊢;omega
theorem cE.j5{k:Nat}{L:List Ent}(h:cE k L)(b:k≤60000):kY L:=
 ⟨h.sort,fun x a=>by have:=h.owner x a;omega,by have:=h.len;omega,by have:=vC L h.value;have:=h.len;omega,h.ok⟩
theorem cE.more{k a:Nat}{L:List Ent}(h:cE k L)(b:k≤a):cE a L:=⟨h.sort,by have:=h.len;omega,h.ok,h.owner,h.text,h.value⟩
theorem cE.next{k:Nat}{L:List Ent}{c:CV}(h:cE k L)(d:ev c)(e:du c.nm=true):cE (k+1) (lh c L):=by
 unfold lh;cases c.bI
 ·rw[if_neg (by decide)];have hm:=(oE (nm:=c.nm) (v:=c.value) h.sort).2;refine⟨(oE h.sort).1,by have:=(oD (nm:=c.nm) (v:=c.value) L).1;have:=h.len;omega,fun x a=>?_,fun x a=>?_,fun x a=>?_,fun x a=>?_⟩
  ·rcases hm x a with rfl|b;·exact e
   ·exact h.ok x b
  ·rcases hm x a with rfl|b;·exact d.owner
   ·exact h.owner x b
  ·rcases hm x a with rfl|b;·exact d.text
   ·exact h.text x b
  ·rcases hm x a with rfl|b;·exact d.value
   ·exact h.value x b
 ·rw[if_pos rfl];have hm:=(sO (nm:=c.nm) L).subset;exact⟨Ej h.sort,by have:=(mf (nm:=c.nm) L).1;have:=h.len;omega,fun x a=>h.ok x (hm a),fun x a=>h.owner x (hm a),fun x a=>h.text x (hm a),fun x a=>h.value x (hm a)⟩
theorem cE.step{k:Nat}{L:List Ent}{c:CV}(h:cE k L)(a:ev c):cE (k+1) (Fx c L):=by
 unfold Fx;cases b:du c.nm;·exact h.more (by omega)
 ·exact h.next a b
theorem ev.name{c:CV}(h:ev c):nX c.nm:=⟨by have:=h.owner;omega,by have:=h.text;omega⟩
theorem qS(s:ByteArray)(k:Nat):(yw s (k:Int)).size≤k:=by
 rw[yw,ByteArray.size_extract];omega
theorem CV.Ei(c:CV):ev c.cut:=⟨qS _ 100,qS _ 100,qS _ 200⟩
theorem Ft{xs:List CV}{k:Nat}{c:CV}(h:xs[k]? =some c)(L:List Ent):js (xs.take (k+1)) L=lh c (js (xs.take k) L):=by
 rw[js,List.take_add_one,h,Option.toList_some,List.foldl_append];rfl
def Dt(xs:List CV):Prop:=xs.Pairwise (fun a b=>a.nm≠b.nm)
def zE(a b:aJ):Bool:=bQ a b==0
structure NO(a c:List CV):Prop where
 Oa:Dt c
 ok:∀z∈c,du z.nm=true
 of:∀z∈c,z∈a
theorem Dt.at_{c:List CV}(h:Dt c){p q:Nat}{a b:CV}(i:c[p]? =some a)(j:c[q]? =some b)(e:p≠q):a.nm≠b.nm:=by
 obtain⟨f,rfl⟩:=List.getElem?_eq_some_iff.1 i;obtain⟨g,rfl⟩:=List.getElem?_eq_some_iff.1 j;rcases Nat.lt_or_gt_of_ne e with d|d;·exact List.pairwise_iff_getElem.1 h p q f g d
 ·exact(List.pairwise_iff_getElem.1 h q p g f d).symm
def sQ(xs:List CV)(n:Nat):List CV:=(xs.take (min n 24)).map CV.cut
theorem zG(xs:List CV)(n:Nat):∀c∈sQ xs n,ev c:=fun c a=>by
 obtain⟨x,_,rfl⟩:=List.mem_map.1 a;exact x.Ei
def SV(c:CV)(L:List Ent)(v:Value)(w:World):Prop:=∃a,v= .pointer (some ⟨a,0,none⟩)∧eJ w a (Fx c L)
theorem SV.ao{c:CV}{L:List Ent}{v:Value}{w w':World}(h:SV c L v w)(b:Fr ag w w'):SV c L v w':=by
 obtain⟨s,e,a⟩:=h;exact⟨s,e,a.ao b⟩
theorem GV(w:World):(zeroValue 119).run Tryz.prog w= .ok bY w:=by kernel_rfl
def nE(w:World)(L:List Ent)(xs:List CV)(e:Ending)(w':World):Prop:=∃p k,e= .returned (.tuple #[.pointer p, .int .i64 k])∧Fr ag w w'∧
 (((∀c∈xs,du c.nm=true)∧k=0∧∃a,p=some ⟨a,0,none⟩∧eJ w' a (js xs L))∨((∃c∈xs,du c.nm=false)∧k=12∧p=none))
def MO(w:World)(L:List Ent)(xs:List CV)(n m:Nat)(s i:Value)(wr:World):Prop:=∃(k a:Nat),k≤n∧s= .pointer (some ⟨a,0,none⟩)∧i= .int .i64 (k:Int)∧eJ wr a (js (xs.take k) L)∧cE (m+k) (js (xs.take k) L)∧(∀c∈xs.take k,du c.nm=true)∧Fr ag w wr
theorem uR(L:List Ent)(xs:List CV)(n m:Nat)(A:Option Addr)(ax:Nat)(S:Nat→Prop)(s:Nat)(w:World)(aj:eJ w s L)(ak:eh w)(C:cE m L)(R:CL w S A n xs)(al:∀c∈xs,ev c)(hm:m+n≤60000):
  Calls Tryz.prog 82 #[.pointer (some ⟨s,0,none⟩), .slice A n ax] w (nE w L xs):=by
 have ar:=af R;have Z:=af ak;have av:=af al;have au:=af R.len;have Y:Hid (MO w L xs n m (.pointer (some ⟨s,0,none⟩)) (.int .i64 0) w):=⟨0,s,by omega,rfl,rfl,aj,C,(fun c v=>by simp at v),az⟩;clear R al aj C ak;go_enter Tryz.func82,Tryz.ntmps82;go_wp2;go_loopw[0,13](fun s i wr=>MO w L xs n m s i wr)(fun _ i _=>n-(intOf i).toNat);case atStart=>exact Y.out
 case round=>
  obtain⟨k,s1,aI,rfl,rfl,ah,C,ae,hF⟩:=hrel;have K:=af hF;have Q:=af ah;have M:=af C;have H:=af ae;clear ah C ae hF Y;by_cases T:k<n
  ·have ay:(k:Int)<(n:Int):=by omega
   have aA:(0:Int)≤(k:Int):=by omega
   have t0:decide ((k:Int)<(n:Int))=true:=decide_eq_true ay;obtain⟨aD,c,rfl,v,o⟩:=(ar.out.ao K.out).at_ T;have z:=af o;have ap:=af c.one;have G:=af (Ft v L);have u:Hid (ev c):=av.out c (List.mem_of_getElem? v);have r:Hid (xs[k]? =some c):=v;have X:Hid (kY (js (xs.take k) L)):=M.out.j5 (by omega);generalize js (xs.take k) L=Lk at*;clear o v;go_wp2_with(refine aC rfl 119 (.tmp 15) rfl _ rfl c.cells _ ?zE Tryz.underlying119 rfl jQ (aR.go ?hold));case zE=>exact z.out
   unfold aR;go_wp2_with(refine an rfl 119 rfl bY GV #[.int .i64 0, .string ByteArray.empty, .int .i64 0, .int .i64 0, .string ByteArray.empty, .string ByteArray.empty, .bool false] rfl ?_);intro aB am;have P:=af am;clear am;generalize D:wr.heap.size=g7 at*;have B:=af D;clear D;have U:Hid (aq aB g7 119 #[.int .i64 0, .string ByteArray.empty, .int .i64 0, .int .i64 0, .string ByteArray.empty, .string ByteArray.empty, .bool false]):=by have h:=P.out.aE;rw[B.out]at h;exact h
   go_wp2_with(refine ai rfl 119 (.tmp 7) _ rfl g7 c.cells.toArray rfl rfl _ _ U.out jQ rfl ap.out ?_);intro t bb ad;have I:Hid (aq t g7 119 c.cells.toArray):=bb;have W:Hid (Fr ag wr t):=P.out.fr.aw ad (fun i aH e=>by have aG:i=g7:=e;have:=B.out;omega);clear bb ad P U z;have ab:Hid (eJ t s1 Lk):=Q.out.ao W.out;have ac:t.cell? {block:=g7,off:=6}=some (.bool c.bI):=I.out.cell 6;have aF:t.cell? {block:=g7,off:=5}=some (.string c.value):=I.out.cell 5;have V:Hid (∀j x,c.nm.cells[j]? =some x→t.cell? ((⟨g7,0,none⟩:Addr).add j)=some x):=fun j x g=>by
    rw[Addr.add_mid,Nat.zero_add,I.out.cell j,bP,CV.cells,List.getElem?_append_left (List.getElem?_eq_some_iff.1 g).1];exact g
   have F:Hid (Fr ag w t):=K.out.trans W.out;cases l:c.bI
   ·rw[l]at ac;have N:Hid (lh c Lk=dE c.nm c.value Lk):=by simp only[Hid,lh,l];rfl
    have J:Hid (∀w',Fr ag t w'→Calls Tryz.prog 130 #[.pointer (some ⟨s1,0,none⟩), .agg c.nm.cells.toArray, .string c.value] w' (Gm w' Lk c.nm c.value)):=fun w' f=>Hl _ _ _ _ _ (ab.out.ao f) (Z.out.ao (F.out.trans f)) X.out u.out.name;have aa:Hid (c.value.size≤65536):=by have:=u.out.value;simp only[Hid];omega
    clear l;go_wp2_with(refine aC rfl 106 (.tmp 28) rfl ⟨g7,0,none⟩ rfl c.nm.cells _ ?zA Tryz.underlying106 rfl aT (aR.go ?zC));case zA=>exact V.out
    unfold aR;go_wp2_with fail;refine(J.out _ az).mono ?_;rintro e w3⟨p,q,rfl,f3,a⟩;have y:Hid (Fr ag w w3):=F.out.trans f3;cases b:du c.nm
    ·obtain⟨rfl,rfl⟩:q=12∧p=none:=by
      rcases a with⟨h,_⟩|⟨_,h⟩|⟨h,_⟩;·rw[b]at h;cases h
      ·exact h
      ·rw[b]at h;cases h
     have d:=af b;clear a b f3;go_wp2;go_ret2;exact⟨_,12,rfl,y.out, .inr ⟨⟨c,List.mem_of_getElem? r.out,d.out⟩,rfl,rfl⟩⟩
    ·obtain⟨rfl,s2,rfl,E⟩:q=0∧∃s2,p=some ⟨s2,0,none⟩∧eJ w3 s2 (lh c Lk):=by
      rw[N.out];rcases a with⟨_,_,h⟩|⟨h,_⟩|⟨_,h,_⟩;·exact h
      ·rw[b]at h;cases h
      ·exact absurd aa.out (by omega)
     have d:=af b;have O:=af E;clear a b f3 E;go_wp2;go_roundw;case rel=>
      refine⟨k+1,s2,by omega,rfl,by go_num,?_,?_,fun x g=>?_,y.out⟩;·rw[G.out];exact O.out
      ·rw[G.out];exact(M.out.next u.out d.out).more (by omega)
      ·rw[List.take_add_one,r.out,Option.toList_some,List.mem_append,List.mem_singleton]at g;rcases g with g|rfl;·exact H.out x g
       ·exact d.out
     case measure=>simp[intOf];omega
   ·rw[l]at ac;have N:Hid (lh c Lk=di c.nm Lk):=by simp only[Hid,lh,l];rfl
    have J:Hid (∀w',Fr ag t w'→Calls Tryz.prog 129 #[.pointer (some ⟨s1,0,none⟩), .agg c.nm.cells.toArray] w' (vw w' Lk c.nm)):=fun w' f=>zn _ _ _ _ (ab.out.ao f) (Z.out.ao (F.out.trans f)) X.out u.out.name;have aa:Hid (c.value.size≤65536):=by have:=u.out.value;simp only[Hid];omega
    clear l;go_wp2_with(refine aC rfl 106 (.tmp 21) rfl ⟨g7,0,none⟩ rfl c.nm.cells _ ?zB Tryz.underlying106 rfl aT (aR.go ?zD));case zB=>exact V.out
    unfold aR;go_wp2_with fail;refine(J.out _ az).mono ?_;rintro e w3⟨p,q,rfl,f3,a⟩;have y:Hid (Fr ag w w3):=F.out.trans f3;cases b:du c.nm
    ·obtain⟨rfl,rfl⟩:q=12∧p=none:=by
      rcases a with⟨h,_⟩|⟨_,h⟩;·rw[b]at h;cases h
      ·exact h
     have d:=af b;clear a b f3;go_wp2;go_ret2;exact⟨_,12,rfl,y.out, .inr ⟨⟨c,List.mem_of_getElem? r.out,d.out⟩,rfl,rfl⟩⟩
    ·obtain⟨rfl,s2,rfl,E⟩:q=0∧∃s2,p=some ⟨s2,0,none⟩∧eJ w3 s2 (lh c Lk):=by
      rw[N.out];rcases a with⟨_,h⟩|⟨h,_⟩;·exact h
      ·rw[b]at h;cases h
     have d:=af b;have O:=af E;clear a b f3 E;go_wp2;go_roundw;case rel=>
      refine⟨k+1,s2,by omega,rfl,by go_num,?_,?_,fun x g=>?_,y.out⟩;·rw[G.out];exact O.out
      ·rw[G.out];exact(M.out.next u.out d.out).more (by omega)
      ·rw[List.take_add_one,r.out,Option.toList_some,List.mem_append,List.mem_singleton]at g;rcases g with g|rfl;·exact H.out x g
       ·exact d.out
     case measure=>simp[intOf];omega
  ·obtain rfl:k=n:=by omega
   have t0:decide ((k:Int)<(k:Int))=false:=cD (by omega);go_wp2;go_ret2;have g:xs.take k=xs:=List.take_of_length_le (by have:=au.out;omega);rw[g]at Q H;exact⟨_,0,rfl,K.out, .inl ⟨H.out,rfl,s1,rfl,Q.out⟩⟩
theorem ru:∀(xs:List CV)(L:List Ent)(m:Nat),cE m L→(∀c∈xs,ev c)→(∀c∈xs,du c.nm=true)→cE (m+xs.length) (js xs L)
 |[],_,_,h,_,_=>h
 |c::xs,L,m,h,e,b=>(ru xs (lh c L) (m+1) (h.next (e c (by simp)) (b c (by simp))) (fun d a=>e d (by simp[a])) (fun d a=>b d (by simp[a]))).more (by simp only[List.length_cons];omega)
structure zm(w:World)(N:Nat)(a:List CV)(v4 v5:Value):Prop where
 GI:w.ownsRow 0 119 7 v4 N (a.flatMap CV.cells)
 KW:w.ownsRow 0 247 7 v5 N (a.flatMap CV.cells)
 len:a.length=N
theorem zm.ao{w w':World}{N:Nat}{b:List CV}{v4 v5:Value}(h:zm w N b v4 v5)(a:Fr ag w w'):zm w' N b v4 v5:=⟨aL h.GI a (fun _ _ x=>x),aL h.KW a (fun _ _ x=>x),h.len⟩
theorem zm.row{w w':World}{N:Nat}{f:List CV}{v4 v5 v:Value}{e:TypeId}{size n:Nat}{xs:List Value}(h:zm w N f v4 v5)(d:w.ownsRow 0 e size v n xs)(c:Fr (oe v) w w')(i:e≠119)(j:e≠247):zm w' N f v4 v5:=
 ⟨aL h.GI c (fun g a b=>oJ d h.GI i g b a),aL h.KW c (fun g a b=>oJ d h.KW j g b a),h.len⟩
theorem zm.NQ{w:World}{N c:Nat}{a:Option Addr}{b:List CV}{v5:Value}(h:zm w N b (.slice a N c) v5):CL w (fun _=>True) a N b:=⟨(Rd.gR h.GI).any,h.len⟩
def MQ(w:World)(N:Nat)(d:List CV)(e:Ending)(w':World):Prop:=∃a c b c5,e= .returned (.tuple #[.slice a N c, .slice b N c5])∧Fr ag w w'∧zm w' N d (.slice a N c) (.slice b N c5)
theorem Nh(n:Nat)(xs:List CV)(A:Option Addr)(c:Nat)(S:Nat→Prop)(w:World)(f:CL w S A n xs)(l:n≤9223372036854775807):
  Calls Tryz.prog 127 #[.slice A n c] w (MQ w (min n 24) (sQ xs n)):=by
 have a:(sQ xs n).length=min n 24:=by rw[sQ,List.length_map,List.length_take,f.len];omega
 refine(LJ n xs A c S w f l).mono ?_;rintro e w2⟨v4,v5,rfl,b,d⟩;obtain⟨g,n4,k,rfl,i,_⟩:=aG b.own;obtain⟨h,n5,c5,rfl,j,_⟩:=aG d.own;obtain rfl:n4=min n 24:=i.out;obtain rfl:n5=min n 24:=j.out;exact⟨g,k,h,c5,rfl,b.ao,b.own,d.own,a⟩
theorem yx{p a:List Ent}{x:Ent}(h:∀y∈p,bQ y.1 x.1<0):di x.1 (p++x::a)=p++a:=by
 rw[rV p _ (fun y b=>gT (h y b)),di,if_pos (bZ.refl _)]
theorem BY{p a:List Ent}{x y:Ent}(h:∀z∈p,bQ z.1 y.1<0)(b:bQ y.1 x.1<0):dE y.1 y.2 (p++x::a)=(p++[y])++x::a:=by
 rw[mn p _ (fun z c=>gT (h z c)),dE,if_pos b,List.append_assoc];rfl
theorem IH{p:List Ent}{y:Ent}(h:∀z∈p,bQ z.1 y.1<0):dE y.1 y.2 p=p++[y]:=by
 have e:=mn (nm:=y.1) (v:=y.2) p [] (fun z a=>gT (h z a));rw[List.append_nil]at e;rw[e];rfl
theorem IG{p a:List Ent}{x y:Ent}(h:∀z∈p,bQ z.1 y.1<0)(b:bQ y.1 x.1=0):dE y.1 y.2 (p++x::a)=(p++[y])++a:=by
 rw[mn p _ (fun z c=>gT (h z c)),dE,if_neg (by omega),if_pos b,List.append_assoc];rfl
theorem cG.glue{p a b:List Ent}{y:Ent}(e:cG (p++a))(f:cG (p++y::b))(h:∀z∈a,bQ y.1 z.1<0):cG ((p++[y])++a):=by
 obtain⟨_,g,i⟩:=List.pairwise_append.1 e;obtain⟨j,_,k,_⟩:=cG.parts f;refine List.pairwise_append.2 ⟨List.pairwise_append.2 ⟨j,List.pairwise_singleton _ _,fun z d u hu=>?_⟩,g,fun z d u hu=>?_⟩;·rw[List.mem_singleton]at hu;rw[hu];exact k z d
 ·rcases List.mem_append.1 d with c|c;·exact i z c u hu
  ·rw[List.mem_singleton]at c;rw[c];exact h u hu
theorem cG.gone{p a:List Ent}{x:Ent}(h:cG (p++x::a)):cG (p++a):=h.sublist ((List.Sublist.refl p).append (List.sublist_cons_self x a))
theorem lU:∀(a b p:List Ent),cG (p++a)→cG (p++b)→js (ct a b) (p++a)=p++b
 |[],[],p,_,_=>by rw[ct];rfl
 |x::a,[],p,d,c=>by
  obtain⟨_,_,q,_⟩:=cG.parts d;rw[ct];show js (ct a []) (di x.1 (p++x::a))=_;rw[yx q];exact lU a [] p d.gone c
 |[],y::b,p,d,c=>by
  obtain⟨_,_,q,_⟩:=cG.parts c;rw[ct];show js (ct [] b) (dE y.1 y.2 (p++[]))=_;rw[List.append_nil,IH q];have h:=lU [] b (p++[y]) (cG.glue d c (fun z i=>by cases i)) (by rw[List.append_assoc];exact c);rw[List.append_nil,List.append_assoc]at h;exact h
 |x::a,y::b,p,d,c=>by
  obtain⟨_,u,r,k⟩:=cG.parts d;obtain⟨_,v,l,lb⟩:=cG.parts c;rw[ct];split;next=>
   show js (ct a (y::b)) (di x.1 (p++x::a))=_;rw[yx r];exact lU a (y::b) p d.gone c
  next s=>
   split;next n=>
    have g:=lS n;show js (ct (x::a) b) (dE y.1 y.2 (p++x::a))=_;rw[BY l g];have j:∀z∈x::a,bQ y.1 z.1<0:=fun z i=>by
     rcases List.mem_cons.1 i with rfl|h;·exact g
     ·exact bZ.trans _ _ _ g (k z h)
    have h:=lU (x::a) b (p++[y]) (cG.glue d c j) (by rw[List.append_assoc];exact c);rw[h,List.append_assoc];rfl
   next t=>
    have he:bQ x.1 y.1=0:=by omega
    have f:x.1=y.1:=bZ.eq _ _ he;have g:bQ y.1 x.1=0:=by rw[f];exact bZ.refl _
    have m:cG ((p++[y])++a):=cG.glue d.gone c (fun z i=>by rw[←f];exact k z i);have h:=lU a b (p++[y]) m (by rw[List.append_assoc];exact c);rw[List.append_assoc]at h;split;next o=>
     have e:x=y:=Prod.ext f ((Gq _ _).1 o);rw[e];rw[List.append_assoc]at h;exact h
    next=>
     show js (ct a b) (dE y.1 y.2 (p++x::a))=_;rw[IG l g,List.append_assoc];rw[List.append_assoc]at h;exact h
termination_by a b=>a.length+b.length
theorem Ij{a b:List Ent}(c:cG a)(d:cG b):js (ct a b) a=b:=lU a b [] c d
theorem Ii{a b:List Ent}(c:cG a)(d:cG b):ct a b=[]↔a=b:=⟨fun h=>by have e:=Ij c d;rw[h]at e;exact e,fun h=>by rw[h];exact qU b⟩
end Go.Proofs.YtphjagkehiklkaaGreatDoor
