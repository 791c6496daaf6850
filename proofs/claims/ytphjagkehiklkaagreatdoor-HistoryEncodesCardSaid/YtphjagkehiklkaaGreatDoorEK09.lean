/- Texts. -/
import Derived.Test.YtphjagkehiklkaaGreatDoorEK08
set_option linter.unusedVariables false
set_option linter.unusedSimpArgs false
set_option maxRecDepth 100000
set_option maxHeartbeats 4000000
namespace Go.Proofs.YtphjagkehiklkaaGreatDoor
open Proofs.Tryz Go.RowKit Go.Shelf
theorem kJ{P:Program}(w:World)(t e:TypeId)(c:TypeInfo)(hu:P.underlying t=some (.slice e))(a:P.info? e=some c):
  (Instr.buildSlice t 0 #[]).run P w= .ok (.slice (some ⟨w.heap.size,0,none⟩) 0 0) (w.alloc (.cells #[] e)):=by
 have b:∀cs:Array Value,(newRow e cs).run P w= .ok ⟨w.heap.size,0,none⟩ (w.alloc (.cells cs e)):=λcs=>rfl;simp[Instr.buildSlice,run_underlying hu,sizeOf,typeInfo,a,Result.andThen,Instr.fill,b];rw[show(Array.range 0).map (λ_=>(default:Value))=#[]from Array.eq_empty_of_size_eq_zero (by simp)]
theorem lX{P:Program}{f:Oper}{a:Act}{w:World}{K:Act->World->Prop}{Q:Exit->Act->World->Prop}(t e:TypeId)(d:f.op= .buildSlice t 0 #[])(c:TypeInfo)
  (hu:P.underlying t=some (.slice e))(b:P.info? e=some c)(h:∀w',dN w w' e #[]->K (a.put f.dst (.slice (some ⟨w.heap.size,0,none⟩) 0 0)) w'):f.wp P a w K Q:=by
 unfold Oper.wp;simp[execOp,d,kJ w t e c hu b,Result.andThen];exact h _ (dN.alloc w e #[])
theorem tu{P:Program}{ops:Array Oper}{rest:List Oper}{j:Oper}{a:Act}{w:World}{Q:Exit->Act->World->Prop}(f:j.guard=none)(t e:TypeId)(i:j.op= .buildSlice t 0 #[])(c:TypeInfo)
  (hu:P.underlying t=some (.slice e))(b:P.info? e=some c)(h:∀w',dN w w' e #[]->wpList P ops Q rest (a.put j.dst (.slice (some ⟨w.heap.size,0,none⟩) 0 0)) w'):wpList P ops Q (j::rest) a w:=
 wpList_plain f λ_ d=>lX t e i c hu b λw' g=>d _ _ (h w' g)
theorem dN.Km{w w':World}{e:TypeId}{size:Nat}(h:dN w w' e #[]):w'.ownsRow 0 e size (.slice (some ⟨w.heap.size,0,none⟩) 0 0) 0 []:=
 ⟨by simp, .inr ⟨w.heap.size,0,#[],rfl,Nat.zero_le _,h.aF,Nat.le_refl _,Nat.zero_le _,by simp,by simp⟩⟩
theorem IL{P:Program}(w:World)(t ty e:TypeId)(i:TypeInfo)(d:P.underlying t=some (.slice e))(b:P.info? e=some i)(g:Nat)(A:Option Addr)(c:Nat):
  (Builtin.append_ #[t,t] ty #[.slice (some ⟨g,0,none⟩) 0 0, .slice A 0 c]).run P w= .ok (.slice (some ⟨g,0,none⟩) 0 0) w:=by
 cases A with
 |none=>simp[Builtin.append_,run_underlying d,sizeOf,typeInfo,b,Builtin.lenOf,Builtin.firstCells,storeCells,Result.andThen]
 |some a=>
  have h:=run_append_room_cells (P:=P) (w:=w) t ty e i d b g 0 0 0 a 0 c [] (by simp) (by simp) (by simp) (by simp) (by simp) (by simp);simpa[World.setCells]using h
theorem ID{w:World}{base:Nat}{e:TypeId}{size n:Nat}{v:Value}{xs:List Value}(h:w.ownsRow base e size v n xs):w.ownsRow 0 e size v n xs:=by
 refine⟨h.1,?_⟩;rcases h.2 with h|⟨g,cap,cur,a,_,b⟩;·exact .inl h
 ·exact .inr ⟨g,cap,cur,a,Nat.zero_le _,b⟩
theorem Cx{P:Program}{O:Oper}{a:Act}{w:World}{K:Act->World->Prop}{Q:Exit->Act->World->Prop}(s x:Operand)(t:TypeId)(C:O.op= .call {callee:= .builtin .append,args:=#[s,x],argTypes:=#[t,t]})
  (e:TypeId)(i:TypeInfo)(z:Value)(size bytes:Nat)(E:P.underlying t=some (.slice e))(B:P.info? e=some i)(M:i.zero=some z)(j:i.size=size)(p:i.bytes=bytes)(v:z.cells.size=size)(u:0<size)
  (g:Nat)(D:a.eval s= .slice (some ⟨g,0,none⟩) 0 0)(l:w.ownsRow 0 e size (.slice (some ⟨g,0,none⟩) 0 0) 0 [])(S:Nat->Prop)(A:Option Addr)(m c:Nat)(news:List Value)(F:a.eval x= .slice A m c)(r:Rd w S size A m news)(d:m*bytes<=140737488355328)(hm:m<=1048576)
  (h:∀o w',w'.ownsRow 0 e size o m news->Fr Nothing w w'->(∀k,o.ownBlock=some k->k=g\/w.heap.size<=k)->K (a.put O.dst o) w'):O.wp P a w K Q:=by
 by_cases q:m=0;·subst q;have L:news=[]:=List.length_eq_zero_iff.1 (by have:=r.1;omega);subst L;have b:=IL (P:=P) w t O.type e i E B g A c;unfold Oper.wp execOp;simp only[C,resolve,invoke,builtin,Sem.run_bind,Sem.run_pure,Result.andThen_ok,List.map_toArray,List.map_cons,List.map_nil,D,F,b];exact h _ _ l aA (λk n=> .inl (by simpa[Value.ownBlock]using n.symm))
 ·obtain⟨G,rfl,_,H⟩:=r.2 (by omega);obtain⟨o,w',b,f,I⟩:=run_append_arg_grows (P:=P) (w:=w) t O.type e i z size bytes E B M j p v u ⟨g,0,none⟩ 0 0 [] (by simp) (by simp) G m c news r.1 H (by omega) (by simp only[maxLen];omega) (by simpa using d);rw[Nat.zero_add]at f;unfold Oper.wp execOp;simp only[C,resolve,invoke,builtin,Sem.run_bind,Sem.run_pure,Result.andThen_ok,List.map_toArray,List.map_cons,List.map_nil,D,F,b];refine h _ _ (ID f) ((Fr.grown I).mono (λ_ _ e=>by cases e)) (λk n=> .inr ?_);rcases f.2 with⟨rfl,_⟩|⟨N,y,cur,rfl,J,_⟩;·simp[Value.ownBlock]at n
  ·simp[Value.ownBlock]at n;omega
theorem mU(L:List Ent):(L.flatMap mw).length=L.length*6:=by
 induction L with
 |nil=>rfl
 |cons x L a=>rw[List.flatMap_cons,aT,a,gY,List.length_cons];omega
theorem xr(L:List Ent)(k:Nat):(L.take k).flatMap mw=(L.flatMap mw).take (k*6):=by
 induction L generalizing k with
 |nil=>simp
 |cons x L a=>
  cases k with
  |zero=>simp
  |succ k=>
   rw[List.take_succ_cons,List.flatMap_cons,List.flatMap_cons,a,List.take_append,gY,show(mw x).take ((k+1)*6)=mw x from List.take_of_length_le (by rw[gY];omega),show(k+1)*6-6=k*6 by omega]
theorem xq(L:List Ent)(k:Nat):(L.drop k).flatMap mw=(L.flatMap mw).drop (k*6):=by
 induction L generalizing k with
 |nil=>simp
 |cons x L a=>
  cases k with
  |zero=>simp
  |succ k=>
   rw[List.drop_succ_cons,List.flatMap_cons,a,List.drop_append,gY,show(mw x).drop ((k+1)*6)=[]from List.drop_of_length_le (by rw[gY];omega),List.nil_append,show(k+1)*6-6=k*6 by omega]
theorem EL.take{w:World}{S:Nat->Prop}{A:Option Addr}{n k:Nat}{L:List Ent}(h:EL w S A n L)(g:k<=n):Rd w S 6 A k ((L.take k).flatMap mw):=by
 refine⟨by rw[mU,List.length_take,h.len];omega,λf=>?_⟩;obtain⟨a,e,d,b⟩:=h.rd.2 (by omega);refine⟨a,e,d,λj u hu=>b j u ?_⟩;rw[xr]at hu;have c:=(List.getElem?_eq_some_iff.1 hu).1;rw[List.getElem?_take_of_lt (by rw[List.length_take]at c;omega)]at hu;exact hu
theorem EL.drop{w:World}{S:Nat->Prop}{a:Addr}{n k:Nat}{L:List Ent}(h:EL w S (some a) n L)(g:k<=n):Rd w S 6 (some (a.add (k*6))) (n-k) ((L.drop k).flatMap mw):=by
 refine⟨by rw[mU,List.length_drop,h.len],λf=>?_⟩;obtain⟨b,e,d,c⟩:=h.rd.2 (by omega);cases e;refine⟨_,rfl,by unfold Addr.add;split<;>exact d,λj u hu=>?_⟩;rw[Addr.add_add];refine c _ u ?_;rw[xq,List.getElem?_drop]at hu;exact hu
def jH(c:CV)(L:List Ent):List Ent:=if c.bw then dm c.nm L else dC c.nm c.value L
def jq(xs:List CV)(L:List Ent):List Ent:=xs.foldl (λl c=>jH c l) L
def Ft(c:CV)(L:List Ent):List Ent:=if da c.nm then jH c L else L
structure eo(c:CV):Prop where
 owner:c.nm.owner.size<=100
 text:c.nm.text.size<=100
 value:c.value.size<=200
structure cM(k:Nat)(L:List Ent):Prop where
 sort:cu L
 len:L.length<=k
 ok:∀x∈L,da x.1=true
 owner:∀x∈L,x.1.owner.size<=100
 text:∀x∈L,x.1.text.size<=100
 value:∀x∈L,x.2.size<=200
theorem cM.nil:cM 0 []:=⟨List.Pairwise.nil,Nat.le_refl _,(λ_ h=>by cases h),(λ_ h=>by cases h),(λ_ h=>by cases h),(λ_ h=>by cases h)⟩
theorem vp:∀L:List Ent,(∀x∈L,x.2.size<=200)->cE L<=200*L.length
 |[],_=>by simp[cE]
 |x::L,h=>by
  have a:=vp L (λy b=>h y (List.mem_cons_of_mem _ b));have c:=h x (List.mem_cons_self ..);simp only[cE,List.map_cons,List.sum_cons,List.length_cons]at a⊢;omega
theorem cM.jZ{k:Nat}{L:List Ent}(h:cM k L)(b:k<=60000):lz L:=
 ⟨h.sort,λx a=>by have:=h.owner x a;omega,by have:=h.len;omega,by have:=vp L h.value;have:=h.len;omega,h.ok⟩
theorem cM.more{k a:Nat}{L:List Ent}(h:cM k L)(b:k<=a):cM a L:=⟨h.sort,by have:=h.len;omega,h.ok,h.owner,h.text,h.value⟩
theorem cM.next{k:Nat}{L:List Ent}{c:CV}(h:cM k L)(d:eo c)(e:da c.nm=true):cM (k+1) (jH c L):=by
 unfold jH;cases c.bw
 ·rw[if_neg (by decide)];have hm:=(kC (nm:=c.nm) (v:=c.value) h.sort).2;refine⟨(kC h.sort).1,by have:=(mz (nm:=c.nm) (v:=c.value) L).1;have:=h.len;omega,λx a=>?_,λx a=>?_,λx a=>?_,λx a=>?_⟩
  ·rcases hm x a with rfl|b;·exact e
   ·exact h.ok x b
  ·rcases hm x a with rfl|b;·exact d.owner
   ·exact h.owner x b
  ·rcases hm x a with rfl|b;·exact d.text
   ·exact h.text x b
  ·rcases hm x a with rfl|b;·exact d.value
   ·exact h.value x b
 ·rw[if_pos rfl];have hm:=(qc (nm:=c.nm) L).subset;exact⟨vJ h.sort,by have:=(ky (nm:=c.nm) L).1;have:=h.len;omega,λx a=>h.ok x (hm a),λx a=>h.owner x (hm a),λx a=>h.text x (hm a),λx a=>h.value x (hm a)⟩
theorem cM.step{k:Nat}{L:List Ent}{c:CV}(h:cM k L)(a:eo c):cM (k+1) (Ft c L):=by
 unfold Ft;cases b:da c.nm;·exact h.more (by omega)
 ·exact h.next a b
theorem eo.name{c:CV}(h:eo c):su c.nm:=⟨by have:=h.owner;omega,by have:=h.text;omega⟩
theorem qL(s:ByteArray)(k:Nat):(xY s (k:Int)).size<=k:=by
 rw[xY,ByteArray.size_extract];omega
theorem CV.Ec(c:CV):eo c.cut:=⟨qL _ 100,qL _ 100,qL _ 200⟩
theorem Fm{xs:List CV}{k:Nat}{c:CV}(h:xs[k]? =some c)(L:List Ent):jq (xs.take (k+1)) L=jH c (jq (xs.take k) L):=by
 rw[jq,List.take_add_one,h,Option.toList_some,List.foldl_append];rfl
def Dd(xs:List CV):Prop:=xs.Pairwise (λa b=>a.nm≠b.nm)
def zp(a b:aG):Bool:=bL a b==0
structure Nw(a c:List CV):Prop where
 NM:Dd c
 ok:∀z∈c,da z.nm=true
 of:∀z∈c,z∈a
theorem Dd.at_{c:List CV}(h:Dd c){p q:Nat}{a b:CV}(i:c[p]? =some a)(j:c[q]? =some b)(e:p≠q):a.nm≠b.nm:=by
 obtain⟨f,rfl⟩:=List.getElem?_eq_some_iff.1 i;obtain⟨g,rfl⟩:=List.getElem?_eq_some_iff.1 j;rcases Nat.lt_or_gt_of_ne e with d|d;·exact List.pairwise_iff_getElem.1 h p q f g d
 ·exact(List.pairwise_iff_getElem.1 h q p g f d).symm
def sM(xs:List CV)(n:Nat):List CV:=(xs.take (min n 24)).map CV.cut
theorem zr(xs:List CV)(n:Nat):∀c∈sM xs n,eo c:=λc a=>by
 obtain⟨x,_,rfl⟩:=List.mem_map.1 a;exact x.Ec
def SV(c:CV)(L:List Ent)(v:Value)(w:World):Prop:=∃a,v= .pointer (some ⟨a,0,none⟩)/\dQ w a (Ft c L)
theorem SV.ao{c:CV}{L:List Ent}{v:Value}{w w':World}(h:SV c L v w)(b:Fr Nothing w w'):SV c L v w':=by
 obtain⟨s,e,a⟩:=h;exact⟨s,e,a.ao b⟩
theorem GD(w:World):(zeroValue 119).run prog w= .ok cm w:=by kernel_rfl
def kW(w:World)(L:List Ent)(xs:List CV)(e:Ending)(w':World):Prop:=∃p k,e= .returned (.tuple #[.pointer p, .int .i64 k])/\Fr Nothing w w'/\
 (((∀c∈xs,da c.nm=true)/\k=0/\∃a,p=some ⟨a,0,none⟩/\dQ w' a (jq xs L))\/((∃c∈xs,da c.nm=false)/\k=12/\p=none))
structure js(k:Nat)(L:List Ent):Prop where
 sort:cu L
 len:L.length<=k
 ok:∀x∈L,da x.1=true
 owner:∀x∈L,x.1.owner.size<=1048576
 text:∀x∈L,x.1.text.size<=1048576
 value:∀x∈L,x.2.size<=1048576
structure xk(c:CV):Prop where
 owner:c.nm.owner.size<=1048576
 text:c.nm.text.size<=1048576
 value:c.value.size<=65536
theorem cM.g{k:Nat}{L:List Ent}(h:cM k L):js k L:=⟨h.sort,h.len,h.ok,λx a=>by have:=h.owner x a;omega,λx a=>by have:=h.text x a;omega,λx a=>by have:=h.value x a;omega⟩
theorem eo.g{c:CV}(h:eo c):xk c:=⟨by have:=h.owner;omega,by have:=h.text;omega,by have:=h.value;omega⟩
theorem xk.name{c:CV}(h:xk c):su c.nm:=⟨by have:=h.owner;omega,by have:=h.text;omega⟩
theorem tL:∀L:List Ent,(∀x∈L,x.2.size<=1048576)->cE L<=1048576*L.length
 |[],_=>by simp[cE]
 |x::L,h=>by
  have a:=tL L (λy b=>h y (List.mem_cons_of_mem _ b));have c:=h x (List.mem_cons_self ..);simp only[cE,List.map_cons,List.sum_cons,List.length_cons]at a⊢;omega
theorem js.jZ{k:Nat}{L:List Ent}(h:js k L)(b:k<=60000):lz L:=
 ⟨h.sort,λx a=>by have:=h.owner x a;omega,by have:=h.len;omega,by have:=tL L h.value;have:=h.len;omega,h.ok⟩
theorem js.more{k a:Nat}{L:List Ent}(h:js k L)(b:k<=a):js a L:=⟨h.sort,by have:=h.len;omega,h.ok,h.owner,h.text,h.value⟩
theorem js.next{k:Nat}{L:List Ent}{c:CV}(h:js k L)(d:xk c)(e:da c.nm=true):js (k+1) (jH c L):=by
 unfold jH;have f:=d.value;cases c.bw
 ·rw[if_neg (by decide)];have hm:=(kC (nm:=c.nm) (v:=c.value) h.sort).2;refine⟨(kC h.sort).1,by have:=(mz (nm:=c.nm) (v:=c.value) L).1;have:=h.len;omega,λx a=>?_,λx a=>?_,λx a=>?_,λx a=>?_⟩
  ·rcases hm x a with rfl|b;·exact e
   ·exact h.ok x b
  ·rcases hm x a with rfl|b;·exact d.owner
   ·exact h.owner x b
  ·rcases hm x a with rfl|b;·exact d.text
   ·exact h.text x b
  ·rcases hm x a with rfl|b;·simp only;omega
   ·exact h.value x b
 ·rw[if_pos rfl];have hm:=(qc (nm:=c.nm) L).subset;exact⟨vJ h.sort,by have:=(ky (nm:=c.nm) L).1;have:=h.len;omega,λx a=>h.ok x (hm a),λx a=>h.owner x (hm a),λx a=>h.text x (hm a),λx a=>h.value x (hm a)⟩
def Mu(w:World)(L:List Ent)(xs:List CV)(n m:Nat)(s i:Value)(wr:World):Prop:=∃(k a:Nat),k<=n/\s= .pointer (some ⟨a,0,none⟩)/\i= .int .i64 (k:Int)/\dQ wr a (jq (xs.take k) L)/\js (m+k) (jq (xs.take k) L)/\(∀c∈xs.take k,da c.nm=true)/\Fr Nothing w wr
theorem uO(L:List Ent)(xs:List CV)(n m:Nat)(A:Option Addr)(av:Nat)(S:Nat->Prop)(s:Nat)(w:World)(ah:dQ w s L)(aj:dO w)(C:js m L)(R:CL w S A n xs)(ak:∀c∈xs,xk c)(hm:m+n<=60000):
  Calls prog 82 #[.pointer (some ⟨s,0,none⟩), .slice A n av] w (kW w L xs):=by
 have ap:=af R;have Z:=af aj;have au:=af ak;have ar:=af R.len;have Y:Hid (Mu w L xs n m (.pointer (some ⟨s,0,none⟩)) (.int .i64 0) w):=⟨0,s,by omega,rfl,rfl,ah,C,(λc v=>by simp at v),aA⟩;clear R ak ah C aj;go_enter func82,ntmps82;go_wp2;go_loopw[0,13](λs i wr=>Mu w L xs n m s i wr)(λ_ i _=>n-(intOf i).toNat);case atStart=>exact Y.out
 case round=>
  obtain⟨k,s1,aH,rfl,rfl,ag,C,ae,hF⟩:=hrel;have K:=af hF;have Q:=af ag;have M:=af C;have H:=af ae;clear ag C ae hF Y;by_cases T:k<n
  ·have ax:(k:Int)<(n:Int):=by omega
   have ay:(0:Int)<=(k:Int):=by omega
   have t0:decide ((k:Int)<(n:Int))=true:=decide_eq_true ax;obtain⟨aC,c,rfl,v,o⟩:=(ap.out.ao K.out).at_ T;have z:=af o;have am:=af c.one;have G:=af (Fm v L);have u:Hid (xk c):=au.out c (List.mem_of_getElem? v);have r:Hid (xs[k]? =some c):=v;have X:Hid (lz (jq (xs.take k) L)):=M.out.jZ (by omega);generalize jq (xs.take k) L=Lk at*;clear o v;go_wp2_with(refine aB rfl 119 (.tmp 15) rfl _ rfl c.cells _ ?zE underlying119 rfl j4 (aX.go ?hold));case zE=>exact z.out
   unfold aX;go_wp2_with(refine an rfl 119 rfl cm GD #[.int .i64 0, .string ByteArray.empty, .int .i64 0, .int .i64 0, .string ByteArray.empty, .string ByteArray.empty, .bool false] rfl ?_);intro az al;have P:=af al;clear al;generalize D:wr.heap.size=g7 at*;have B:=af D;clear D;have U:Hid (aq az g7 119 #[.int .i64 0, .string ByteArray.empty, .int .i64 0, .int .i64 0, .string ByteArray.empty, .string ByteArray.empty, .bool false]):=by have h:=P.out.aF;rw[B.out]at h;exact h
   go_wp2_with(refine ai rfl 119 (.tmp 7) _ rfl g7 c.cells.toArray rfl rfl _ _ U.out j4 rfl am.out ?_);intro t bb ad;have I:Hid (aq t g7 119 c.cells.toArray):=bb;have W:Hid (Fr Nothing wr t):=P.out.fr.aw ad (λi aG e=>by have aE:i=g7:=e;have:=B.out;omega);clear bb ad P U z;have ab:Hid (dQ t s1 Lk):=Q.out.ao W.out;have ac:t.cell? {block:=g7,off:=6}=some (.bool c.bw):=I.out.cell 6;have aD:t.cell? {block:=g7,off:=5}=some (.string c.value):=I.out.cell 5;have V:Hid (∀j x,c.nm.cells[j]? =some x->t.cell? ((⟨g7,0,none⟩:Addr).add j)=some x):=λj x g=>by
    rw[Addr.add_mid,Nat.zero_add,I.out.cell j,bP,CV.cells,List.getElem?_append_left (List.getElem?_eq_some_iff.1 g).1];exact g
   have F:Hid (Fr Nothing w t):=K.out.trans W.out;cases l:c.bw
   ·rw[l]at ac;have N:Hid (jH c Lk=dC c.nm c.value Lk):=by simp only[Hid,jH,l];rfl
    have J:Hid (∀w',Fr Nothing t w'->Calls prog 130 #[.pointer (some ⟨s1,0,none⟩), .agg c.nm.cells.toArray, .string c.value] w' (y8 w' Lk c.nm c.value)):=λw' f=>xQ _ _ _ _ _ (ab.out.ao f) (Z.out.ao (F.out.trans f)) X.out u.out.name;have aa:Hid (c.value.size<=65536):=by have:=u.out.value;simp only[Hid];omega
    clear l;go_wp2_with(refine aB rfl 106 (.tmp 28) rfl ⟨g7,0,none⟩ rfl c.nm.cells _ ?zA underlying106 rfl aW (aX.go ?zC));case zA=>exact V.out
    unfold aX;go_wp2_with fail;refine(J.out _ aA).mono ?_;rintro e w3⟨p,q,rfl,f3,a⟩;have y:Hid (Fr Nothing w w3):=F.out.trans f3;cases b:da c.nm
    ·obtain⟨rfl,rfl⟩:q=12/\p=none:=by
      rcases a with⟨h,_⟩|⟨_,h⟩|⟨h,_⟩;·rw[b]at h;cases h
      ·exact h
      ·rw[b]at h;cases h
     have d:=af b;clear a b f3;go_wp2;go_ret2;exact⟨_,12,rfl,y.out, .inr ⟨⟨c,List.mem_of_getElem? r.out,d.out⟩,rfl,rfl⟩⟩
    ·obtain⟨rfl,s2,rfl,E⟩:q=0/\∃s2,p=some ⟨s2,0,none⟩/\dQ w3 s2 (jH c Lk):=by
      rw[N.out];rcases a with⟨_,_,h⟩|⟨h,_⟩|⟨_,h,_⟩;·exact h
      ·rw[b]at h;cases h
      ·exact absurd aa.out (by omega)
     have d:=af b;have O:=af E;clear a b f3 E;go_wp2;go_roundw;case rel=>
      refine⟨k+1,s2,by omega,rfl,by go_num,?_,?_,λx g=>?_,y.out⟩;·rw[G.out];exact O.out
      ·rw[G.out];exact(M.out.next u.out d.out).more (by omega)
      ·rw[List.take_add_one,r.out,Option.toList_some,List.mem_append,List.mem_singleton]at g;rcases g with g|rfl;·exact H.out x g
       ·exact d.out
     case measure=>simp[intOf];omega
   ·rw[l]at ac;have N:Hid (jH c Lk=dm c.nm Lk):=by simp only[Hid,jH,l];rfl
    have J:Hid (∀w',Fr Nothing t w'->Calls prog 129 #[.pointer (some ⟨s1,0,none⟩), .agg c.nm.cells.toArray] w' (uY w' Lk c.nm)):=λw' f=>y9 _ _ _ _ (ab.out.ao f) (Z.out.ao (F.out.trans f)) X.out u.out.name;have aa:Hid (c.value.size<=65536):=by have:=u.out.value;simp only[Hid];omega
    clear l;go_wp2_with(refine aB rfl 106 (.tmp 21) rfl ⟨g7,0,none⟩ rfl c.nm.cells _ ?zB underlying106 rfl aW (aX.go ?zD));case zB=>exact V.out
    unfold aX;go_wp2_with fail;refine(J.out _ aA).mono ?_;rintro e w3⟨p,q,rfl,f3,a⟩;have y:Hid (Fr Nothing w w3):=F.out.trans f3;cases b:da c.nm
    ·obtain⟨rfl,rfl⟩:q=12/\p=none:=by
      rcases a with⟨h,_⟩|⟨_,h⟩;·rw[b]at h;cases h
      ·exact h
     have d:=af b;clear a b f3;go_wp2;go_ret2;exact⟨_,12,rfl,y.out, .inr ⟨⟨c,List.mem_of_getElem? r.out,d.out⟩,rfl,rfl⟩⟩
    ·obtain⟨rfl,s2,rfl,E⟩:q=0/\∃s2,p=some ⟨s2,0,none⟩/\dQ w3 s2 (jH c Lk):=by
      rw[N.out];rcases a with⟨_,h⟩|⟨h,_⟩;·exact h
      ·rw[b]at h;cases h
     have d:=af b;have O:=af E;clear a b f3 E;go_wp2;go_roundw;case rel=>
      refine⟨k+1,s2,by omega,rfl,by go_num,?_,?_,λx g=>?_,y.out⟩;·rw[G.out];exact O.out
      ·rw[G.out];exact(M.out.next u.out d.out).more (by omega)
      ·rw[List.take_add_one,r.out,Option.toList_some,List.mem_append,List.mem_singleton]at g;rcases g with g|rfl;·exact H.out x g
       ·exact d.out
     case measure=>simp[intOf];omega
  ·obtain rfl:k=n:=by omega
   have t0:decide ((k:Int)<(k:Int))=false:=ct (by omega);go_wp2;go_ret2;have g:xs.take k=xs:=List.take_of_length_le (by have:=ar.out;omega);rw[g]at Q H;exact⟨_,0,rfl,K.out, .inl ⟨H.out,rfl,s1,rfl,Q.out⟩⟩
theorem Da(L:List Ent)(xs:List CV)(n m:Nat)(A:Option Addr)(a:Nat)(S:Nat->Prop)(s:Nat)(w:World)(e:dQ w s L)(f:dO w)(d:cM m L)(b:CL w S A n xs)(h:∀c∈xs,eo c)(hm:m+n<=60000):
  Calls prog 82 #[.pointer (some ⟨s,0,none⟩), .slice A n a] w (kW w L xs):=uO L xs n m A a S s w e f d.g b (λc i=>(h c i).g) hm
theorem rh:∀(xs:List CV)(L:List Ent)(m:Nat),cM m L->(∀c∈xs,eo c)->(∀c∈xs,da c.nm=true)->cM (m+xs.length) (jq xs L)
 |[],_,_,h,_,_=>h
 |c::xs,L,m,h,e,b=>(rh xs (jH c L) (m+1) (h.next (e c (by simp)) (b c (by simp))) (λd a=>e d (by simp[a])) (λd a=>b d (by simp[a]))).more (by simp only[List.length_cons];omega)
structure y7(w:World)(N:Nat)(a:List CV)(v4 v5:Value):Prop where
 Gr:w.ownsRow 0 119 7 v4 N (a.flatMap CV.cells)
 Kn:w.ownsRow 0 247 7 v5 N (a.flatMap CV.cells)
 len:a.length=N
theorem y7.ao{w w':World}{N:Nat}{b:List CV}{v4 v5:Value}(h:y7 w N b v4 v5)(a:Fr Nothing w w'):y7 w' N b v4 v5:=⟨aP h.Gr a (λ_ _ x=>x),aP h.Kn a (λ_ _ x=>x),h.len⟩
theorem y7.row{w w':World}{N:Nat}{f:List CV}{v4 v5 v:Value}{e:TypeId}{size n:Nat}{xs:List Value}(h:y7 w N f v4 v5)(d:w.ownsRow 0 e size v n xs)(c:Fr (od v) w w')(i:e≠119)(j:e≠247):y7 w' N f v4 v5:=
 ⟨aP h.Gr c (λg a b=>oE d h.Gr i g b a),aP h.Kn c (λg a b=>oE d h.Kn j g b a),h.len⟩
theorem y7.NF{w:World}{N c:Nat}{a:Option Addr}{b:List CV}{v5:Value}(h:y7 w N b (.slice a N c) v5):CL w (λ_=>True) a N b:=⟨(Rd.ia h.Gr).any,h.len⟩
def Mw(w:World)(N:Nat)(d:List CV)(e:Ending)(w':World):Prop:=∃a c b c5,e= .returned (.tuple #[.slice a N c, .slice b N c5])/\Fr Nothing w w'/\y7 w' N d (.slice a N c) (.slice b N c5)
theorem MP(n:Nat)(xs:List CV)(A:Option Addr)(c:Nat)(S:Nat->Prop)(w:World)(f:CL w S A n xs)(l:n<=9223372036854775807):
  Calls prog 127 #[.slice A n c] w (Mw w (min n 24) (sM xs n)):=by
 have a:(sM xs n).length=min n 24:=by rw[sM,List.length_map,List.length_take,f.len];omega
 refine(Lh n xs A c S w f l).mono ?_;rintro e w2⟨v4,v5,rfl,b,d⟩;obtain⟨g,n4,k,rfl,i,_⟩:=aK b.own;obtain⟨h,n5,c5,rfl,j,_⟩:=aK d.own;obtain rfl:n4=min n 24:=i.out;obtain rfl:n5=min n 24:=j.out;exact⟨g,k,h,c5,rfl,b.ao,b.own,d.own,a⟩
theorem ye{p a:List Ent}{x:Ent}(h:∀y∈p,bL y.1 x.1<0):dm x.1 (p++x::a)=p++a:=by
 rw[rO p _ (λy b=>fT (h y b)),dm,if_pos (cp.refl _)]
theorem Bu{p a:List Ent}{x y:Ent}(h:∀z∈p,bL z.1 y.1<0)(b:bL y.1 x.1<0):dC y.1 y.2 (p++x::a)=(p++[y])++x::a:=by
 rw[my p _ (λz c=>fT (h z c)),dC,if_pos b,List.append_assoc];rfl
theorem Im{p:List Ent}{y:Ent}(h:∀z∈p,bL z.1 y.1<0):dC y.1 y.2 p=p++[y]:=by
 have e:=my (nm:=y.1) (v:=y.2) p [] (λz a=>fT (h z a));rw[List.append_nil]at e;rw[e];rfl
theorem Il{p a:List Ent}{x y:Ent}(h:∀z∈p,bL z.1 y.1<0)(b:bL y.1 x.1=0):dC y.1 y.2 (p++x::a)=(p++[y])++a:=by
 rw[my p _ (λz c=>fT (h z c)),dC,if_neg (by omega),if_pos b,List.append_assoc];rfl
theorem cu.glue{p a b:List Ent}{y:Ent}(e:cu (p++a))(f:cu (p++y::b))(h:∀z∈a,bL y.1 z.1<0):cu ((p++[y])++a):=by
 obtain⟨_,g,i⟩:=List.pairwise_append.1 e;obtain⟨j,_,k,_⟩:=cu.parts f;refine List.pairwise_append.2 ⟨List.pairwise_append.2 ⟨j,List.pairwise_singleton _ _,λz d u hu=>?_⟩,g,λz d u hu=>?_⟩;·rw[List.mem_singleton]at hu;rw[hu];exact k z d
 ·rcases List.mem_append.1 d with c|c;·exact i z c u hu
  ·rw[List.mem_singleton]at c;rw[c];exact h u hu
theorem cu.gone{p a:List Ent}{x:Ent}(h:cu (p++x::a)):cu (p++a):=h.sublist ((List.Sublist.refl p).append (List.sublist_cons_self x a))
theorem mf:∀(a b p:List Ent),cu (p++a)->cu (p++b)->jq (cG a b) (p++a)=p++b
 |[],[],p,_,_=>by rw[cG];rfl
 |x::a,[],p,d,c=>by
  obtain⟨_,_,q,_⟩:=cu.parts d;rw[cG];show jq (cG a []) (dm x.1 (p++x::a))=_;rw[ye q];exact mf a [] p d.gone c
 |[],y::b,p,d,c=>by
  obtain⟨_,_,q,_⟩:=cu.parts c;rw[cG];show jq (cG [] b) (dC y.1 y.2 (p++[]))=_;rw[List.append_nil,Im q];have h:=mf [] b (p++[y]) (cu.glue d c (λz i=>by cases i)) (by rw[List.append_assoc];exact c);rw[List.append_nil,List.append_assoc]at h;exact h
 |x::a,y::b,p,d,c=>by
  obtain⟨_,u,r,k⟩:=cu.parts d;obtain⟨_,v,l,lb⟩:=cu.parts c;rw[cG];split;next=>
   show jq (cG a (y::b)) (dm x.1 (p++x::a))=_;rw[ye r];exact mf a (y::b) p d.gone c
  next s=>
   split;next n=>
    have g:=ma n;show jq (cG (x::a) b) (dC y.1 y.2 (p++x::a))=_;rw[Bu l g];have j:∀z∈x::a,bL y.1 z.1<0:=λz i=>by
     rcases List.mem_cons.1 i with rfl|h;·exact g
     ·exact cp.trans _ _ _ g (k z h)
    have h:=mf (x::a) b (p++[y]) (cu.glue d c j) (by rw[List.append_assoc];exact c);rw[h,List.append_assoc];rfl
   next t=>
    have he:bL x.1 y.1=0:=by omega
    have f:x.1=y.1:=cp.eq _ _ he;have g:bL y.1 x.1=0:=by rw[f];exact cp.refl _
    have m:cu ((p++[y])++a):=cu.glue d.gone c (λz i=>by rw[<-f];exact k z i);have h:=mf a b (p++[y]) m (by rw[List.append_assoc];exact c);rw[List.append_assoc]at h;split;next o=>
     have e:x=y:=Prod.ext f ((Gc _ _).1 o);rw[e];rw[List.append_assoc]at h;exact h
    next=>
     show jq (cG a b) (dC y.1 y.2 (p++x::a))=_;rw[Il l g,List.append_assoc];rw[List.append_assoc]at h;exact h
termination_by a b=>a.length+b.length
theorem Hr{a b:List Ent}(c:cu a)(d:cu b):jq (cG a b) a=b:=mf a b [] c d
theorem Hq{a b:List Ent}(c:cu a)(d:cu b):cG a b=[]↔a=b:=⟨λh=>by have e:=Hr c d;rw[h]at e;exact e,λh=>by rw[h];exact qM b⟩
end Go.Proofs.YtphjagkehiklkaaGreatDoor
