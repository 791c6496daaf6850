/- Texts. -/
import Derived.Test.YtphjagkehiklkaaGreatDoorYK09
set_option linter.unusedVariables false
set_option linter.unusedSimpArgs false
set_option maxRecDepth 100000
set_option maxHeartbeats 4000000
namespace Go.Proofs.YtphjagkehiklkaaGreatDoor
open Go.RowKit Go.Shelf
theorem sg{P:Program}(w:World)(t e:TypeId)(c:TypeInfo)(hu:P.underlying t=some (.slice e))(a:P.info? e=some c):
  (Instr.buildSlice t 0 #[]).run P w= .ok (.slice (some ⟨w.heap.size,0,none⟩) 0 0) (w.alloc (.cells #[] e)):=by
 have b:∀cs:Array Value,(newRow e cs).run P w= .ok ⟨w.heap.size,0,none⟩ (w.alloc (.cells cs e)):=fun cs=>rfl;simp[Instr.buildSlice,run_underlying hu,sizeOf,typeInfo,a,Result.andThen,Instr.fill,b];rw[show(Array.range 0).map (fun _=>(default:Value))=#[]from Array.eq_empty_of_size_eq_zero (by simp)]
theorem nV{P:Program}{f:Oper}{a:Act}{w:World}{K:Act→World→Prop}{Q:Exit→Act→World→Prop}(t e:TypeId)(d:f.op= .buildSlice t 0 #[])(c:TypeInfo)
  (hu:P.underlying t=some (.slice e))(b:P.info? e=some c)(h:∀w',dN w w' e #[]→K (a.put f.dst (.slice (some ⟨w.heap.size,0,none⟩) 0 0)) w'):f.wp P a w K Q:=by
 unfold Oper.wp;simp[execOp,d,sg w t e c hu b,Result.andThen];exact h _ (dN.alloc w e #[])
theorem sy{P:Program}{ops:Array Oper}{rest:List Oper}{j:Oper}{a:Act}{w:World}{Q:Exit→Act→World→Prop}(f:j.guard=none)(t e:TypeId)(i:j.op= .buildSlice t 0 #[])(c:TypeInfo)
  (hu:P.underlying t=some (.slice e))(b:P.info? e=some c)(h:∀w',dN w w' e #[]→wpList P ops Q rest (a.put j.dst (.slice (some ⟨w.heap.size,0,none⟩) 0 0)) w'):wpList P ops Q (j::rest) a w:=
 wpList_plain f fun _ d=>nV t e i c hu b fun w' g=>d _ _ (h w' g)
theorem dN.IS{w w':World}{e:TypeId}{size:Nat}(h:dN w w' e #[]):w'.ownsRow 0 e size (.slice (some ⟨w.heap.size,0,none⟩) 0 0) 0 []:=
 ⟨by simp, .inr ⟨w.heap.size,0,#[],rfl,Nat.zero_le _,h.aF,Nat.le_refl _,Nat.zero_le _,by simp,by simp⟩⟩
theorem GN{P:Program}(w:World)(t ty e:TypeId)(i:TypeInfo)(d:P.underlying t=some (.slice e))(b:P.info? e=some i)(g:Nat)(A:Option Addr)(c:Nat):
  (Builtin.append_ #[t,t] ty #[.slice (some ⟨g,0,none⟩) 0 0, .slice A 0 c]).run P w= .ok (.slice (some ⟨g,0,none⟩) 0 0) w:=by
 cases A with
 |none=>simp[Builtin.append_,run_underlying d,sizeOf,typeInfo,b,Builtin.lenOf,Builtin.firstCells,storeCells,Result.andThen]
 |some a=>
  have h:=run_append_room_cells (P:=P) (w:=w) t ty e i d b g 0 0 0 a 0 c [] (by simp) (by simp) (by simp) (by simp) (by simp) (by simp);simpa[World.setCells]using h
theorem Gz{w:World}{base:Nat}{e:TypeId}{size n:Nat}{v:Value}{xs:List Value}(h:w.ownsRow base e size v n xs):w.ownsRow 0 e size v n xs:=by
 refine⟨h.1,?_⟩;rcases h.2 with h|⟨g,cap,cur,a,_,b⟩;·exact .inl h
 ·exact .inr ⟨g,cap,cur,a,Nat.zero_le _,b⟩
theorem Bb{P:Program}{O:Oper}{a:Act}{w:World}{K:Act→World→Prop}{Q:Exit→Act→World→Prop}(s x:Operand)(t:TypeId)(C:O.op= .call {callee:= .builtin .append,args:=#[s,x],argTypes:=#[t,t]})
  (e:TypeId)(i:TypeInfo)(z:Value)(size bytes:Nat)(E:P.underlying t=some (.slice e))(B:P.info? e=some i)(M:i.zero=some z)(j:i.size=size)(p:i.bytes=bytes)(v:z.cells.size=size)(u:0<size)
  (g:Nat)(D:a.eval s= .slice (some ⟨g,0,none⟩) 0 0)(l:w.ownsRow 0 e size (.slice (some ⟨g,0,none⟩) 0 0) 0 [])(S:Nat→Prop)(A:Option Addr)(m c:Nat)(news:List Value)(F:a.eval x= .slice A m c)(r:Rd w S size A m news)(d:m*bytes≤140737488355328)(hm:m≤1048576)
  (h:∀o w',w'.ownsRow 0 e size o m news→Fr ag w w'→(∀k,o.ownBlock=some k→k=g∨w.heap.size≤k)→K (a.put O.dst o) w'):O.wp P a w K Q:=by
 by_cases q:m=0;·subst q;have L:news=[]:=List.length_eq_zero_iff.1 (by have:=r.1;omega);subst L;have b:=GN (P:=P) w t O.type e i E B g A c;unfold Oper.wp execOp;simp only[C,resolve,invoke,builtin,Sem.run_bind,Sem.run_pure,Result.andThen_ok,List.map_toArray,List.map_cons,List.map_nil,D,F,b];exact h _ _ l aA (fun k n=> .inl (by simpa[Value.ownBlock]using n.symm))
 ·obtain⟨G,rfl,_,H⟩:=r.2 (by omega);obtain⟨o,w',b,f,I⟩:=run_append_arg_grows (P:=P) (w:=w) t O.type e i z size bytes E B M j p v u ⟨g,0,none⟩ 0 0 [] (by simp) (by simp) G m c news r.1 H (by omega) (by simp only[maxLen];omega) (by simpa using d);rw[Nat.zero_add]at f;unfold Oper.wp execOp;simp only[C,resolve,invoke,builtin,Sem.run_bind,Sem.run_pure,Result.andThen_ok,List.map_toArray,List.map_cons,List.map_nil,D,F,b];refine h _ _ (Gz f) ((Fr.grown I).mono (fun _ _ e=>by cases e)) (fun k n=> .inr ?_);rcases f.2 with⟨rfl,_⟩|⟨N,y,cur,rfl,J,_⟩;·simp[Value.ownBlock]at n
  ·simp[Value.ownBlock]at n;omega
theorem mj(L:List Ent):(L.flatMap lC).length=L.length*6:=by
 induction L with
 |nil=>rfl
 |cons x L a=>rw[List.flatMap_cons,aY,a,gM,List.length_cons];omega
theorem vZ(L:List Ent)(k:Nat):(L.take k).flatMap lC=(L.flatMap lC).take (k*6):=by
 induction L generalizing k with
 |nil=>simp
 |cons x L a=>
  cases k with
  |zero=>simp
  |succ k=>
   rw[List.take_succ_cons,List.flatMap_cons,List.flatMap_cons,a,List.take_append,gM,show(lC x).take ((k+1)*6)=lC x from List.take_of_length_le (by rw[gM];omega),show(k+1)*6-6=k*6 by omega]
theorem vY(L:List Ent)(k:Nat):(L.drop k).flatMap lC=(L.flatMap lC).drop (k*6):=by
 induction L generalizing k with
 |nil=>simp
 |cons x L a=>
  cases k with
  |zero=>simp
  |succ k=>
   rw[List.drop_succ_cons,List.flatMap_cons,a,List.drop_append,gM,show(lC x).drop ((k+1)*6)=[]from List.drop_of_length_le (by rw[gM];omega),List.nil_append,show(k+1)*6-6=k*6 by omega]
theorem EL.take{w:World}{S:Nat→Prop}{A:Option Addr}{n k:Nat}{L:List Ent}(h:EL w S A n L)(g:k≤n):Rd w S 6 A k ((L.take k).flatMap lC):=by
 refine⟨by rw[mj,List.length_take,h.len];omega,fun f=>?_⟩;obtain⟨a,e,d,b⟩:=h.rd.2 (by omega);refine⟨a,e,d,fun j u hu=>b j u ?_⟩;rw[vZ]at hu;have c:=(List.getElem?_eq_some_iff.1 hu).1;rw[List.getElem?_take_of_lt (by rw[List.length_take]at c;omega)]at hu;exact hu
theorem EL.drop{w:World}{S:Nat→Prop}{a:Addr}{n k:Nat}{L:List Ent}(h:EL w S (some a) n L)(g:k≤n):Rd w S 6 (some (a.add (k*6))) (n-k) ((L.drop k).flatMap lC):=by
 refine⟨by rw[mj,List.length_drop,h.len],fun f=>?_⟩;obtain⟨b,e,d,c⟩:=h.rd.2 (by omega);cases e;refine⟨_,rfl,by unfold Addr.add;split<;>exact d,fun j u hu=>?_⟩;rw[Addr.add_add];refine c _ u ?_;rw[vY,List.getElem?_drop]at hu;exact hu
def kr(c:CV)(L:List Ent):List Ent:=if c.bm then di c.nm L else dC c.nm c.value L
def jq(xs:List CV)(L:List Ent):List Ent:=xs.foldl (fun l c=>kr c l) L
def DI(c:CV)(L:List Ent):List Ent:=if dD c.nm then kr c L else L
structure eh(c:CV):Prop where
 owner:c.nm.owner.size≤100
 text:c.nm.text.size≤100
 value:c.value.size≤200
structure cY(k:Nat)(L:List Ent):Prop where
 sort:cQ L
 len:L.length≤k
 ok:∀x∈L,dD x.1=true
 owner:∀x∈L,x.1.owner.size≤100
 text:∀x∈L,x.1.text.size≤100
 value:∀x∈L,x.2.size≤200
theorem cY.nil:cY 0 []:=⟨List.Pairwise.nil,Nat.le_refl _,(fun _ h=>by cases h),(fun _ h=>by cases h),(fun _ h=>by cases h),(fun _ h=>by cases h)⟩
theorem uu:∀L:List Ent,(∀x∈L,x.2.size≤200)→dm L≤200*L.length
 |[],_=>by simp[dm]
 |x::L,h=>by
  have a:=uu L (fun y b=>h y (List.mem_cons_of_mem _ b));have c:=h x (List.mem_cons_self ..);simp only[dm,List.map_cons,List.sum_cons,List.length_cons]at a⊢;omega
theorem cY.kE{k:Nat}{L:List Ent}(h:cY k L)(b:k≤60000):rH L:=
 ⟨h.sort,fun x a=>by have:=h.owner x a;omega,by have:=h.len;omega,by have:=uu L h.value;have:=h.len;omega,h.ok⟩
theorem cY.more{k a:Nat}{L:List Ent}(h:cY k L)(b:k≤a):cY a L:=⟨h.sort,by have:=h.len;omega,h.ok,h.owner,h.text,h.value⟩
theorem cY.next{k:Nat}{L:List Ent}{c:CV}(h:cY k L)(d:eh c)(e:dD c.nm=true):cY (k+1) (kr c L):=by
 unfold kr;cases c.bm
 ·rw[if_neg (by decide)];have hm:=(nG (nm:=c.nm) (v:=c.value) h.sort).2;refine⟨(nG h.sort).1,by have:=(nF (nm:=c.nm) (v:=c.value) L).1;have:=h.len;omega,fun x a=>?_,fun x a=>?_,fun x a=>?_,fun x a=>?_⟩
  ·rcases hm x a with rfl|b;·exact e
   ·exact h.ok x b
  ·rcases hm x a with rfl|b;·exact d.owner
   ·exact h.owner x b
  ·rcases hm x a with rfl|b;·exact d.text
   ·exact h.text x b
  ·rcases hm x a with rfl|b;·exact d.value
   ·exact h.value x b
 ·rw[if_pos rfl];have hm:=(rM (nm:=c.nm) L).subset;exact⟨Ch h.sort,by have:=(lz (nm:=c.nm) L).1;have:=h.len;omega,fun x a=>h.ok x (hm a),fun x a=>h.owner x (hm a),fun x a=>h.text x (hm a),fun x a=>h.value x (hm a)⟩
theorem cY.step{k:Nat}{L:List Ent}{c:CV}(h:cY k L)(a:eh c):cY (k+1) (DI c L):=by
 unfold DI;cases b:dD c.nm;·exact h.more (by omega)
 ·exact h.next a b
theorem eh.name{c:CV}(h:eh c):tY c.nm:=⟨by have:=h.owner;omega,by have:=h.text;omega⟩
theorem pZ(s:ByteArray)(k:Nat):(xi s (k:Int)).size≤k:=by
 rw[xi,ByteArray.size_extract];omega
theorem CV.Cg(c:CV):eh c.cut:=⟨pZ _ 100,pZ _ 100,pZ _ 200⟩
theorem Dy{xs:List CV}{k:Nat}{c:CV}(h:xs[k]? =some c)(L:List Ent):jq (xs.take (k+1)) L=kr c (jq (xs.take k) L):=by
 rw[jq,List.take_add_one,h,Option.toList_some,List.foldl_append];rfl
def Bh(xs:List CV):Prop:=xs.Pairwise (fun a b=>a.nm≠b.nm)
def ym(a b:aI):Bool:=bX a b==0
structure Lu(a c:List CV):Prop where
 LO:Bh c
 ok:∀z∈c,dD z.nm=true
 of:∀z∈c,z∈a
theorem Bh.at_{c:List CV}(h:Bh c){p q:Nat}{a b:CV}(i:c[p]? =some a)(j:c[q]? =some b)(e:p≠q):a.nm≠b.nm:=by
 obtain⟨f,rfl⟩:=List.getElem?_eq_some_iff.1 i;obtain⟨g,rfl⟩:=List.getElem?_eq_some_iff.1 j;rcases Nat.lt_or_gt_of_ne e with d|d;·exact List.pairwise_iff_getElem.1 h p q f g d
 ·exact(List.pairwise_iff_getElem.1 h q p g f d).symm
def rO(xs:List CV)(n:Nat):List CV:=(xs.take (min n 24)).map CV.cut
theorem yp(xs:List CV)(n:Nat):∀c∈rO xs n,eh c:=fun c a=>by
 obtain⟨x,_,rfl⟩:=List.mem_map.1 a;exact x.Cg
def SV(c:CV)(L:List Ent)(v:Value)(w:World):Prop:=∃a,v= .pointer (some ⟨a,0,none⟩)∧fD w a (DI c L)
theorem SV.aq{c:CV}{L:List Ent}{v:Value}{w w':World}(h:SV c L v w)(b:Fr ag w w'):SV c L v w':=by
 obtain⟨s,e,a⟩:=h;exact⟨s,e,a.aq b⟩
theorem EH(w:World):(zeroValue 119).run Tryz.prog w= .ok dj w:=by kernel_rfl
def mL(w:World)(L:List Ent)(xs:List CV)(e:Ending)(w':World):Prop:=∃p k,e= .returned (.tuple #[.pointer p, .int .i64 k])∧Fr ag w w'∧
 (((∀c∈xs,dD c.nm=true)∧k=0∧∃a,p=some ⟨a,0,none⟩∧fD w' a (jq xs L))∨((∃c∈xs,dD c.nm=false)∧k=12∧p=none))
def Kp(w:World)(L:List Ent)(xs:List CV)(n m:Nat)(s i:Value)(wr:World):Prop:=∃(k a:Nat),k≤n∧s= .pointer (some ⟨a,0,none⟩)∧i= .int .i64 (k:Int)∧fD wr a (jq (xs.take k) L)∧cY (m+k) (jq (xs.take k) L)∧(∀c∈xs.take k,dD c.nm=true)∧Fr ag w wr
theorem tR(L:List Ent)(xs:List CV)(n m:Nat)(A:Option Addr)(ay:Nat)(S:Nat→Prop)(s:Nat)(w:World)(al:fD w s L)(am:eG w)(C:cY m L)(T:CL w S A n xs)(an:∀c∈xs,eh c)(hm:m+n≤60000):
  Calls Tryz.prog 82 #[.pointer (some ⟨s,0,none⟩), .slice A n ay] w (mL w L xs):=by
 have au:=af T;have aa:=af am;have ax:=af an;have av:=af T.len;have Z:Hid (Kp w L xs n m (.pointer (some ⟨s,0,none⟩)) (.int .i64 0) w):=⟨0,s,by omega,rfl,rfl,al,C,(fun c v=>by simp at v),aA⟩;clear T an al C am;go_enter Tryz.func82,Tryz.ntmps82;go_wp2;go_loopw[0,13](fun s i wr=>Kp w L xs n m s i wr)(fun _ i _=>n-(intOf i).toNat);case atStart=>exact Z.out
 case round=>
  obtain⟨k,s1,aJ,rfl,rfl,aj,C,ah,hF⟩:=hrel;have M:=af hF;have R:=af aj;have N:=af C;have I:=af ah;clear aj C ah hF Z;by_cases U:k<n
  ·have az:(k:Int)<(n:Int):=by omega
   have aC:(0:Int)≤(k:Int):=by omega
   have t0:decide ((k:Int)<(n:Int))=true:=decide_eq_true az;obtain⟨aE,c,rfl,v,o⟩:=(au.out.aq M.out).at_ U;have z:=af o;have ar:=af c.one;have H:=af (Dy v L);have u:Hid (eh c):=ax.out c (List.mem_of_getElem? v);have r:Hid (xs[k]? =some c):=v;have Y:Hid (rH (jq (xs.take k) L)):=N.out.kE (by omega);generalize jq (xs.take k) L=Lk at*;clear o v;go_wp2_with(refine aB rfl 119 (.tmp 15) rfl _ rfl c.cells _ ?zE Tryz.underlying119 rfl jw (bh.go ?hold));case zE=>exact z.out
   unfold bh;go_wp2_with(refine ak rfl 119 rfl dj EH #[.int .i64 0, .string ByteArray.empty, .int .i64 0, .int .i64 0, .string ByteArray.empty, .string ByteArray.empty, .bool false] rfl ?_);intro aD ap;have Q:=af ap;clear ap;generalize D:wr.heap.size=g7 at*;have B:=af D;clear D;have V:Hid (ao aD g7 119 #[.int .i64 0, .string ByteArray.empty, .int .i64 0, .int .i64 0, .string ByteArray.empty, .string ByteArray.empty, .bool false]):=by have h:=Q.out.aF;rw[B.out]at h;exact h
   go_wp2_with(refine ai rfl 119 (.tmp 7) _ rfl g7 c.cells.toArray rfl rfl _ _ V.out jw rfl ar.out ?_);intro t bb ae;have J:Hid (ao t g7 119 c.cells.toArray):=bb;have X:Hid (Fr ag wr t):=Q.out.fr.aw ae (fun i aI e=>by have aH:i=g7:=e;have:=B.out;omega);clear bb ae Q V z;have ac:Hid (fD t s1 Lk):=R.out.aq X.out;have ad:t.cell? {block:=g7,off:=6}=some (.bool c.bm):=J.out.cell 6;have aG:t.cell? {block:=g7,off:=5}=some (.string c.value):=J.out.cell 5;have W:Hid (∀j x,c.nm.cells[j]? =some x→t.cell? ((⟨g7,0,none⟩:Addr).add j)=some x):=fun j x g=>by
    rw[Addr.add_mid,Nat.zero_add,J.out.cell j,bD,CV.cells,List.getElem?_append_left (List.getElem?_eq_some_iff.1 g).1];exact g
   have G:Hid (Fr ag w t):=M.out.trans X.out;cases l:c.bm
   ·rw[l]at ad;have O:Hid (kr c Lk=dC c.nm c.value Lk):=by simp only[Hid,kr,l];rfl
    have K:Hid (∀w',Fr ag t w'→Calls Tryz.prog 130 #[.pointer (some ⟨s1,0,none⟩), .agg c.nm.cells.toArray, .string c.value] w' (Ef w' Lk c.nm c.value)):=fun w' f=>EY _ _ _ _ _ (ac.out.aq f) (aa.out.aq (G.out.trans f)) Y.out u.out.name;have ab:Hid (c.value.size≤65536):=by have:=u.out.value;simp only[Hid];omega
    clear l;go_wp2_with(refine aB rfl 106 (.tmp 28) rfl ⟨g7,0,none⟩ rfl c.nm.cells _ ?zA Tryz.underlying106 rfl bB (bh.go ?zC));case zA=>exact W.out
    unfold bh;go_wp2_with fail;refine(K.out _ aA).mono ?_;rintro e F⟨p,q,rfl,f3,a⟩;have y:Hid (Fr ag w F):=G.out.trans f3;cases b:dD c.nm
    ·obtain⟨rfl,rfl⟩:q=12∧p=none:=by
      rcases a with⟨h,_⟩|⟨_,h⟩|⟨h,_⟩;·rw[b]at h;cases h
      ·exact h
      ·rw[b]at h;cases h
     have d:=af b;clear a b f3;go_wp2;go_ret2;exact⟨_,12,rfl,y.out, .inr ⟨⟨c,List.mem_of_getElem? r.out,d.out⟩,rfl,rfl⟩⟩
    ·obtain⟨rfl,s2,rfl,E⟩:q=0∧∃s2,p=some ⟨s2,0,none⟩∧fD F s2 (kr c Lk):=by
      rw[O.out];rcases a with⟨_,_,h⟩|⟨h,_⟩|⟨_,h,_⟩;·exact h
      ·rw[b]at h;cases h
      ·exact absurd ab.out (by omega)
     have d:=af b;have P:=af E;clear a b f3 E;go_wp2;go_roundw;case rel=>
      refine⟨k+1,s2,by omega,rfl,by go_num,?_,?_,fun x g=>?_,y.out⟩;·rw[H.out];exact P.out
      ·rw[H.out];exact(N.out.next u.out d.out).more (by omega)
      ·rw[List.take_add_one,r.out,Option.toList_some,List.mem_append,List.mem_singleton]at g;rcases g with g|rfl;·exact I.out x g
       ·exact d.out
     case measure=>simp[intOf];omega
   ·rw[l]at ad;have O:Hid (kr c Lk=di c.nm Lk):=by simp only[Hid,kr,l];rfl
    have K:Hid (∀w',Fr ag t w'→Calls Tryz.prog 129 #[.pointer (some ⟨s1,0,none⟩), .agg c.nm.cells.toArray] w' (uj w' Lk c.nm)):=fun w' f=>xZ _ _ _ _ (ac.out.aq f) (aa.out.aq (G.out.trans f)) Y.out u.out.name;have ab:Hid (c.value.size≤65536):=by have:=u.out.value;simp only[Hid];omega
    clear l;go_wp2_with(refine aB rfl 106 (.tmp 21) rfl ⟨g7,0,none⟩ rfl c.nm.cells _ ?zB Tryz.underlying106 rfl bB (bh.go ?zD));case zB=>exact W.out
    unfold bh;go_wp2_with fail;refine(K.out _ aA).mono ?_;rintro e F⟨p,q,rfl,f3,a⟩;have y:Hid (Fr ag w F):=G.out.trans f3;cases b:dD c.nm
    ·obtain⟨rfl,rfl⟩:q=12∧p=none:=by
      rcases a with⟨h,_⟩|⟨_,h⟩;·rw[b]at h;cases h
      ·exact h
     have d:=af b;clear a b f3;go_wp2;go_ret2;exact⟨_,12,rfl,y.out, .inr ⟨⟨c,List.mem_of_getElem? r.out,d.out⟩,rfl,rfl⟩⟩
    ·obtain⟨rfl,s2,rfl,E⟩:q=0∧∃s2,p=some ⟨s2,0,none⟩∧fD F s2 (kr c Lk):=by
      rw[O.out];rcases a with⟨_,h⟩|⟨h,_⟩;·exact h
      ·rw[b]at h;cases h
     have d:=af b;have P:=af E;clear a b f3 E;go_wp2;go_roundw;case rel=>
      refine⟨k+1,s2,by omega,rfl,by go_num,?_,?_,fun x g=>?_,y.out⟩;·rw[H.out];exact P.out
      ·rw[H.out];exact(N.out.next u.out d.out).more (by omega)
      ·rw[List.take_add_one,r.out,Option.toList_some,List.mem_append,List.mem_singleton]at g;rcases g with g|rfl;·exact I.out x g
       ·exact d.out
     case measure=>simp[intOf];omega
  ·obtain rfl:k=n:=by omega
   have t0:decide ((k:Int)<(k:Int))=false:=cN (by omega);go_wp2;go_ret2;have g:xs.take k=xs:=List.take_of_length_le (by have:=av.out;omega);rw[g]at R I;exact⟨_,0,rfl,M.out, .inl ⟨I.out,rfl,s1,rfl,R.out⟩⟩
theorem xj{p a:List Ent}{x:Ent}(h:∀y∈p,bX y.1 x.1<0):di x.1 (p++x::a)=p++a:=by
 rw[qX p _ (fun y b=>gv (h y b)),di,if_pos (cm.refl _)]
theorem Ac{p a:List Ent}{x y:Ent}(h:∀z∈p,bX z.1 y.1<0)(b:bX y.1 x.1<0):dC y.1 y.2 (p++x::a)=(p++[y])++x::a:=by
 rw[lG p _ (fun z c=>gv (h z c)),dC,if_pos b,List.append_assoc];rfl
theorem Gk{p:List Ent}{y:Ent}(h:∀z∈p,bX z.1 y.1<0):dC y.1 y.2 p=p++[y]:=by
 have e:=lG (nm:=y.1) (v:=y.2) p [] (fun z a=>gv (h z a));rw[List.append_nil]at e;rw[e];rfl
theorem Gj{p a:List Ent}{x y:Ent}(h:∀z∈p,bX z.1 y.1<0)(b:bX y.1 x.1=0):dC y.1 y.2 (p++x::a)=(p++[y])++a:=by
 rw[lG p _ (fun z c=>gv (h z c)),dC,if_neg (by omega),if_pos b,List.append_assoc];rfl
theorem cQ.glue{p a b:List Ent}{y:Ent}(e:cQ (p++a))(f:cQ (p++y::b))(h:∀z∈a,bX y.1 z.1<0):cQ ((p++[y])++a):=by
 obtain⟨_,g,i⟩:=List.pairwise_append.1 e;obtain⟨j,_,k,_⟩:=cQ.parts f;refine List.pairwise_append.2 ⟨List.pairwise_append.2 ⟨j,List.pairwise_singleton _ _,fun z d u hu=>?_⟩,g,fun z d u hu=>?_⟩;·rw[List.mem_singleton]at hu;rw[hu];exact k z d
 ·rcases List.mem_append.1 d with c|c;·exact i z c u hu
  ·rw[List.mem_singleton]at c;rw[c];exact h u hu
theorem cQ.gone{p a:List Ent}{x:Ent}(h:cQ (p++x::a)):cQ (p++a):=h.sublist ((List.Sublist.refl p).append (List.sublist_cons_self x a))
theorem jr:∀(a b p:List Ent),cQ (p++a)→cQ (p++b)→jq (iQ a b) (p++a)=p++b
 |[],[],p,_,_=>by rw[iQ];rfl
 |x::a,[],p,d,c=>by
  obtain⟨_,_,q,_⟩:=cQ.parts d;rw[iQ];show jq (iQ a []) (di x.1 (p++x::a))=_;rw[xj q];exact jr a [] p d.gone c
 |[],y::b,p,d,c=>by
  obtain⟨_,_,q,_⟩:=cQ.parts c;rw[iQ];show jq (iQ [] b) (dC y.1 y.2 (p++[]))=_;rw[List.append_nil,Gk q];have h:=jr [] b (p++[y]) (cQ.glue d c (fun z i=>by cases i)) (by rw[List.append_assoc];exact c);rw[List.append_nil,List.append_assoc]at h;exact h
 |x::a,y::b,p,d,c=>by
  obtain⟨_,u,r,k⟩:=cQ.parts d;obtain⟨_,v,l,lb⟩:=cQ.parts c;rw[iQ];split;next=>
   show jq (iQ a (y::b)) (di x.1 (p++x::a))=_;rw[xj r];exact jr a (y::b) p d.gone c
  next s=>
   split;next n=>
    have g:=kX n;show jq (iQ (x::a) b) (dC y.1 y.2 (p++x::a))=_;rw[Ac l g];have j:∀z∈x::a,bX y.1 z.1<0:=fun z i=>by
     rcases List.mem_cons.1 i with rfl|h;·exact g
     ·exact cm.trans _ _ _ g (k z h)
    have h:=jr (x::a) b (p++[y]) (cQ.glue d c j) (by rw[List.append_assoc];exact c);rw[h,List.append_assoc];rfl
   next t=>
    have he:bX x.1 y.1=0:=by omega
    have f:x.1=y.1:=cm.eq _ _ he;have g:bX y.1 x.1=0:=by rw[f];exact cm.refl _
    have m:cQ ((p++[y])++a):=cQ.glue d.gone c (fun z i=>by rw[←f];exact k z i);have h:=jr a b (p++[y]) m (by rw[List.append_assoc];exact c);rw[List.append_assoc]at h;split;next o=>
     have e:x=y:=Prod.ext f ((Lf _ _).1 o);rw[e];rw[List.append_assoc]at h;exact h
    next=>
     show jq (iQ a b) (dC y.1 y.2 (p++x::a))=_;rw[Gj l g,List.append_assoc];rw[List.append_assoc]at h;exact h
termination_by a b=>a.length+b.length
end Go.Proofs.YtphjagkehiklkaaGreatDoor
