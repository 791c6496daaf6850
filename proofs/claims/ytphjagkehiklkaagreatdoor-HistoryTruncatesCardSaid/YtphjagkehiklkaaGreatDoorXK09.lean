/- Texts. -/
import Derived.Test.YtphjagkehiklkaaGreatDoorXK08
set_option linter.unusedVariables false
set_option linter.unusedSimpArgs false
set_option maxRecDepth 100000
set_option maxHeartbeats 4000000
namespace Go.Proofs.YtphjagkehiklkaaGreatDoor
open Go.RowKit Go.Shelf
theorem jZ{P:Program}(w:World)(t e:TypeId)(c:TypeInfo)(hu:P.underlying t=some (.slice e))(a:P.info? e=some c):
  (Instr.buildSlice t 0 #[]).run P w= .ok (.slice (some ⟨w.heap.size,0,none⟩) 0 0) (w.alloc (.cells #[] e)):=by
 have b:∀cs:Array Value,(newRow e cs).run P w= .ok ⟨w.heap.size,0,none⟩ (w.alloc (.cells cs e)):=fun cs=>rfl;simp[Instr.buildSlice,run_underlying hu,sizeOf,typeInfo,a,Result.andThen,Instr.fill,b];rw[show(Array.range 0).map (fun _=>(default:Value))=#[]from Array.eq_empty_of_size_eq_zero (by simp)]
theorem jI{P:Program}{f:Oper}{a:Act}{w:World}{K:Act→World→Prop}{Q:Exit→Act→World→Prop}(t e:TypeId)(d:f.op= .buildSlice t 0 #[])(c:TypeInfo)
  (hu:P.underlying t=some (.slice e))(b:P.info? e=some c)(h:∀w',dh w w' e #[]→K (a.put f.dst (.slice (some ⟨w.heap.size,0,none⟩) 0 0)) w'):f.wp P a w K Q:=by
 unfold Oper.wp;simp[execOp,d,jZ w t e c hu b,Result.andThen];exact h _ (dh.alloc w e #[])
theorem j7{P:Program}{ops:Array Oper}{rest:List Oper}{j:Oper}{a:Act}{w:World}{Q:Exit→Act→World→Prop}(f:j.guard=none)(t e:TypeId)(i:j.op= .buildSlice t 0 #[])(c:TypeInfo)
  (hu:P.underlying t=some (.slice e))(b:P.info? e=some c)(h:∀w',dh w w' e #[]→wpList P ops Q rest (a.put j.dst (.slice (some ⟨w.heap.size,0,none⟩) 0 0)) w'):wpList P ops Q (j::rest) a w:=
 wpList_plain f fun _ d=>jI t e i c hu b fun w' g=>d _ _ (h w' g)
theorem dh.AI{w w':World}{e:TypeId}{size:Nat}(h:dh w w' e #[]):w'.ownsRow 0 e size (.slice (some ⟨w.heap.size,0,none⟩) 0 0) 0 []:=
 ⟨by simp, .inr ⟨w.heap.size,0,#[],rfl,Nat.zero_le _,h.aD,Nat.le_refl _,Nat.zero_le _,by simp,by simp⟩⟩
theorem GQ{P:Program}(w:World)(t ty e:TypeId)(i:TypeInfo)(d:P.underlying t=some (.slice e))(b:P.info? e=some i)(g:Nat)(A:Option Addr)(c:Nat):
  (Builtin.append_ #[t,t] ty #[.slice (some ⟨g,0,none⟩) 0 0, .slice A 0 c]).run P w= .ok (.slice (some ⟨g,0,none⟩) 0 0) w:=by
 cases A with
 |none=>simp[Builtin.append_,run_underlying d,sizeOf,typeInfo,b,Builtin.lenOf,Builtin.firstCells,storeCells,Result.andThen]
 |some a=>
  have h:=run_append_room_cells (P:=P) (w:=w) t ty e i d b g 0 0 0 a 0 c [] (by simp) (by simp) (by simp) (by simp) (by simp) (by simp);simpa[World.setCells]using h
theorem GD{w:World}{base:Nat}{e:TypeId}{size n:Nat}{v:Value}{xs:List Value}(h:w.ownsRow base e size v n xs):w.ownsRow 0 e size v n xs:=by
 refine⟨h.1,?_⟩;rcases h.2 with h|⟨g,cap,cur,a,_,b⟩;·exact .inl h
 ·exact .inr ⟨g,cap,cur,a,Nat.zero_le _,b⟩
theorem Bm{P:Program}{O:Oper}{a:Act}{w:World}{K:Act→World→Prop}{Q:Exit→Act→World→Prop}(s x:Operand)(t:TypeId)(C:O.op= .call {callee:= .builtin .append,args:=#[s,x],argTypes:=#[t,t]})
  (e:TypeId)(i:TypeInfo)(z:Value)(size bytes:Nat)(E:P.underlying t=some (.slice e))(B:P.info? e=some i)(M:i.zero=some z)(j:i.size=size)(p:i.bytes=bytes)(v:z.cells.size=size)(u:0<size)
  (g:Nat)(D:a.eval s= .slice (some ⟨g,0,none⟩) 0 0)(l:w.ownsRow 0 e size (.slice (some ⟨g,0,none⟩) 0 0) 0 [])(S:Nat→Prop)(A:Option Addr)(m c:Nat)(news:List Value)(F:a.eval x= .slice A m c)(r:Rd w S size A m news)(d:m*bytes≤140737488355328)(hm:m≤1048576)
  (h:∀o w',w'.ownsRow 0 e size o m news→Fr ah w w'→(∀k,o.ownBlock=some k→k=g∨w.heap.size≤k)→K (a.put O.dst o) w'):O.wp P a w K Q:=by
 by_cases q:m=0;·subst q;have L:news=[]:=List.length_eq_zero_iff.1 (by have:=r.1;omega);subst L;have b:=GQ (P:=P) w t O.type e i E B g A c;unfold Oper.wp execOp;simp only[C,resolve,invoke,builtin,Sem.run_bind,Sem.run_pure,Result.andThen_ok,List.map_toArray,List.map_cons,List.map_nil,D,F,b];exact h _ _ l az (fun k n=> .inl (by simpa[Value.ownBlock]using n.symm))
 ·obtain⟨G,rfl,_,H⟩:=r.2 (by omega);obtain⟨o,w',b,f,I⟩:=run_append_arg_grows (P:=P) (w:=w) t O.type e i z size bytes E B M j p v u ⟨g,0,none⟩ 0 0 [] (by simp) (by simp) G m c news r.1 H (by omega) (by simp only[maxLen];omega) (by simpa using d);rw[Nat.zero_add]at f;unfold Oper.wp execOp;simp only[C,resolve,invoke,builtin,Sem.run_bind,Sem.run_pure,Result.andThen_ok,List.map_toArray,List.map_cons,List.map_nil,D,F,b];refine h _ _ (GD f) ((Fr.grown I).mono (fun _ _ e=>by cases e)) (fun k n=> .inr ?_);rcases f.2 with⟨rfl,_⟩|⟨N,y,cur,rfl,J,_⟩;·simp[Value.ownBlock]at n
  ·simp[Value.ownBlock]at n;omega
theorem mn(L:List Ent):(L.flatMap lK).length=L.length*6:=by
 induction L with
 |nil=>rfl
 |cons x L a=>rw[List.flatMap_cons,aW,a,gM,List.length_cons];omega
theorem wD(L:List Ent)(k:Nat):(L.take k).flatMap lK=(L.flatMap lK).take (k*6):=by
 induction L generalizing k with
 |nil=>simp
 |cons x L a=>
  cases k with
  |zero=>simp
  |succ k=>
   rw[List.take_succ_cons,List.flatMap_cons,List.flatMap_cons,a,List.take_append,gM,show(lK x).take ((k+1)*6)=lK x from List.take_of_length_le (by rw[gM];omega),show(k+1)*6-6=k*6 by omega]
theorem wC(L:List Ent)(k:Nat):(L.drop k).flatMap lK=(L.flatMap lK).drop (k*6):=by
 induction L generalizing k with
 |nil=>simp
 |cons x L a=>
  cases k with
  |zero=>simp
  |succ k=>
   rw[List.drop_succ_cons,List.flatMap_cons,a,List.drop_append,gM,show(lK x).drop ((k+1)*6)=[]from List.drop_of_length_le (by rw[gM];omega),List.nil_append,show(k+1)*6-6=k*6 by omega]
theorem EL.take{w:World}{S:Nat→Prop}{A:Option Addr}{n k:Nat}{L:List Ent}(h:EL w S A n L)(g:k≤n):Rd w S 6 A k ((L.take k).flatMap lK):=by
 refine⟨by rw[mn,List.length_take,h.len];omega,fun f=>?_⟩;obtain⟨a,e,d,b⟩:=h.rd.2 (by omega);refine⟨a,e,d,fun j u hu=>b j u ?_⟩;rw[wD]at hu;have c:=(List.getElem?_eq_some_iff.1 hu).1;rw[List.getElem?_take_of_lt (by rw[List.length_take]at c;omega)]at hu;exact hu
theorem EL.drop{w:World}{S:Nat→Prop}{a:Addr}{n k:Nat}{L:List Ent}(h:EL w S (some a) n L)(g:k≤n):Rd w S 6 (some (a.add (k*6))) (n-k) ((L.drop k).flatMap lK):=by
 refine⟨by rw[mn,List.length_drop,h.len],fun f=>?_⟩;obtain⟨b,e,d,c⟩:=h.rd.2 (by omega);cases e;refine⟨_,rfl,by unfold Addr.add;split<;>exact d,fun j u hu=>?_⟩;rw[Addr.add_add];refine c _ u ?_;rw[wC,List.getElem?_drop]at hu;exact hu
def kE(c:CV)(L:List Ent):List Ent:=if c.bH then de c.nm L else dC c.nm c.value L
def iZ(xs:List CV)(L:List Ent):List Ent:=xs.foldl (fun l c=>kE c l) L
def D1(c:CV)(L:List Ent):List Ent:=if dD c.nm then kE c L else L
structure eh(c:CV):Prop where
 owner:c.nm.owner.size≤100
 text:c.nm.text.size≤100
 value:c.value.size≤200
structure cI(k:Nat)(L:List Ent):Prop where
 sort:cC L
 len:L.length≤k
 ok:∀x∈L,dD x.1=true
 owner:∀x∈L,x.1.owner.size≤100
 text:∀x∈L,x.1.text.size≤100
 value:∀x∈L,x.2.size≤200
theorem cI.nil:cI 0 []:=⟨List.Pairwise.nil,Nat.le_refl _,(fun _ h=>by cases h),(fun _ h=>by cases h),(fun _ h=>by cases h),(fun _ h=>by cases h)⟩
theorem uy:∀L:List Ent,(∀x∈L,x.2.size≤200)→cE L≤200*L.length
 |[],_=>by simp[cE]
 |x::L,h=>by
  have a:=uy L (fun y b=>h y (List.mem_cons_of_mem _ b));have c:=h x (List.mem_cons_self ..);simp only[cE,List.map_cons,List.sum_cons,List.length_cons]at a⊢;omega
theorem cI.jK{k:Nat}{L:List Ent}(h:cI k L)(b:k≤60000):mE L:=
 ⟨h.sort,fun x a=>by have:=h.owner x a;omega,by have:=h.len;omega,by have:=uy L h.value;have:=h.len;omega,h.ok⟩
theorem cI.more{k a:Nat}{L:List Ent}(h:cI k L)(b:k≤a):cI a L:=⟨h.sort,by have:=h.len;omega,h.ok,h.owner,h.text,h.value⟩
theorem cI.next{k:Nat}{L:List Ent}{c:CV}(h:cI k L)(d:eh c)(e:dD c.nm=true):cI (k+1) (kE c L):=by
 unfold kE;cases c.bH
 ·rw[if_neg (by decide)];have hm:=(nM (nm:=c.nm) (v:=c.value) h.sort).2;refine⟨(nM h.sort).1,by have:=(nL (nm:=c.nm) (v:=c.value) L).1;have:=h.len;omega,fun x a=>?_,fun x a=>?_,fun x a=>?_,fun x a=>?_⟩
  ·rcases hm x a with rfl|b;·exact e
   ·exact h.ok x b
  ·rcases hm x a with rfl|b;·exact d.owner
   ·exact h.owner x b
  ·rcases hm x a with rfl|b;·exact d.text
   ·exact h.text x b
  ·rcases hm x a with rfl|b;·exact d.value
   ·exact h.value x b
 ·rw[if_pos rfl];have hm:=(rU (nm:=c.nm) L).subset;exact⟨Cu h.sort,by have:=(lH (nm:=c.nm) L).1;have:=h.len;omega,fun x a=>h.ok x (hm a),fun x a=>h.owner x (hm a),fun x a=>h.text x (hm a),fun x a=>h.value x (hm a)⟩
theorem cI.step{k:Nat}{L:List Ent}{c:CV}(h:cI k L)(a:eh c):cI (k+1) (D1 c L):=by
 unfold D1;cases b:dD c.nm;·exact h.more (by omega)
 ·exact h.next a b
theorem eh.name{c:CV}(h:eh c):ud c.nm:=⟨by have:=h.owner;omega,by have:=h.text;omega⟩
theorem qh(s:ByteArray)(k:Nat):(xg s (k:Int)).size≤k:=by
 rw[xg,ByteArray.size_extract];omega
theorem CV.Ct(c:CV):eh c.cut:=⟨qh _ 100,qh _ 100,qh _ 200⟩
theorem DW{xs:List CV}{k:Nat}{c:CV}(h:xs[k]? =some c)(L:List Ent):iZ (xs.take (k+1)) L=kE c (iZ (xs.take k) L):=by
 rw[iZ,List.take_add_one,h,Option.toList_some,List.foldl_append];rfl
def Bu(xs:List CV):Prop:=xs.Pairwise (fun a b=>a.nm≠b.nm)
def yq(a b:aI):Bool:=bP a b==0
structure Ly(a c:List CV):Prop where
 LQ:Bu c
 ok:∀z∈c,dD z.nm=true
 of:∀z∈c,z∈a
theorem Bu.at_{c:List CV}(h:Bu c){p q:Nat}{a b:CV}(i:c[p]? =some a)(j:c[q]? =some b)(e:p≠q):a.nm≠b.nm:=by
 obtain⟨f,rfl⟩:=List.getElem?_eq_some_iff.1 i;obtain⟨g,rfl⟩:=List.getElem?_eq_some_iff.1 j;rcases Nat.lt_or_gt_of_ne e with d|d;·exact List.pairwise_iff_getElem.1 h p q f g d
 ·exact(List.pairwise_iff_getElem.1 h q p g f d).symm
def rW(xs:List CV)(n:Nat):List CV:=(xs.take (min n 24)).map CV.cut
theorem yt(xs:List CV)(n:Nat):∀c∈rW xs n,eh c:=fun c a=>by
 obtain⟨x,_,rfl⟩:=List.mem_map.1 a;exact x.Ct
def SV(c:CV)(L:List Ent)(v:Value)(w:World):Prop:=∃a,v= .pointer (some ⟨a,0,none⟩)∧ec w a (D1 c L)
theorem SV.ao{c:CV}{L:List Ent}{v:Value}{w w':World}(h:SV c L v w)(b:Fr ah w w'):SV c L v w':=by
 obtain⟨s,e,a⟩:=h;exact⟨s,e,a.ao b⟩
theorem EV(w:World):(zeroValue 119).run Tryz.prog w= .ok bY w:=by kernel_rfl
def lz(w:World)(L:List Ent)(xs:List CV)(e:Ending)(w':World):Prop:=∃p k,e= .returned (.tuple #[.pointer p, .int .i64 k])∧Fr ah w w'∧
 (((∀c∈xs,dD c.nm=true)∧k=0∧∃a,p=some ⟨a,0,none⟩∧ec w' a (iZ xs L))∨((∃c∈xs,dD c.nm=false)∧k=12∧p=none))
def Kt(w:World)(L:List Ent)(xs:List CV)(n m:Nat)(s i:Value)(wr:World):Prop:=∃(k a:Nat),k≤n∧s= .pointer (some ⟨a,0,none⟩)∧i= .int .i64 (k:Int)∧ec wr a (iZ (xs.take k) L)∧cI (m+k) (iZ (xs.take k) L)∧(∀c∈xs.take k,dD c.nm=true)∧Fr ah w wr
theorem tW(L:List Ent)(xs:List CV)(n m:Nat)(A:Option Addr)(ax:Nat)(S:Nat→Prop)(s:Nat)(w:World)(ai:ec w s L)(aj:ed w)(C:cI m L)(R:CL w S A n xs)(al:∀c∈xs,eh c)(hm:m+n≤60000):
  Calls Tryz.prog 82 #[.pointer (some ⟨s,0,none⟩), .slice A n ax] w (lz w L xs):=by
 have ar:=af R;have Z:=af aj;have aw:=af al;have av:=af R.len;have Y:Hid (Kt w L xs n m (.pointer (some ⟨s,0,none⟩)) (.int .i64 0) w):=⟨0,s,by omega,rfl,rfl,ai,C,(fun c v=>by simp at v),az⟩;clear R al ai C aj;go_enter Tryz.func82,Tryz.ntmps82;go_wp2;go_loopw[0,13](fun s i wr=>Kt w L xs n m s i wr)(fun _ i _=>n-(intOf i).toNat);case atStart=>exact Y.out
 case round=>
  obtain⟨k,s1,aI,rfl,rfl,ag,C,ae,hF⟩:=hrel;have K:=af hF;have Q:=af ag;have M:=af C;have H:=af ae;clear ag C ae hF Y;by_cases T:k<n
  ·have ay:(k:Int)<(n:Int):=by omega
   have aA:(0:Int)≤(k:Int):=by omega
   have t0:decide ((k:Int)<(n:Int))=true:=decide_eq_true ay;obtain⟨aE,c,rfl,v,o⟩:=(ar.out.ao K.out).at_ T;have z:=af o;have ap:=af c.one;have G:=af (DW v L);have u:Hid (eh c):=aw.out c (List.mem_of_getElem? v);have r:Hid (xs[k]? =some c):=v;have X:Hid (mE (iZ (xs.take k) L)):=M.out.jK (by omega);generalize iZ (xs.take k) L=Lk at*;clear o v;go_wp2_with(refine aC rfl 119 (.tmp 15) rfl _ rfl c.cells _ ?zE Tryz.underlying119 rfl jC (aR.go ?hold));case zE=>exact z.out
   unfold aR;go_wp2_with(refine an rfl 119 rfl bY EV #[.int .i64 0, .string ByteArray.empty, .int .i64 0, .int .i64 0, .string ByteArray.empty, .string ByteArray.empty, .bool false] rfl ?_);intro aB am;have P:=af am;clear am;generalize D:wr.heap.size=g7 at*;have B:=af D;clear D;have U:Hid (aq aB g7 119 #[.int .i64 0, .string ByteArray.empty, .int .i64 0, .int .i64 0, .string ByteArray.empty, .string ByteArray.empty, .bool false]):=by have h:=P.out.aD;rw[B.out]at h;exact h
   go_wp2_with(refine ak rfl 119 (.tmp 7) _ rfl g7 c.cells.toArray rfl rfl _ _ U.out jC rfl ap.out ?_);intro t bb ad;have I:Hid (aq t g7 119 c.cells.toArray):=bb;have W:Hid (Fr ah wr t):=P.out.fr.au ad (fun i aH e=>by have aG:i=g7:=e;have:=B.out;omega);clear bb ad P U z;have ab:Hid (ec t s1 Lk):=Q.out.ao W.out;have ac:t.cell? {block:=g7,off:=6}=some (.bool c.bH):=I.out.cell 6;have aF:t.cell? {block:=g7,off:=5}=some (.string c.value):=I.out.cell 5;have V:Hid (∀j x,c.nm.cells[j]? =some x→t.cell? ((⟨g7,0,none⟩:Addr).add j)=some x):=fun j x g=>by
    rw[Addr.add_mid,Nat.zero_add,I.out.cell j,bQ,CV.cells,List.getElem?_append_left (List.getElem?_eq_some_iff.1 g).1];exact g
   have F:Hid (Fr ah w t):=K.out.trans W.out;cases l:c.bH
   ·rw[l]at ac;have N:Hid (kE c Lk=dC c.nm c.value Lk):=by simp only[Hid,kE,l];rfl
    have J:Hid (∀w',Fr ah t w'→Calls Tryz.prog 130 #[.pointer (some ⟨s1,0,none⟩), .agg c.nm.cells.toArray, .string c.value] w' (Ep w' Lk c.nm c.value)):=fun w' f=>Fm _ _ _ _ _ (ab.out.ao f) (Z.out.ao (F.out.trans f)) X.out u.out.name;have aa:Hid (c.value.size≤65536):=by have:=u.out.value;simp only[Hid];omega
    clear l;go_wp2_with(refine aC rfl 106 (.tmp 28) rfl ⟨g7,0,none⟩ rfl c.nm.cells _ ?zA Tryz.underlying106 rfl aT (aR.go ?zC));case zA=>exact V.out
    unfold aR;go_wp2_with fail;refine(J.out _ az).mono ?_;rintro e w3⟨p,q,rfl,f3,a⟩;have y:Hid (Fr ah w w3):=F.out.trans f3;cases b:dD c.nm
    ·obtain⟨rfl,rfl⟩:q=12∧p=none:=by
      rcases a with⟨h,_⟩|⟨_,h⟩|⟨h,_⟩;·rw[b]at h;cases h
      ·exact h
      ·rw[b]at h;cases h
     have d:=af b;clear a b f3;go_wp2;go_ret2;exact⟨_,12,rfl,y.out, .inr ⟨⟨c,List.mem_of_getElem? r.out,d.out⟩,rfl,rfl⟩⟩
    ·obtain⟨rfl,s2,rfl,E⟩:q=0∧∃s2,p=some ⟨s2,0,none⟩∧ec w3 s2 (kE c Lk):=by
      rw[N.out];rcases a with⟨_,_,h⟩|⟨h,_⟩|⟨_,h,_⟩;·exact h
      ·rw[b]at h;cases h
      ·exact absurd aa.out (by omega)
     have d:=af b;have O:=af E;clear a b f3 E;go_wp2;go_roundw;case rel=>
      refine⟨k+1,s2,by omega,rfl,by go_num,?_,?_,fun x g=>?_,y.out⟩;·rw[G.out];exact O.out
      ·rw[G.out];exact(M.out.next u.out d.out).more (by omega)
      ·rw[List.take_add_one,r.out,Option.toList_some,List.mem_append,List.mem_singleton]at g;rcases g with g|rfl;·exact H.out x g
       ·exact d.out
     case measure=>simp[intOf];omega
   ·rw[l]at ac;have N:Hid (kE c Lk=de c.nm Lk):=by simp only[Hid,kE,l];rfl
    have J:Hid (∀w',Fr ah t w'→Calls Tryz.prog 129 #[.pointer (some ⟨s1,0,none⟩), .agg c.nm.cells.toArray] w' (uq w' Lk c.nm)):=fun w' f=>x9 _ _ _ _ (ab.out.ao f) (Z.out.ao (F.out.trans f)) X.out u.out.name;have aa:Hid (c.value.size≤65536):=by have:=u.out.value;simp only[Hid];omega
    clear l;go_wp2_with(refine aC rfl 106 (.tmp 21) rfl ⟨g7,0,none⟩ rfl c.nm.cells _ ?zB Tryz.underlying106 rfl aT (aR.go ?zD));case zB=>exact V.out
    unfold aR;go_wp2_with fail;refine(J.out _ az).mono ?_;rintro e w3⟨p,q,rfl,f3,a⟩;have y:Hid (Fr ah w w3):=F.out.trans f3;cases b:dD c.nm
    ·obtain⟨rfl,rfl⟩:q=12∧p=none:=by
      rcases a with⟨h,_⟩|⟨_,h⟩;·rw[b]at h;cases h
      ·exact h
     have d:=af b;clear a b f3;go_wp2;go_ret2;exact⟨_,12,rfl,y.out, .inr ⟨⟨c,List.mem_of_getElem? r.out,d.out⟩,rfl,rfl⟩⟩
    ·obtain⟨rfl,s2,rfl,E⟩:q=0∧∃s2,p=some ⟨s2,0,none⟩∧ec w3 s2 (kE c Lk):=by
      rw[N.out];rcases a with⟨_,h⟩|⟨h,_⟩;·exact h
      ·rw[b]at h;cases h
     have d:=af b;have O:=af E;clear a b f3 E;go_wp2;go_roundw;case rel=>
      refine⟨k+1,s2,by omega,rfl,by go_num,?_,?_,fun x g=>?_,y.out⟩;·rw[G.out];exact O.out
      ·rw[G.out];exact(M.out.next u.out d.out).more (by omega)
      ·rw[List.take_add_one,r.out,Option.toList_some,List.mem_append,List.mem_singleton]at g;rcases g with g|rfl;·exact H.out x g
       ·exact d.out
     case measure=>simp[intOf];omega
  ·obtain rfl:k=n:=by omega
   have t0:decide ((k:Int)<(k:Int))=false:=bZ (by omega);go_wp2;go_ret2;have g:xs.take k=xs:=List.take_of_length_le (by have:=av.out;omega);rw[g]at Q H;exact⟨_,0,rfl,K.out, .inl ⟨H.out,rfl,s1,rfl,Q.out⟩⟩
theorem xh{p a:List Ent}{x:Ent}(h:∀y∈p,bP y.1 x.1<0):de x.1 (p++x::a)=p++a:=by
 rw[q9 p _ (fun y b=>gj (h y b)),de,if_pos (ca.refl _)]
theorem Am{p a:List Ent}{x y:Ent}(h:∀z∈p,bP z.1 y.1<0)(b:bP y.1 x.1<0):dC y.1 y.2 (p++x::a)=(p++[y])++x::a:=by
 rw[lO p _ (fun z c=>gj (h z c)),dC,if_pos b,List.append_assoc];rfl
theorem Gn{p:List Ent}{y:Ent}(h:∀z∈p,bP z.1 y.1<0):dC y.1 y.2 p=p++[y]:=by
 have e:=lO (nm:=y.1) (v:=y.2) p [] (fun z a=>gj (h z a));rw[List.append_nil]at e;rw[e];rfl
theorem Gm{p a:List Ent}{x y:Ent}(h:∀z∈p,bP z.1 y.1<0)(b:bP y.1 x.1=0):dC y.1 y.2 (p++x::a)=(p++[y])++a:=by
 rw[lO p _ (fun z c=>gj (h z c)),dC,if_neg (by omega),if_pos b,List.append_assoc];rfl
theorem cC.glue{p a b:List Ent}{y:Ent}(e:cC (p++a))(f:cC (p++y::b))(h:∀z∈a,bP y.1 z.1<0):cC ((p++[y])++a):=by
 obtain⟨_,g,i⟩:=List.pairwise_append.1 e;obtain⟨j,_,k,_⟩:=cC.parts f;refine List.pairwise_append.2 ⟨List.pairwise_append.2 ⟨j,List.pairwise_singleton _ _,fun z d u hu=>?_⟩,g,fun z d u hu=>?_⟩;·rw[List.mem_singleton]at hu;rw[hu];exact k z d
 ·rcases List.mem_append.1 d with c|c;·exact i z c u hu
  ·rw[List.mem_singleton]at c;rw[c];exact h u hu
theorem cC.gone{p a:List Ent}{x:Ent}(h:cC (p++x::a)):cC (p++a):=h.sublist ((List.Sublist.refl p).append (List.sublist_cons_self x a))
theorem ly:∀(a b p:List Ent),cC (p++a)→cC (p++b)→iZ (cp a b) (p++a)=p++b
 |[],[],p,_,_=>by rw[cp];rfl
 |x::a,[],p,d,c=>by
  obtain⟨_,_,q,_⟩:=cC.parts d;rw[cp];show iZ (cp a []) (de x.1 (p++x::a))=_;rw[xh q];exact ly a [] p d.gone c
 |[],y::b,p,d,c=>by
  obtain⟨_,_,q,_⟩:=cC.parts c;rw[cp];show iZ (cp [] b) (dC y.1 y.2 (p++[]))=_;rw[List.append_nil,Gn q];have h:=ly [] b (p++[y]) (cC.glue d c (fun z i=>by cases i)) (by rw[List.append_assoc];exact c);rw[List.append_nil,List.append_assoc]at h;exact h
 |x::a,y::b,p,d,c=>by
  obtain⟨_,u,r,k⟩:=cC.parts d;obtain⟨_,v,l,lb⟩:=cC.parts c;rw[cp];split;next=>
   show iZ (cp a (y::b)) (de x.1 (p++x::a))=_;rw[xh r];exact ly a (y::b) p d.gone c
  next s=>
   split;next n=>
    have g:=lk n;show iZ (cp (x::a) b) (dC y.1 y.2 (p++x::a))=_;rw[Am l g];have j:∀z∈x::a,bP y.1 z.1<0:=fun z i=>by
     rcases List.mem_cons.1 i with rfl|h;·exact g
     ·exact ca.trans _ _ _ g (k z h)
    have h:=ly (x::a) b (p++[y]) (cC.glue d c j) (by rw[List.append_assoc];exact c);rw[h,List.append_assoc];rfl
   next t=>
    have he:bP x.1 y.1=0:=by omega
    have f:x.1=y.1:=ca.eq _ _ he;have g:bP y.1 x.1=0:=by rw[f];exact ca.refl _
    have m:cC ((p++[y])++a):=cC.glue d.gone c (fun z i=>by rw[←f];exact k z i);have h:=ly a b (p++[y]) m (by rw[List.append_assoc];exact c);rw[List.append_assoc]at h;split;next o=>
     have e:x=y:=Prod.ext f ((Et _ _).1 o);rw[e];rw[List.append_assoc]at h;exact h
    next=>
     show iZ (cp a b) (dC y.1 y.2 (p++x::a))=_;rw[Gm l g,List.append_assoc];rw[List.append_assoc]at h;exact h
termination_by a b=>a.length+b.length
theorem FT{a b:List Ent}(c:cC a)(d:cC b):iZ (cp a b) a=b:=ly a b [] c d
theorem FQ{a b:List Ent}(c:cC a)(d:cC b):cp a b=[]↔a=b:=⟨fun h=>by have e:=FT c d;rw[h]at e;exact e,fun h=>by rw[h];exact qi b⟩
end Go.Proofs.YtphjagkehiklkaaGreatDoor
