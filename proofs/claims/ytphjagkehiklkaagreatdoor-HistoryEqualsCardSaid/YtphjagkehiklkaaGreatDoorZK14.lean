/- Texts. -/
import Derived.Test.YtphjagkehiklkaaGreatDoorZK13
set_option linter.unusedVariables false
set_option linter.unusedSimpArgs false
set_option maxRecDepth 100000
set_option maxHeartbeats 1000000
namespace Go.Proofs.YtphjagkehiklkaaGreatDoor.Lt
open Go.RowKit
def aN(n:Nat):Nat:=2^(Lib.bitLen (n-1)-1)
theorem dD(n:Nat)(h:2≤n)(e:n≤1099511627776):aN n<n∧n≤2*aN n∧1≤aN n:=by
 obtain⟨d,b,c⟩:=Lib.bitLenAux_bounds 64 (n-1) (by omega) (by omega);obtain⟨m,hm⟩:∃m,Lib.bitLen (n-1)=m+1:=⟨Lib.bitLenAux 64 (n-1)-1,by unfold Lib.bitLen;omega⟩;have a:Lib.bitLenAux 64 (n-1)=m+1:=hm;unfold aN;rw[a]at d b c;rw[hm];rw[Nat.pow_succ]at c;have:1≤2^m:=Nat.one_le_two_pow;simp only[Nat.add_sub_cancel]at b⊢;omega
theorem pow_one(n i j:Nat)(a:2^i<n)(b:n≤2*2^i)(c:2^j<n)(d:n≤2*2^j):2^i=2^j:=by
 rcases Nat.lt_trichotomy i j with h|h|h;·have:2^(i+1)≤2^j:=Nat.pow_le_pow_right (by omega) h;rw[Nat.pow_succ]at this;omega
 ·rw[h]
 ·have:2^(j+1)≤2^i:=Nat.pow_le_pow_right (by omega) h;rw[Nat.pow_succ]at this;omega
theorem yK(n j:Nat)(f:n≤1099511627776)(d:2^j<n)(e:n≤2*2^j):2^j=aN n:=by
 have:1≤2^j:=Nat.one_le_two_pow;obtain⟨a,b,c⟩:=dD n (by omega) f;exact pow_one n j _ d e a b
theorem nt(n:Nat)(w:World)(k:2≤n)(q:n≤1099511627776):Calls Tryz.prog 121 #[.int .i64 n] w fun e w'=>e= .returned (.int .i64 (aN n:Nat))∧w=w':=by
 obtain⟨a,b,c⟩:=dD n k q;obtain⟨m,hm⟩:∃m,m=n-1:=⟨_,rfl⟩;have l:1≤Lib.bitLen m:=(Lib.bitLenAux_bounds 64 m (by omega) (by omega)).1;have o:Lib.bitLen m≤64:=Lib.bitLen_le m 64 (by omega) (by omega);have d:Hid (aN n=2^(Lib.bitLen m-1)):=by rw[hm];rfl
 obtain⟨x,h⟩:∃x,x=Lib.bitLen m-1:=⟨_,rfl⟩;rw[←h]at d;have r:((Lib.bitLen m:Nat):Int)-1=(x:Int):=by omega
 have i:(x:Int)≤64:=by omega
 have p:(n:Int)-1=(m:Int):=by omega
 have j:Hid (∀w,Calls Tryz.prog 150 #[.int .u64 (m:Int)] w fun e w'=>e= .returned (.int .i64 (Lib.bitLen m:Nat))∧w'=w):=fun w=>Tryz.bits_Len (m:Int) w (by omega) (by omega);have f:IntKind.i64.wrap (1*2^x)=((aN n:Nat):Int):=by
  rw[d.out,Int.one_mul];have:(2:Int)^x=((2^x:Nat):Int):=by simp
  rw[this];refine IntWalk.i64_in _ ?_;rw[←d.out];omega
 have g:IntKind.i64.wrap (2^x)=((aN n:Nat):Int):=by rw[←f,Int.one_mul]
 clear h a b c;generalize Lib.bitLen m=B at*;generalize aN n=t at*;have s:=af hm;clear hm;go_enter Tryz.func121,Tryz.ntmps121;go_wp2_with fail;refine(j.out _).mono ?_;rintro e w'⟨rfl,rfl⟩;go_wp2;go_ret;exact⟨rfl,rfl⟩
def cW(ds:List (List UInt8)):List UInt8:=
 if a:1≤aN ds.length∧aN ds.length<ds.length then cR (cW (ds.take (aN ds.length))) (cW (ds.drop (aN ds.length)))else ds.headD []
termination_by ds.length
decreasing_by
 ·simp only[List.length_take];omega
 ·simp only[List.length_drop];omega
theorem rp(d:List UInt8):cW [d]=d:=by
 rw[cW,dif_neg (by simp;omega)];rfl
theorem mY(ds:List (List UInt8))(n:Nat)(b:ds.length=n)(d:2≤n)(e:n≤1099511627776):cW ds=cR (cW (ds.take (aN n))) (cW (ds.drop (aN n))):=by
 obtain⟨a,_,c⟩:=dD n d e;rw[cW,dif_pos (by rw[b];exact⟨c,a⟩),b]
theorem gM(n:Nat):∀ds:List (List UInt8),ds.length=n→1≤n→n≤1099511627776→(∀d∈ds,d.length=32)→(cW ds).length=32:=by
 intro ds a f e b;by_cases c:2≤n;·rw[mY ds n a c e];exact eM _ _
 ·match ds,a,b with
  |[d],_,b=>rw[rp];exact b d (by simp)
  |[],a,_=>simp at a;omega
  |_::_::_,a,_=>simp at a;omega
def aA(d:List UInt8):List Value:=d.map bN
structure gv(w:World)(S:Nat→Prop)(A:Option Addr)(n:Nat)(ds:List (List UInt8)):Prop where
 rd:Rd w S 32 A n (ds.flatMap aA)
 len:ds.length=n
 each:∀d∈ds,d.length=32
theorem gv.ao{w w':World}{S:Nat→Prop}{A:Option Addr}{n:Nat}{ds:List (List UInt8)}(h:gv w S A n ds)(a:Fr ag w w'):gv w' S A n ds:=⟨h.rd.ao a,h.len,h.each⟩
theorem gv.fr{w w':World}{S T:Nat→Prop}{A:Option Addr}{n:Nat}{ds:List (List UInt8)}(h:gv w S A n ds)(b:Fr T w w')(a:∀k,S k→¬T k):gv w' S A n ds:=⟨h.rd.fr b a,h.len,h.each⟩
theorem oB(ds:List (List UInt8))(h:∀d∈ds,d.length=32):∀k,(ds.flatMap aA).take (k*32)=(ds.take k).flatMap aA:=by
 induction ds with
 |nil=>simp
 |cons d r b=>
  intro k;rcases k with _|k;·simp
  ·have c:(aA d).length=32:=by rw[aA,List.length_map];exact h d (by simp)
   rw[List.flatMap_cons,List.take_succ_cons,List.flatMap_cons,show(k+1)*32=(aA d).length+k*32 by omega,List.take_length_add_append,b (fun x a=>h x (by simp[a]))]
theorem ml(ds:List (List UInt8))(h:∀d∈ds,d.length=32):∀k,(ds.flatMap aA).drop (k*32)=(ds.drop k).flatMap aA:=by
 induction ds with
 |nil=>simp
 |cons d r b=>
  intro k;rcases k with _|k;·simp
  ·have c:(aA d).length=32:=by rw[aA,List.length_map];exact h d (by simp)
   rw[List.flatMap_cons,List.drop_succ_cons,show(k+1)*32=(aA d).length+k*32 by omega,List.drop_length_add_append,b (fun x a=>h x (by simp[a]))]
theorem gv.take{w:World}{S:Nat→Prop}{A:Option Addr}{n k:Nat}{ds:List (List UInt8)}(h:gv w S A n ds)(b:k≤n):gv w S A k (ds.take k):=by
 have:=h.rd.take b;rw[oB ds h.each]at this;exact⟨this,by rw[List.length_take,h.len];omega,fun d a=>h.each d (List.mem_of_mem_take a)⟩
theorem gv.cut{w:World}{S:Nat→Prop}{A:Option Addr}{n k cap:Nat}{ds:List (List UInt8)}(h:gv w S A n ds)(c:k≤n)(a:n≤cap):gv w S (if cap=k then A else A.map (·.add (k*32))) (n-k) (ds.drop k):=by
 have:=h.rd.cut c a;rw[ml ds h.each]at this;exact⟨this,by rw[List.length_drop,h.len],fun d b=>h.each d (List.mem_of_mem_drop b)⟩
theorem gv.at_{w:World}{S:Nat→Prop}{A:Option Addr}{n k:Nat}{ds:List (List UInt8)}(h:gv w S A n ds)(o:k<n):∃f d,A=some f∧S f.block∧ds[k]? =some d∧d.length=32∧∀j v,(aA d)[j]? =some v→w.cell? ((f.add (k*32)).add j)=some v:=by
 obtain⟨f,e,i,l⟩:=h.rd.2 (by omega);have c:k<ds.length:=by rw[h.len];exact o
 have a:ds[k].length=32:=h.each _ (List.getElem_mem c);refine⟨f,ds[k],e,i,List.getElem?_eq_getElem c,a,fun j v g=>?_⟩;rw[iT];refine l _ v ?_;have m:j<32:=by have:=(List.getElem?_eq_some_iff.1 g).1;rw[aA,List.length_map,a]at this;exact this
 have b:(ds.flatMap aA).drop (k*32)=aA ds[k]++(ds.drop (k+1)).flatMap aA:=by
  rw[ml ds h.each,List.drop_eq_getElem_cons c,List.flatMap_cons]
 rw[←List.getElem?_drop,b,List.getElem?_append_left (by rw[aA,List.length_map,a];exact m)];exact g
theorem ku{P:Program}(w:World)(b:Addr)(ty:TypeId)(cs:List Value)(d:TypeDesc)(f:∀j v,cs[j]? =some v→w.cell? (b.add j)=some v)
  (hu:P.underlying ty=some d)(k:d.isRow=true)(e:(P.info? ty).map (·.size)=some cs.length):(loadVar ty b).run P w= .ok (.agg cs.toArray) w:=by
 have g:(loadCells b cs.length).run P w= .ok cs.toArray w:=run_loadCells_list (P:=P) w b cs f;cases c:P.info? ty with
 |none=>simp[c]at e
 |some i=>
  have h:i.size=cs.length:=by simpa[c]using e
  have a:(isAgg ty).run P w= .ok true w:=by
   unfold isAgg;rw[Sem.run_bind,run_underlying hu w];cases d<;>simp_all
  simp[loadVar,Sem.run_bind,a,sizeOf,typeInfo,c,h,g]
theorem au{P:Program}{op:Oper}{a:Act}{w:World}{K:Act→World→Prop}{Q:Exit→Act→World→Prop}(ty:TypeId)(x:Operand)(g:op.op= .load ty x)
  (b:Addr)(i:a.eval x= .pointer (some b))(cs:List Value)(d:TypeDesc)(c:∀j v,cs[j]? =some v→w.cell? (b.add j)=some v)
  (hu:P.underlying ty=some d)(e:d.isRow=true)(f:(P.info? ty).map (·.size)=some cs.length)
  (h:K (a.put op.dst (.agg cs.toArray)) w):op.wp P a w K Q:=by
 unfold Oper.wp execOp;simp only[g,i,Instr.loadAt,Instr.sureAddr,Sem.run_bind,Sem.run_pure,Result.andThen_ok,ku w b ty cs d c hu e f];exact h
theorem aC{P:Program}{ops:Array Oper}{rest:List Oper}{op:Oper}{a:Act}{w:World}{Q:Exit→Act→World→Prop}(c:op.guard=none)(ty:TypeId)(x:Operand)(k:op.op= .load ty x)
  (b:Addr)(l:a.eval x= .pointer (some b))(cs:List Value)(d:TypeDesc)(f:∀j v,cs[j]? =some v→w.cell? (b.add j)=some v)
  (hu:P.underlying ty=some d)(g:d.isRow=true)(i:(P.info? ty).map (·.size)=some cs.length)
  (h:wpList P ops Q rest (a.put op.dst (.agg cs.toArray)) w):wpList P ops Q (op::rest) a w:=
 wpList_plain c fun _ e=>au ty x k b l cs d f hu g i (e _ _ h)
def gV(ds:List (List UInt8)):List UInt8:=if ds=[]then rW else cW ds
def aR(p:Prop):Prop:=p
theorem aR.go{p:Prop}(h:aR p):p:=h
theorem sd:(Tryz.prog.info? 38).map (fun i=>(i.zero,i.size,i.bytes))=some (some aZ,32,32):=by kernel_rfl
theorem foldl_set:∀(l:List Value)(k off:Nat)(b:List Value),off+k+l.length≤b.length→(l.zipIdx k).foldl (fun cs x=>cs.setIfInBounds (off+x.2) x.1) b.toArray=(b.take (off+k)++l++b.drop (off+k+l.length)).toArray
 |[],k,off,b,_=>by simp
 |c::r,k,off,b,h=>by
  simp only[List.length_cons]at h;rw[List.zipIdx_cons,List.foldl_cons,List.setIfInBounds_toArray,foldl_set r (k+1) off (b.set (off+k) c) (by rw[List.length_set];omega)];congr 1;have a:(b.set (off+k) c).take (off+(k+1))=b.take (off+k)++[c]:=by
   rw[List.take_set,show off+(k+1)=(off+k)+1 by omega,List.take_succ_eq_append_getElem (by omega:off+k<b.length),List.set_append_right _ _ (by simp;omega)];simp;rw[show off+k-min (off+k) b.length=0 by omega];rfl
  have d:(b.set (off+k) c).drop (off+(k+1)+r.length)=b.drop (off+k+(c::r).length):=by
   rw[List.drop_set_of_lt (by omega)];congr 1;simp only[List.length_cons];omega
  rw[a,d];simp
theorem lT(cs b:Array Value)(off:Nat)(h:off+cs.size≤b.size):cs.zipIdx.foldl (fun cs(x:Value×Nat)=>cs.setIfInBounds (off+x.2) x.1) b=(b.toList.take off++cs.toList++b.toList.drop (off+cs.size)).toArray:=by
 rw[←Array.foldl_toList,Array.toList_zipIdx];have:=foldl_set cs.toList 0 off b.toList (by simpa using h);simpa using this
theorem sR(cs b:Array Value)(d:cs.size=32)(c:b.size=32):Instr.fill (fun i=>some (i*32,32)) b [(0, .agg cs)]=some cs:=by
 have a:=lT cs b 0 (by omega);simp only[Instr.fill,Value.cells,d,c,Nat.zero_mul,Nat.zero_add,ne_eq,not_true_eq_false,decide_false,Bool.false_or,gt_iff_lt,Nat.lt_irrefl,Bool.false_eq_true,if_false];simp only[Nat.zero_add,List.take_zero,List.nil_append,d]at a;rw[List.drop_of_length_le (by simp[c]),List.append_nil]at a;rw[a]
def po(w:World)(n:Nat)(ds:List (List UInt8))(e:Ending)(w':World):Prop:=∃v,e= .returned v∧bK 38 32 w (.slice none 0 0) w' v n (ds.flatMap aA)
structure LG(w w':World):Prop where
 map:w'.heap[w.heap.size]? =some (.map #[] 0)
 fr:Fr ag w w'
 size:w'.heap.size=w.heap.size+1
theorem uC{P:Program}{ops:Array Oper}{rest:List Oper}{e:Oper}{a:Act}{w:World}{Q:Exit→Act→World→Prop}(c:e.guard=none)(t:TypeId)(d:e.op= .makeMap t none)
  (h:∀w',LG w w'→wpList P ops Q rest (a.put e.dst (.map (some w.heap.size))) w'):wpList P ops Q (e::rest) a w:=by
 refine wpList_plain c fun K b=>?_;have mk:(Instr.makeMap t none).run P w= .ok (.map (some w.heap.size)) (w.alloc (.map #[] 0)):=by simp[Instr.makeMap]
 unfold Oper.wp execOp;simp only[d,Option.map_none,Sem.run_bind,mk,Sem.run_pure,Result.andThen_ok];exact b _ _ (h _ ⟨heap_alloc_new w _,az.alloc _,by simp⟩)
theorem eZ{P:Program}{ops:Array Oper}{rest:List Oper}{op:Oper}{a:Act}{w:World}{Q:Exit→Act→World→Prop}(b:op.guard=none)(ty:TypeId)(x:Operand)(i:op.op= .load ty x)
  (g:Nat)(l:a.eval x= .pointer (some ⟨g,0,none⟩))(t:TypeId)(cs:List Value)(c:aq w g t cs.toArray)(d:TypeDesc)
  (hu:P.underlying ty=some d)(e:d.isRow=true)(f:(P.info? ty).map (·.size)=some cs.length)
  (h:wpList P ops Q rest (a.put op.dst (.agg cs.toArray)) w):wpList P ops Q (op::rest) a w:=
 aC b ty x i ⟨g,0,none⟩ l cs d (fun j v k=>by rw[Addr.add_mid,Nat.zero_add,c.cell,bP];exact k) hu e f h
theorem Iv(a e b:Array Value)(c:a.size=32)(g:e.size=32)(f:b.size=64):Instr.fill (fun i=>some (i*32,32)) b [(0, .agg a),(1, .agg e)]=some (a.toList++e.toList).toArray:=by
 have h:=lT a b 0 (by omega);simp only[Nat.zero_add,List.take_zero,List.nil_append,c]at h;have l:(a.toList++b.toList.drop 32).toArray.size=64:=by simp[c,f]
 have d:=lT e (a.toList++b.toList.drop 32).toArray 32 (by omega);have j:(a.toList++b.toList.drop 32).take 32=a.toList:=by rw[List.take_append_of_le_length (by simp[c]),List.take_of_length_le (by simp[c])]
 have k:(a.toList++b.toList.drop 32).drop (32+32)=[]:=List.drop_of_length_le (by simp[c,f]);simp only[g,j,k,List.append_nil]at d;simp only[Instr.fill,Value.cells,c,g,f,Nat.zero_mul,Nat.zero_add,Nat.one_mul,ne_eq,not_true_eq_false,decide_false,Bool.false_or,gt_iff_lt,Nat.lt_irrefl,Bool.false_eq_true,if_false,Nat.reduceAdd,Nat.reduceLT,h,l,d]
theorem gv.Ci{w w':World}{v:Value}{n:Nat}{ds:List (List UInt8)}(h:bK 38 32 w (.slice none 0 0) w' v n (ds.flatMap aA))(i:ds.length=n)(he:∀d∈ds,d.length=32):
  ∃A c,v= .slice A n c∧gv w' (oe v) A n ds∧n≤c∧c≤9223372036854775807∧Fr ag w w':=by
 obtain⟨A,c,rfl,f⟩:=xe h.own;refine⟨A,c,rfl,⟨Rd.gR h.own,i,he⟩,f,?_,h.ao⟩;rcases h.own.2 with⟨b,_⟩|⟨g,cap,cur,b,_,_,_,a,_⟩;·injection b with _ _ e;omega
 ·injection b with _ _ e;unfold maxLen at a;omega
theorem mF{P:Program}{op:Oper}{a:Act}{w:World}{K:Act→World→Prop}{Q:Exit→Act→World→Prop}(i:BinOp)(t:TypeId)(x y:Operand)(ty:TypeId)(d:op.op= .binOp i t x y ty)
  (xs b:Array Value)(f:a.eval x= .agg xs)(g:a.eval y= .agg b)(c:P.eqGuardType P.depth t=false)
  (v:Value)(e:(binOp i t (.agg xs) (.agg b)).run P w= .ok v w)(h:K (a.put op.dst v) w):op.wp P a w K Q:=by
 have he:=run_eqGuard_agg (P:=P) (w:=w) i t x y xs b c;unfold Oper.wp execOp;simp only[d,f,g,Sem.run_bind,he,e,Result.andThen_ok];exact h
theorem nz(n:Nat)(ds:List (List UInt8))(b:ds.length=n)(e:n≤1048576)(he:∀d∈ds,d.length=32):(gV ds).length=32:=by
 unfold gV;split;·exact pG
 ·rename_i h;have c:1≤n:=by
   rcases Nat.eq_zero_or_pos n with a|a;·exact absurd (List.eq_nil_of_length_eq_zero (b.trans a)) h
   ·exact a
  exact gM n ds b c (by omega) he
end Go.Proofs.YtphjagkehiklkaaGreatDoor.Lt
namespace Go.Proofs.YtphjagkehiklkaaGreatDoor.Lt
open Go.RowKit Go.ChangeShapes Go.WideShapes Go.Deep
theorem Bd:Tryz.prog.cellsOf 141=8:=by kernel_rfl
theorem yt:Tryz.prog.cellsOf 242=64:=by kernel_rfl
theorem vD:Tryz.prog.cellsOf 140=1:=by kernel_rfl
theorem qX:Tryz.prog.globalNamed "replevin/sha256.initial"=some 1:=by kernel_rfl
theorem uw:(Tryz.prog.globals[1]?).map (·.type)=some 141:=by kernel_rfl
theorem oC:Tryz.prog.globalNamed "replevin/sha256.constants"=some 2:=by kernel_rfl
theorem qK:(Tryz.prog.globals[2]?).map (·.type)=some 242:=by kernel_rfl
def Ew:List Int:=[1779033703,3144134277,1013904242,2773480762,1359893119,2600822924,528734635,1541459225]
def Cb:List Int:=tZ.map (fun n:Nat=>(n:Int))
end Go.Proofs.YtphjagkehiklkaaGreatDoor.Lt
namespace Go.Proofs.YtphjagkehiklkaaGreatDoor.Lt
open Go.RowKit
theorem oU{P:Program}{l:Oper}{a:Act}{w:World}{K:Act→World→Prop}{Q:Exit→Act→World→Prop}(ty:TypeId)(x y:Operand)(f:l.op= .store ty x y)
  (g:Nat)(cells:Array Value)(i:a.eval x= .pointer (some ⟨g,0,none⟩))(j:a.eval y= .agg cells)
  (t:TypeId)(b:Array Value)(c:aq w g t b)(e:(P.info? ty).map (·.size)=some cells.size)
  (hold:b.size=cells.size)(d:cells.all (·.oneCell')=true)
  (h:∀w',aq w' g t cells→Fr (fun k=>k=g) w w'→K (a.put l.dst undef) w'):l.wp P a w K Q:=
 wp_store_row ty x y f g cells i j t b c e hold d (h _ (iO c) ((Fr.refl (fun k=>k=g) w).setRow (fun _=>rfl) cells))
structure tE(w w3:World)(ty:TypeId)(a:Array Value)(X Y:Array Value)(g5 g10 g11:Nat):Prop where
 fr:Fr ag w w3
 b5:aq w3 g5 ty a
 iU:aq w3 g10 ty X
 kf:aq w3 g11 ty Y
 lo:w.heap.size≤g5
 l1:g5<g10
 l2:g10<g11
theorem tE.of{w w1 w2 w3:World}{ty:TypeId}{d:Array Value}(c:dm w w1 ty d)(a:dm w1 w2 ty aD)(b:dm w2 w3 ty aD):tE w w3 ty d aD aD w.heap.size w1.heap.size w2.heap.size:=
 ⟨c.fr.trans (a.fr.trans b.fr),(c.aE.fr a.fr (fun x=>x)).fr b.fr (fun x=>x),a.aE.fr b.fr (fun x=>x),b.aE,Nat.le_refl _,by rw[c.size];omega,by rw[a.size];omega⟩
theorem lP{P:Program}{op:Oper}{a:Act}{w:World}{K:Act→World→Prop}{Q:Exit→Act→World→Prop}(t:TypeId)(c:op.op= .alloc t)(z:Value)(d:∀w,(zeroValue t).run P w= .ok z w)(cells:Array Value)(b:z.cells=cells)
  (h:∀w',dm w w' t cells→K (a.put op.dst (.pointer (some ⟨w.heap.size,0,none⟩))) w'):op.wp P a w K Q:=by
 subst b;unfold Oper.wp execOp;simp only[c,Instr.alloc,Sem.run_bind,d,newVar,newRow,run_newObj_alloc,Sem.run_pure,Result.andThen_ok];exact h _ (dm.alloc w t z.cells)
theorem tE.lA{w w3 d:World}{ty:TypeId}{c X Y:Array Value}{g5 g10 g11 g:Nat}(h:tE w w3 ty c X Y g5 g10 g11)(a:Fr (fun k=>k=g) w3 d)(f:g11<g):tE w d ty c X Y g5 g10 g11:=by
 have:=h.l1;have:=h.l2;have:=h.lo;exact⟨h.fr.aw a (fun i j e=>by have b:i=g:=e;omega),h.b5.fr a (fun e=>by have b:g5=g:=e;omega),h.iU.fr a (fun e=>by have b:g10=g:=e;omega),h.kf.fr a (fun e=>by have b:g11=g:=e;omega),h.lo,h.l1,h.l2⟩
theorem tE.later{w w3 c:World}{ty:TypeId}{b X Y:Array Value}{g5 g10 g11:Nat}(h:tE w w3 ty b X Y g5 g10 g11)(a:Fr ag w3 c):tE w c ty b X Y g5 g10 g11:=
 ⟨h.fr.trans a,h.b5.fr a (fun x=>x),h.iU.fr a (fun x=>x),h.kf.fr a (fun x=>x),h.lo,h.l1,h.l2⟩
def gZ:List UInt8:=List.replicate 32 0
theorem kI:gZ.length=32:=rfl
theorem sD:(aA gZ).toArray=aD:=by kernel_rfl
theorem jV{P:Program}{ops:Array Oper}{rest:List Oper}{e:Oper}{a:Act}{w:World}{Q:Exit→Act→World→Prop}(c:e.guard=none)(t:TypeId)(d:e.op= .build t #[])(cells:Array Value)
  (b:P.built t []=some cells)(h:wpList P ops Q rest (a.put e.dst (.agg cells)) w):wpList P ops Q (e::rest) a w:=
 wpList_buildTo c t #[] d cells (by simpa using b) h
theorem fI(n lo a:Int)(w:World):Calls Tryz.prog 89 #[.int .i64 n, .int .i64 lo, .int .i64 a] w (bm w (.bool (decide (lo≤n∧n≤a)))):=by
 by_cases b:lo≤n
 ·have t1:decide (lo≤n)=true:=decide_eq_true b;by_cases c:n≤a;·have t2:decide (n≤a)=true:=decide_eq_true c;rw[decide_eq_true ⟨b,c⟩];go_enter Tryz.func89,Tryz.ntmps89;go_wp2;go_ret;exact⟨rfl,rfl⟩
  ·have t2:decide (n≤a)=false:=decide_eq_false c;rw[cD (fun h=>c h.2)];go_enter Tryz.func89,Tryz.ntmps89;go_wp2;go_ret;exact⟨rfl,rfl⟩
 ·have t1:decide (lo≤n)=false:=decide_eq_false b;rw[cD (fun h=>b h.1)];go_enter Tryz.func89,Tryz.ntmps89;go_wp2;go_ret;exact⟨rfl,rfl⟩
end Go.Proofs.YtphjagkehiklkaaGreatDoor.Lt
namespace Go.Proofs.YtphjagkehiklkaaGreatDoor.Lt
open Go.RowKit Go.ChangeShapes Go.WideShapes Go.Deep
structure uF where
 leaf:List UInt8
 index:Int
 n:Int
 A:Option Addr
 len:Nat
 cap:Nat
 path:List (List UInt8)
def uF.val(c:uF):Value:= .agg (aA c.leaf++[Value.int .i64 c.index,Value.int .i64 c.n,Value.slice c.A c.len c.cap]).toArray
structure uF.j5(c:uF)(w:World):Prop where
 leaf:c.leaf.length=32
 index:-9223372036854775808≤c.index∧c.index≤9223372036854775807
 n:-9223372036854775808≤c.n∧c.n≤9223372036854775807
 path:gv w (Old w) c.A c.len c.path
 le:c.len≤c.cap
 cap:c.cap≤9223372036854775807
end Go.Proofs.YtphjagkehiklkaaGreatDoor.Lt
namespace Go.Proofs.YtphjagkehiklkaaGreatDoor.Lt
open Go.RowKit
theorem Gf:aD.size=32:=by kernel_rfl
theorem qu:aD.all (·.oneCell')=true:=by kernel_rfl
theorem pz:Tryz.prog.built 38 []=some aD:=by kernel_rfl
theorem q6:(Tryz.prog.info? 38).map (·.size)=some aD.size:=by rw[Gf];exact fo
theorem uy{P:Program}{op:Oper}{a:Act}{w:World}{K:Act→World→Prop}{Q:Exit→Act→World→Prop}(t:TypeId)(parts:Array (Nat×Operand))(c:op.op= .build t parts)(cells:Array Value)
  (b:P.built t (parts.map fun(i,x)=>(i,a.eval x)).toList=some cells)(h:K (a.put op.dst (.agg cells)) w):op.wp P a w K Q:=
 wp_build t parts c (by rw[b];rfl) (by rw[b];exact h)
def jH(n:Nat)(ds:List (List UInt8))(v:Value)(w:World):Prop:=∃A c,v= .slice A n c∧n≤c∧c≤9223372036854775807∧∃S,gv w S A n ds
theorem jH.of{w w':World}{v:Value}{n:Nat}{ds:List (List UInt8)}(h:bK 38 32 w (.slice none 0 0) w' v n (ds.flatMap aA))(f:ds.length=n)(he:∀d∈ds,d.length=32):jH n ds v w':=by
 obtain⟨A,c,rfl,e,a,b,_⟩:=gv.Ci h f he;exact⟨A,c,rfl,a,b,_,e⟩
theorem jH.ah{w:World}{n:Nat}{ds:List (List UInt8)}:∀v w' a,Fr ag w w'→Fr ag w' a→jH n ds v w'→jH n ds v a:=fun _ _ _ _ f⟨A,c,h,b,d,S,e⟩=>⟨A,c,h,b,d,S,e.ao f⟩
end Go.Proofs.YtphjagkehiklkaaGreatDoor.Lt
