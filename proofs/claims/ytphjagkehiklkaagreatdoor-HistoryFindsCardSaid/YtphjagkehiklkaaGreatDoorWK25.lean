/- Texts. -/
import Derived.Test.YtphjagkehiklkaaGreatDoorWK22
set_option linter.unusedVariables false
set_option linter.unusedSimpArgs false
set_option maxRecDepth 100000
set_option maxHeartbeats 1000000
namespace Go.Proofs.YtphjagkehiklkaaGreatDoor
open Go.RowKit
theorem vu{P:Program}{ops:Array Oper}{rest:List Oper}{p:Oper}{a:Act}{w:World}{Q:Exit→Act→World→Prop}(e:p.guard=none)(ty:TypeId)(x:Operand)(m:p.op= .load ty x)
  (b f:Nat)(o:a.eval x= .pointer (some ⟨b,f,none⟩))(i:TypeInfo)(g:P.info? ty=some i)(c:∀w,(isAgg ty).run P w= .ok true w)(d:List Value)(n:d.length=i.size)
  (l:∀k v,d[k]? =some v→w.cell? ⟨b,f+k,none⟩=some v)
  (h:wpList P ops Q rest (a.put p.dst (.agg d.toArray)) w):wpList P ops Q (p::rest) a w:=by
 refine wpList_plain e fun K j=>?_;unfold Oper.wp execOp;simp only[m,o,Instr.loadAt,Instr.sureAddr,Sem.run_bind,Sem.run_pure,Result.andThen_ok,Lib.rl_loadVar_cells ty i g c b f d n w l];exact j _ _ h
theorem sW{P:Program}{ops:Array Oper}{rest:List Oper}{u:Oper}{a:Act}{w:World}{Q:Exit→Act→World→Prop}(g:u.guard=none)(ty:TypeId)(x y:Operand)(o:u.op= .store ty x y)
  (b f:Nat)(q:a.eval x= .pointer (some ⟨b,f,none⟩))(j:TypeInfo)(i:P.info? ty=some j)(c:List Value)(r:a.eval y= .agg c.toArray)(p:c.length=j.size)(l:∀v∈c,v.oneCell'=true)
  (t:TypeId)(cs:List Value)(e:aq w b t cs.toArray)(n:f+c.length≤cs.length)
  (h:∀w',aq w' b t (cs.take f++c++cs.drop (f+c.length)).toArray→Fr (fun k=>k=b) w w'→wpList P ops Q rest (a.put u.dst undef) w'):wpList P ops Q (u::rest) a w:=by
 refine wpList_plain g fun K m=>?_;have d:=Lib.rl_storeVar_cells (P:=P) ty j i b f c p l w (fun k s=>by
  rw[e.cell,bR,List.getElem?_eq_getElem (by omega)];rfl) (fun k _=>e.frozen _);unfold Oper.wp execOp;simp only[o,q,r,Instr.storeAt,Instr.sureAddr,Sem.run_bind,Sem.run_pure,Result.andThen_ok,d];exact m _ _ (h _ (aq.setCells c f w cs e n) (Fr.setCells (T:=fun k=>k=b) (fun _=>rfl) c f w (Fr.refl _ w)))
structure bB(w:World):Prop where
 init:∀j u,(fC dU)[j]? =some u→w.cell? ⟨1,j,none⟩=some u
 kk:∀j,j<64→w.cell? ⟨2,j,none⟩=some (ju (sE[j]?.getD 0))
theorem bB.fr{w w':World}{T:Nat→Prop}(h:bB w)(a:Fr T w w')(b:¬T 1)(c:¬T 2):bB w':=
 ⟨fun j u hu=>a.an (h.init j u hu) b,fun j d=>a.an (h.kk j d) c⟩
theorem bB.ar{w w':World}(h:bB w)(a:Fr ag w w'):bB w':=h.fr a (fun x=>x) (fun x=>x)
def gG(n:Nat)(st:cS)(rest:List UInt8):List Value:=[.int .i64 n]++fC st++rest.map aS
theorem pL(n:Nat)(st:cS)(rest:List UInt8)(h:rest.length=64):(gG n st rest).length=73:=by simp[gG,fC,h]
theorem xT(n:Nat)(st a:cS)(rest:List UInt8):(gG n st rest).take 1++fC a++(gG n st rest).drop (1+(fC a).length)=gG n a rest:=rfl
theorem xS(n m:Nat)(st:cS)(rest:List UInt8):(gG n st rest).set 0 (.int .i64 m)=gG m st rest:=rfl
theorem zo(n:Nat)(st:cS)(rest:List UInt8)(a:Nat)(Y:List UInt8):(gG n st rest).take (9+a)++Y.map aS++(gG n st rest).drop (9+a+(Y.map aS).length)=gG n st (cO rest a Y):=by
 have b:([Value.int .i64 n]++fC st).length=9:=rfl;unfold gG cO;generalize[Value.int .i64 n]++fC st=pre at*;rw[←b,List.take_length_add_append,Nat.add_assoc,List.drop_length_add_append];simp[List.map_take,List.map_drop,List.append_assoc]
theorem qb{w:World}{g n:Nat}{st:cS}{rest:List UInt8}(h:aq w g 144 (gG n st rest).toArray)(c:rest.length=64)(j:Nat)(b:j<64):w.cell? ⟨g,9+j,none⟩=some (aS (rest[j]?.getD 0)):=by
 have a:([Value.int .i64 n]++fC st).length=9:=rfl;rw[h.cell,bR,gG,List.getElem?_append_right (by omega),a,Nat.add_sub_cancel_left,List.getElem?_map,List.getElem?_eq_getElem (by omega)];rfl
theorem Io(w:World):(Go.sizeOf 5).run Tryz.prog w= .ok 1 w:=by kernel_rfl
theorem It(t:ByteArray)(n:Nat):eH (t.extract n t.size)=(eH t).drop n:=by
 simp[eH];exact List.take_of_length_le (by rw[List.length_drop];exact Nat.le_refl _)
def strSize:Value→Nat
 | .string t=>t.size
 |_=>0
structure mX(w:World)(g:Nat)(M rest:List UInt8):Prop where
 aH:aq w g 144 (gG M.length (gv dU M (M.length/64)) rest).toArray
 ok:kx M rest
def JL(w:World)(g:Nat)(M:List UInt8)(e:Ending)(w':World):Prop:=e= .returned (.int .i64 0)∧Fr (fun k=>k=g) w w'∧∃rest,mX w' g M rest
theorem IX:(Tryz.prog.info? 141).map (fun i=>(i.zero,i.size,i.bytes))=some (some (.agg (fC ⟨0,0,0,0,0,0,0,0⟩).toArray),8,32):=by kernel_rfl
theorem isAgg8(w:World):(isAgg 141).run Tryz.prog w= .ok true w:=by kernel_rfl
theorem AM(s:ByteArray)(g:Nat)(st:cS)(rest:List UInt8)(f:rest.length=64)(w:World)(ae:aq w g 144 (gG 0 st rest).toArray)(ap:bB w)(E:g≠1)(zA:g≠2)(aP:s.size≤1099511627776)(aI:1≤s.size):
  Calls Tryz.prog 79 #[.pointer (some ⟨g,0,none⟩), .string s] w (JL w g (eH s)):=by
 obtain⟨i8,I,_,K,_⟩:=info_parts IX;have ao:=af ae;have Z:=af ap;have V:=af f;have m:Hid (g≠1∧g≠2):=⟨E,zA⟩;have aa:=af (dL s);have ad:w.cell? ⟨g,0,none⟩=some (.int .i64 0):=ae.cell 0;clear ae ap f E zA;generalize F:eH s=N at*;have B:Hid (N=eH s):=F.symm;clear F;go_enter Tryz.func79,Tryz.ntmps79;go_wp2_with(first|(refine vu rfl 141 (.global 1) rfl 1 0 rfl i8 I isAgg8 (fC dU) K.symm (fun k v Q=>by rw[Nat.zero_add];exact Z.out.init k v Q) ?_)|(refine sW rfl 141 _ _ rfl g 1 rfl i8 I (fC dU) rfl K.symm ?zA _ (gG 0 st rest) ao.out ?zB ?_));case zA=>intro v Q;simp only[fC,List.mem_cons,List.not_mem_nil,or_false]at Q;rcases Q with rfl|rfl|rfl|rfl|rfl|rfl|rfl|rfl<;>rfl
 case zB=>rw[pL _ _ _ V.out];simp[fC]
 intro w1 b1 f1;rw[←List.append_assoc,xT]at b1;have ak:Hid (mX w1 g [] rest):=⟨b1,ER rest V.out⟩;have am:=af f1;clear b1 f1 ad ao V;go_wp2;go_loopw[1](fun v wr=>∃t X rest,v= .string t∧Hid (N=X++eH t)∧t.size≤s.size∧mX wr g X rest∧Fr (fun k=>k=g) w wr)(fun v _=>strSize v);case atStart=>exact⟨s,[],rest,rfl,B.out,Nat.le_refl _,ak.out,am.out⟩
 case round=>
  obtain⟨t,X,rest,rfl,d,aK,O,hF⟩:=hrel;have i:=af O;have ab:=af hF;have C:Hid (X.length+t.size=s.size):=by
   have h:=congrArg List.length d.out;rw[bh,dL,aa.out]at h;simp only[Hid];omega
  have aC:X.length≤1099511627776:=by have:=C.out;omega
  have ad:wr.cell? ⟨g,0,none⟩=some (.int .i64 (X.length:Nat)):=O.aH.cell 0;have f0:wr.frozen? ⟨g,0,none⟩=false:=O.aH.frozen 0;have ay:=af (Ab dU X wQ (X.length/64));clear O hF ak am;by_cases aQ:1≤t.size
  ·obtain⟨a,ag⟩:∃a,a=X.length%64:=⟨_,rfl⟩;obtain⟨n,ai⟩:∃n,n=Nat.min t.size (64-a):=⟨_,rfl⟩;have aG:n≤t.size∧n≤64-a∧(n=t.size∨n=64-a):=by
    rw[ai];rcases Nat.le_total t.size (64-a)with h|h;·rw[show Nat.min t.size (64-a)=t.size from Nat.min_eq_left h];exact⟨Nat.le_refl _,h, .inl rfl⟩
    ·rw[show Nat.min t.size (64-a)=64-a from Nat.min_eq_right h];exact⟨h,Nat.le_refl _, .inr rfl⟩
   have au:a<64:=by omega
   have G:((eH t).take n).length=n:=by rw[List.length_take,dL];omega
   have H:=vV (P:=Tryz.prog) wr 61 9 3 5 g (9+a) (64-a) (64-a) t Tryz.underlying61 Io n ai.symm
    (fun j ah=>by rw[show 9+a+j=9+(a+j)by omega,qb i.out.aH i.out.ok.1 (a+j) (by omega)];rfl) (fun j ah=>i.out.aH.frozen _);have J:(t.data.toList.map fun x=>Value.int .u8 (x.toNat:Int)).take n=((eH t).take n).map aS:=by
    rw[←List.map_take];rfl
   rw[J]at H;have R:=aq.setCells (((eH t).take n).map aS) (9+a) wr _ i.out.aH (by rw[pL _ _ _ i.out.ok.1,List.length_map,G];omega);rw[zo]at R;have an:=Fr.setCells (T:=fun k=>k=g) (a:=w) (fun _=>rfl) (((eH t).take n).map aS) (9+a) wr ab.out;have q:=af R;have z:=af an;have M:=af ag;have D:=af G;have A:Hid (N=(X++(eH t).take n)++eH (t.extract n t.size)):=by
    simp only[Hid];rw[It,List.append_assoc,List.take_append_drop];exact d.out
   have o:Hid ((t.extract n t.size).size=t.size-n):=by simp only[Hid];simp
   generalize wr.setCells g (9+a) (((eH t).take n).map aS)=w2 at*;generalize aD:(eH t).take n=Y at*;clear R an J aD;have az:Hid (bB w2):=Z.out.fr z.out (fun e=>m.out.1 e.symm) (fun e=>m.out.2 e.symm);have d0:w2.cell? ⟨g,0,none⟩=some (.int .i64 (X.length:Nat)):=q.out.cell 0;have aA:w2.frozen? ⟨g,0,none⟩=false:=q.out.frozen 0;have l:Hid (aq (w2.setCell ⟨g,0,none⟩ (.int .i64 ((X.length+n:Nat):Int))) g 144 (gG (X.length+n) (gv dU X (X.length/64)) (cO rest a Y)).toArray):=by
    have h:=q.out.jC 0 (.int .i64 ((X.length+n:Nat):Int));rw[List.setIfInBounds_toArray,xS]at h;exact h
   have r:Hid (Fr (fun k=>k=g) w (w2.setCell ⟨g,0,none⟩ (.int .i64 ((X.length+n:Nat):Int)))):=z.out.setCell (p:=⟨g,0,none⟩) (fun _=>rfl) _;have aM:((X.length:Nat):Int)%64=(a:Int):=by rw[ag];omega
   have aj:((X.length:Nat):Int).tmod 64=(a:Int):=by rw[Int.tmod_eq_emod_of_nonneg (by omega)];exact aM
   have aR:(a:Int)≤64:=by omega
   have aT:(n:Int)≤(t.size:Int):=by omega
   have aU:IntKind.i64.wrap (((X.length:Nat):Int)+(n:Int))=((X.length+n:Nat):Int):=(IntWalk.i64_in _ (by omega)).trans (by omega);have aN:((X.length:Nat):Int)+(n:Int)=((X.length+n:Nat):Int):=by omega
   have aJ:(0:Int)<(t.size:Int):=by omega
   have c:Hid (a+n<64→mX (w2.setCell ⟨g,0,none⟩ (.int .i64 ((X.length+n:Nat):Int))) g (X++Y) (cO rest a Y)):=by
    intro h;obtain⟨zA,zB⟩:=Bs (X:=Y) i.out.ok (by rw[D.out,←M.out];exact h);rw[←M.out]at zA;refine⟨?_,zA⟩;rw[zB,bh,D.out];exact l.out
   have b:Hid (a+n=64→kx (X++Y) (cO rest a Y)∧gv dU (X++Y) ((X++Y).length/64)=fN (gv dU X (X.length/64)) (cO rest a Y)∧(X++Y).length=X.length+n):=by
    intro h;obtain⟨zA,zB⟩:=Bq (X:=Y) i.out.ok (by rw[D.out,←M.out];exact h);rw[←M.out]at zA zB;exact⟨zA,zB,by rw[bh,D.out]⟩
   have W:Hid ((cO rest a Y).length=64):=jK i.out.ok.1 (by rw[D.out];omega);generalize cO rest a Y=y at*;generalize gv dU X (X.length/64)=ST at*;generalize X.length=L at*;clear i ab Z ai ag C aj aN;by_cases u:a+n=64
   ·have aL:(((a:Int)+(n:Int))==64)=true:=by rw[beq_iff_eq];omega
    have aw:=af (b.out u);have ac:Hid (bB (w2.setCell ⟨g,0,none⟩ (.int .i64 ((L+n:Nat):Int)))):=az.out.fr ((Fr.refl (fun k=>k=g) w2).setCell (p:=⟨g,0,none⟩) (fun _=>rfl) _) (fun e=>m.out.1 e.symm) (fun e=>m.out.2 e.symm);clear c b;go_wp2;rw[show(L:Int)+(n:Int)=((L+n:Nat):Int)by omega];generalize w2.setCell ⟨g,0,none⟩ (.int .i64 ((L+n:Nat):Int))=w3 at*;have al:=af (my g 1 g 9 144 [.int .i64 (L+n:Nat)] (y.map aS) ST ay.out y w3.drew l.out.drew rfl (fun j ah=>qb l.out.drew W.out j ah) ac.out.kk);generalize fN ST y=aO at*;clear ad f0 d0 aA H;go_still_tail 6,(by kernel_rfl);change wpList _ _ _ _ _ w3.drew;go_wp2_with fail;refine al.out.mono ?_;rintro e av⟨rfl,f4,b4⟩;have U:Hid (mX av g (X++Y) y):=by
     obtain⟨zA,zB,aB⟩:=aw.out;refine⟨?_,zA⟩;rw[zB,aB];exact b4
    have S:Hid (Fr (fun k=>k=g) w av):=r.out.drew.trans f4;clear f4 b4 al l r;go_wp2;go_roundw;case rel=>exact⟨t.extract n t.size,X++Y,y,rfl,A.out,by have:=o.out;omega,U.out,S.out⟩
    case measure=>have:=o.out;simp only[strSize];omega
   ·have aL:(((a:Int)+(n:Int))==64)=false:=by rw[beq_eq_false_iff_ne];omega
    have U:=af (c.out (by omega));clear c b;go_wp2;go_roundw;case rel=>exact⟨t.extract n t.size,X++Y,y,rfl,A.out,by have:=o.out;omega,U.out,r.out⟩
    case measure=>have:=o.out;simp only[strSize];omega
  ·have E:t.size=0:=by omega
   have aF:decide ((0:Int)<(t.size:Int))=false:=ct (by omega);have aE:decide (0<t.size)=false:=ct (by omega);have ar:N=X:=by
    rw[d.out];have:eH t=[]:=List.eq_nil_of_length_eq_zero (by rw[dL];exact E);rw[this,List.append_nil]
   have ax:=af ar;clear ar E;go_wp2;go_ret;refine⟨rfl,ab.out,rest,?_⟩;rw[ax.out];exact i.out
theorem tm.alloc{W w:World}{v:Value}{l:List UInt8}(h:tm W w v l)(o:Obj):tm W (w.alloc o) v l:=by
 obtain⟨k,g,cap,rfl,a,d,f,c,i,n,m⟩:=h;have b:(w.alloc o).heap[g]? =w.heap[g]? :=Below.heap_alloc w o g d;refine⟨k.alloc _,g,cap,rfl,a,by simp;omega,f,c,fun j e=>?_,fun j e=>?_,fun j u hu=>?_⟩;·have:=i j e;simp only[World.cell?]at this⊢;rw[b];exact this
 ·have:=n j e;simp only[World.frozen?]at this⊢;rw[b];exact this
 ·have:=m j u hu;simp only[World.cell?]at this⊢;rw[b];exact this
theorem iY(n:Nat):aS (ij n)= .int .u8 ((n%256:Nat):Int):=by
 unfold aS ij;rw[UInt8.toNat_ofNat']
theorem dW(w:World):(zeroValue 38).run Tryz.prog w= .ok aI w:=by kernel_rfl
theorem JQ(V:cS):(Tryz.prog.info? 141).map (·.size)=some (fC V).length:=by kernel_rfl
theorem He:(Tryz.prog.info? 142).map (·.size)=some 64:=by kernel_rfl
theorem cg:(Tryz.prog.info? 38).map (·.size)=some 32:=by kernel_rfl
theorem Kg(w:World):(zeroValue 5).run Tryz.prog w= .ok (.int .u8 0) w:=by kernel_rfl
def mL(rest:List UInt8)(a:Nat):List UInt8:=rest.take a++128::List.replicate (63-a) 0
theorem jo(rest:List UInt8)(a:Nat)(b:rest.length=64)(c:a<64):(mL rest a).length=64:=by simp[mL,b];omega
theorem zj(rest:List UInt8)(a:Nat)(b:rest.length=64)(c:a<64):cO (rest.set a 128) (a+1) (List.replicate (63-a) 0)=mL rest a:=by
 unfold cO mL;rw[List.drop_of_length_le (by simp[b];omega),List.append_nil,List.take_set,List.take_succ_eq_append_getElem (by omega:a<rest.length),List.set_append_right _ _ (by simp;omega)];simp[b];rw[show a-min a 64=0 by omega];rfl
theorem GV(rest:List UInt8)(a:rest.length=64):rest.set 63 128=mL rest 63:=by
 rw[←zj rest 63 a (by omega),cO];simp
def jB(B:List UInt8)(L k:Nat):List UInt8:=B.take (64-k)++(len8 L).drop (8-k)
theorem fQ(B:List UInt8)(L k:Nat)(a:B.length=64)(b:k≤8):(jB B L k).length=64:=by simp[jB,a,iK];omega
theorem BJ(B:List UInt8)(L:Nat)(a:B.length=64):jB B L 0=B:=by
 unfold jB;rw[List.take_of_length_le (by omega),List.drop_of_length_le (by rw[iK];omega),List.append_nil]
theorem jl(B:List UInt8)(L k:Nat)(d:B.length=64)(e:k<8)(x:UInt8)(c:(len8 L)[7-k]? =some x):(jB B L k).set (63-k) x=jB B L (k+1):=by
 unfold jB;rw[show 64-k=(63-k)+1 by omega,List.take_succ_eq_append_getElem (by omega:63-k<B.length),List.set_append_left _ _ (by simp;omega),List.set_append_right _ _ (by simp;omega)];obtain⟨a,b⟩:=List.getElem?_eq_some_iff.1 c;rw[show 64-(k+1)=63-k by omega,show 8-(k+1)=7-k by omega,List.drop_eq_getElem_cons a,b,show 7-k+1=8-k by omega];rw[show 63-k-(B.take (63-k)).length=0 by simp;omega];simp
theorem Im(M rest:List UInt8)(h:kx M rest)(a:Nat)(i:a=M.length%64):
  (a<56→dR (fN (gv dU M (M.length/64)) ((mL rest a).take 56++len8 M.length))=eF M)∧
  (56≤a→dR (fN (fN (gv dU M (M.length/64)) (mL rest a)) ((List.replicate 64 0).take 56++len8 M.length))=eF M):=by
 have e:=Hd M rest h;obtain⟨q,g⟩:∃q,q=M.length/64:=⟨_,rfl⟩;have c:(M.take (64*q)).length=64*q:=by rw[List.length_take,g];omega
 rw[←i,←g]at e;have b:(rest.take a).length=a:=by rw[List.length_take,h.1,i];omega
 have j:M.length=64*q+a:=by omega
 have k:gv dU M q=gv dU (M.take (64*q)) q:=by
  rw(occs:= .pos [1])[e];exact js dU _ _ q (by omega)
 rw[←g,k,j];constructor;·intro f;have d:=Cw (M.take (64*q)) (rest.take a) q c (by omega);rw[←e,b]at d;rw[d];congr 2;unfold mL;rw[show 63-a=(55-a)+8 by omega,←List.replicate_append_replicate,←List.cons_append,←List.append_assoc,List.take_left' (by simp[b];omega)];simp
 ·intro f;have d:=FJ (M.take (64*q)) (rest.take a) q c (by omega) (by omega);rw[←e,b]at d;rw[d];congr 2
structure eK(w w':World)(gs a:Nat)(s:cS)(B:List UInt8):Prop where
 fr:Fr ag w w'
 ss:aq w' gs 141 (fC s).toArray
 bb:aq w' a 142 (B.map aS).toArray
 os:w.heap.size≤gs
 ob:w.heap.size≤a
theorem eK.ne{w w':World}{gs a:Nat}{s:cS}{B:List UInt8}(h:eK w w' gs a s B):gs≠a:=h.ss.qf h.bb (by decide)
theorem eK.put{w w':World}{gs a:Nat}{s:cS}{B:List UInt8}(h:eK w w' gs a s B)(i:Nat)(x:UInt8):eK w (w'.setCell ⟨a,i,none⟩ (aS x)) gs a s (B.set i x):=by
 refine⟨h.fr.setCell (fun b=>absurd b (by have:=h.ob;simp only;omega)) _,h.ss.cN (p:=⟨a,i,none⟩) h.ne _,?_,h.os,h.ob⟩;have:=h.bb.jC i (aS x);rwa[List.setIfInBounds_toArray,←List.map_set]at this
theorem eK.val{w w':World}{gs a:Nat}{s:cS}{B:List UInt8}{p:Addr}{x y:Int}(e:x=y)(h:eK w (w'.setCell p (.int .u8 y)) gs a s B):eK w (w'.setCell p (.int .u8 x)) gs a s B:=e▸h
theorem eK.Fz{w w':World}{gs a:Nat}{s:cS}{B:List UInt8}(h:eK w w' gs a s B)(d:Nat)(X:List UInt8)(c:d+X.length≤B.length):eK w (w'.setCells a d (X.map aS)) gs a s (cO B d X):=by
 refine⟨Fr.setCells (fun b=>absurd b (by have:=h.ob;omega)) _ _ _ h.fr,h.ss.fr (Fr.setCells (T:=fun k=>k=a) (fun _=>rfl) _ _ _ aD) h.ne,?_,h.os,h.ob⟩;have:=aq.setCells (X.map aS) d _ _ h.bb (by simpa using c);unfold cO;simpa[List.map_take,List.map_drop]using this
theorem eK.clear{w w':World}{gs a:Nat}{s:cS}{B:List UInt8}(h:eK w w' gs a s B)(c n:Nat)(b:c+n≤B.length):eK w (w'.setCells a c (List.replicate n (.int .u8 0))) gs a s (cO B c (List.replicate n 0)):=by
 have:=h.Fz c (List.replicate n 0) (by simpa using b);rwa[List.map_replicate]at this
theorem eK.DS{w w' a:World}{gs b:Nat}{s d:cS}{B:List UInt8}(h:eK w w' gs b s B)(c:Fr (fun k=>k=gs) w' a)(f:aq a gs 141 ([]++fC d++[]).toArray):eK w a gs b d B:=
 ⟨h.fr.aw c (fun i j e=>by have g:i=gs:=e;have:=h.os;omega),by rwa[List.nil_append,List.append_nil]at f,h.bb.fr c (fun e=>h.ne (Eq.symm e)),h.os,h.ob⟩
theorem eK.state{w w':World}{gs a:Nat}{s:cS}{B:List UInt8}(h:eK w w' gs a s B):aq w' gs 141 ([]++fC s++[]).toArray:=by rw[List.nil_append,List.append_nil];exact h.ss
theorem eK.cell{w w':World}{gs a:Nat}{s:cS}{B:List UInt8}(h:eK w w' gs a s B)(b:B.length=64)(j:Nat)(c:j<64):w'.cell? ⟨a,j,none⟩=some (aS (B[j]?.getD 0)):=by
 rw[h.bb.cell,bR,List.getElem?_map,List.getElem?_eq_getElem (by omega)];rfl
theorem eK.cell0{w w':World}{gs a:Nat}{s:cS}{B:List UInt8}(h:eK w w' gs a s B)(b:B.length=64)(j:Nat)(c:j<64):w'.cell? ⟨a,0+j,none⟩=some (aS (B[j]?.getD 0)):=by
 rw[Nat.zero_add];exact h.cell b j c
theorem sM{w w':World}{gs a:Nat}{s:cS}{B:List UInt8}(h:eK w w' gs a s B)(b:B.length=64)(g n c:Nat)(d:0<n)(f:g+n≤64)(ty:TypeId):
  (Builtin.clear_ #[61] ty #[.slice (some ⟨a,g,none⟩) n c]).run Tryz.prog w'= .ok (.tuple #[]) (w'.setCells a g (List.replicate n (.int .u8 0))):=
 Lib.run_clear_slice w' 61 5 ty (.int .u8 0) Tryz.underlying61 Kg rfl rfl a g n c d (fun j e=>by rw[h.cell b (g+j) (by omega)];rfl) (fun _ _=>h.bb.frozen _)
theorem Ad(w:World)(A:Option Addr)(c:Nat)(ty:TypeId):(Builtin.clear_ #[61] ty #[.slice A 0 c]).run Tryz.prog w= .ok (.tuple #[]) w:=by
 cases A<;>simp[Builtin.clear_,run_underlying Tryz.underlying61]
theorem lK{w:World}{g:Nat}{t:TypeId}{cs:Array Value}(h:aq w g t cs){n:Nat}(b:cs.size=n):w.there g 0 n:=fun j a=>by
 rw[Nat.zero_add,h.cell,h.frozen];rw[Array.getElem?_eq_getElem (by omega)];exact⟨rfl,rfl⟩
theorem lT{w:World}{g x:Nat}{c d:Obj}{a:List Value}{i:Nat}{v:Value}(h:w.cell? ⟨g,i,none⟩=some v)(e:w.heap.size≤x):(((w.alloc c).alloc d).drew.setCells x 0 a).cell? ⟨g,i,none⟩=some v:=by
 rw[World.cell?_setCells_out _ _ _ _ _ (fun b _=>absurd b (by have:=World.block_lt_of_cell? w _ h;simp only at this⊢;omega))];exact Lib.cell?_alloc_some _ (Lib.cell?_alloc_some _ h)
theorem ql{w:World}{g x f:Nat}{d e:Obj}{a CV:List Value}(h:w.rangeAt g f CV)(c:w.heap.size≤x):(((w.alloc d).alloc e).drew.setCells x 0 a).rangeAt g f CV:=fun j v b=>lT (h j v b) c
theorem ri{w:World}{g x:Nat}{c d:Obj}{b:List Value}(h:g<w.heap.size):g<(((w.alloc c).alloc d).drew.setCells x 0 b).heap.size:=by
 have:=(Fr.setCells (T:=fun _=>True) (a:=w) (g:=x) (fun _=>trivial) b 0 _ ((((Fr.refl _ w).alloc c).alloc d).drew)).size;omega
theorem xg{w:World}(s:cS)(B:List UInt8)(d:B.length=64)(a:Array Value)(c:a.size=64):
  eK w (((w.alloc (.cells (fC s).toArray 141)).alloc (.cells a 142)).drew.setCells (w.heap.size+1) 0 (B.map aS)) w.heap.size (w.heap.size+1) s B∧
  eK w (((w.alloc (.cells a 142)).alloc (.cells (fC s).toArray 141)).drew.setCells w.heap.size 0 (B.map aS)) (w.heap.size+1) w.heap.size s B:=by
 have e:∀f:Obj,(w.alloc f).heap.size=w.heap.size+1:=fun f=>by simp
 have b:(B.map aS).length=64:=by rw[List.length_map,d]
 refine⟨⟨?_,?_,?_,Nat.le_refl _,by omega⟩,⟨?_,?_,?_,by omega,Nat.le_refl _⟩⟩;·exact Fr.setCells (fun h=>absurd h (by omega)) _ _ _ ((((Fr.refl _ w).alloc _).alloc _).drew)
 ·exact(((aq.new w _ _).alloc _).drew).fr (Fr.setCells (T:=fun k=>k=w.heap.size+1) (fun _=>rfl) _ _ _ aD) (by omega)
 ·have b0:aq ((w.alloc (.cells (fC s).toArray 141)).alloc (.cells a 142)).drew (w.heap.size+1) 142 a.toList.toArray:=by
   have:=aq.new (w.alloc (.cells (fC s).toArray 141)) 142 a;rw[e]at this;simpa using this.drew
  have:=aq.setCells (B.map aS) 0 _ _ b0 (by simp[b,c]);rw[Nat.zero_add,List.drop_of_length_le (by simp[b,c]),List.take_zero,List.nil_append,List.append_nil]at this;exact this
 ·exact Fr.setCells (fun h=>absurd h (by omega)) _ _ _ ((((Fr.refl _ w).alloc _).alloc _).drew)
 ·have b0:aq ((w.alloc (.cells a 142)).alloc (.cells (fC s).toArray 141)).drew (w.heap.size+1) 141 (fC s).toArray:=by
   have:=aq.new (w.alloc (.cells a 142)) 141 (fC s).toArray;rw[e]at this;exact this.drew
  exact b0.fr (Fr.setCells (T:=fun k=>k=w.heap.size) (fun _=>rfl) _ _ _ aD) (by omega)
 ·have b0:aq ((w.alloc (.cells a 142)).alloc (.cells (fC s).toArray 141)).drew w.heap.size 142 a.toList.toArray:=by
   have:=(aq.new w 142 a).alloc (.cells (fC s).toArray 141);simpa using this.drew
  have:=aq.setCells (B.map aS) 0 _ _ b0 (by simp[b,c]);rw[Nat.zero_add,List.drop_of_length_le (by simp[b,c]),List.take_zero,List.nil_append,List.append_nil]at this;exact this
end Go.Proofs.YtphjagkehiklkaaGreatDoor
namespace Go.Proofs.YtphjagkehiklkaaGreatDoor.Lt
open Go.RowKit
def au(n:Nat):Nat:=2^(Lib.bitLen (n-1)-1)
theorem aX(n:Nat)(h:2≤n)(e:n≤1099511627776):au n<n∧n≤2*au n∧1≤au n:=by
 obtain⟨d,b,c⟩:=Lib.bitLenAux_bounds 64 (n-1) (by omega) (by omega);obtain⟨m,hm⟩:∃m,Lib.bitLen (n-1)=m+1:=⟨Lib.bitLenAux 64 (n-1)-1,by unfold Lib.bitLen;omega⟩;have a:Lib.bitLenAux 64 (n-1)=m+1:=hm;unfold au;rw[a]at d b c;rw[hm];rw[Nat.pow_succ]at c;have:1≤2^m:=Nat.one_le_two_pow;simp only[Nat.add_sub_cancel]at b⊢;omega
theorem pow_one(n i j:Nat)(a:2^i<n)(b:n≤2*2^i)(c:2^j<n)(d:n≤2*2^j):2^i=2^j:=by
 rcases Nat.lt_trichotomy i j with h|h|h;·have:2^(i+1)≤2^j:=Nat.pow_le_pow_right (by omega) h;rw[Nat.pow_succ]at this;omega
 ·rw[h]
 ·have:2^(j+1)≤2^i:=Nat.pow_le_pow_right (by omega) h;rw[Nat.pow_succ]at this;omega
theorem rL(n j:Nat)(f:n≤1099511627776)(d:2^j<n)(e:n≤2*2^j):2^j=au n:=by
 have:1≤2^j:=Nat.one_le_two_pow;obtain⟨a,b,c⟩:=aX n (by omega) f;exact pow_one n j _ d e a b
theorem fV(n:Nat)(w:World)(k:2≤n)(q:n≤1099511627776):Calls Tryz.prog 121 #[.int .i64 n] w fun e w'=>e= .returned (.int .i64 (au n:Nat))∧w=w':=by
 obtain⟨a,b,c⟩:=aX n k q;obtain⟨m,hm⟩:∃m,m=n-1:=⟨_,rfl⟩;have l:1≤Lib.bitLen m:=(Lib.bitLenAux_bounds 64 m (by omega) (by omega)).1;have o:Lib.bitLen m≤64:=Lib.bitLen_le m 64 (by omega) (by omega);have d:Hid (au n=2^(Lib.bitLen m-1)):=by rw[hm];rfl
 obtain⟨x,h⟩:∃x,x=Lib.bitLen m-1:=⟨_,rfl⟩;rw[←h]at d;have r:((Lib.bitLen m:Nat):Int)-1=(x:Int):=by omega
 have i:(x:Int)≤64:=by omega
 have p:(n:Int)-1=(m:Int):=by omega
 have j:Hid (∀w,Calls Tryz.prog 150 #[.int .u64 (m:Int)] w fun e w'=>e= .returned (.int .i64 (Lib.bitLen m:Nat))∧w'=w):=fun w=>Tryz.bits_Len (m:Int) w (by omega) (by omega);have f:IntKind.i64.wrap (1*2^x)=((au n:Nat):Int):=by
  rw[d.out,Int.one_mul];have:(2:Int)^x=((2^x:Nat):Int):=by simp
  rw[this];refine IntWalk.i64_in _ ?_;rw[←d.out];omega
 have g:IntKind.i64.wrap (2^x)=((au n:Nat):Int):=by rw[←f,Int.one_mul]
 clear h a b c;generalize Lib.bitLen m=B at*;generalize au n=t at*;have s:=af hm;clear hm;go_enter Tryz.func121,Tryz.ntmps121;go_wp2_with fail;refine(j.out _).mono ?_;rintro e w'⟨rfl,rfl⟩;go_wp2;go_ret;exact⟨rfl,rfl⟩
end Go.Proofs.YtphjagkehiklkaaGreatDoor.Lt
namespace Go.Proofs.YtphjagkehiklkaaGreatDoor
open Go.RowKit
def mH(late:Nat→Bool)(T:Nat→Prop)(w:World):Nat→List (Value→World→Prop)→Prop
 |_,[]=>True
 |i,p::r=>(∀v w' a,Fr T w w'→Fr (if late i=true then ag else T) w' a→p v w'→p v a)∧mH late T w (i+1) r
theorem mH.at_{late:Nat→Bool}{T:Nat→Prop}{w:World}:∀{b:List (Value→World→Prop)}{i:Nat},mH late T w i b→∀j v w' a,Fr T w w'→Fr (if late (i+j)=true then ag else T) w' a→cp b j v w'→cp b j v a
 |[],_,_,_,_,_,_,_,_,_=>trivial
 |p::r,i,h,0,v,w',a,c,d,e=>h.1 v w' a c d e
 |p::r,i,h,j+1,v,w',a,c,d,e=>mH.at_ h.2 j v w' a c (by rw[show i+1+j=i+(j+1)by omega];exact d) e
def Bz(late:Nat→Bool)(ws:List (Nat×(World→Prop)))(B:Nat→Nat→Bool)(n:Nat):Bool:=(List.range n).all fun k=>!late k||(ws.map (·.1)).all fun p=>p==k||B p k
theorem Fe{late:Nat→Bool}{ws:List (Nat×(World→Prop))}{B:Nat→Nat→Bool}{n k i:Nat}(h:Bz late ws B n=true)(d:k<n)(e:late k=true)(hw:eh ws i=true)(a:i≠k):B i k=true:=by
 have b:=List.all_eq_true.1 h k (List.mem_range.2 d);rw[e,Bool.not_true,Bool.false_or]at b;simp only[eh,List.any_eq_true,beq_iff_eq]at hw;obtain⟨p,f,rfl⟩:=hw;have c:=List.all_eq_true.1 b p f;simp only[Bool.or_eq_true,beq_iff_eq]at c;exact c.resolve_left a
theorem JS{P:Program}{ops:Array Oper}{Q:Exit→Act→World→Prop}{T:Nat→Prop}{w:World}{a:Act}{ab:List (Value→World→Prop)}{ws:List (Nat×(World→Prop))}{C:World→Prop}{B:Nat→Nat→Bool}{n:Nat}(ok:pS ops n)(ac:fM ops n B=true)
  (J:(gC B (ws.map (·.1))&&(ws.map (·.1)).all (fun p=>decide (p<n)))=true)
  (late:Nat→Bool)(ao:Bz late ws B n=true)(au:mH late T w 0 ab)(av:iT T w ws)(ar:∀w' l,Fr T w w'→Fr ag w' l→C w'→C l)
  (aC:gY P ops Q T w (fun u=>ay ((ops.toList.take n).map (·.dst)) 0 u a) (cp ab) ws C B n 0 (ops.toList.take n))
  (aF:∀u w',Fr T w w'→(∀j,j<n→cp ab j (u j) w')→lz ws C w'→wpList P ops Q (ops.toList.drop n) (ay ((ops.toList.take n).map (·.dst)) 0 u a) w'):
  ∀(f:Nat)(listed:Array Bool)(u:Nat→Value)(w':World),HeadInv .any ops n listed→cu (fun j=>!listed.getD j false) n=f→Fr T w w'→bX ws C (fun j=>listed.getD j false) w'→
   (∀j,j<n→listed.getD j false=true→cp ab j (u j) w')→wpAny P .any ops Q (f+(ops.size-n)) listed (ay ((ops.toList.take n).map (·.dst)) 0 u a) w':=by
 rw[Bool.and_eq_true]at J;have X:∀x∈ws,x.1<n:=fun x I=>by simpa using List.all_eq_true.1 J.2 x.1 (List.mem_map.2 ⟨x,I,rfl⟩)
 intro f;induction f with
 |zero=>
  intro listed u w' inv az N R S;have s:∀j,j<n→listed.getD j false=true:=fun j F=>by simpa using kE _ n az j F
  have he:listed=Array.replicate n true++Array.replicate (ops.size-n) false:=by
   apply Array.ext;·rw[inv.size];have:=ok.le;simp;omega
   ·intro i ad aJ;rcases Nat.lt_or_ge i n with D|D;·have:=s i D;rw[Array.getElem_append_left (by simpa using D)];simpa[ad]using this
    ·have:=inv.tail i D (by rw[←inv.size];exact ad);rw[Array.getElem_append_right (by simpa using D)];simpa[ad]using this
  rw[nT ws C _ (fun x I=>s x.1 (X x I))]at R;subst he;have U:(ops.toList.drop n).length=ops.size-n:=by simp
  have:=wpAny_of_seq (P:=P) (md:= .any) (ops:=ops) (Q':=Q) (ops.toList.drop n) n _ (ay ((ops.toList.take n).map (·.dst)) 0 u a) w' (fun j=>by simp[List.getElem?_drop]) (by rw[U];exact ok.seq) (aF u w' N (fun j F=>S j F (s j F)) R);rw[U]at this;rwa[Nat.zero_add]
 |succ f aG=>
  intro listed u w' inv az N R S;obtain⟨j,F,aw,L⟩:=lW (fun j=>!listed.getD j false) n (by omega);have K:j<ops.size:=by have:=ok.le;omega
  have H:listed.getD j true=false:=getD_in (by rw[inv.size];exact K) (by simpa using aw);have W:j∈Region.ready .any ops listed:=by
   refine mem_ready.2 ⟨H,ops[j],Array.getElem?_eq_getElem K,fun e he c=>?_⟩;have:=ok.each j _ F (Array.getElem?_eq_getElem K) e he c;simpa using L e.on this
  rw[show f+1+(ops.size-n)=(f+(ops.size-n))+1 by omega];refine⟨fun aA=>(by rw[aA]at W;cases W),fun i D=>?_⟩;obtain⟨an,o,Y,aa⟩:=mem_ready.1 D;have am:i<ops.size:=(Array.getElem?_eq_some_iff.1 Y).1;have m:i<n:=by
   rcases ok.tail with h|⟨aE,aj⟩;·omega
   ·rcases Nat.lt_or_ge i n with h|h;·exact h
    ·exact absurd D (tail_waits aE aj (by omega) inv (n-j) j rfl F H i h)
  have E:listed.getD i false=false:=getD_both an;have Z:(ops.toList.take n)[i]? =some o:=by rw[List.getElem?_take,if_pos m];simpa using Y
  have b:∀k,Region.waitsFor .any ops i k=true→k<i∧listed.getD k false=true:=by
   intro k t;obtain⟨aH,ap,e,he,c,aq⟩:=Region.waitsFor_spec t;have:aH=o:=Option.some.inj (ap.symm.trans Y);subst this;subst aq;exact⟨ok.each i _ m Y e he c,aa e he c⟩
  have d:∀p,p<n→B p i=true→listed.getD p false=true:=by
   intro p A c;have h:=List.all_eq_true.1 (List.all_eq_true.1 ac i (List.mem_range.2 m)) p (List.mem_range.2 A);simp only[c,Bool.not_true,Bool.false_or,Bool.or_eq_true,List.any_eq_true,Bool.and_eq_true,List.mem_range]at h;rcases h with h|⟨k,t,hw,ah⟩;·exact(b p h).2
   ·exact iy ac inv k (by omega) (b k hw).2 p A ah
  have g:∀p,(p==i||B i p)=true→listed.getD p false=false:=by
   intro p A;simp only[Bool.or_eq_true,beq_iff_eq]at A;rcases A with rfl|c;·exact E
   ·rcases Nat.lt_or_ge p n with M|M
    ·cases O:listed.getD p false;·rfl
     ·have:=iy ac inv p M O i m c;rw[E]at this;cases this
    ·rcases Nat.lt_or_ge p ops.size with ax|ax;·exact getD_both (inv.tail p M ax)
     ·have:¬p<listed.size:=by rw[inv.size];omega
      simp[this]
  have hw:=aC.at_ i o Z u w' (fun j=>listed.getD j false) N (fun k t=>by
   rw[Nat.zero_add]at t;exact S k (by have:=(b k t).1;omega) (b k t).2) (fun p A c=>by rw[Nat.zero_add]at c;exact d p A c) (fun p A=>by rw[Nat.zero_add]at A;exact g p A) R;rw[Nat.zero_add]at hw;refine nY Y (fI (fun aI l aB=>?_) hw);obtain⟨v,rfl,hf',af,ae⟩:=aB;have V:Fr T w' l:=by
   unfold gO at hf';split at hf';·exact hf'
   ·exact hf'.bP
  rw[lE _ 0 i u a o.dst v ok.nodup (by rw[List.getElem?_map,Z];rfl),Nat.zero_add];have G:(listed.setIfInBounds i true).getD i false=true:=by
   have al:i<listed.size:=by rw[inv.size];exact am
   simp[al]
  refine aG (listed.setIfInBounds i true) (dJ u i v) l (inv.set D m) ?_ (N.trans V) ?_ (fun k t O=>?_);·have:=kD (fun j=>!listed.getD j false) (fun j=>!(listed.setIfInBounds i true).getD j false) i (by simp only[E];rfl) (by simp only[G];rfl) (fun j F=>by simp only[getD_set_ne false (Ne.symm F)]) n m;omega
  ·cases r:eh ws i
   ·have ak:Fr ag w' l:=by simpa[gO,r]using hf'
    have ai:=kJ ws C (fun j=>(listed.setIfInBounds i true).getD j false) (fun j=>listed.getD j false) (fun x I=>by
     have:i≠x.1:=by
      rintro rfl;have:eh ws x.1=true:=by
       simp only[eh,List.any_eq_true,beq_iff_eq];exact⟨x.1,List.mem_map.2 ⟨x,I,rfl⟩,rfl⟩
      rw[r]at this;cases this
     simp only[getD_set_ne false this]);rw[ai];exact jX N ak ws C _ av ar R
   ·exact kK B i (fun j=>listed.getD j false) _ l G (fun q aD=>by simp only[getD_set_ne false (Ne.symm aD)]) ws C J.1 r (fun x I c=>d x.1 (X x I) c) (fun x I c=>g x.1 (by rw[c,Bool.or_true])) ae
  ·by_cases e:k=i;·subst e;simp only[dJ,if_true];exact af
   ·simp only[dJ];rw[if_neg e];rw[getD_set_ne false (fun h=>e h.symm)]at O;have z:=au.at_ k (u k) w' l N;rw[Nat.zero_add]at z;cases y:late k;·rw[y]at z;exact z V (S k t O)
    ·rw[y]at z;cases r:eh ws i;·exact z (by simpa[gO,r]using hf') (S k t O)
     ·have c:=Fe ao t y r (fun h=>e h.symm);have:=iy ac inv k t O i m c;rw[E]at this;cases this
theorem vX{P:Program}{id:Nat}{Q:Exit→Act→World→Prop}{a:Act}{w:World}{l:List Oper}(n:Nat)(T:Nat→Prop)(f:List (Value→World→Prop))(ws:List (Nat×(World→Prop)))(b:World→Prop)(B:Nat→Nat→Bool)(hm:P.follows .mixedOrders=true)(A:oK l.toArray n=true)
  (y:fM l.toArray n B=true)(g:(gC B (ws.map (·.1))&&(ws.map (·.1)).all (fun p=>decide (p<n)))=true)
  (late:Nat→Bool)(i:Bz late ws B n=true)(o:mH late T w 0 f)(q:iT T w ws)(k:∀w' e,Fr T w w'→Fr ag w' e→b w'→b e)(v:b w.drew)
  (C:gY P l.toArray Q T w (fun u=>ay ((l.take n).map (·.dst)) 0 u a) (cp f) ws b B n 0 (l.take n))
  (r:∀u w',Fr T w w'→(∀j,j<n→cp f j (u j) w')→lz ws b w'→wpList P l.toArray Q (l.drop n) (ay ((l.take n).map (·.dst)) 0 u a) w'):(Code.region id l.toArray true).wp P Q a w:=by
 have ok:=pS.of A;obtain⟨E,s⟩:=gA ((l.take n).map (·.dst)) 0 a;refine wp_region_any hm ?_;have d:HeadInv .any l.toArray n (Array.replicate l.toArray.size false):=
  ⟨by simp,fun j G _ c=>(by rw[getD_replicate_false]at c;cases c),fun t _ r=>getD_in (by simpa using r) (getD_replicate_false _ _)⟩;have z:cu (fun j=>!(Array.replicate l.toArray.size false).getD j false) n=n:=by
  have h:∀m,cu (fun j=>!(Array.replicate l.toArray.size false).getD j false) m=m:=by
   intro m;induction m with
   |zero=>rfl
   |succ m D=>rw[cu,D,getD_replicate_false];rfl
  exact h n
 have:=JS (P:=P) (Q:=Q) (a:=a) ok y g late i o q k (by simpa using C) (by simpa using r) n _ E w.drew d z (aD.drew) (by rw[kb ws b _ (fun x _=>getD_replicate_false _ _)];exact v) (fun j F c=>by rw[getD_replicate_false]at c;cases c);rw[show(l.toArray.toList.take n).map (·.dst)=(l.take n).map (·.dst)by simp,s,show n+(l.toArray.size-n)=l.toArray.size by have:=ok.le;omega]at this;exact this
end Go.Proofs.YtphjagkehiklkaaGreatDoor
namespace Go.Proofs.YtphjagkehiklkaaGreatDoor
open Go.RowKit Go.ChangeShapes Go.WideShapes Go.Deep
theorem yW:Tryz.prog.cellsOf 141=8:=by kernel_rfl
theorem wD:Tryz.prog.cellsOf 242=64:=by kernel_rfl
theorem tQ:Tryz.prog.cellsOf 140=1:=by kernel_rfl
theorem qa:Tryz.prog.globalNamed "replevin/sha256.initial"=some 1:=by kernel_rfl
theorem sP:(Tryz.prog.globals[1]?).map (·.type)=some 141:=by kernel_rfl
theorem nF:Tryz.prog.globalNamed "replevin/sha256.constants"=some 2:=by kernel_rfl
theorem pQ:(Tryz.prog.globals[2]?).map (·.type)=some 242:=by kernel_rfl
theorem Jh{W:World}{rest:List (String×DataW Unit)}(h:laidMet Tryz.prog (("replevin/sha256.initial",Rows.laid_replevin_sha256_initial)::("replevin/sha256.constants",Rows.laid_replevin_sha256_constants)::rest) W):bB W:=by
 have c:Lib.TabIs Tryz.prog W "replevin/sha256.initial" .u32 Bv:=Lib.tabIs_of_head qa sP Tryz.underlying141 Tryz.underlying140 tQ yW (show laidMet Tryz.prog (_::_) W from h);have d:Lib.TabIs Tryz.prog W "replevin/sha256.constants" .u32 zA:=Lib.tabIs_of_head nF pQ Tryz.underlying242 Tryz.underlying140 tQ wD (show laidMet Tryz.prog (_::_) W from laidMet.tail h);refine⟨fun j u hu=>?_,fun j a=>?_⟩
 ·have a:j<8:=(List.getElem?_eq_some_iff.1 hu).1;rw[c.cell qa j a,←hu];rcases j with _|_|_|_|_|_|_|_|j;·rfl
  ·rfl
  ·rfl
  ·rfl
  ·rfl
  ·rfl
  ·rfl
  ·rfl
  ·omega
 ·have b:j<sE.length:=a;rw[d.cell nF j (by rw[zA,List.length_map];exact b)];unfold ju zA;rw[List.getD_eq_getElem?_getD,List.getElem?_map,List.getElem?_eq_getElem b];rfl
end Go.Proofs.YtphjagkehiklkaaGreatDoor
