/- Texts. -/
import Derived.Test.YtphjagkehiklkaaGreatDoorZK12
set_option linter.unusedVariables false
set_option linter.unusedSimpArgs false
set_option maxRecDepth 100000
set_option maxHeartbeats 4000000
namespace Go.Proofs.YtphjagkehiklkaaGreatDoor
open Go.RowKit
theorem xH{P:Program}{ops:Array Oper}{rest:List Oper}{p:Oper}{a:Act}{w:World}{Q:Exit→Act→World→Prop}(e:p.guard=none)(ty:TypeId)(x:Operand)(m:p.op= .load ty x)
  (b f:Nat)(o:a.eval x= .pointer (some ⟨b,f,none⟩))(i:TypeInfo)(g:P.info? ty=some i)(c:∀w,(isAgg ty).run P w= .ok true w)(d:List Value)(n:d.length=i.size)
  (l:∀k v,d[k]? =some v→w.cell? ⟨b,f+k,none⟩=some v)
  (h:wpList P ops Q rest (a.put p.dst (.agg d.toArray)) w):wpList P ops Q (p::rest) a w:=by
 refine wpList_plain e fun K j=>?_;unfold Oper.wp execOp;simp only[m,o,Instr.loadAt,Instr.sureAddr,Sem.run_bind,Sem.run_pure,Result.andThen_ok,Lib.rl_loadVar_cells ty i g c b f d n w l];exact j _ _ h
theorem pe{P:Program}{ops:Array Oper}{rest:List Oper}{u:Oper}{a:Act}{w:World}{Q:Exit→Act→World→Prop}(g:u.guard=none)(ty:TypeId)(x y:Operand)(o:u.op= .store ty x y)
  (b f:Nat)(q:a.eval x= .pointer (some ⟨b,f,none⟩))(j:TypeInfo)(i:P.info? ty=some j)(c:List Value)(r:a.eval y= .agg c.toArray)(p:c.length=j.size)(l:∀v∈c,v.oneCell'=true)
  (t:TypeId)(cs:List Value)(e:aq w b t cs.toArray)(n:f+c.length≤cs.length)
  (h:∀w',aq w' b t (cs.take f++c++cs.drop (f+c.length)).toArray→Fr (fun k=>k=b) w w'→wpList P ops Q rest (a.put u.dst undef) w'):wpList P ops Q (u::rest) a w:=by
 refine wpList_plain g fun K m=>?_;have d:=Lib.rl_storeVar_cells (P:=P) ty j i b f c p l w (fun k s=>by
  rw[e.cell,bP,List.getElem?_eq_getElem (by omega)];rfl) (fun k _=>e.frozen _);unfold Oper.wp execOp;simp only[o,q,r,Instr.storeAt,Instr.sureAddr,Sem.run_bind,Sem.run_pure,Result.andThen_ok,d];exact m _ _ (h _ (aq.setCells c f w cs e n) (Fr.setCells (T:=fun k=>k=b) (fun _=>rfl) c f w (Fr.refl _ w)))
structure bT(w:World):Prop where
 init:∀j u,(gd ee)[j]? =some u→w.cell? ⟨1,j,none⟩=some u
 kk:∀j,j<64→w.cell? ⟨2,j,none⟩=some (jT (tZ[j]?.getD 0))
theorem bT.fr{w w':World}{T:Nat→Prop}(h:bT w)(a:Fr T w w')(b:¬T 1)(c:¬T 2):bT w':=
 ⟨fun j u hu=>a.ak (h.init j u hu) b,fun j d=>a.ak (h.kk j d) c⟩
theorem bT.ao{w w':World}(h:bT w)(a:Fr ag w w'):bT w':=h.fr a (fun x=>x) (fun x=>x)
def iu(n:Nat)(st:cX)(rest:List UInt8):List Value:=[.int .i64 n]++gd st++rest.map bN
theorem qE(n:Nat)(st:cX)(rest:List UInt8)(h:rest.length=64):(iu n st rest).length=73:=by simp[iu,gd,h]
theorem zJ(n:Nat)(st a:cX)(rest:List UInt8):(iu n st rest).take 1++gd a++(iu n st rest).drop (1+(gd a).length)=iu n a rest:=rfl
theorem zI(n m:Nat)(st:cX)(rest:List UInt8):(iu n st rest).set 0 (.int .i64 m)=iu m st rest:=rfl
theorem By(n:Nat)(st:cX)(rest:List UInt8)(a:Nat)(Y:List UInt8):(iu n st rest).take (9+a)++Y.map bN++(iu n st rest).drop (9+a+(Y.map bN).length)=iu n st (cQ rest a Y):=by
 have b:([Value.int .i64 n]++gd st).length=9:=rfl;unfold iu cQ;generalize[Value.int .i64 n]++gd st=pre at*;rw[←b,List.take_length_add_append,Nat.add_assoc,List.drop_length_add_append];simp[List.map_take,List.map_drop,List.append_assoc]
theorem qY{w:World}{g n:Nat}{st:cX}{rest:List UInt8}(h:aq w g 144 (iu n st rest).toArray)(c:rest.length=64)(j:Nat)(b:j<64):w.cell? ⟨g,9+j,none⟩=some (bN (rest[j]?.getD 0)):=by
 have a:([Value.int .i64 n]++gd st).length=9:=rfl;rw[h.cell,bP,iu,List.getElem?_append_right (by omega),a,Nat.add_sub_cancel_left,List.getElem?_map,List.getElem?_eq_getElem (by omega)];rfl
theorem Lq(w:World):(Go.sizeOf 5).run Tryz.prog w= .ok 1 w:=by kernel_rfl
theorem Lv(t:ByteArray)(n:Nat):eV (t.extract n t.size)=(eV t).drop n:=by
 simp[eV];exact List.take_of_length_le (by rw[List.length_drop];exact Nat.le_refl _)
def strSize:Value→Nat
 | .string t=>t.size
 |_=>0
structure oc(w:World)(g:Nat)(M rest:List UInt8):Prop where
 aE:aq w g 144 (iu M.length (gW ee M (M.length/64)) rest).toArray
 ok:lC M rest
def Nj(w:World)(g:Nat)(M:List UInt8)(e:Ending)(w':World):Prop:=e= .returned (.int .i64 0)∧Fr (fun k=>k=g) w w'∧∃rest,oc w' g M rest
theorem Mj:(Tryz.prog.info? 141).map (fun i=>(i.zero,i.size,i.bytes))=some (some (.agg (gd ⟨0,0,0,0,0,0,0,0⟩).toArray),8,32):=by kernel_rfl
theorem isAgg8(w:World):(isAgg 141).run Tryz.prog w= .ok true w:=by kernel_rfl
theorem DT(s:ByteArray)(g:Nat)(st:cX)(rest:List UInt8)(f:rest.length=64)(w:World)(ae:aq w g 144 (iu 0 st rest).toArray)(ap:bT w)(E:g≠1)(zA:g≠2)(aP:s.size≤1099511627776)(aI:1≤s.size):
  Calls Tryz.prog 79 #[.pointer (some ⟨g,0,none⟩), .string s] w (Nj w g (eV s)):=by
 obtain⟨i8,I,_,K,_⟩:=info_parts Mj;have ao:=af ae;have Z:=af ap;have V:=af f;have m:Hid (g≠1∧g≠2):=⟨E,zA⟩;have aa:=af (dQ s);have ad:w.cell? ⟨g,0,none⟩=some (.int .i64 0):=ae.cell 0;clear ae ap f E zA;generalize F:eV s=N at*;have B:Hid (N=eV s):=F.symm;clear F;go_enter Tryz.func79,Tryz.ntmps79;go_wp2_with(first|(refine xH rfl 141 (.global 1) rfl 1 0 rfl i8 I isAgg8 (gd ee) K.symm (fun k v Q=>by rw[Nat.zero_add];exact Z.out.init k v Q) ?_)|(refine pe rfl 141 _ _ rfl g 1 rfl i8 I (gd ee) rfl K.symm ?zA _ (iu 0 st rest) ao.out ?zB ?_));case zA=>intro v Q;simp only[gd,List.mem_cons,List.not_mem_nil,or_false]at Q;rcases Q with rfl|rfl|rfl|rfl|rfl|rfl|rfl|rfl<;>rfl
 case zB=>rw[qE _ _ _ V.out];simp[gd]
 intro w1 b1 f1;rw[←List.append_assoc,zJ]at b1;have ak:Hid (oc w1 g [] rest):=⟨b1,Iy rest V.out⟩;have am:=af f1;clear b1 f1 ad ao V;go_wp2;go_loopw[1](fun v wr=>∃t X rest,v= .string t∧Hid (N=X++eV t)∧t.size≤s.size∧oc wr g X rest∧Fr (fun k=>k=g) w wr)(fun v _=>strSize v);case atStart=>exact⟨s,[],rest,rfl,B.out,Nat.le_refl _,ak.out,am.out⟩
 case round=>
  obtain⟨t,X,rest,rfl,d,aK,O,hF⟩:=hrel;have i:=af O;have ab:=af hF;have C:Hid (X.length+t.size=s.size):=by
   have h:=congrArg List.length d.out;rw[aS,dQ,aa.out]at h;simp only[Hid];omega
  have aC:X.length≤1099511627776:=by have:=C.out;omega
  have ad:wr.cell? ⟨g,0,none⟩=some (.int .i64 (X.length:Nat)):=O.aE.cell 0;have f0:wr.frozen? ⟨g,0,none⟩=false:=O.aE.frozen 0;have ay:=af (Dc ee X yH (X.length/64));clear O hF ak am;by_cases aQ:1≤t.size
  ·obtain⟨a,ag⟩:∃a,a=X.length%64:=⟨_,rfl⟩;obtain⟨n,ai⟩:∃n,n=Nat.min t.size (64-a):=⟨_,rfl⟩;have aH:n≤t.size∧n≤64-a∧(n=t.size∨n=64-a):=by
    rw[ai];rcases Nat.le_total t.size (64-a)with h|h;·rw[show Nat.min t.size (64-a)=t.size from Nat.min_eq_left h];exact⟨Nat.le_refl _,h, .inl rfl⟩
    ·rw[show Nat.min t.size (64-a)=64-a from Nat.min_eq_right h];exact⟨h,Nat.le_refl _, .inr rfl⟩
   have au:a<64:=by omega
   have G:((eV t).take n).length=n:=by rw[List.length_take,dQ];omega
   have H:=yd (P:=Tryz.prog) wr 61 9 3 5 g (9+a) (64-a) (64-a) t Tryz.underlying61 Lq n ai.symm
    (fun j ah=>by rw[show 9+a+j=9+(a+j)by omega,qY i.out.aE i.out.ok.1 (a+j) (by omega)];rfl) (fun j ah=>i.out.aE.frozen _);have J:(t.data.toList.map fun x=>Value.int .u8 (x.toNat:Int)).take n=((eV t).take n).map bN:=by
    rw[←List.map_take];rfl
   rw[J]at H;have R:=aq.setCells (((eV t).take n).map bN) (9+a) wr _ i.out.aE (by rw[qE _ _ _ i.out.ok.1,List.length_map,G];omega);rw[By]at R;have an:=Fr.setCells (T:=fun k=>k=g) (a:=w) (fun _=>rfl) (((eV t).take n).map bN) (9+a) wr ab.out;have q:=af R;have z:=af an;have M:=af ag;have D:=af G;have A:Hid (N=(X++(eV t).take n)++eV (t.extract n t.size)):=by
    simp only[Hid];rw[Lv,List.append_assoc,List.take_append_drop];exact d.out
   have o:Hid ((t.extract n t.size).size=t.size-n):=by simp only[Hid];simp
   generalize wr.setCells g (9+a) (((eV t).take n).map bN)=w2 at*;generalize aD:(eV t).take n=Y at*;clear R an J aD;have az:Hid (bT w2):=Z.out.fr z.out (fun e=>m.out.1 e.symm) (fun e=>m.out.2 e.symm);have d0:w2.cell? ⟨g,0,none⟩=some (.int .i64 (X.length:Nat)):=q.out.cell 0;have aA:w2.frozen? ⟨g,0,none⟩=false:=q.out.frozen 0;have l:Hid (aq (w2.setCell ⟨g,0,none⟩ (.int .i64 ((X.length+n:Nat):Int))) g 144 (iu (X.length+n) (gW ee X (X.length/64)) (cQ rest a Y)).toArray):=by
    have h:=q.out.j7 0 (.int .i64 ((X.length+n:Nat):Int));rw[List.setIfInBounds_toArray,zI]at h;exact h
   have r:Hid (Fr (fun k=>k=g) w (w2.setCell ⟨g,0,none⟩ (.int .i64 ((X.length+n:Nat):Int)))):=z.out.setCell (p:=⟨g,0,none⟩) (fun _=>rfl) _;have aM:((X.length:Nat):Int)%64=(a:Int):=by rw[ag];omega
   have aj:((X.length:Nat):Int).tmod 64=(a:Int):=by rw[Int.tmod_eq_emod_of_nonneg (by omega)];exact aM
   have aR:(a:Int)≤64:=by omega
   have aT:(n:Int)≤(t.size:Int):=by omega
   have aU:IntKind.i64.wrap (((X.length:Nat):Int)+(n:Int))=((X.length+n:Nat):Int):=(IntWalk.i64_in _ (by omega)).trans (by omega);have aN:((X.length:Nat):Int)+(n:Int)=((X.length+n:Nat):Int):=by omega
   have aJ:(0:Int)<(t.size:Int):=by omega
   have c:Hid (a+n<64→oc (w2.setCell ⟨g,0,none⟩ (.int .i64 ((X.length+n:Nat):Int))) g (X++Y) (cQ rest a Y)):=by
    intro h;obtain⟨zA,zB⟩:=Eu (X:=Y) i.out.ok (by rw[D.out,←M.out];exact h);rw[←M.out]at zA;refine⟨?_,zA⟩;rw[zB,aS,D.out];exact l.out
   have b:Hid (a+n=64→lC (X++Y) (cQ rest a Y)∧gW ee (X++Y) ((X++Y).length/64)=gD (gW ee X (X.length/64)) (cQ rest a Y)∧(X++Y).length=X.length+n):=by
    intro h;obtain⟨zA,zB⟩:=Et (X:=Y) i.out.ok (by rw[D.out,←M.out];exact h);rw[←M.out]at zA zB;exact⟨zA,zB,by rw[aS,D.out]⟩
   have W:Hid ((cQ rest a Y).length=64):=kj i.out.ok.1 (by rw[D.out];omega);generalize cQ rest a Y=y at*;generalize gW ee X (X.length/64)=ST at*;generalize X.length=L at*;clear i ab Z ai ag C aj aN;by_cases u:a+n=64
   ·have aL:(((a:Int)+(n:Int))==64)=true:=by rw[beq_iff_eq];omega
    have aw:=af (b.out u);have ac:Hid (bT (w2.setCell ⟨g,0,none⟩ (.int .i64 ((L+n:Nat):Int)))):=az.out.fr ((Fr.refl (fun k=>k=g) w2).setCell (p:=⟨g,0,none⟩) (fun _=>rfl) _) (fun e=>m.out.1 e.symm) (fun e=>m.out.2 e.symm);clear c b;go_wp2;rw[show(L:Int)+(n:Int)=((L+n:Nat):Int)by omega];generalize w2.setCell ⟨g,0,none⟩ (.int .i64 ((L+n:Nat):Int))=w3 at*;have al:=af (nj g 1 g 9 144 [.int .i64 (L+n:Nat)] (y.map bN) ST ay.out y w3.drew l.out.drew rfl (fun j ah=>qY l.out.drew W.out j ah) ac.out.kk);generalize gD ST y=aO at*;clear ad f0 d0 aA H;go_still_tail 6,(by kernel_rfl);change wpList _ _ _ _ _ w3.drew;go_wp2_with fail;refine al.out.mono ?_;rintro e av⟨rfl,f4,b4⟩;have U:Hid (oc av g (X++Y) y):=by
     obtain⟨zA,zB,aB⟩:=aw.out;refine⟨?_,zA⟩;rw[zB,aB];exact b4
    have S:Hid (Fr (fun k=>k=g) w av):=r.out.drew.trans f4;clear f4 b4 al l r;go_wp2;go_roundw;case rel=>exact⟨t.extract n t.size,X++Y,y,rfl,A.out,by have:=o.out;omega,U.out,S.out⟩
    case measure=>have:=o.out;simp only[strSize];omega
   ·have aL:(((a:Int)+(n:Int))==64)=false:=by rw[beq_eq_false_iff_ne];omega
    have U:=af (c.out (by omega));clear c b;go_wp2;go_roundw;case rel=>exact⟨t.extract n t.size,X++Y,y,rfl,A.out,by have:=o.out;omega,U.out,r.out⟩
    case measure=>have:=o.out;simp only[strSize];omega
  ·have E:t.size=0:=by omega
   have aG:decide ((0:Int)<(t.size:Int))=false:=cD (by omega);have aF:decide (0<t.size)=false:=cD (by omega);have ar:N=X:=by
    rw[d.out];have:eV t=[]:=List.eq_nil_of_length_eq_zero (by rw[dQ];exact E);rw[this,List.append_nil]
   have ax:=af ar;clear ar E;go_wp2;go_ret;refine⟨rfl,ab.out,rest,?_⟩;rw[ax.out];exact i.out
theorem iR(w:World):(zeroValue 38).run Tryz.prog w= .ok aZ w:=by kernel_rfl
theorem No(V:cX):(Tryz.prog.info? 141).map (·.size)=some (gd V).length:=by kernel_rfl
theorem Kp:(Tryz.prog.info? 142).map (·.size)=some 64:=by kernel_rfl
theorem fo:(Tryz.prog.info? 38).map (·.size)=some 32:=by kernel_rfl
theorem NK(w:World):(zeroValue 5).run Tryz.prog w= .ok (.int .u8 0) w:=by kernel_rfl
def nL(rest:List UInt8)(a:Nat):List UInt8:=rest.take a++128::List.replicate (63-a) 0
theorem jO(rest:List UInt8)(a:Nat)(b:rest.length=64)(c:a<64):(nL rest a).length=64:=by simp[nL,b];omega
theorem Bs(rest:List UInt8)(a:Nat)(b:rest.length=64)(c:a<64):cQ (rest.set a 128) (a+1) (List.replicate (63-a) 0)=nL rest a:=by
 unfold cQ nL;rw[List.drop_of_length_le (by simp[b];omega),List.append_nil,List.take_set,List.take_succ_eq_append_getElem (by omega:a<rest.length),List.set_append_right _ _ (by simp;omega)];simp[b];rw[show a-min a 64=0 by omega];rfl
theorem Kg(rest:List UInt8)(a:rest.length=64):rest.set 63 128=nL rest 63:=by
 rw[←Bs rest 63 a (by omega),cQ];simp
def j6(B:List UInt8)(L k:Nat):List UInt8:=B.take (64-k)++(len8 L).drop (8-k)
theorem gI(B:List UInt8)(L k:Nat)(a:B.length=64)(b:k≤8):(j6 B L k).length=64:=by simp[j6,a,je];omega
theorem ED(B:List UInt8)(L:Nat)(a:B.length=64):j6 B L 0=B:=by
 unfold j6;rw[List.take_of_length_le (by omega),List.drop_of_length_le (by rw[je];omega),List.append_nil]
theorem jJ(B:List UInt8)(L k:Nat)(d:B.length=64)(e:k<8)(x:UInt8)(c:(len8 L)[7-k]? =some x):(j6 B L k).set (63-k) x=j6 B L (k+1):=by
 unfold j6;rw[show 64-k=(63-k)+1 by omega,List.take_succ_eq_append_getElem (by omega:63-k<B.length),List.set_append_left _ _ (by simp;omega),List.set_append_right _ _ (by simp;omega)];obtain⟨a,b⟩:=List.getElem?_eq_some_iff.1 c;rw[show 64-(k+1)=63-k by omega,show 8-(k+1)=7-k by omega,List.drop_eq_getElem_cons a,b,show 7-k+1=8-k by omega];rw[show 63-k-(B.take (63-k)).length=0 by simp;omega];simp
theorem Lo(M rest:List UInt8)(h:lC M rest)(a:Nat)(i:a=M.length%64):
  (a<56→ec (gD (gW ee M (M.length/64)) ((nL rest a).take 56++len8 M.length))=eT M)∧
  (56≤a→ec (gD (gD (gW ee M (M.length/64)) (nL rest a)) ((List.replicate 64 0).take 56++len8 M.length))=eT M):=by
 have e:=Ko M rest h;obtain⟨q,g⟩:∃q,q=M.length/64:=⟨_,rfl⟩;have c:(M.take (64*q)).length=64*q:=by rw[List.length_take,g];omega
 rw[←i,←g]at e;have b:(rest.take a).length=a:=by rw[List.length_take,h.1,i];omega
 have j:M.length=64*q+a:=by omega
 have k:gW ee M q=gW ee (M.take (64*q)) q:=by
  rw(occs:= .pos [1])[e];exact jR ee _ _ q (by omega)
 rw[←g,k,j];constructor;·intro f;have d:=Fu (M.take (64*q)) (rest.take a) q c (by omega);rw[←e,b]at d;rw[d];congr 2;unfold nL;rw[show 63-a=(55-a)+8 by omega,←List.replicate_append_replicate,←List.cons_append,←List.append_assoc,List.take_left' (by simp[b];omega)];simp
 ·intro f;have d:=Ji (M.take (64*q)) (rest.take a) q c (by omega) (by omega);rw[←e,b]at d;rw[d];congr 2
structure eY(w w':World)(gs a:Nat)(s:cX)(B:List UInt8):Prop where
 fr:Fr ag w w'
 ss:aq w' gs 141 (gd s).toArray
 bb:aq w' a 142 (B.map bN).toArray
 os:w.heap.size≤gs
 ob:w.heap.size≤a
theorem eY.ne{w w':World}{gs a:Nat}{s:cX}{B:List UInt8}(h:eY w w' gs a s B):gs≠a:=h.ss.ri h.bb (by decide)
theorem eY.put{w w':World}{gs a:Nat}{s:cX}{B:List UInt8}(h:eY w w' gs a s B)(i:Nat)(x:UInt8):eY w (w'.setCell ⟨a,i,none⟩ (bN x)) gs a s (B.set i x):=by
 refine⟨h.fr.setCell (fun b=>absurd b (by have:=h.ob;simp only;omega)) _,h.ss.cN (p:=⟨a,i,none⟩) h.ne _,?_,h.os,h.ob⟩;have:=h.bb.j7 i (bN x);rwa[List.setIfInBounds_toArray,←List.map_set]at this
theorem eY.val{w w':World}{gs a:Nat}{s:cX}{B:List UInt8}{p:Addr}{x y:Int}(e:x=y)(h:eY w (w'.setCell p (.int .u8 y)) gs a s B):eY w (w'.setCell p (.int .u8 x)) gs a s B:=e▸h
theorem eY.Jf{w w':World}{gs a:Nat}{s:cX}{B:List UInt8}(h:eY w w' gs a s B)(d:Nat)(X:List UInt8)(c:d+X.length≤B.length):eY w (w'.setCells a d (X.map bN)) gs a s (cQ B d X):=by
 refine⟨Fr.setCells (fun b=>absurd b (by have:=h.ob;omega)) _ _ _ h.fr,h.ss.fr (Fr.setCells (T:=fun k=>k=a) (fun _=>rfl) _ _ _ az) h.ne,?_,h.os,h.ob⟩;have:=aq.setCells (X.map bN) d _ _ h.bb (by simpa using c);unfold cQ;simpa[List.map_take,List.map_drop]using this
theorem eY.clear{w w':World}{gs a:Nat}{s:cX}{B:List UInt8}(h:eY w w' gs a s B)(c n:Nat)(b:c+n≤B.length):eY w (w'.setCells a c (List.replicate n (.int .u8 0))) gs a s (cQ B c (List.replicate n 0)):=by
 have:=h.Jf c (List.replicate n 0) (by simpa using b);rwa[List.map_replicate]at this
theorem eY.GR{w w' a:World}{gs b:Nat}{s d:cX}{B:List UInt8}(h:eY w w' gs b s B)(c:Fr (fun k=>k=gs) w' a)(f:aq a gs 141 ([]++gd d++[]).toArray):eY w a gs b d B:=
 ⟨h.fr.aw c (fun i j e=>by have g:i=gs:=e;have:=h.os;omega),by rwa[List.nil_append,List.append_nil]at f,h.bb.fr c (fun e=>h.ne (Eq.symm e)),h.os,h.ob⟩
theorem eY.state{w w':World}{gs a:Nat}{s:cX}{B:List UInt8}(h:eY w w' gs a s B):aq w' gs 141 ([]++gd s++[]).toArray:=by rw[List.nil_append,List.append_nil];exact h.ss
theorem eY.cell{w w':World}{gs a:Nat}{s:cX}{B:List UInt8}(h:eY w w' gs a s B)(b:B.length=64)(j:Nat)(c:j<64):w'.cell? ⟨a,j,none⟩=some (bN (B[j]?.getD 0)):=by
 rw[h.bb.cell,bP,List.getElem?_map,List.getElem?_eq_getElem (by omega)];rfl
theorem eY.cell0{w w':World}{gs a:Nat}{s:cX}{B:List UInt8}(h:eY w w' gs a s B)(b:B.length=64)(j:Nat)(c:j<64):w'.cell? ⟨a,0+j,none⟩=some (bN (B[j]?.getD 0)):=by
 rw[Nat.zero_add];exact h.cell b j c
theorem uj{w w':World}{gs a:Nat}{s:cX}{B:List UInt8}(h:eY w w' gs a s B)(b:B.length=64)(g n c:Nat)(d:0<n)(f:g+n≤64)(ty:TypeId):
  (Builtin.clear_ #[61] ty #[.slice (some ⟨a,g,none⟩) n c]).run Tryz.prog w'= .ok (.tuple #[]) (w'.setCells a g (List.replicate n (.int .u8 0))):=
 Lib.run_clear_slice w' 61 5 ty (.int .u8 0) Tryz.underlying61 NK rfl rfl a g n c d (fun j e=>by rw[h.cell b (g+j) (by omega)];rfl) (fun _ _=>h.bb.frozen _)
theorem De(w:World)(A:Option Addr)(c:Nat)(ty:TypeId):(Builtin.clear_ #[61] ty #[.slice A 0 c]).run Tryz.prog w= .ok (.tuple #[]) w:=by
 cases A<;>simp[Builtin.clear_,run_underlying Tryz.underlying61]
theorem mC{w:World}{g:Nat}{t:TypeId}{cs:Array Value}(h:aq w g t cs){n:Nat}(b:cs.size=n):w.there g 0 n:=fun j a=>by
 rw[Nat.zero_add,h.cell,h.frozen];rw[Array.getElem?_eq_getElem (by omega)];exact⟨rfl,rfl⟩
theorem mJ{w:World}{g x:Nat}{c d:Obj}{a:List Value}{i:Nat}{v:Value}(h:w.cell? ⟨g,i,none⟩=some v)(e:w.heap.size≤x):(((w.alloc c).alloc d).drew.setCells x 0 a).cell? ⟨g,i,none⟩=some v:=by
 rw[World.cell?_setCells_out _ _ _ _ _ (fun b _=>absurd b (by have:=World.block_lt_of_cell? w _ h;simp only at this⊢;omega))];exact Lib.cell?_alloc_some _ (Lib.cell?_alloc_some _ h)
theorem rn{w:World}{g x f:Nat}{d e:Obj}{a CV:List Value}(h:w.rangeAt g f CV)(c:w.heap.size≤x):(((w.alloc d).alloc e).drew.setCells x 0 a).rangeAt g f CV:=fun j v b=>mJ (h j v b) c
theorem sv{w:World}{g x:Nat}{c d:Obj}{b:List Value}(h:g<w.heap.size):g<(((w.alloc c).alloc d).drew.setCells x 0 b).heap.size:=by
 have:=(Fr.setCells (T:=fun _=>True) (a:=w) (g:=x) (fun _=>trivial) b 0 _ ((((Fr.refl _ w).alloc c).alloc d).drew)).size;omega
theorem yY{w:World}(s:cX)(B:List UInt8)(d:B.length=64)(a:Array Value)(c:a.size=64):
  eY w (((w.alloc (.cells (gd s).toArray 141)).alloc (.cells a 142)).drew.setCells (w.heap.size+1) 0 (B.map bN)) w.heap.size (w.heap.size+1) s B∧
  eY w (((w.alloc (.cells a 142)).alloc (.cells (gd s).toArray 141)).drew.setCells w.heap.size 0 (B.map bN)) (w.heap.size+1) w.heap.size s B:=by
 have e:∀f:Obj,(w.alloc f).heap.size=w.heap.size+1:=fun f=>by simp
 have b:(B.map bN).length=64:=by rw[List.length_map,d]
 refine⟨⟨?_,?_,?_,Nat.le_refl _,by omega⟩,⟨?_,?_,?_,by omega,Nat.le_refl _⟩⟩;·exact Fr.setCells (fun h=>absurd h (by omega)) _ _ _ ((((Fr.refl _ w).alloc _).alloc _).drew)
 ·exact(((aq.new w _ _).alloc _).drew).fr (Fr.setCells (T:=fun k=>k=w.heap.size+1) (fun _=>rfl) _ _ _ az) (by omega)
 ·have b0:aq ((w.alloc (.cells (gd s).toArray 141)).alloc (.cells a 142)).drew (w.heap.size+1) 142 a.toList.toArray:=by
   have:=aq.new (w.alloc (.cells (gd s).toArray 141)) 142 a;rw[e]at this;simpa using this.drew
  have:=aq.setCells (B.map bN) 0 _ _ b0 (by simp[b,c]);rw[Nat.zero_add,List.drop_of_length_le (by simp[b,c]),List.take_zero,List.nil_append,List.append_nil]at this;exact this
 ·exact Fr.setCells (fun h=>absurd h (by omega)) _ _ _ ((((Fr.refl _ w).alloc _).alloc _).drew)
 ·have b0:aq ((w.alloc (.cells a 142)).alloc (.cells (gd s).toArray 141)).drew (w.heap.size+1) 141 (gd s).toArray:=by
   have:=aq.new (w.alloc (.cells a 142)) 141 (gd s).toArray;rw[e]at this;exact this.drew
  exact b0.fr (Fr.setCells (T:=fun k=>k=w.heap.size) (fun _=>rfl) _ _ _ az) (by omega)
 ·have b0:aq ((w.alloc (.cells a 142)).alloc (.cells (gd s).toArray 141)).drew w.heap.size 142 a.toList.toArray:=by
   have:=(aq.new w 142 a).alloc (.cells (gd s).toArray 141);simpa using this.drew
  have:=aq.setCells (B.map bN) 0 _ _ b0 (by simp[b,c]);rw[Nat.zero_add,List.drop_of_length_le (by simp[b,c]),List.take_zero,List.nil_append,List.append_nil]at this;exact this
structure MW(M:List UInt8)(L:Nat)(B:List UInt8)(s:cX):Prop where
 len:B.length=64
 ok:s.ok
 eq:ec (gD s (B.take 56++len8 L))=eT M
theorem vA(s:cX)(b:List UInt8):(gD s b).ok:=AO _ _
theorem IK(B:List UInt8)(h:B.length=64):cQ B 0 (List.replicate 64 0)=List.replicate 64 0:=by
 unfold cQ;rw[List.drop_of_length_le (by simp[h]),List.take_zero,List.nil_append,List.append_nil]
theorem Ik{w:World}{g:Nat}{t:TypeId}{V:cX}{k:Nat}(h:aq w g t ((mN V (4*k)).map bN).toArray)(a:k<8):
  aq ((((w.setCell ⟨g,4*k,none⟩ (.int .u8 ((fW V k/16777216%256:Nat):Int))).setCell ⟨g,4*k+1,none⟩ (.int .u8 ((fW V k/65536%256:Nat):Int))).setCell ⟨g,4*k+2,none⟩ (.int .u8 ((fW V k/256%256:Nat):Int))).setCell ⟨g,4*k+3,none⟩ (.int .u8 ((fW V k%256:Nat):Int))) g t ((mN V (4*k+4)).map bN).toArray:=by
 have f:(ec V)[4*k]? =some (iQ (fW V k/16777216)):=by simpa using uK V k 0 a (by omega)
 have i:(ec V)[4*k+1]? =some (iQ (fW V k/65536)):=by simpa using uK V k 1 a (by omega)
 have j:(ec V)[4*k+2]? =some (iQ (fW V k/256)):=by simpa using uK V k 2 a (by omega)
 have x3:(ec V)[4*k+3]? =some (iQ (fW V k)):=by simpa using uK V k 3 a (by omega)
 rw[←jv,←jv,←jv,←jv];have b:=h.j7 (4*k) (bN (iQ (fW V k/16777216)));rw[List.setIfInBounds_toArray,qg V (4*k) _ (by omega) f]at b;have c:=b.j7 (4*k+1) (bN (iQ (fW V k/65536)));rw[List.setIfInBounds_toArray,qg V (4*k+1) _ (by omega) i]at c;have d:=c.j7 (4*k+2) (bN (iQ (fW V k/256)));rw[List.setIfInBounds_toArray,qg V (4*k+2) _ (by omega) j]at d;have e:=d.j7 (4*k+3) (bN (iQ (fW V k)));rw[List.setIfInBounds_toArray,qg V (4*k+3) _ (by omega) x3]at e;exact e
theorem qh{w:World}{g:Nat}{t:TypeId}{V:cX}{k i:Nat}(h:aq w g t ((mN V k).map bN).toArray)(b:k≤32)(a:i<32):∃u,w.cell? ⟨g,i,none⟩=some u:=by
 have hlen:i<((mN V k).map bN).length:=by rw[List.length_map,zC V k b];exact a
 rw[h.cell,bP];exact⟨_,List.getElem?_eq_getElem hlen⟩
theorem Mn(B:List UInt8)(L:Nat):j6 B L 8=B.take 56++len8 L:=rfl
theorem He(g:Nat)(M rest:List UInt8)(w:World)(H:oc w g M rest)(bi:bT w)(bU:M.length≤1099511627776)(a2:1≤M.length):
  Calls Tryz.prog 80 #[.pointer (some ⟨g,0,none⟩)] w (aH w (.agg ((eT M).map bN).toArray)):=by
 have bL:=af H.ok;have aI:=af (Lo M rest H.ok (M.length%64) rfl);have ah:=af (Dc ee M yH (M.length/64));have R:=af bi;obtain⟨H,ab,a4⟩:=H;clear a4;generalize gW ee M (M.length/64)=ST at*;obtain⟨I,Y⟩:∃I,I=((eT M).map bN).toArray:=⟨_,rfl⟩;rw[←Y];have U:=af Y;obtain⟨L,N⟩:∃L,L=M.length:=⟨_,rfl⟩;have bK:=af N;obtain⟨a,aJ⟩:∃a,a=L%64:=⟨_,rfl⟩;have s:a<64:=by omega
 rw[←N,←aJ]at aI;rw[←N]at H bU a2;have b5:=af aJ;have hm:((L:Nat):Int).tmod 64=(a:Int):=by rw[Int.tmod_eq_emod_of_nonneg (by omega),aJ];omega
 clear Y bi N aJ;have bf:w.cell? ⟨g,0,none⟩=some (.int .i64 (L:Nat)):=H.cell 0;have Q:w.rangeAt g 1 (gd ST):=by
  intro j v P;rw[←P];exact H.ko (pre:=[.int .i64 L]) (os:=1) rfl (List.getElem?_eq_some_iff.1 P).1
 have bs:w.rangeAt g 9 (rest.map bN):=by
  intro j v P;have b1:j<64:=by have:=(List.getElem?_eq_some_iff.1 P).1;simpa[ab]using this
  rw[qY H ab j b1,←P,List.getElem?_map,List.getElem?_eq_getElem (by omega)];rfl
 have HB:=af H;have r:=af ab;have a7:=Tryz.underlying141;have aC:=Tryz.underlying142;have i8:=No ST;have i64:(Tryz.prog.info? 142).map (·.size)=some (rest.map bN).length:=by rw[List.length_map,ab];exact Kp
 have hlen:(rest.map bN).length=64:=by rw[List.length_map,ab]
 have av:∀v∈rest.map bN,v.oneCell'=true:=by
  intro v P;obtain⟨x,_,rfl⟩:=List.mem_map.1 P;rfl
 clear ab;generalize bh:rest.map bN=aQ at*;have W:Hid (aQ=rest.map bN):=bh.symm;clear bh H;go_enter Tryz.func80,Tryz.ntmps80;go_wp2_with(refine an rfl 38 rfl aZ iR aD rfl ?_);intro w1 n1;have aj:=af n1;have am:=n1.fr.ak bf (fun x=>x);have bt:=n1.fr.ak (Q 0 _ rfl) (fun x=>x);have s1:=n1.fr.ak (Q 1 _ rfl) (fun x=>x);have s2:=n1.fr.ak (Q 2 _ rfl) (fun x=>x);have bu:=n1.fr.ak (Q 3 _ rfl) (fun x=>x);have bv:=n1.fr.ak (Q 4 _ rfl) (fun x=>x);have bw:=n1.fr.ak (Q 5 _ rfl) (fun x=>x);have bx:=n1.fr.ak (Q 6 _ rfl) (fun x=>x);have bz:=n1.fr.ak (Q 7 _ rfl) (fun x=>x);simp only[jT,Nat.reduceAdd]at bt s1 s2 bu bv bw bx bz;have a6:w1.rangeAt g 9 aQ:=fun j v P=>n1.fr.ak (bs j v P) (fun x=>x);have aT:g<w1.heap.size:=Nat.lt_of_lt_of_le HB.out.lt n1.fr.size;have bI:Hid (g<w1.heap.size∧w.heap.size<w1.heap.size):=⟨aT,by have:=n1.size;omega⟩;clear n1 bf Q bs;go_upto_region 3 with fail;have t1:((w1.alloc (.cells #[.int .u32 (ST.a:Nat), .int .u32 (ST.b:Nat), .int .u32 (ST.c:Nat), .int .u32 (ST.d:Nat), .int .u32 (ST.e:Nat), .int .u32 (ST.f:Nat), .int .u32 (ST.g:Nat), .int .u32 (ST.h:Nat)] 141)).alloc (.cells #[.int .u8 0, .int .u8 0, .int .u8 0, .int .u8 0, .int .u8 0, .int .u8 0, .int .u8 0, .int .u8 0, .int .u8 0, .int .u8 0, .int .u8 0, .int .u8 0, .int .u8 0, .int .u8 0, .int .u8 0, .int .u8 0, .int .u8 0, .int .u8 0, .int .u8 0, .int .u8 0, .int .u8 0, .int .u8 0, .int .u8 0, .int .u8 0, .int .u8 0, .int .u8 0, .int .u8 0, .int .u8 0, .int .u8 0, .int .u8 0, .int .u8 0, .int .u8 0, .int .u8 0, .int .u8 0, .int .u8 0, .int .u8 0, .int .u8 0, .int .u8 0, .int .u8 0, .int .u8 0, .int .u8 0, .int .u8 0, .int .u8 0, .int .u8 0, .int .u8 0, .int .u8 0, .int .u8 0, .int .u8 0, .int .u8 0, .int .u8 0, .int .u8 0, .int .u8 0, .int .u8 0, .int .u8 0, .int .u8 0, .int .u8 0, .int .u8 0, .int .u8 0, .int .u8 0, .int .u8 0, .int .u8 0, .int .u8 0, .int .u8 0, .int .u8 0] 142)).drew.there (w1.heap.size+1) 0 64:=by
  have h:=(aq.new (w1.alloc (.cells #[.int .u32 (ST.a:Nat), .int .u32 (ST.b:Nat), .int .u32 (ST.c:Nat), .int .u32 (ST.d:Nat), .int .u32 (ST.e:Nat), .int .u32 (ST.f:Nat), .int .u32 (ST.g:Nat), .int .u32 (ST.h:Nat)] 141)) 142 #[.int .u8 0, .int .u8 0, .int .u8 0, .int .u8 0, .int .u8 0, .int .u8 0, .int .u8 0, .int .u8 0, .int .u8 0, .int .u8 0, .int .u8 0, .int .u8 0, .int .u8 0, .int .u8 0, .int .u8 0, .int .u8 0, .int .u8 0, .int .u8 0, .int .u8 0, .int .u8 0, .int .u8 0, .int .u8 0, .int .u8 0, .int .u8 0, .int .u8 0, .int .u8 0, .int .u8 0, .int .u8 0, .int .u8 0, .int .u8 0, .int .u8 0, .int .u8 0, .int .u8 0, .int .u8 0, .int .u8 0, .int .u8 0, .int .u8 0, .int .u8 0, .int .u8 0, .int .u8 0, .int .u8 0, .int .u8 0, .int .u8 0, .int .u8 0, .int .u8 0, .int .u8 0, .int .u8 0, .int .u8 0, .int .u8 0, .int .u8 0, .int .u8 0, .int .u8 0, .int .u8 0, .int .u8 0, .int .u8 0, .int .u8 0, .int .u8 0, .int .u8 0, .int .u8 0, .int .u8 0, .int .u8 0, .int .u8 0, .int .u8 0, .int .u8 0]).drew;rw[show(w1.alloc (.cells #[.int .u32 (ST.a:Nat), .int .u32 (ST.b:Nat), .int .u32 (ST.c:Nat), .int .u32 (ST.d:Nat), .int .u32 (ST.e:Nat), .int .u32 (ST.f:Nat), .int .u32 (ST.g:Nat), .int .u32 (ST.h:Nat)] 141)).heap.size=w1.heap.size+1 by simp]at h;exact mC h rfl
 have t2:((w1.alloc (.cells #[.int .u8 0, .int .u8 0, .int .u8 0, .int .u8 0, .int .u8 0, .int .u8 0, .int .u8 0, .int .u8 0, .int .u8 0, .int .u8 0, .int .u8 0, .int .u8 0, .int .u8 0, .int .u8 0, .int .u8 0, .int .u8 0, .int .u8 0, .int .u8 0, .int .u8 0, .int .u8 0, .int .u8 0, .int .u8 0, .int .u8 0, .int .u8 0, .int .u8 0, .int .u8 0, .int .u8 0, .int .u8 0, .int .u8 0, .int .u8 0, .int .u8 0, .int .u8 0, .int .u8 0, .int .u8 0, .int .u8 0, .int .u8 0, .int .u8 0, .int .u8 0, .int .u8 0, .int .u8 0, .int .u8 0, .int .u8 0, .int .u8 0, .int .u8 0, .int .u8 0, .int .u8 0, .int .u8 0, .int .u8 0, .int .u8 0, .int .u8 0, .int .u8 0, .int .u8 0, .int .u8 0, .int .u8 0, .int .u8 0, .int .u8 0, .int .u8 0, .int .u8 0, .int .u8 0, .int .u8 0, .int .u8 0, .int .u8 0, .int .u8 0, .int .u8 0] 142)).alloc (.cells #[.int .u32 (ST.a:Nat), .int .u32 (ST.b:Nat), .int .u32 (ST.c:Nat), .int .u32 (ST.d:Nat), .int .u32 (ST.e:Nat), .int .u32 (ST.f:Nat), .int .u32 (ST.g:Nat), .int .u32 (ST.h:Nat)] 141)).drew.there w1.heap.size 0 64:=
  mC ((aq.new w1 142 #[.int .u8 0, .int .u8 0, .int .u8 0, .int .u8 0, .int .u8 0, .int .u8 0, .int .u8 0, .int .u8 0, .int .u8 0, .int .u8 0, .int .u8 0, .int .u8 0, .int .u8 0, .int .u8 0, .int .u8 0, .int .u8 0, .int .u8 0, .int .u8 0, .int .u8 0, .int .u8 0, .int .u8 0, .int .u8 0, .int .u8 0, .int .u8 0, .int .u8 0, .int .u8 0, .int .u8 0, .int .u8 0, .int .u8 0, .int .u8 0, .int .u8 0, .int .u8 0, .int .u8 0, .int .u8 0, .int .u8 0, .int .u8 0, .int .u8 0, .int .u8 0, .int .u8 0, .int .u8 0, .int .u8 0, .int .u8 0, .int .u8 0, .int .u8 0, .int .u8 0, .int .u8 0, .int .u8 0, .int .u8 0, .int .u8 0, .int .u8 0, .int .u8 0, .int .u8 0, .int .u8 0, .int .u8 0, .int .u8 0, .int .u8 0, .int .u8 0, .int .u8 0, .int .u8 0, .int .u8 0, .int .u8 0, .int .u8 0, .int .u8 0, .int .u8 0]).alloc _).drew rfl;go_cut[0,2,3,4,5](fun ax ay aA aB a5 aG=>∃gs m,ax= .pointer (some ⟨g,0,none⟩)∧ay= .pointer (some ⟨w.heap.size,0,none⟩)∧aA= .pointer (some ⟨gs,0,none⟩)∧aB= .pointer (some ⟨m,0,none⟩)∧a5= .int .i64 a∧eY w1 aG gs m ST rest);case first=>
  go_region_held3(fun w'=>w'.cell? ⟨g,0,none⟩=some (.int .i64 (L:Nat))∧w'.cell? ⟨g,1,none⟩=some (.int .u32 (ST.a:Nat))∧w'.cell? ⟨g,2,none⟩=some (.int .u32 (ST.b:Nat))∧w'.cell? ⟨g,3,none⟩=some (.int .u32 (ST.c:Nat))∧w'.cell? ⟨g,4,none⟩=some (.int .u32 (ST.d:Nat))∧w'.cell? ⟨g,5,none⟩=some (.int .u32 (ST.e:Nat))∧w'.cell? ⟨g,6,none⟩=some (.int .u32 (ST.f:Nat))∧w'.cell? ⟨g,7,none⟩=some (.int .u32 (ST.g:Nat))∧w'.cell? ⟨g,8,none⟩=some (.int .u32 (ST.h:Nat))∧w'.rangeAt g 9 aQ∧g<w'.heap.size)((go_split_ands;(repeat' constructor)<;>first|assumption|(refine mJ (by assumption) (by omega))|(refine rn (by assumption) (by omega))|(refine sv (by assumption))|((repeat refine Lib.cell?_alloc_some _ ?_);assumption)|((repeat refine World.rangeAt_alloc ?_ _);assumption)|(simp;omega)))(first|fail);·go_wp2_with fail;go_meet;have h:=(yY (w:=w1) ST rest r.out #[.int .u8 0, .int .u8 0, .int .u8 0, .int .u8 0, .int .u8 0, .int .u8 0, .int .u8 0, .int .u8 0, .int .u8 0, .int .u8 0, .int .u8 0, .int .u8 0, .int .u8 0, .int .u8 0, .int .u8 0, .int .u8 0, .int .u8 0, .int .u8 0, .int .u8 0, .int .u8 0, .int .u8 0, .int .u8 0, .int .u8 0, .int .u8 0, .int .u8 0, .int .u8 0, .int .u8 0, .int .u8 0, .int .u8 0, .int .u8 0, .int .u8 0, .int .u8 0, .int .u8 0, .int .u8 0, .int .u8 0, .int .u8 0, .int .u8 0, .int .u8 0, .int .u8 0, .int .u8 0, .int .u8 0, .int .u8 0, .int .u8 0, .int .u8 0, .int .u8 0, .int .u8 0, .int .u8 0, .int .u8 0, .int .u8 0, .int .u8 0, .int .u8 0, .int .u8 0, .int .u8 0, .int .u8 0, .int .u8 0, .int .u8 0, .int .u8 0, .int .u8 0, .int .u8 0, .int .u8 0, .int .u8 0, .int .u8 0, .int .u8 0, .int .u8 0] rfl).1;rw[←W.out]at h;exact⟨_,_,rfl,rfl,rfl,rfl,rfl,h⟩
  ·go_wp2_with fail;go_meet;have h:=(yY (w:=w1) ST rest r.out #[.int .u8 0, .int .u8 0, .int .u8 0, .int .u8 0, .int .u8 0, .int .u8 0, .int .u8 0, .int .u8 0, .int .u8 0, .int .u8 0, .int .u8 0, .int .u8 0, .int .u8 0, .int .u8 0, .int .u8 0, .int .u8 0, .int .u8 0, .int .u8 0, .int .u8 0, .int .u8 0, .int .u8 0, .int .u8 0, .int .u8 0, .int .u8 0, .int .u8 0, .int .u8 0, .int .u8 0, .int .u8 0, .int .u8 0, .int .u8 0, .int .u8 0, .int .u8 0, .int .u8 0, .int .u8 0, .int .u8 0, .int .u8 0, .int .u8 0, .int .u8 0, .int .u8 0, .int .u8 0, .int .u8 0, .int .u8 0, .int .u8 0, .int .u8 0, .int .u8 0, .int .u8 0, .int .u8 0, .int .u8 0, .int .u8 0, .int .u8 0, .int .u8 0, .int .u8 0, .int .u8 0, .int .u8 0, .int .u8 0, .int .u8 0, .int .u8 0, .int .u8 0, .int .u8 0, .int .u8 0, .int .u8 0, .int .u8 0, .int .u8 0, .int .u8 0] rfl).2;rw[←W.out]at h;exact⟨_,_,rfl,rfl,rfl,rfl,rfl,h⟩
 case rest=>
  clear t1 t2;obtain⟨gs,m,rfl,rfl,rfl,rfl,rfl,o⟩:=hcut;clear bt s1 s2 bu bv bw bx bz a6 i8 i64 hlen av hm a7 aC W;have bR:wc.cell? ⟨g,0,none⟩=some (.int .i64 (L:Nat)):=o.fr.ak am (fun x=>x);have cg:((L:Int)==0)=false:=by rw[beq_eq_false_iff_ne];omega
  have bV:(a:Int)<64:=by omega
  have t:=o.cell r.out a s;have u:wc.frozen? ⟨m,a,none⟩=false:=o.bb.frozen a;have al:Hid (eY w1 (wc.setCell ⟨m,a,none⟩ (.int .u8 128)) gs m ST (rest.set a 128)):=o.put a 128;clear o;go_upto_region 7 with fail;clear bR t u;generalize wc.setCell ⟨m,a,none⟩ (.int .u8 128)=w2 at*;obtain⟨p,a3⟩:∃p,p=w.heap.size:=⟨_,rfl⟩;rw[←a3];have aO:=af a3;clear a3;go_cut[0,2,3,4,5](fun ax ay aA aB a5 aG=>ax= .pointer (some ⟨g,0,none⟩)∧ay= .pointer (some ⟨p,0,none⟩)∧aA= .pointer (some ⟨gs,0,none⟩)∧aB= .pointer (some ⟨m,0,none⟩)∧a5= .int .i64 a∧eY w1 aG gs m ST (nL rest a));case first=>
   by_cases G:a=63
   ·have O:=fun A ty=>De w2 A 0 ty;rw[G,Kg rest r.out]at al;have bJ:=af G;have bB:IntKind.i64.wrap ((a:Int)+1)=64:=by rw[G];rfl
    have bC:(a:Int)+1=64:=by omega
    clear G;go_wp2_with(simp only[O]);go_meet;exact⟨rfl,rfl,rfl,rfl,rfl,by rw[bJ.out];exact al.out⟩
   ·obtain⟨C,Z⟩:∃C,C=a+1:=⟨_,rfl⟩;have O:=uj al.out (by simp[r.out]) C (64-C) (64-C) (by omega) (by omega);have q:Hid (eY w1 (w2.setCells m C (List.replicate (64-C) (.int .u8 0))) gs m ST (nL rest a)):=by
     have h:=al.out.clear C (64-C) (by simp[r.out];omega);rw[Z,show 64-(a+1)=63-a by omega,Bs rest a r.out s]at h;rw[Z,show 64-(a+1)=63-a by omega];exact h
    have bB:IntKind.i64.wrap ((a:Int)+1)=(C:Int):=(IntWalk.i64_in _ (by omega)).trans (by omega);have bC:(a:Int)+1=(C:Int):=by omega
    have x3:(C:Int)≤64:=by omega
    have cj:¬64=C:=by omega
    have ck:C≤64:=by omega
    clear Z G;go_wp2_with(simp only[O]);go_meet;exact⟨rfl,rfl,rfl,rfl,rfl,q.out⟩
  case rest=>
   obtain⟨rfl,rfl,rfl,rfl,rfl,o⟩:=hcut;have aa:=af o;clear o al;go_upto_if 39 with fail;go_cut[0,2,3,4](fun ax ay aA aB aG=>ax= .pointer (some ⟨g,0,none⟩)∧ay= .pointer (some ⟨p,0,none⟩)∧aA= .pointer (some ⟨gs,0,none⟩)∧aB= .pointer (some ⟨m,0,none⟩)∧∃y B,eY w1 aG gs m y B∧MW M L B y);case first=>
    have z:Hid (bT wc):=R.out.ao (aj.out.fr.trans aa.out.fr);by_cases a1:56≤a
    ·have ad:=af (nj gs 0 m 0 141 [] [] ST ah.out (nL rest a) wc aa.out.state rfl (aa.out.cell0 (jO rest a r.out s)) z.out.kk);have aL:=af (aI.out.2 a1);have aP:=af (vA ST (nL rest a));generalize gD ST (nL rest a)=bc at*;have bX:decide ((56:Int)≤(a:Int))=true:=by simp;omega
     go_wp2_with fail;refine ad.out.mono ?_;rintro e ac⟨rfl,f4,b4⟩;have bd:=af (aa.out.GR f4 b4);have O:=uj bd.out (jO rest a r.out s) 0 64 64 (by omega) (by omega);have bQ:Hid (eY w1 (ac.setCells m 0 (List.replicate 64 (.int .u8 0))) gs m bc (List.replicate 64 0)):=by
      have h:=bd.out.clear 0 64 (by rw[jO rest a r.out s];omega);rw[IK _ (jO rest a r.out s)]at h;exact h
     clear f4 b4 ad;go_wp2;go_meet;exact⟨rfl,rfl,rfl,rfl,bc,_,bQ.out,by simp,aP.out,aL.out⟩
    ·have aK:=af (aI.out.1 (by omega));have bX:decide ((56:Int)≤(a:Int))=false:=by simp;omega
     go_wp2;go_meet;exact⟨rfl,rfl,rfl,rfl,ST,_,aa.out,jO rest a r.out s,ah.out,aK.out⟩
   case rest=>
    clear aI aa;obtain⟨rfl,rfl,rfl,rfl,y,B,o,K⟩:=hcut;have bS:wc.cell? ⟨g,0,none⟩=some (.int .i64 (L:Nat)):=o.fr.ak am (fun x=>x);have l:=af K.len;have ae:=af K;have be:Hid (eY w1 wc gs m y (j6 B L 0)):=by simp only[Hid];rw[ED B L K.len];exact o
    clear o K;have b3:(8:Int)*(L:Int)≤8796093022208:=by omega
    go_wp2;go_loopw[48](fun i wr=>∃k:Nat,k≤8∧i= .int .i64 k∧eY w1 wr gs m y (j6 B L k))(fun i _=>8-(intOf i).toNat);case atStart=>exact⟨0,by omega,rfl,be.out⟩
    case round=>
    obtain⟨k,bl,rfl,o⟩:=hrel;have n:=af o;clear be bS o;have bW:k=0∨k=1∨k=2∨k=3∨k=4∨k=5∨k=6∨k=7∨k=8:=by omega
    clear bl;rcases bW with rfl|rfl|rfl|rfl|rfl|rfl|rfl|rfl|rfl
    ·have h:=n.out.put (63-0) (iQ (8*L));rw[jJ B L 0 l.out (by omega) _ (by simp[len8]),jv]at h;have q:Hid (eY w1 (wr.setCell ⟨m,63-0,none⟩ (.int .u8 ((8*L%256:Nat):Int))) gs m y (j6 B L (0+1))):=h;have t:wr.cell? ⟨m,63-0,none⟩=some _:=n.out.cell (gI _ _ _ l.out (by omega)) (63-0) (by omega);have u:wr.frozen? ⟨m,63-0,none⟩=false:=n.out.bb.frozen _;simp only[Nat.reduceSub]at t u q;clear h n;go_wp2;go_roundw;case rel=>exact⟨1,by omega,by go_num,eY.val (by omega) q.out⟩
     case measure=>simp[intOf]
    ·have h:=n.out.put (63-1) (iQ (8*L/256));rw[jJ B L 1 l.out (by omega) _ (by simp[len8]),jv]at h;have q:Hid (eY w1 (wr.setCell ⟨m,63-1,none⟩ (.int .u8 ((8*L/256%256:Nat):Int))) gs m y (j6 B L (1+1))):=h;have t:wr.cell? ⟨m,63-1,none⟩=some _:=n.out.cell (gI _ _ _ l.out (by omega)) (63-1) (by omega);have u:wr.frozen? ⟨m,63-1,none⟩=false:=n.out.bb.frozen _;simp only[Nat.reduceSub]at t u q;clear h n;go_wp2;go_roundw;case rel=>exact⟨2,by omega,by go_num,eY.val (by omega) q.out⟩
     case measure=>simp[intOf]
    ·have h:=n.out.put (63-2) (iQ (8*L/65536));rw[jJ B L 2 l.out (by omega) _ (by simp[len8]),jv]at h;have q:Hid (eY w1 (wr.setCell ⟨m,63-2,none⟩ (.int .u8 ((8*L/65536%256:Nat):Int))) gs m y (j6 B L (2+1))):=h;have t:wr.cell? ⟨m,63-2,none⟩=some _:=n.out.cell (gI _ _ _ l.out (by omega)) (63-2) (by omega);have u:wr.frozen? ⟨m,63-2,none⟩=false:=n.out.bb.frozen _;simp only[Nat.reduceSub]at t u q;clear h n;go_wp2;go_roundw;case rel=>exact⟨3,by omega,by go_num,eY.val (by omega) q.out⟩
     case measure=>simp[intOf]
    ·have h:=n.out.put (63-3) (iQ (8*L/16777216));rw[jJ B L 3 l.out (by omega) _ (by simp[len8]),jv]at h;have q:Hid (eY w1 (wr.setCell ⟨m,63-3,none⟩ (.int .u8 ((8*L/16777216%256:Nat):Int))) gs m y (j6 B L (3+1))):=h;have t:wr.cell? ⟨m,63-3,none⟩=some _:=n.out.cell (gI _ _ _ l.out (by omega)) (63-3) (by omega);have u:wr.frozen? ⟨m,63-3,none⟩=false:=n.out.bb.frozen _;simp only[Nat.reduceSub]at t u q;clear h n;go_wp2;go_roundw;case rel=>exact⟨4,by omega,by go_num,eY.val (by omega) q.out⟩
     case measure=>simp[intOf]
    ·have h:=n.out.put (63-4) (iQ (8*L/4294967296));rw[jJ B L 4 l.out (by omega) _ (by simp[len8]),jv]at h;have q:Hid (eY w1 (wr.setCell ⟨m,63-4,none⟩ (.int .u8 ((8*L/4294967296%256:Nat):Int))) gs m y (j6 B L (4+1))):=h;have t:wr.cell? ⟨m,63-4,none⟩=some _:=n.out.cell (gI _ _ _ l.out (by omega)) (63-4) (by omega);have u:wr.frozen? ⟨m,63-4,none⟩=false:=n.out.bb.frozen _;simp only[Nat.reduceSub]at t u q;clear h n;go_wp2;go_roundw;case rel=>exact⟨5,by omega,by go_num,eY.val (by omega) q.out⟩
     case measure=>simp[intOf]
    ·have h:=n.out.put (63-5) (iQ (8*L/1099511627776));rw[jJ B L 5 l.out (by omega) _ (by simp[len8]),jv]at h;have q:Hid (eY w1 (wr.setCell ⟨m,63-5,none⟩ (.int .u8 ((8*L/1099511627776%256:Nat):Int))) gs m y (j6 B L (5+1))):=h;have t:wr.cell? ⟨m,63-5,none⟩=some _:=n.out.cell (gI _ _ _ l.out (by omega)) (63-5) (by omega);have u:wr.frozen? ⟨m,63-5,none⟩=false:=n.out.bb.frozen _;simp only[Nat.reduceSub]at t u q;clear h n;go_wp2;go_roundw;case rel=>exact⟨6,by omega,by go_num,eY.val (by omega) q.out⟩
     case measure=>simp[intOf]
    ·have h:=n.out.put (63-6) (iQ (8*L/281474976710656));rw[jJ B L 6 l.out (by omega) _ (by simp[len8]),jv]at h;have q:Hid (eY w1 (wr.setCell ⟨m,63-6,none⟩ (.int .u8 ((8*L/281474976710656%256:Nat):Int))) gs m y (j6 B L (6+1))):=h;have t:wr.cell? ⟨m,63-6,none⟩=some _:=n.out.cell (gI _ _ _ l.out (by omega)) (63-6) (by omega);have u:wr.frozen? ⟨m,63-6,none⟩=false:=n.out.bb.frozen _;simp only[Nat.reduceSub]at t u q;clear h n;go_wp2;go_roundw;case rel=>exact⟨7,by omega,by go_num,eY.val (by omega) q.out⟩
     case measure=>simp[intOf]
    ·have h:=n.out.put (63-7) (iQ (8*L/72057594037927936));rw[jJ B L 7 l.out (by omega) _ (by simp[len8]),jv]at h;have q:Hid (eY w1 (wr.setCell ⟨m,63-7,none⟩ (.int .u8 ((8*L/72057594037927936%256:Nat):Int))) gs m y (j6 B L (7+1))):=h;have t:wr.cell? ⟨m,63-7,none⟩=some _:=n.out.cell (gI _ _ _ l.out (by omega)) (63-7) (by omega);have u:wr.frozen? ⟨m,63-7,none⟩=false:=n.out.bb.frozen _;simp only[Nat.reduceSub]at t u q;clear h n;go_wp2;go_roundw;case rel=>exact⟨8,by omega,by go_num,eY.val (by omega) q.out⟩
     case measure=>simp[intOf]
    ·rw[Mn]at n;have z:Hid (bT wr):=R.out.ao (aj.out.fr.trans n.out.fr);have ar:(B.take 56++len8 L).length=64:=by simp[l.out,je]
     have ad:=af (nj gs 0 m 0 141 [] [] y ae.out.ok (B.take 56++len8 L) wr n.out.state rfl (n.out.cell0 ar) z.out.kk);have S:=af ae.out.eq;have bM:=af (vA y (B.take 56++len8 L));generalize gD y (B.take 56++len8 L)=V at*;clear ar;go_wp2_with fail;refine ad.out.mono ?_;rintro e ac⟨rfl,f4,b4⟩;have J:=af (n.out.GR f4 b4);clear f4 b4 ad n;go_wp2_with(refine an rfl 38 rfl aZ iR aD rfl ?_);intro aF n5;have aR:Hid (eY w1 aF gs m V (B.take 56++len8 L)):=⟨J.out.fr.trans n5.fr,J.out.ss.fr n5.fr (fun x=>x),J.out.bb.fr n5.fr (fun x=>x),J.out.os,J.out.ob⟩;have a9:=af n5.aE;have a8:Hid (aq aF p 38 aD):=by rw[aO.out];exact aj.out.aE.fr aR.out.fr (fun x=>x)
     have ba:Hid (Fr ag w aF):=aj.out.fr.trans aR.out.fr;have T:Hid (p<ac.heap.size∧gs<ac.heap.size∧w.heap.size≤ac.heap.size∧w.heap.size≤p):=⟨by have:=J.out.fr.size;have:=bI.out;have:=aO.out;omega,J.out.ss.lt,(aj.out.fr.trans J.out.fr).size,by have:=aO.out;omega⟩;clear n5 J z;generalize ac.heap.size=g6 at*;obtain⟨aS,ap,aU,aV,aW,aX,aY,a0⟩:=Fw aR.out.ss;go_wp2;go_loopw[62](fun i wr=>∃k:Nat,k≤8∧i= .int .i64 k∧aq wr g6 38 ((mN V (4*k)).map bN).toArray∧Fr (fun k=>k=g6) aF wr)(fun i _=>8-(intOf i).toNat);case atStart=>exact⟨0,by omega,rfl,by rw[Nat.mul_zero,El];exact a9.out,az⟩
     case round=>
     obtain⟨k,bl,rfl,bj,bk⟩:=hrel;have E:=af bj;have F:=af bk;clear bj bk a9 aS ap aU aV aW aX aY a0;by_cases au:k<8
     ·have b0:=yG wr V k au;have ca:=Mz V bM.out k;have D:=Ik E.out au;have bD:Hid (Fr (fun k=>k=g6) aF ((((wr.setCell ⟨g6,4*k,none⟩ (.int .u8 ((fW V k/16777216%256:Nat):Int))).setCell ⟨g6,4*k+1,none⟩ (.int .u8 ((fW V k/65536%256:Nat):Int))).setCell ⟨g6,4*k+2,none⟩ (.int .u8 ((fW V k/256%256:Nat):Int))).setCell ⟨g6,4*k+3,none⟩ (.int .u8 ((fW V k%256:Nat):Int)))):=
       (((F.out.setCell (p:=⟨g6,4*k,none⟩) (fun _=>rfl) _).setCell (p:=⟨g6,4*k+1,none⟩) (fun _=>rfl) _).setCell (p:=⟨g6,4*k+2,none⟩) (fun _=>rfl) _).setCell (p:=⟨g6,4*k+3,none⟩) (fun _=>rfl) _;have bH:=af D;obtain⟨v0,b6⟩:=qh E.out (i:=4*k) (by omega) (by omega);obtain⟨v1,b7⟩:=qh E.out (i:=4*k+1) (by omega) (by omega);obtain⟨v2,b8⟩:=qh E.out (i:=4*k+2) (by omega) (by omega);obtain⟨v3,b9⟩:=qh E.out (i:=4*k+3) (by omega) (by omega);have f0:=E.out.frozen (4*k);have f1:=E.out.frozen (4*k+1);have f2:=E.out.frozen (4*k+2);have f3:=E.out.frozen (4*k+3);have m0:IntKind.i64.wrap (4*(k:Int))=((4*k:Nat):Int):=(IntWalk.i64_in _ (by omega)).trans (by omega);have m1:IntKind.i64.wrap (((4*k:Nat):Int)+1)=((4*k+1:Nat):Int):=(IntWalk.i64_in _ (by omega)).trans (by omega);have m2:IntKind.i64.wrap (((4*k:Nat):Int)+2)=((4*k+2:Nat):Int):=(IntWalk.i64_in _ (by omega)).trans (by omega);have m3:IntKind.i64.wrap (((4*k:Nat):Int)+3)=((4*k+3:Nat):Int):=(IntWalk.i64_in _ (by omega)).trans (by omega);have n0:4*(k:Int)=((4*k:Nat):Int):=by omega
      have n1:((4*k:Nat):Int)+1=((4*k+1:Nat):Int):=by omega
      have cb:((4*k:Nat):Int)+2=((4*k+2:Nat):Int):=by omega
      have n3:((4*k:Nat):Int)+3=((4*k+3:Nat):Int):=by omega
      have cc:((4*k:Nat):Int)<32:=by omega
      have cd:((4*k+1:Nat):Int)<32:=by omega
      have ce:((4*k+2:Nat):Int)<32:=by omega
      have cf:((4*k+3:Nat):Int)<32:=by omega
      have bm:¬4*k=4*k+1:=by omega
      have bn:¬4*k=4*k+2:=by omega
      have bo:¬4*k=4*k+3:=by omega
      have bp:¬4*k+1=4*k+2:=by omega
      have bq:¬4*k+1=4*k+3:=by omega
      have br:¬4*k+2=4*k+3:=by omega
      have z0:((fW V k:Nat):Int)/16777216=((fW V k/16777216%256:Nat):Int):=by omega
      have z1:((fW V k:Nat):Int)/65536%256=((fW V k/65536%256:Nat):Int):=by omega
      have z2:((fW V k:Nat):Int)/256%256=((fW V k/256%256:Nat):Int):=by omega
      have z3:((fW V k:Nat):Int)%256=((fW V k%256:Nat):Int):=by omega
      have aN:Hid (4*(k+1)=4*k+4):=by simp only[Hid];omega
      have b2:(k:Int)<8:=by omega
      clear D E F;generalize fW V k/16777216%256=ci at*;generalize fW V k/65536%256=bB at*;generalize fW V k/256%256=bC at*;generalize fW V k%256=x3 at*;generalize fW V k=ch at*;generalize 4*k+1=i1 at*;generalize 4*k+2=i2 at*;generalize 4*k+3=i3 at*;generalize 4*k=i0 at*;go_wp2;go_roundw;case rel=>exact⟨k+1,by omega,by go_num,by rw[aN.out];exact bH.out,bD.out⟩
      case measure=>simp[intOf];omega
     ·have bY:decide ((k:Int)<8)=false:=by simp;omega
      have bF:Hid (aq wr g6 38 I):=by
       have h:=E.out;rw[show k=8 by omega,Kb,S.out,←U.out]at h;exact h
      have bE:Hid (aq wr p 38 aD):=a8.out.fr F.out (fun e=>by have bg:p=g6:=e;have:=T.out;omega);have bG:Hid (Fr ag w wr):=ba.out.aw F.out (fun i bZ e=>by have bg:i=g6:=e;have:=T.out;omega);have X:Hid (I.size=32∧I.all (·.oneCell')=true):=by
       simp only[Hid];rw[U.out];refine⟨by rw[List.size_toArray,List.length_map,←S.out,ju],mc _⟩
      have aM:Hid ((Tryz.prog.info? 38).map (·.size)=some I.size):=by
       rw[X.out.1];exact fo
      clear E F a8 ba U S;go_wp2_with(first|(refine wpList_load_row rfl 38 (.tmp 8) rfl g6 rfl _ I _ _ bF.out Tryz.underlying38 rfl aM.out ?_)|(refine ai rfl 38 (.tmp 2) _ rfl p I rfl rfl _ _ bE.out aM.out (by rw[X.out.1];rfl) X.out.2 ?_));intro bA b4 f4;have bO:=af b4;have bP:Hid (Fr ag w bA):=bG.out.aw f4 (fun i bZ e=>by have bg:i=p:=e;have:=T.out;omega);clear b4 f4;go_wp2;exact bodyPost_ret (results_cell_row (fn:=Tryz.f80) (p:=2) (ty:=38) Tryz.results80 _ bA p 38 I (0,0) _ rfl bO.out Tryz.underlying38 rfl aM.out) rfl ⟨rfl,bP.out⟩
def Ge:cX:=⟨0,0,0,0,0,0,0,0⟩
def Ax:Array Value:=(iu 0 Ge (List.replicate 64 0)).toArray
theorem NY(w:World):(zeroValue 144).run Tryz.prog w= .ok (.agg Ax) w:=by kernel_rfl
theorem bT.EF{w:World}(h:bT w):1<w.heap.size:=World.block_lt_of_cell? w ⟨1,0,none⟩ (h.init 0 _ rfl)
theorem bT.EG{w:World}(h:bT w):2<w.heap.size:=World.block_lt_of_cell? w ⟨2,0,none⟩ (h.kk 0 (by omega))
theorem dB{P:Program}{fn:Func}{p q:Tmp}{ty:TypeId}(h:fn.results=#[.cell p ty, .tmp q])(tmps:Array Value)(w:World)(g:Nat)(t:TypeId)(cs:Array Value)(fr:Nat×Nat)(d:TypeDesc)
  (i:tmps.getD p undef= .pointer (some ⟨g,0,none⟩))(e:w.heap[g]? =some (.cells cs t fr))
  (hu:P.underlying ty=some d)(c:(match d with| .struct _| .array _ _=>true|_=>false)=true)(f:(P.info? ty).map (·.size)=some cs.size)(v:Value)(j:tmps.getD q undef=v):
  (results fn tmps).run P w= .ok (.tuple #[.agg cs,v]) w:=by
 have a:tmps[p]?.getD undef= .pointer (some ⟨g,0,none⟩):=by simpa using i
 have b:tmps[q]?.getD undef=v:=by simpa using j
 simp[results,h,a,b,asAddr,run_loadVar_row w g t ty cs fr d e hu c f]
theorem AH(s:ByteArray)(w:World)(E:bT w)(F:s.size≤1099511627776)(k:1≤s.size):
  Calls Tryz.prog 27 #[.string s] w (aH w (aY (eT (eV s)))):=by
 have q:=af E;have J:=af (dQ s);have v:=af (fun g w'(b:aq w' g 144 (iu 0 Ge (List.replicate 64 0)).toArray)t N O=>DT s g Ge (List.replicate 64 0) (List.length_replicate ..) w' b t N O F k);have u:=af (fun g rest w'(h:oc w' g (eV s) rest)t=>He g (eV s) rest w' h t (by rw[dQ];exact F) (by rw[dQ];exact k));have a:=iy (eV s);unfold aY;generalize eT (eV s)=j at*;have o:Hid ((j.map bN).toArray.size=32∧(j.map bN).toArray.all (·.oneCell')=true):=⟨by simp[a],mc j⟩;have z:Hid ((Tryz.prog.info? 38).map (·.size)=some (j.map bN).toArray.size):=by
  rw[o.out.1];exact fo
 generalize(j.map bN).toArray=B at*;clear E a;go_enter Tryz.func27,Tryz.ntmps27;go_wp2_with(refine an rfl 38 rfl aZ iR aD rfl ?_);intro w1 n1;have l:=af n1;clear n1;go_wp2_with(refine an rfl 144 rfl (.agg Ax) NY Ax rfl ?_);intro w2 n;have A:=af n;have C:=af (q.out.ao (l.out.fr.trans n.fr));have c:Hid (w.heap.size<w1.heap.size∧1<w.heap.size∧2<w.heap.size):=⟨by have:=l.out.size;omega,q.out.EF,q.out.EG⟩;have f:=af (v.out w1.heap.size w2 n.aE C.out (by have:=c.out;omega) (by have:=c.out;omega));clear n v;go_wp2_with fail;refine f.out.mono ?_;rintro e w3⟨rfl,f3,rest,D⟩;have M:=af (C.out.fr f3 (fun e=>by have m:1=w1.heap.size:=e;have:=c.out;omega) (fun e=>by have m:2=w1.heap.size:=e;have:=c.out;omega));have d:=af (u.out _ _ _ D M.out);have r:=af ((l.out.aE.fr A.out.fr (fun x=>x)).fr f3 (fun e=>by have m:w.heap.size=w1.heap.size:=e;have:=c.out;omega));have y:Hid (Fr ag w w3):=(l.out.fr.trans A.out.fr).aw f3 (fun i P e=>by have m:i=w1.heap.size:=e;have:=c.out;omega);clear f3 D u f;go_wp2_with fail;refine d.out.mono ?_;rintro e Q⟨rfl,f4⟩;have H:=af (r.out.fr f4 (fun x=>x));have I:=af (y.out.trans f4);clear f4 d r y;go_wp2_with(refine ai rfl 38 (.tmp 2) _ rfl w.heap.size B rfl rfl _ _ H.out z.out (by rw[o.out.1];rfl) o.out.2 ?_);intro G b5 f5;have K:=af b5;have L:Hid (Fr ag w G):=I.out.aw f5 (fun i P e=>by have m:i=w.heap.size:=e;omega);clear b5 f5;go_wp2;exact bodyPost_ret (results_cell_row (fn:=Tryz.f27) (p:=2) (ty:=38) Tryz.results27 _ G _ 38 B (0,0) _ rfl K.out Tryz.underlying38 rfl z.out) rfl ⟨rfl,L.out⟩
theorem pw(tag:UInt8)(a:List ByteArray)(A:Option Addr)(n c:Nat)(S:Nat→Prop)(w:World)(C:bT w)(s:Rd w S 1 A n (a.map nS))(D:n≤255)(r:∀k,(ej tag a k).length≤1099511627776)(B:∀p∈a,p.size<4294967296):
  Calls Tryz.prog 120 #[bN tag, .slice A n c] w (aH w (.tuple #[aY (eT (iK tag (a.map eV))), .int .i64 0])):=by
 have u:=af (fun w'(t:Fr ag w w')=>Hf tag a A n c S w' (s.ao t) D r B);have m:a.length=n:=by have:=s.1;simpa using this
 have g:(iK tag (a.map eV)).length≤1099511627776:=by
  rw[←vi tag a n (by omega)];exact r n
 have d:1≤(iK tag (a.map eV)).length:=by simp[iK]
 have j:=af (fun w'(t:Fr ag w w')=>AH ⟨(iK tag (a.map eV)).toArray⟩ w' (C.ao t) (by simp only[ByteArray.size,List.size_toArray];exact g) (by simp only[ByteArray.size,List.size_toArray];exact d));have b:=iy (iK tag (a.map eV));have z:eV ⟨(iK tag (a.map eV)).toArray⟩=iK tag (a.map eV):=by simp[eV]
 rw[z]at j;unfold aY at*;generalize(⟨(iK tag (a.map eV)).toArray⟩:ByteArray)=RS at*;generalize eT (iK tag (a.map eV))=f at*;have o:Hid ((f.map bN).toArray.size=32∧(f.map bN).toArray.all (·.oneCell')=true):=⟨by simp[b],mc f⟩;have v:Hid ((Tryz.prog.info? 38).map (·.size)=some (f.map bN).toArray.size):=by
  rw[o.out.1];exact fo
 generalize(f.map bN).toArray=y at*;clear s D r B m g d b z C;unfold bN at*;go_enter Tryz.func120,Tryz.ntmps120;go_wp2_with(refine an rfl 38 rfl aZ iR aD rfl ?_);intro w1 n1;have h:=af n1;clear n1;go_wp2_with fail;refine(u.out _ h.out.fr).mono ?_;rintro e w2⟨rfl,f2⟩;have l:Hid (Fr ag w w2):=h.out.fr.trans f2;have F:=af (h.out.aE.fr f2 (fun x=>x));clear f2 u;go_wp2_with fail;refine(j.out _ l.out).mono ?_;rintro e w3⟨rfl,f3⟩;have G:=af (F.out.fr f3 (fun x=>x));have H:Hid (Fr ag w w3):=l.out.trans f3;clear f3 j l h;go_wp2_with(refine ai rfl 38 (.tmp 4) _ rfl w.heap.size y rfl rfl _ _ G.out v.out (by rw[o.out.1];rfl) o.out.2 ?_);intro E b4 f4;have I:=af b4;have J:Hid (Fr ag w E):=H.out.aw f4 (fun i L e=>by have K:i=w.heap.size:=e;omega);clear b4 f4;go_wp2;exact bodyPost_ret (dB (fn:=Tryz.f120) (p:=4) (q:=5) (ty:=38) Tryz.results120 _ E _ 38 y (0,0) _ rfl I.out Tryz.underlying38 rfl v.out _ rfl) rfl ⟨rfl,J.out⟩
end Go.Proofs.YtphjagkehiklkaaGreatDoor
namespace Go.Proofs.YtphjagkehiklkaaGreatDoor.Lt
open Go.RowKit
def sX(s:List UInt8):List UInt8:=eT (iK 0 [s])
def cR(l r:List UInt8):List UInt8:=eT (iK 1 [l,r])
def rW:List UInt8:=eT (iK 2 [])
theorem np(s:List UInt8):(sX s).length=32:=iy _
theorem eM(l r:List UInt8):(cR l r).length=32:=iy _
theorem pG:rW.length=32:=iy _
theorem DB(tag:UInt8)(k:Nat):(ej tag [] k).length≤1099511627776:=by simp[ej]
theorem DC(tag:UInt8)(s:ByteArray)(a:s.size<4294967296)(k:Nat):(ej tag [s] k).length≤1099511627776:=by
 have hw:(ey s.size).length=4:=rfl;rcases k with _|k<;>simp[ej,dQ,hw]<;>omega
theorem DG(tag:UInt8)(s t:ByteArray)(b:s.size<4294967296)(c:t.size<4294967296)(k:Nat):(ej tag [s,t] k).length≤1099511627776:=by
 have hw:(ey s.size).length=4:=rfl;have a:(ey t.size).length=4:=rfl;rcases k with _|_|k<;>simp[ej,dQ,hw,a]<;>omega
theorem K6(w:World)(cs:List Value)(n:Nat)(a:cs.length=n)(t:TypeId):Rd (w.alloc (.cells cs.toArray t)) (fun k=>k=w.heap.size) 1 (some ⟨w.heap.size,0,none⟩) n cs:=by
 refine⟨by rw[a,Nat.mul_one],fun _=>⟨_,rfl,rfl,fun j u hu=>?_⟩⟩;have:(⟨w.heap.size,0,none⟩:Addr).add j=⟨w.heap.size,j,none⟩:=by rw[Addr.add_mid,Nat.zero_add]
 rw[this,(aq.new w t cs.toArray).cell,bP];exact hu
theorem GQ{w:World}{g:Nat}{t:TypeId}{cs:List Value}(h:aq w g t cs.toArray){n:Nat}(a:cs.length=n):Rd w (fun k=>k=g) 1 (some ⟨g,0,none⟩) n cs:=by
 refine⟨by rw[a,Nat.mul_one],fun _=>⟨_,rfl,rfl,fun j u hu=>?_⟩⟩;rw[Addr.add_mid,Nat.zero_add,h.cell,bP];exact hu
structure dI(a:Array Value):Prop where
 size:a.size=32
 one:a.all (·.oneCell')=true
theorem dI.of{l:List UInt8}(h:l.length=32):dI (l.map bN).toArray:=⟨by simp[h],mc l⟩
theorem dI.info{a:Array Value}(h:dI a):(Tryz.prog.info? 38).map (·.size)=some a.size:=by rw[h.size];exact fo
theorem dI.Nn{a:Array Value}(h:dI a):(Tryz.prog.info? 37).map (·.size)=some a.size:=by rw[h.size];exact GB
theorem dI.zero{a:Array Value}(h:dI a):aD.size=a.size:=by rw[h.size];rfl
theorem yj(s:ByteArray)(w:World)(n:bT w)(q:s.size<4294967296):Calls Tryz.prog 76 #[.string s] w (aH w (aY (sX (eV s)))):=by
 have j:Hid (∀w',bT w'→Calls Tryz.prog 120 #[.int .u8 0, .slice (some ⟨w'.heap.size,0,none⟩) 1 1] (w'.alloc (.cells #[.string s] 9)) (aH (w'.alloc (.cells #[.string s] 9)) (.tuple #[aY (sX (eV s)), .int .i64 0]))):=
  fun w' C=>pw 0 [s] (some ⟨w'.heap.size,0,none⟩) 1 1 _ _ (C.ao (az.alloc _)) (K6 w' [.string s] 1 rfl 9) (by omega) (DC 0 s q) (by simpa using q);have v:=af n;have a:=af (dI.of (np (eV s)));unfold aY at*;generalize((sX (eV s)).map bN).toArray=f at*;clear n;go_enter Tryz.func76,Tryz.ntmps76;go_wp2_with(refine an rfl 38 rfl aZ iR aD rfl ?_);intro w1 n1;have c:=af n1;clear n1;go_wp2_with fail;refine(j.out _ (v.out.ao c.out.fr)).mono ?_;rintro e w2⟨rfl,f2⟩;have d:Hid (Fr ag w1 w2):=((Fr.refl _ w1).alloc _).trans f2;clear f2 j;go_wp2_with(refine an rfl 38 rfl aZ iR aD rfl ?_);intro w3 n3;have h:=af n3.aE;have k:Hid (Fr ag w w3):=c.out.fr.trans (d.out.trans n3.fr);have l:=af (c.out.aE.fr (d.out.trans n3.fr) (fun x=>x));have b:Hid (w.heap.size<w2.heap.size):=by have:=d.out.size;have:=c.out.size;simp only[Hid];omega
 clear n3 c d;generalize o:w2.heap.size=g at*;have E:=af o;clear o;go_wp2_with(refine ai rfl 38 (.tmp 3) _ rfl g f rfl rfl _ _ h.out a.out.info a.out.zero a.out.one ?_);intro D b4 f4;have t:=af b4;have u:Hid (Fr ag w D):=k.out.aw f4 (fun i B e=>by have m:i=g:=e;have:=b.out;omega);have A:=af (l.out.fr f4 (fun e=>by have m:w.heap.size=g:=e;have:=b.out;omega));clear b4 f4 k l h;go_wp2_with(first|(refine wpList_load_row rfl 38 (.tmp 3) rfl g rfl _ f _ _ t.out Tryz.underlying38 rfl a.out.info ?_)|(refine ai rfl 38 (.tmp 2) _ rfl w.heap.size f rfl rfl _ _ A.out a.out.info a.out.zero a.out.one ?_));intro r b5 f5;have y:=af b5;have z:Hid (Fr ag w r):=u.out.aw f5 (fun i B e=>by have m:i=w.heap.size:=e;omega);clear b5 f5;go_wp2;exact bodyPost_ret (results_cell_row (fn:=Tryz.f76) (p:=2) (ty:=38) Tryz.results76 _ r _ 38 f (0,0) _ rfl y.out Tryz.underlying38 rfl a.out.info) rfl ⟨rfl,z.out⟩
theorem Du(w:World)(n:bT w):Calls Tryz.prog 73 #[] w (aH w (aY rW)):=by
 have j:Hid (∀w',bT w'→Calls Tryz.prog 120 #[.int .u8 2, .slice none 0 0] w' (aH w' (.tuple #[aY rW, .int .i64 0]))):=
  fun w' A=>pw 2 [] none 0 0 (fun _=>False) _ A Rd.none_ (by omega) (DB 2) (by simp);have t:=af n;have a:=af (dI.of pG);unfold aY at*;generalize(rW.map bN).toArray=f at*;clear n;go_enter Tryz.func73,Tryz.ntmps73;go_wp2_with(refine an rfl 38 rfl aZ iR aD rfl ?_);intro w1 n1;have c:=af n1;clear n1;go_wp2_with fail;refine(j.out _ (t.out.ao c.out.fr)).mono ?_;rintro e w2⟨rfl,f2⟩;have d:Hid (Fr ag w1 w2):=f2;clear f2 j;go_wp2_with(refine an rfl 38 rfl aZ iR aD rfl ?_);intro w3 n3;have h:=af n3.aE;have k:Hid (Fr ag w w3):=c.out.fr.trans (d.out.trans n3.fr);have l:=af (c.out.aE.fr (d.out.trans n3.fr) (fun x=>x));have b:Hid (w.heap.size<w2.heap.size):=by have:=d.out.size;have:=c.out.size;simp only[Hid];omega
 clear n3 c d;generalize o:w2.heap.size=g at*;have C:=af o;clear o;go_wp2_with(refine ai rfl 38 (.tmp 1) _ rfl g f rfl rfl _ _ h.out a.out.info a.out.zero a.out.one ?_);intro B b4 f4;have r:=af b4;have s:Hid (Fr ag w B):=k.out.aw f4 (fun i z e=>by have m:i=g:=e;have:=b.out;omega);have y:=af (l.out.fr f4 (fun e=>by have m:w.heap.size=g:=e;have:=b.out;omega));clear b4 f4 k l h;go_wp2_with(first|(refine wpList_load_row rfl 38 (.tmp 1) rfl g rfl _ f _ _ r.out Tryz.underlying38 rfl a.out.info ?_)|(refine ai rfl 38 (.tmp 0) _ rfl w.heap.size f rfl rfl _ _ y.out a.out.info a.out.zero a.out.one ?_));intro q b5 f5;have u:=af b5;have v:Hid (Fr ag w q):=s.out.aw f5 (fun i z e=>by have m:i=w.heap.size:=e;omega);clear b5 f5;go_wp2;exact bodyPost_ret (results_cell_row (fn:=Tryz.f73) (p:=0) (ty:=38) Tryz.results73 _ q _ 38 f (0,0) _ rfl u.out Tryz.underlying38 rfl a.out.info) rfl ⟨rfl,v.out⟩
end Go.Proofs.YtphjagkehiklkaaGreatDoor.Lt
namespace Go.Proofs.YtphjagkehiklkaaGreatDoor
open Go.RowKit
theorem xx(w:World)(d:Nat)(l r:List UInt8)(a:l.length=32)(b:r.length=32):∀is:List Nat,(∀i∈is,i<32)→
  (Op.eqItems (d+1) 5 1 (l.map bN).toArray (r.map bN).toArray is).run Tryz.prog w= .ok (is.all fun i=>l[i]? ==r[i]?) w
 |[],_=>by simp[Op.eqItems]
 |i::is,h=>by
  have k:i<32:=h i (by simp);have c:(isAgg 5).run Tryz.prog w= .ok false w:=by kernel_rfl
  have p:∀x:List UInt8,x.length=32→(part 5 (x.map bN).toArray (i*1)).run Tryz.prog w= .ok (bN (x[i]?.getD 0)) w:=by
   intro x n;unfold part;rw[Sem.run_bind,c];simp only[Result.andThen_ok,Bool.false_eq_true,if_false,Nat.mul_one,bP,List.getElem?_map,List.getElem?_eq_getElem (show i<x.length by omega),Option.map_some,Sem.run_pure,Option.getD_some]
  have g:=xx w d l r a b is (fun j f=>h j (by simp[f]));have e:((((l[i]?.getD 0).toNat:Nat):Int)==(((r[i]?.getD 0).toNat:Nat):Int))=(l[i]? ==r[i]?):=by
   rw[List.getElem?_eq_getElem (show i<l.length by omega),List.getElem?_eq_getElem (show i<r.length by omega),Bool.eq_iff_iff];simp[←UInt8.toNat_inj];omega
  have q:(Op.equalIn (d+1) 5 (bN (l[i]?.getD 0)) (bN (r[i]?.getD 0))).run Tryz.prog w= .ok (l[i]? ==r[i]?) w:=by
   rw[←e];exact run_equalIn_int w d 5 .u8 .u8 _ _ Tryz.underlying5
  simp only[Op.eqItems,Sem.run_bind,p l a,p r b,q,Result.andThen_ok,List.all_cons];cases m:(l[i]? ==r[i]?);·simp
  ·simpa using g
theorem Hp(l r:List UInt8)(b:l.length=32)(c:r.length=32):((List.range 32).all fun i=>l[i]? ==r[i]?)=decide (l=r):=by
 rw[Bool.eq_iff_iff];simp only[List.all_eq_true,List.mem_range,beq_iff_eq,decide_eq_true_eq];constructor
 ·intro h;apply List.ext_getElem?;intro i;rcases Nat.lt_or_ge i 32 with a|a;·exact h i a
  ·rw[List.getElem?_eq_none (by omega),List.getElem?_eq_none (by omega)]
 ·rintro rfl _ _;rfl
theorem Ml:(Tryz.prog.info? 5).isSome=true:=by kernel_rfl
theorem Bf:Tryz.prog.cellsOf 5=1:=by kernel_rfl
theorem xw(w:World)(t:TypeId)(hu:Tryz.prog.underlying t=some (.array 32 5))(l r:List UInt8)(b:l.length=32)(c:r.length=32):
  (Op.equalIn 10000 t (aY l) (aY r)).run Tryz.prog w= .ok (decide (l=r)) w:=by
 obtain⟨i,a⟩:=Option.isSome_iff_exists.1 Ml;unfold aY;rw[run_equalIn_array w 9999 _ _ hu a,Bf,xx w 9998 l r b c _ (fun i a=>List.mem_range.1 a),Hp l r b c]
theorem Lf(w:World)(t:TypeId)(hu:Tryz.prog.underlying t=some (.array 32 5))(l r:List UInt8)(a:l.length=32)(b:r.length=32):
  (binOp .neq t (aY l) (aY r)).run Tryz.prog w= .ok (.bool (!decide (l=r))) w:=by
 have:=xw w t hu l r a b;unfold aY at*;rw[run_neq_struct,this];rfl
end Go.Proofs.YtphjagkehiklkaaGreatDoor
namespace Go.Proofs.YtphjagkehiklkaaGreatDoor.Lt
open Go.RowKit
structure eD(w w':World)(g0 g1 g2:Nat)(l r:List UInt8):Prop where
 fr:Fr ag w w'
 b0:aq w' g0 38 (l.map bN).toArray
 b1:aq w' g1 38 (r.map bN).toArray
 b2:aq w' g2 38 aD
theorem eD.drew{w w':World}{g0 g1 g2:Nat}{l r:List UInt8}(h:eD w w' g0 g1 g2 l r):eD w w'.drew g0 g1 g2 l r:=⟨h.fr.drew,h.b0.drew,h.b1.drew,h.b2.drew⟩
theorem eD.later{w w' a:World}{g0 g1 g2:Nat}{l r:List UInt8}(h:eD w w' g0 g1 g2 l r)(b:Fr ag w' a):eD w a g0 g1 g2 l r:=⟨h.fr.trans b,h.b0.fr b (fun x=>x),h.b1.fr b (fun x=>x),h.b2.fr b (fun x=>x)⟩
theorem eD.alloc{w w':World}{g0 g1 g2:Nat}{l r:List UInt8}(h:eD w w' g0 g1 g2 l r)(a:Obj):eD w (w'.alloc a) g0 g1 g2 l r:=h.later (az.alloc a)
theorem eD.store{w w':World}{g0 g1 g2 g:Nat}{l r:List UInt8}(h:eD w w' g0 g1 g2 l r)(d:w.heap.size≤g∧g0<g∧g1<g∧g2<g)(c:List Value):eD w (w'.setCells g 0 c) g0 g1 g2 l r:=by
 have a:Fr (fun k=>k=g) w' (w'.setCells g 0 c):=Fr.setCells (T:=fun k=>k=g) (fun _=>rfl) _ _ _ az;exact⟨h.fr.aw a (fun i f e=>by have b:i=g:=e;omega),h.b0.fr a (fun e=>by have b:g0=g:=e;omega),h.b1.fr a (fun e=>by have b:g1=g:=e;omega),h.b2.fr a (fun e=>by have b:g2=g:=e;omega)⟩
theorem eD.all{w w':World}{g0 g1 g2:Nat}{l r:List UInt8}(h:eD w w' g0 g1 g2 l r)(a:l.length=32)(b:r.length=32):eD w w' g0 g1 g2 l r∧
  (convert 61 9 (.slice (some ⟨g0,0,none⟩) 32 32)).run Tryz.prog w'= .ok (.string ⟨l.toArray⟩) w'∧(convert 61 9 (.slice (some ⟨g1,0,none⟩) 32 32)).run Tryz.prog w'= .ok (.string ⟨r.toArray⟩) w':=
 ⟨h,xy (P:=Tryz.prog) w' 61 9 5 Tryz.underlying61 Tryz.underlying5 Tryz.underlying9 _ _ 32 32 l (GQ h.b0 (by rw[List.length_map,a])),
  xy (P:=Tryz.prog) w' 61 9 5 Tryz.underlying61 Tryz.underlying5 Tryz.underlying9 _ _ 32 32 r (GQ h.b1 (by rw[List.length_map,b]))⟩
theorem yW{w w':World}{g n:Nat}(h:w.there g 0 n)(a:Fr ag w w'):w'.there g 0 n:=fun j e=>by
 obtain⟨b,c⟩:=h j e;obtain⟨u,hu⟩:=Option.isSome_iff_exists.1 b;have d:=World.block_lt_of_cell? w _ hu;exact⟨by rw[a.ak hu (fun x=>x)];rfl,by rw[a.frozen d (fun x=>x)];exact c⟩
theorem Mt{w:World}{b:Nat}{s t:Value}(a:w.cell? ⟨b,0,none⟩=some s)(c:w.cell? ⟨b,1,none⟩=some t):Rd w (fun k=>k=b) 1 (some ⟨b,0,none⟩) 2 [s,t]:=by
 refine⟨rfl,fun _=>⟨_,rfl,rfl,fun j u hu=>?_⟩⟩;rw[Addr.add_mid,Nat.zero_add];rcases j with _|_|j;·cases hu;exact a
 ·cases hu;exact c
 ·cases hu
theorem lR(l r:List UInt8)(m:l.length=32)(n:r.length=32)(w:World)(A:bT w):Calls Tryz.prog 122 #[aY l,aY r] w (aH w (aY (cR l r))):=by
 have el:eV ⟨l.toArray⟩=l:=by simp[eV]
 have y:eV ⟨r.toArray⟩=r:=by simp[eV]
 have G:Hid (∀(W:World)(b:Nat),bT W→W.cell? ⟨b,0,none⟩=some (.string ⟨l.toArray⟩)→W.cell? ⟨b,1,none⟩=some (.string ⟨r.toArray⟩)→Calls Tryz.prog 120 #[.int .u8 1, .slice (some ⟨b,0,none⟩) 2 2] W (aH W (.tuple #[aY (cR l r), .int .i64 0]))):=by
  intro W b Q N O;have h:=pw 1 [⟨l.toArray⟩,⟨r.toArray⟩] (some ⟨b,0,none⟩) 2 2 _ W Q (Mt N O) (by omega) (DG 1 _ _ (by rw[ByteArray.size,List.size_toArray,m];omega) (by rw[ByteArray.size,List.size_toArray,n];omega)) (by
   intro p C;simp only[List.mem_cons,List.not_mem_nil,or_false]at C;rcases C with rfl|rfl<;>simp only[ByteArray.size,List.size_toArray,m,n]<;>omega);simp only[List.map_cons,List.map_nil,el,y]at h;exact h
 have J:=af A;have j:=af (dI.of (eM l r));have H:=af m;have I:=af n;have hlen:((cR l r).map bN).length=32:=by rw[List.length_map,eM]
 have B:∀v∈(cR l r).map bN,v.oneCell'=true:=jg _;unfold aY at*;generalize(cR l r).map bN=d at*;have i24:(Tryz.prog.info? 38).map (·.size)=some d.length:=by rw[hlen];exact fo
 clear A m n el y;go_enter Tryz.func122,Tryz.ntmps122;go_wp2_with(refine aB rfl 38 (.tmp 0) rfl _ rfl ?_);intro w1 n1;have k:=af n1;clear n1;go_wp2_with(refine aB rfl 38 (.tmp 1) rfl _ rfl ?_);intro w2 D;have a:=af D;clear D;go_wp2_with(refine an rfl 38 rfl aZ iR aD rfl ?_);intro w3 n3;have c:=af n3;clear n3;have NS:eD w w3 w.heap.size w1.heap.size w2.heap.size l r:=⟨k.out.fr.trans (a.out.fr.trans c.out.fr),(k.out.aE.fr a.out.fr (fun x=>x)).fr c.out.fr (fun x=>x),a.out.aE.fr c.out.fr (fun x=>x),c.out.aE⟩;have z0:w.heap.size≤w3.heap.size:=NS.fr.size;have z1:w.heap.size<w3.heap.size:=NS.b0.lt;have z2:w1.heap.size<w3.heap.size:=NS.b1.lt;have z3:w2.heap.size<w3.heap.size:=NS.b2.lt;have K:Hid (w.heap.size≤w2.heap.size):=(k.out.fr.trans a.out.fr).size;clear k a c;generalize f:w.heap.size=g0 at*;generalize w1.heap.size=g1 at*;generalize w2.heap.size=g2 at*;have t:=af f;clear f;have Y:w.heap.size≤w3.heap.size:=NS.fr.size;go_upto_region 1 with fail;go_cut[4,5](fun S T E=>∃g,S= .pointer (some ⟨g2,0,none⟩)∧T= .pointer (some ⟨g,0,none⟩)∧E.rangeAt g 0 d∧eD w E g0 g1 g2 l r);case first=>
  have s:Hid (((w3.alloc (.cells #[.string ⟨l.toArray⟩, .string ⟨r.toArray⟩] 9)).alloc (.cells #[.int .u8 0, .int .u8 0, .int .u8 0, .int .u8 0, .int .u8 0, .int .u8 0, .int .u8 0, .int .u8 0, .int .u8 0, .int .u8 0, .int .u8 0, .int .u8 0, .int .u8 0, .int .u8 0, .int .u8 0, .int .u8 0, .int .u8 0, .int .u8 0, .int .u8 0, .int .u8 0, .int .u8 0, .int .u8 0, .int .u8 0, .int .u8 0, .int .u8 0, .int .u8 0, .int .u8 0, .int .u8 0, .int .u8 0, .int .u8 0, .int .u8 0, .int .u8 0] 38)).drew.there (w3.heap.size+1) 0 32):=by
   have h:=aq.new (w3.alloc (.cells #[.string ⟨l.toArray⟩, .string ⟨r.toArray⟩] 9)) 38 #[.int .u8 0, .int .u8 0, .int .u8 0, .int .u8 0, .int .u8 0, .int .u8 0, .int .u8 0, .int .u8 0, .int .u8 0, .int .u8 0, .int .u8 0, .int .u8 0, .int .u8 0, .int .u8 0, .int .u8 0, .int .u8 0, .int .u8 0, .int .u8 0, .int .u8 0, .int .u8 0, .int .u8 0, .int .u8 0, .int .u8 0, .int .u8 0, .int .u8 0, .int .u8 0, .int .u8 0, .int .u8 0, .int .u8 0, .int .u8 0, .int .u8 0, .int .u8 0];rw[show(w3.alloc (.cells #[.string ⟨l.toArray⟩, .string ⟨r.toArray⟩] 9)).heap.size=w3.heap.size+1 by simp]at h;exact mC h.drew rfl
  have q:Hid (((w3.alloc (.cells #[.int .u8 0, .int .u8 0, .int .u8 0, .int .u8 0, .int .u8 0, .int .u8 0, .int .u8 0, .int .u8 0, .int .u8 0, .int .u8 0, .int .u8 0, .int .u8 0, .int .u8 0, .int .u8 0, .int .u8 0, .int .u8 0, .int .u8 0, .int .u8 0, .int .u8 0, .int .u8 0, .int .u8 0, .int .u8 0, .int .u8 0, .int .u8 0, .int .u8 0, .int .u8 0, .int .u8 0, .int .u8 0, .int .u8 0, .int .u8 0, .int .u8 0, .int .u8 0] 38)).alloc (.cells #[.string ⟨l.toArray⟩, .string ⟨r.toArray⟩] 9)).drew.there w3.heap.size 0 32):=mC ((aq.new w3 38 #[.int .u8 0, .int .u8 0, .int .u8 0, .int .u8 0, .int .u8 0, .int .u8 0, .int .u8 0, .int .u8 0, .int .u8 0, .int .u8 0, .int .u8 0, .int .u8 0, .int .u8 0, .int .u8 0, .int .u8 0, .int .u8 0, .int .u8 0, .int .u8 0, .int .u8 0, .int .u8 0, .int .u8 0, .int .u8 0, .int .u8 0, .int .u8 0, .int .u8 0, .int .u8 0, .int .u8 0, .int .u8 0, .int .u8 0, .int .u8 0, .int .u8 0, .int .u8 0]).alloc _).drew rfl;go_region_held3(fun w'=>eD w w' g0 g1 g2 l r∧(convert 61 9 (.slice (some ⟨g0,0,none⟩) 32 32)).run Tryz.prog w'= .ok (.string ⟨l.toArray⟩) w'∧(convert 61 9 (.slice (some ⟨g1,0,none⟩) 32 32)).run Tryz.prog w'= .ok (.string ⟨r.toArray⟩) w')((go_split_ands;refine eD.all ?_ H.out I.out;first|assumption|exact eD.drew (by assumption)|exact eD.later (by assumption) (by assumption)|exact eD.store (by assumption) ⟨by omega,by omega,by omega,by omega⟩ _|exact eD.alloc (by assumption) _|exact(eD.alloc (by assumption) _).alloc _|exact(eD.drew (by assumption)).alloc _|exact((eD.drew (by assumption)).alloc _).alloc _))((first|(go_at_call 120;go_split_ands;refine(G.out _ _ (J.out.ao (eD.fr (by assumption))) (by simp) (by simp)).mono ?_;rintro e o⟨rfl,f4⟩;have R:w3.heap.size≤o.heap.size:=Nat.le_trans (by first|(simp;done)|(simp;omega)) f4.size;have t4:(o.alloc (.cells #[.int .u8 0, .int .u8 0, .int .u8 0, .int .u8 0, .int .u8 0, .int .u8 0, .int .u8 0, .int .u8 0, .int .u8 0, .int .u8 0, .int .u8 0, .int .u8 0, .int .u8 0, .int .u8 0, .int .u8 0, .int .u8 0, .int .u8 0, .int .u8 0, .int .u8 0, .int .u8 0, .int .u8 0, .int .u8 0, .int .u8 0, .int .u8 0, .int .u8 0, .int .u8 0, .int .u8 0, .int .u8 0, .int .u8 0, .int .u8 0, .int .u8 0, .int .u8 0] 38)).there o.heap.size 0 32:=mC (aq.new o 38 #[.int .u8 0, .int .u8 0, .int .u8 0, .int .u8 0, .int .u8 0, .int .u8 0, .int .u8 0, .int .u8 0, .int .u8 0, .int .u8 0, .int .u8 0, .int .u8 0, .int .u8 0, .int .u8 0, .int .u8 0, .int .u8 0, .int .u8 0, .int .u8 0, .int .u8 0, .int .u8 0, .int .u8 0, .int .u8 0, .int .u8 0, .int .u8 0, .int .u8 0, .int .u8 0, .int .u8 0, .int .u8 0, .int .u8 0, .int .u8 0, .int .u8 0, .int .u8 0]) rfl;first|(have U:=yW s.out (by with_reducible exact f4))|(have U:=yW q.out (by with_reducible exact f4))|skip)));all_goals
   go_split_ands;go_wp2_with fail;go_meet;exact⟨_,rfl,rfl,World.rangeAt_setCells_same _ _ _ _ (by rw[hlen];assumption),by assumption⟩
 case rest=>
  obtain⟨g,rfl,rfl,P,z⟩:=hcut;have KN:=af z;have u:Hid (w.heap.size≤g2):=by have:=K.out;have:=t.out;simp only[Hid];omega
  have ty:=Tryz.underlying38;clear NS z z0 z1 z2 z3;go_wp2_with(first|(refine wpList_load_mid rfl 38 (.tmp 5) rfl g 0 rfl d _ P ty rfl i24 ?_)|(refine ai rfl 38 (.tmp 4) _ rfl g2 d.toArray rfl rfl _ _ KN.out.b2 j.out.info j.out.zero j.out.one ?_));intro F b7 f7;have L:=af b7;have M:Hid (Fr ag w F):=KN.out.fr.aw f7 (fun i X e=>by have V:i=g2:=e;have:=u.out;omega);clear b7 f7;go_wp2;exact bodyPost_ret (results_cell_row (fn:=Tryz.f122) (p:=4) (ty:=38) Tryz.results122 _ F _ 38 d.toArray (0,0) _ rfl L.out Tryz.underlying38 rfl j.out.info) rfl ⟨rfl,M.out⟩
structure ld(w w':World)(g0 g1:Nat)(a b:List Value):Prop where
 fr:Fr ag w w'
 b0:aq w' g0 37 a.toArray
 b1:aq w' g1 37 b.toArray
theorem ld.drew{w w':World}{g0 g1:Nat}{l r:List Value}(h:ld w w' g0 g1 l r):ld w w'.drew g0 g1 l r:=⟨h.fr.drew,h.b0.drew,h.b1.drew⟩
theorem ld.later{w w' a:World}{g0 g1:Nat}{l r:List Value}(h:ld w w' g0 g1 l r)(b:Fr ag w' a):ld w a g0 g1 l r:=⟨h.fr.trans b,h.b0.fr b (fun x=>x),h.b1.fr b (fun x=>x)⟩
theorem ld.alloc{w w':World}{g0 g1:Nat}{l r:List Value}(h:ld w w' g0 g1 l r)(a:Obj):ld w (w'.alloc a) g0 g1 l r:=h.later (az.alloc a)
theorem dA{w:World}{g:Nat}{t:TypeId}{cs:List Value}(h:aq w g t cs.toArray):w.rangeAt g 0 cs:=fun j v a=>by
 rw[Nat.zero_add,h.cell,bP];exact a
theorem ld.all{w w':World}{g0 g1:Nat}{l r:List Value}(h:ld w w' g0 g1 l r):ld w w' g0 g1 l r∧w'.rangeAt g0 0 l∧w'.rangeAt g1 0 r:=⟨h,dA h.b0,dA h.b1⟩
def Nc(w:World)(e:Ending)(w':World):Prop:=e= .returned (.pointer (some ⟨w.heap.size,0,none⟩))∧w'=w.alloc (.cells #[.slice none 0 0, .map none] 180)
theorem rJ(w:World):Calls Tryz.prog 83 #[] w (Nc w):=by
 go_enter Tryz.func83,Tryz.ntmps83;go_wp2;go_ret;exact⟨rfl,rfl⟩
end Go.Proofs.YtphjagkehiklkaaGreatDoor.Lt
namespace Go.Proofs.YtphjagkehiklkaaGreatDoor
open Go.RowKit Go.ChangeShapes Go.WideShapes Go.Deep
theorem Bd:Tryz.prog.cellsOf 141=8:=by kernel_rfl
theorem yt:Tryz.prog.cellsOf 242=64:=by kernel_rfl
theorem vD:Tryz.prog.cellsOf 140=1:=by kernel_rfl
theorem qX:Tryz.prog.globalNamed "replevin/sha256.initial"=some 1:=by kernel_rfl
theorem uw:(Tryz.prog.globals[1]?).map (·.type)=some 141:=by kernel_rfl
theorem oC:Tryz.prog.globalNamed "replevin/sha256.constants"=some 2:=by kernel_rfl
theorem qK:(Tryz.prog.globals[2]?).map (·.type)=some 242:=by kernel_rfl
theorem Mv{W:World}{rest:List (String×DataW Unit)}(h:laidMet Tryz.prog (("replevin/sha256.initial",Rows.laid_replevin_sha256_initial)::("replevin/sha256.constants",Rows.laid_replevin_sha256_constants)::rest) W):bT W:=by
 have c:Lib.TabIs Tryz.prog W "replevin/sha256.initial" .u32 Ew:=Lib.tabIs_of_head qX uw Tryz.underlying141 Tryz.underlying140 vD Bd (show laidMet Tryz.prog (_::_) W from h);have d:Lib.TabIs Tryz.prog W "replevin/sha256.constants" .u32 Cb:=Lib.tabIs_of_head oC qK Tryz.underlying242 Tryz.underlying140 vD yt (show laidMet Tryz.prog (_::_) W from laidMet.tail h);refine⟨fun j u hu=>?_,fun j a=>?_⟩
 ·have a:j<8:=(List.getElem?_eq_some_iff.1 hu).1;rw[c.cell qX j a,←hu];rcases j with _|_|_|_|_|_|_|_|j;·rfl
  ·rfl
  ·rfl
  ·rfl
  ·rfl
  ·rfl
  ·rfl
  ·rfl
  ·omega
 ·have b:j<tZ.length:=a;rw[d.cell oC j (by rw[Cb,List.length_map];exact b)];unfold jT Cb;rw[List.getD_eq_getElem?_getD,List.getElem?_map,List.getElem?_eq_getElem b];rfl
end Go.Proofs.YtphjagkehiklkaaGreatDoor
