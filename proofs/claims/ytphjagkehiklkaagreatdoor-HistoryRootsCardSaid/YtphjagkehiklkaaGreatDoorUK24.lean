/- Texts. -/
import Derived.Test.YtphjagkehiklkaaGreatDoorUK23
set_option linter.unusedVariables false
set_option linter.unusedSimpArgs false
set_option maxRecDepth 100000
set_option maxHeartbeats 4000000
namespace Go.Proofs.YtphjagkehiklkaaGreatDoor
open Go.RowKit
theorem fW(w:World):(zeroValue 38).run Tryz.prog w= .ok aQ w:=by kernel_rfl
theorem Ib(V:cm):(Tryz.prog.info? 141).map (·.size)=some (eB V).length:=by kernel_rfl
theorem EY:(Tryz.prog.info? 142).map (·.size)=some 64:=by kernel_rfl
theorem dZ:(Tryz.prog.info? 38).map (·.size)=some 32:=by kernel_rfl
theorem Iv(w:World):(zeroValue 5).run Tryz.prog w= .ok (.int .u8 0) w:=by kernel_rfl
def lN(rest:List UInt8)(a:Nat):List UInt8:=rest.take a++128::List.replicate (63-a) 0
theorem iB(rest:List UInt8)(a:Nat)(b:rest.length=64)(c:a<64):(lN rest a).length=64:=by simp[lN,b];omega
theorem xY(rest:List UInt8)(a:Nat)(b:rest.length=64)(c:a<64):bW (rest.set a 128) (a+1) (List.replicate (63-a) 0)=lN rest a:=by
 unfold bW lN;rw[List.drop_of_length_le (by simp[b];omega),List.append_nil,List.take_set,List.take_succ_eq_append_getElem (by omega:a<rest.length),List.set_append_right _ _ (by simp;omega)];simp[b];rw[show a-min a 64=0 by omega];rfl
theorem ER(rest:List UInt8)(a:rest.length=64):rest.set 63 128=lN rest 63:=by
 rw[←xY rest 63 a (by omega),bW];simp
def iT(B:List UInt8)(L k:Nat):List UInt8:=B.take (64-k)++(len8 L).drop (8-k)
theorem eN(B:List UInt8)(L k:Nat)(a:B.length=64)(b:k≤8):(iT B L k).length=64:=by simp[iT,a,gM];omega
theorem Ab(B:List UInt8)(L:Nat)(a:B.length=64):iT B L 0=B:=by
 unfold iT;rw[List.take_of_length_le (by omega),List.drop_of_length_le (by rw[gM];omega),List.append_nil]
theorem iy(B:List UInt8)(L k:Nat)(d:B.length=64)(e:k<8)(x:UInt8)(c:(len8 L)[7-k]? =some x):(iT B L k).set (63-k) x=iT B L (k+1):=by
 unfold iT;rw[show 64-k=(63-k)+1 by omega,List.take_succ_eq_append_getElem (by omega:63-k<B.length),List.set_append_left _ _ (by simp;omega),List.set_append_right _ _ (by simp;omega)];obtain⟨a,b⟩:=List.getElem?_eq_some_iff.1 c;rw[show 64-(k+1)=63-k by omega,show 8-(k+1)=7-k by omega,List.drop_eq_getElem_cons a,b,show 7-k+1=8-k by omega];rw[show 63-k-(B.take (63-k)).length=0 by simp;omega];simp
theorem FU(M rest:List UInt8)(h:jS M rest)(a:Nat)(i:a=M.length%64):
  (a<56→dk (eJ (fp dn M (M.length/64)) ((lN rest a).take 56++len8 M.length))=dL M)∧
  (56≤a→dk (eJ (eJ (fp dn M (M.length/64)) (lN rest a)) ((List.replicate 64 0).take 56++len8 M.length))=dL M):=by
 have e:=EX M rest h;obtain⟨q,g⟩:∃q,q=M.length/64:=⟨_,rfl⟩;have c:(M.take (64*q)).length=64*q:=by rw[List.length_take,g];omega
 rw[←i,←g]at e;have b:(rest.take a).length=a:=by rw[List.length_take,h.1,i];omega
 have j:M.length=64*q+a:=by omega
 have k:fp dn M q=fp dn (M.take (64*q)) q:=by
  rw(occs:= .pos [1])[e];exact iH dn _ _ q (by omega)
 rw[←g,k,j];constructor;·intro f;have d:=AL (M.take (64*q)) (rest.take a) q c (by omega);rw[←e,b]at d;rw[d];congr 2;unfold lN;rw[show 63-a=(55-a)+8 by omega,←List.replicate_append_replicate,←List.cons_append,←List.append_assoc,List.take_left' (by simp[b];omega)];simp
 ·intro f;have d:=DW (M.take (64*q)) (rest.take a) q c (by omega) (by omega);rw[←e,b]at d;rw[d];congr 2
structure dR(w w':World)(gs a:Nat)(s:cm)(B:List UInt8):Prop where
 fr:Fr af w w'
 ss:ak w' gs 141 (eB s).toArray
 bb:ak w' a 142 (B.map aU).toArray
 os:w.heap.size≤gs
 ob:w.heap.size≤a
theorem dR.ne{w w':World}{gs a:Nat}{s:cm}{B:List UInt8}(h:dR w w' gs a s B):gs≠a:=h.ss.o6 h.bb (by decide)
theorem dR.put{w w':World}{gs a:Nat}{s:cm}{B:List UInt8}(h:dR w w' gs a s B)(i:Nat)(x:UInt8):dR w (w'.setCell ⟨a,i,none⟩ (aU x)) gs a s (B.set i x):=by
 refine⟨h.fr.setCell (fun b=>absurd b (by have:=h.ob;simp only;omega)) _,h.ss.bV (p:=⟨a,i,none⟩) h.ne _,?_,h.os,h.ob⟩;have:=h.bb.iV i (aU x);rwa[List.setIfInBounds_toArray,←List.map_set]at this
theorem dR.val{w w':World}{gs a:Nat}{s:cm}{B:List UInt8}{p:Addr}{x y:Int}(e:x=y)(h:dR w (w'.setCell p (.int .u8 y)) gs a s B):dR w (w'.setCell p (.int .u8 x)) gs a s B:=e▸h
theorem dR.DQ{w w':World}{gs a:Nat}{s:cm}{B:List UInt8}(h:dR w w' gs a s B)(d:Nat)(X:List UInt8)(c:d+X.length≤B.length):dR w (w'.setCells a d (X.map aU)) gs a s (bW B d X):=by
 refine⟨Fr.setCells (fun b=>absurd b (by have:=h.ob;omega)) _ _ _ h.fr,h.ss.fr (Fr.setCells (T:=fun k=>k=a) (fun _=>rfl) _ _ _ (Fr.refl _ _)) h.ne,?_,h.os,h.ob⟩;have:=ak.setCells (X.map aU) d _ _ h.bb (by simpa using c);unfold bW;simpa[List.map_take,List.map_drop]using this
theorem dR.clear{w w':World}{gs a:Nat}{s:cm}{B:List UInt8}(h:dR w w' gs a s B)(c n:Nat)(b:c+n≤B.length):dR w (w'.setCells a c (List.replicate n (.int .u8 0))) gs a s (bW B c (List.replicate n 0)):=by
 have:=h.DQ c (List.replicate n 0) (by simpa using b);rwa[List.map_replicate]at this
theorem dR.BJ{w w' a:World}{gs b:Nat}{s d:cm}{B:List UInt8}(h:dR w w' gs b s B)(c:Fr (fun k=>k=gs) w' a)(f:ak a gs 141 ([]++eB d++[]).toArray):dR w a gs b d B:=
 ⟨h.fr.ao c (fun i j e=>by have g:i=gs:=e;have:=h.os;omega),by rwa[List.nil_append,List.append_nil]at f,h.bb.fr c (fun e=>h.ne (Eq.symm e)),h.os,h.ob⟩
theorem dR.state{w w':World}{gs a:Nat}{s:cm}{B:List UInt8}(h:dR w w' gs a s B):ak w' gs 141 ([]++eB s++[]).toArray:=by rw[List.nil_append,List.append_nil];exact h.ss
theorem dR.cell{w w':World}{gs a:Nat}{s:cm}{B:List UInt8}(h:dR w w' gs a s B)(b:B.length=64)(j:Nat)(c:j<64):w'.cell? ⟨a,j,none⟩=some (aU (B[j]?.getD 0)):=by
 rw[h.bb.cell,List.getElem?_toArray,List.getElem?_map,List.getElem?_eq_getElem (by omega)];rfl
theorem dR.cell0{w w':World}{gs a:Nat}{s:cm}{B:List UInt8}(h:dR w w' gs a s B)(b:B.length=64)(j:Nat)(c:j<64):w'.cell? ⟨a,0+j,none⟩=some (aU (B[j]?.getD 0)):=by
 rw[Nat.zero_add];exact h.cell b j c
theorem rJ{w w':World}{gs a:Nat}{s:cm}{B:List UInt8}(h:dR w w' gs a s B)(b:B.length=64)(g n c:Nat)(d:0<n)(f:g+n≤64)(ty:TypeId):
  (Builtin.clear_ #[61] ty #[.slice (some ⟨a,g,none⟩) n c]).run Tryz.prog w'= .ok (.tuple #[]) (w'.setCells a g (List.replicate n (.int .u8 0))):=
 Lib.run_clear_slice w' 61 5 ty (.int .u8 0) Tryz.underlying61 Iv rfl rfl a g n c d (fun j e=>by rw[h.cell b (g+j) (by omega)];rfl) (fun _ _=>h.bb.frozen _)
theorem yP(w:World)(A:Option Addr)(c:Nat)(ty:TypeId):(Builtin.clear_ #[61] ty #[.slice A 0 c]).run Tryz.prog w= .ok (.tuple #[]) w:=by
 cases A<;>simp[Builtin.clear_,run_underlying Tryz.underlying61]
theorem kE{w:World}{g:Nat}{t:TypeId}{cs:Array Value}(h:ak w g t cs){n:Nat}(b:cs.size=n):w.there g 0 n:=fun j a=>by
 rw[Nat.zero_add,h.cell,h.frozen];rw[Array.getElem?_eq_getElem (by omega)];exact⟨rfl,rfl⟩
theorem kO{w:World}{g x:Nat}{c d:Obj}{a:List Value}{i:Nat}{v:Value}(h:w.cell? ⟨g,i,none⟩=some v)(e:w.heap.size≤x):(((w.alloc c).alloc d).drew.setCells x 0 a).cell? ⟨g,i,none⟩=some v:=by
 rw[World.cell?_setCells_out _ _ _ _ _ (fun b _=>absurd b (by have:=World.block_lt_of_cell? w _ h;simp only at this⊢;omega))];exact Lib.cell?_alloc_some _ (Lib.cell?_alloc_some _ h)
theorem pe{w:World}{g x f:Nat}{d e:Obj}{a CV:List Value}(h:w.rangeAt g f CV)(c:w.heap.size≤x):(((w.alloc d).alloc e).drew.setCells x 0 a).rangeAt g f CV:=fun j v b=>kO (h j v b) c
theorem qc{w:World}{g x:Nat}{c d:Obj}{b:List Value}(h:g<w.heap.size):g<(((w.alloc c).alloc d).drew.setCells x 0 b).heap.size:=by
 have:=(Fr.setCells (T:=fun _=>True) (a:=w) (g:=x) (fun _=>trivial) b 0 _ ((((Fr.refl _ w).alloc c).alloc d).drew)).size;omega
theorem vI{w:World}(s:cm)(B:List UInt8)(d:B.length=64)(a:Array Value)(c:a.size=64):
  dR w (((w.alloc (.cells (eB s).toArray 141)).alloc (.cells a 142)).drew.setCells (w.heap.size+1) 0 (B.map aU)) w.heap.size (w.heap.size+1) s B∧
  dR w (((w.alloc (.cells a 142)).alloc (.cells (eB s).toArray 141)).drew.setCells w.heap.size 0 (B.map aU)) (w.heap.size+1) w.heap.size s B:=by
 have e:∀f:Obj,(w.alloc f).heap.size=w.heap.size+1:=fun f=>by simp
 have b:(B.map aU).length=64:=by rw[List.length_map,d]
 refine⟨⟨?_,?_,?_,Nat.le_refl _,by omega⟩,⟨?_,?_,?_,by omega,Nat.le_refl _⟩⟩;·exact Fr.setCells (fun h=>absurd h (by omega)) _ _ _ ((((Fr.refl _ w).alloc _).alloc _).drew)
 ·exact(((ak.new w _ _).alloc _).drew).fr (Fr.setCells (T:=fun k=>k=w.heap.size+1) (fun _=>rfl) _ _ _ (Fr.refl _ _)) (by omega)
 ·have b0:ak ((w.alloc (.cells (eB s).toArray 141)).alloc (.cells a 142)).drew (w.heap.size+1) 142 a.toList.toArray:=by
   have:=ak.new (w.alloc (.cells (eB s).toArray 141)) 142 a;rw[e]at this;simpa using this.drew
  have:=ak.setCells (B.map aU) 0 _ _ b0 (by simp[b,c]);rw[Nat.zero_add,List.drop_of_length_le (by simp[b,c]),List.take_zero,List.nil_append,List.append_nil]at this;exact this
 ·exact Fr.setCells (fun h=>absurd h (by omega)) _ _ _ ((((Fr.refl _ w).alloc _).alloc _).drew)
 ·have b0:ak ((w.alloc (.cells a 142)).alloc (.cells (eB s).toArray 141)).drew (w.heap.size+1) 141 (eB s).toArray:=by
   have:=ak.new (w.alloc (.cells a 142)) 141 (eB s).toArray;rw[e]at this;exact this.drew
  exact b0.fr (Fr.setCells (T:=fun k=>k=w.heap.size) (fun _=>rfl) _ _ _ (Fr.refl _ _)) (by omega)
 ·have b0:ak ((w.alloc (.cells a 142)).alloc (.cells (eB s).toArray 141)).drew w.heap.size 142 a.toList.toArray:=by
   have:=(ak.new w 142 a).alloc (.cells (eB s).toArray 141);simpa using this.drew
  have:=ak.setCells (B.map aU) 0 _ _ b0 (by simp[b,c]);rw[Nat.zero_add,List.drop_of_length_le (by simp[b,c]),List.take_zero,List.nil_append,List.append_nil]at this;exact this
end Go.Proofs.YtphjagkehiklkaaGreatDoor
namespace Go.Proofs.YtphjagkehiklkaaGreatDoor
open Go.RowKit
structure Ho(M:List UInt8)(L:Nat)(B:List UInt8)(s:cm):Prop where
 len:B.length=64
 ok:s.ok
 eq:dk (eJ s (B.take 56++len8 L))=dL M
theorem sF(s:cm)(b:List UInt8):(eJ s b).ok:=xB _ _
theorem Dt(B:List UInt8)(h:B.length=64):bW B 0 (List.replicate 64 0)=List.replicate 64 0:=by
 unfold bW;rw[List.drop_of_length_le (by simp[h]),List.take_zero,List.nil_append,List.append_nil]
theorem Da{w:World}{g:Nat}{t:TypeId}{V:cm}{k:Nat}(h:ak w g t ((kT V (4*k)).map aU).toArray)(a:k<8):
  ak ((((w.setCell ⟨g,4*k,none⟩ (.int .u8 ((ev V k/16777216%256:Nat):Int))).setCell ⟨g,4*k+1,none⟩ (.int .u8 ((ev V k/65536%256:Nat):Int))).setCell ⟨g,4*k+2,none⟩ (.int .u8 ((ev V k/256%256:Nat):Int))).setCell ⟨g,4*k+3,none⟩ (.int .u8 ((ev V k%256:Nat):Int))) g t ((kT V (4*k+4)).map aU).toArray:=by
 have f:(dk V)[4*k]? =some (gm (ev V k/16777216)):=by simpa using r7 V k 0 a (by omega)
 have i:(dk V)[4*k+1]? =some (gm (ev V k/65536)):=by simpa using r7 V k 1 a (by omega)
 have j:(dk V)[4*k+2]? =some (gm (ev V k/256)):=by simpa using r7 V k 2 a (by omega)
 have x3:(dk V)[4*k+3]? =some (gm (ev V k)):=by simpa using r7 V k 3 a (by omega)
 rw[←gV,←gV,←gV,←gV];have b:=h.iV (4*k) (aU (gm (ev V k/16777216)));rw[List.setIfInBounds_toArray,od V (4*k) _ (by omega) f]at b;have c:=b.iV (4*k+1) (aU (gm (ev V k/65536)));rw[List.setIfInBounds_toArray,od V (4*k+1) _ (by omega) i]at c;have d:=c.iV (4*k+2) (aU (gm (ev V k/256)));rw[List.setIfInBounds_toArray,od V (4*k+2) _ (by omega) j]at d;have e:=d.iV (4*k+3) (aU (gm (ev V k)));rw[List.setIfInBounds_toArray,od V (4*k+3) _ (by omega) x3]at e;exact e
theorem oe{w:World}{g:Nat}{t:TypeId}{V:cm}{k i:Nat}(h:ak w g t ((kT V k).map aU).toArray)(b:k≤32)(a:i<32):∃u,w.cell? ⟨g,i,none⟩=some u:=by
 have hlen:i<((kT V k).map aU).length:=by rw[List.length_map,wE V k b];exact a
 rw[h.cell,List.getElem?_toArray];exact⟨_,List.getElem?_eq_getElem hlen⟩
theorem GI(B:List UInt8)(L:Nat):iT B L 8=B.take 56++len8 L:=rfl
theorem Cc(g:Nat)(M rest:List UInt8)(w:World)(H:lW w g M rest)(bi:bp w)(bT:M.length≤1099511627776)(a2:1≤M.length):
  Calls Tryz.prog 80 #[.pointer (some ⟨g,0,none⟩)] w (aH w (.agg ((dL M).map aU).toArray)):=by
 have bM:=Lib.hid H.ok;have aG:=Lib.hid (FU M rest H.ok (M.length%64) rfl);have ag:=Lib.hid (yN dn M IL (M.length/64));have R:=Lib.hid bi;obtain⟨H,ab,a4⟩:=H;clear a4;generalize fp dn M (M.length/64)=ST at*;obtain⟨I,Y⟩:∃I,I=((dL M).map aU).toArray:=⟨_,rfl⟩;rw[←Y];have U:=Lib.hid Y;obtain⟨L,N⟩:∃L,L=M.length:=⟨_,rfl⟩;have bL:=Lib.hid N;obtain⟨a,aI⟩:∃a,a=L%64:=⟨_,rfl⟩;have s:a<64:=by omega
 rw[←N,←aI]at aG;rw[←N]at H bT a2;have b3:=Lib.hid aI;have hm:((L:Nat):Int).tmod 64=(a:Int):=by rw[Int.tmod_eq_emod_of_nonneg (by omega),aI];omega
 clear Y bi N aI;have bf:w.cell? ⟨g,0,none⟩=some (.int .i64 (L:Nat)):=H.cell 0;have Q:w.rangeAt g 1 (eB ST):=by
  intro j v P;rw[←P];exact H.kr (pre:=[.int .i64 L]) (os:=1) rfl (List.getElem?_eq_some_iff.1 P).1
 have bt:w.rangeAt g 9 (rest.map aU):=by
  intro j v P;have b0:j<64:=by have:=(List.getElem?_eq_some_iff.1 P).1;simpa[ab]using this
  rw[oX H ab j b0,←P,List.getElem?_map,List.getElem?_eq_getElem (by omega)];rfl
 have HB:=Lib.hid H;have r:=Lib.hid ab;have a7:=Tryz.underlying141;have aD:=Tryz.underlying142;have i8:=Ib ST;have i64:(Tryz.prog.info? 142).map (·.size)=some (rest.map aU).length:=by rw[List.length_map,ab];exact EY
 have hlen:(rest.map aU).length=64:=by rw[List.length_map,ab]
 have av:∀v∈rest.map aU,v.oneCell'=true:=by
  intro v P;obtain⟨x,_,rfl⟩:=List.mem_map.1 P;rfl
 clear ab;generalize bh:rest.map aU=aP at*;have W:Hid (aP=rest.map aU):=bh.symm;clear bh H;go_enter Tryz.func80,Tryz.ntmps80;go_wp2_with(refine ai rfl 38 rfl aQ fW ay rfl ?_);intro w1 n1;have am:=Lib.hid n1;have ap:=n1.fr.aj bf (fun x=>x);have bu:=n1.fr.aj (Q 0 _ rfl) (fun x=>x);have s1:=n1.fr.aj (Q 1 _ rfl) (fun x=>x);have s2:=n1.fr.aj (Q 2 _ rfl) (fun x=>x);have bv:=n1.fr.aj (Q 3 _ rfl) (fun x=>x);have bw:=n1.fr.aj (Q 4 _ rfl) (fun x=>x);have bx:=n1.fr.aj (Q 5 _ rfl) (fun x=>x);have bz:=n1.fr.aj (Q 6 _ rfl) (fun x=>x);have bA:=n1.fr.aj (Q 7 _ rfl) (fun x=>x);simp only[iK,Nat.reduceAdd]at bu s1 s2 bv bw bx bz bA;have a6:w1.rangeAt g 9 aP:=fun j v P=>n1.fr.aj (bt j v P) (fun x=>x);have aT:g<w1.heap.size:=Nat.lt_of_lt_of_le HB.out.lt n1.fr.size;have bJ:Hid (g<w1.heap.size∧w.heap.size<w1.heap.size):=⟨aT,by have:=n1.size;omega⟩;clear n1 bf Q bt;go_upto_region 3 with fail;have t1:((w1.alloc (.cells #[.int .u32 (ST.a:Nat), .int .u32 (ST.b:Nat), .int .u32 (ST.c:Nat), .int .u32 (ST.d:Nat), .int .u32 (ST.e:Nat), .int .u32 (ST.f:Nat), .int .u32 (ST.g:Nat), .int .u32 (ST.h:Nat)] 141)).alloc (.cells #[.int .u8 0, .int .u8 0, .int .u8 0, .int .u8 0, .int .u8 0, .int .u8 0, .int .u8 0, .int .u8 0, .int .u8 0, .int .u8 0, .int .u8 0, .int .u8 0, .int .u8 0, .int .u8 0, .int .u8 0, .int .u8 0, .int .u8 0, .int .u8 0, .int .u8 0, .int .u8 0, .int .u8 0, .int .u8 0, .int .u8 0, .int .u8 0, .int .u8 0, .int .u8 0, .int .u8 0, .int .u8 0, .int .u8 0, .int .u8 0, .int .u8 0, .int .u8 0, .int .u8 0, .int .u8 0, .int .u8 0, .int .u8 0, .int .u8 0, .int .u8 0, .int .u8 0, .int .u8 0, .int .u8 0, .int .u8 0, .int .u8 0, .int .u8 0, .int .u8 0, .int .u8 0, .int .u8 0, .int .u8 0, .int .u8 0, .int .u8 0, .int .u8 0, .int .u8 0, .int .u8 0, .int .u8 0, .int .u8 0, .int .u8 0, .int .u8 0, .int .u8 0, .int .u8 0, .int .u8 0, .int .u8 0, .int .u8 0, .int .u8 0, .int .u8 0] 142)).drew.there (w1.heap.size+1) 0 64:=by
  have h:=(ak.new (w1.alloc (.cells #[.int .u32 (ST.a:Nat), .int .u32 (ST.b:Nat), .int .u32 (ST.c:Nat), .int .u32 (ST.d:Nat), .int .u32 (ST.e:Nat), .int .u32 (ST.f:Nat), .int .u32 (ST.g:Nat), .int .u32 (ST.h:Nat)] 141)) 142 #[.int .u8 0, .int .u8 0, .int .u8 0, .int .u8 0, .int .u8 0, .int .u8 0, .int .u8 0, .int .u8 0, .int .u8 0, .int .u8 0, .int .u8 0, .int .u8 0, .int .u8 0, .int .u8 0, .int .u8 0, .int .u8 0, .int .u8 0, .int .u8 0, .int .u8 0, .int .u8 0, .int .u8 0, .int .u8 0, .int .u8 0, .int .u8 0, .int .u8 0, .int .u8 0, .int .u8 0, .int .u8 0, .int .u8 0, .int .u8 0, .int .u8 0, .int .u8 0, .int .u8 0, .int .u8 0, .int .u8 0, .int .u8 0, .int .u8 0, .int .u8 0, .int .u8 0, .int .u8 0, .int .u8 0, .int .u8 0, .int .u8 0, .int .u8 0, .int .u8 0, .int .u8 0, .int .u8 0, .int .u8 0, .int .u8 0, .int .u8 0, .int .u8 0, .int .u8 0, .int .u8 0, .int .u8 0, .int .u8 0, .int .u8 0, .int .u8 0, .int .u8 0, .int .u8 0, .int .u8 0, .int .u8 0, .int .u8 0, .int .u8 0, .int .u8 0]).drew;rw[show(w1.alloc (.cells #[.int .u32 (ST.a:Nat), .int .u32 (ST.b:Nat), .int .u32 (ST.c:Nat), .int .u32 (ST.d:Nat), .int .u32 (ST.e:Nat), .int .u32 (ST.f:Nat), .int .u32 (ST.g:Nat), .int .u32 (ST.h:Nat)] 141)).heap.size=w1.heap.size+1 by simp]at h;exact kE h rfl
 have t2:((w1.alloc (.cells #[.int .u8 0, .int .u8 0, .int .u8 0, .int .u8 0, .int .u8 0, .int .u8 0, .int .u8 0, .int .u8 0, .int .u8 0, .int .u8 0, .int .u8 0, .int .u8 0, .int .u8 0, .int .u8 0, .int .u8 0, .int .u8 0, .int .u8 0, .int .u8 0, .int .u8 0, .int .u8 0, .int .u8 0, .int .u8 0, .int .u8 0, .int .u8 0, .int .u8 0, .int .u8 0, .int .u8 0, .int .u8 0, .int .u8 0, .int .u8 0, .int .u8 0, .int .u8 0, .int .u8 0, .int .u8 0, .int .u8 0, .int .u8 0, .int .u8 0, .int .u8 0, .int .u8 0, .int .u8 0, .int .u8 0, .int .u8 0, .int .u8 0, .int .u8 0, .int .u8 0, .int .u8 0, .int .u8 0, .int .u8 0, .int .u8 0, .int .u8 0, .int .u8 0, .int .u8 0, .int .u8 0, .int .u8 0, .int .u8 0, .int .u8 0, .int .u8 0, .int .u8 0, .int .u8 0, .int .u8 0, .int .u8 0, .int .u8 0, .int .u8 0, .int .u8 0] 142)).alloc (.cells #[.int .u32 (ST.a:Nat), .int .u32 (ST.b:Nat), .int .u32 (ST.c:Nat), .int .u32 (ST.d:Nat), .int .u32 (ST.e:Nat), .int .u32 (ST.f:Nat), .int .u32 (ST.g:Nat), .int .u32 (ST.h:Nat)] 141)).drew.there w1.heap.size 0 64:=
  kE ((ak.new w1 142 #[.int .u8 0, .int .u8 0, .int .u8 0, .int .u8 0, .int .u8 0, .int .u8 0, .int .u8 0, .int .u8 0, .int .u8 0, .int .u8 0, .int .u8 0, .int .u8 0, .int .u8 0, .int .u8 0, .int .u8 0, .int .u8 0, .int .u8 0, .int .u8 0, .int .u8 0, .int .u8 0, .int .u8 0, .int .u8 0, .int .u8 0, .int .u8 0, .int .u8 0, .int .u8 0, .int .u8 0, .int .u8 0, .int .u8 0, .int .u8 0, .int .u8 0, .int .u8 0, .int .u8 0, .int .u8 0, .int .u8 0, .int .u8 0, .int .u8 0, .int .u8 0, .int .u8 0, .int .u8 0, .int .u8 0, .int .u8 0, .int .u8 0, .int .u8 0, .int .u8 0, .int .u8 0, .int .u8 0, .int .u8 0, .int .u8 0, .int .u8 0, .int .u8 0, .int .u8 0, .int .u8 0, .int .u8 0, .int .u8 0, .int .u8 0, .int .u8 0, .int .u8 0, .int .u8 0, .int .u8 0, .int .u8 0, .int .u8 0, .int .u8 0, .int .u8 0]).alloc _).drew rfl;go_cut[0,2,3,4,5](fun ax aA aB aC a5 aF=>∃gs m,ax= .pointer (some ⟨g,0,none⟩)∧aA= .pointer (some ⟨w.heap.size,0,none⟩)∧aB= .pointer (some ⟨gs,0,none⟩)∧aC= .pointer (some ⟨m,0,none⟩)∧a5= .int .i64 a∧dR w1 aF gs m ST rest);case first=>
  go_region_held3(fun w'=>w'.cell? ⟨g,0,none⟩=some (.int .i64 (L:Nat))∧w'.cell? ⟨g,1,none⟩=some (.int .u32 (ST.a:Nat))∧w'.cell? ⟨g,2,none⟩=some (.int .u32 (ST.b:Nat))∧w'.cell? ⟨g,3,none⟩=some (.int .u32 (ST.c:Nat))∧w'.cell? ⟨g,4,none⟩=some (.int .u32 (ST.d:Nat))∧w'.cell? ⟨g,5,none⟩=some (.int .u32 (ST.e:Nat))∧w'.cell? ⟨g,6,none⟩=some (.int .u32 (ST.f:Nat))∧w'.cell? ⟨g,7,none⟩=some (.int .u32 (ST.g:Nat))∧w'.cell? ⟨g,8,none⟩=some (.int .u32 (ST.h:Nat))∧w'.rangeAt g 9 aP∧g<w'.heap.size)((go_split_ands;(repeat' constructor)<;>first|assumption|(refine kO (by assumption) (by omega))|(refine pe (by assumption) (by omega))|(refine qc (by assumption))|((repeat refine Lib.cell?_alloc_some _ ?_);assumption)|((repeat refine World.rangeAt_alloc ?_ _);assumption)|(simp;omega)))(first|fail);·go_wp2_with fail;go_meet;have h:=(vI (w:=w1) ST rest r.out #[.int .u8 0, .int .u8 0, .int .u8 0, .int .u8 0, .int .u8 0, .int .u8 0, .int .u8 0, .int .u8 0, .int .u8 0, .int .u8 0, .int .u8 0, .int .u8 0, .int .u8 0, .int .u8 0, .int .u8 0, .int .u8 0, .int .u8 0, .int .u8 0, .int .u8 0, .int .u8 0, .int .u8 0, .int .u8 0, .int .u8 0, .int .u8 0, .int .u8 0, .int .u8 0, .int .u8 0, .int .u8 0, .int .u8 0, .int .u8 0, .int .u8 0, .int .u8 0, .int .u8 0, .int .u8 0, .int .u8 0, .int .u8 0, .int .u8 0, .int .u8 0, .int .u8 0, .int .u8 0, .int .u8 0, .int .u8 0, .int .u8 0, .int .u8 0, .int .u8 0, .int .u8 0, .int .u8 0, .int .u8 0, .int .u8 0, .int .u8 0, .int .u8 0, .int .u8 0, .int .u8 0, .int .u8 0, .int .u8 0, .int .u8 0, .int .u8 0, .int .u8 0, .int .u8 0, .int .u8 0, .int .u8 0, .int .u8 0, .int .u8 0, .int .u8 0] rfl).1;rw[←W.out]at h;exact⟨_,_,rfl,rfl,rfl,rfl,rfl,h⟩
  ·go_wp2_with fail;go_meet;have h:=(vI (w:=w1) ST rest r.out #[.int .u8 0, .int .u8 0, .int .u8 0, .int .u8 0, .int .u8 0, .int .u8 0, .int .u8 0, .int .u8 0, .int .u8 0, .int .u8 0, .int .u8 0, .int .u8 0, .int .u8 0, .int .u8 0, .int .u8 0, .int .u8 0, .int .u8 0, .int .u8 0, .int .u8 0, .int .u8 0, .int .u8 0, .int .u8 0, .int .u8 0, .int .u8 0, .int .u8 0, .int .u8 0, .int .u8 0, .int .u8 0, .int .u8 0, .int .u8 0, .int .u8 0, .int .u8 0, .int .u8 0, .int .u8 0, .int .u8 0, .int .u8 0, .int .u8 0, .int .u8 0, .int .u8 0, .int .u8 0, .int .u8 0, .int .u8 0, .int .u8 0, .int .u8 0, .int .u8 0, .int .u8 0, .int .u8 0, .int .u8 0, .int .u8 0, .int .u8 0, .int .u8 0, .int .u8 0, .int .u8 0, .int .u8 0, .int .u8 0, .int .u8 0, .int .u8 0, .int .u8 0, .int .u8 0, .int .u8 0, .int .u8 0, .int .u8 0, .int .u8 0, .int .u8 0] rfl).2;rw[←W.out]at h;exact⟨_,_,rfl,rfl,rfl,rfl,rfl,h⟩
 case rest=>
  clear t1 t2;obtain⟨gs,m,rfl,rfl,rfl,rfl,rfl,o⟩:=hcut;clear bu s1 s2 bv bw bx bz bA a6 i8 i64 hlen av hm a7 aD W;have bR:wc.cell? ⟨g,0,none⟩=some (.int .i64 (L:Nat)):=o.fr.aj ap (fun x=>x);have cf:((L:Int)==0)=false:=by rw[beq_eq_false_iff_ne];omega
  have bU:(a:Int)<64:=by omega
  have t:=o.cell r.out a s;have u:wc.frozen? ⟨m,a,none⟩=false:=o.bb.frozen a;have an:Hid (dR w1 (wc.setCell ⟨m,a,none⟩ (.int .u8 128)) gs m ST (rest.set a 128)):=o.put a 128;clear o;go_upto_region 7 with fail;clear bR t u;generalize wc.setCell ⟨m,a,none⟩ (.int .u8 128)=w2 at*;obtain⟨p,a3⟩:∃p,p=w.heap.size:=⟨_,rfl⟩;rw[←a3];have aN:=Lib.hid a3;clear a3;go_cut[0,2,3,4,5](fun ax aA aB aC a5 aF=>ax= .pointer (some ⟨g,0,none⟩)∧aA= .pointer (some ⟨p,0,none⟩)∧aB= .pointer (some ⟨gs,0,none⟩)∧aC= .pointer (some ⟨m,0,none⟩)∧a5= .int .i64 a∧dR w1 aF gs m ST (lN rest a));case first=>
   by_cases G:a=63
   ·have O:=fun A ty=>yP w2 A 0 ty;rw[G,ER rest r.out]at an;have bK:=Lib.hid G;have bC:IntKind.i64.wrap ((a:Int)+1)=64:=by rw[G];rfl
    have bD:(a:Int)+1=64:=by omega
    clear G;go_wp2_with(simp only[O]);go_meet;exact⟨rfl,rfl,rfl,rfl,rfl,by rw[bK.out];exact an.out⟩
   ·obtain⟨C,Z⟩:∃C,C=a+1:=⟨_,rfl⟩;have O:=rJ an.out (by simp[r.out]) C (64-C) (64-C) (by omega) (by omega);have q:Hid (dR w1 (w2.setCells m C (List.replicate (64-C) (.int .u8 0))) gs m ST (lN rest a)):=by
     have h:=an.out.clear C (64-C) (by simp[r.out];omega);rw[Z,show 64-(a+1)=63-a by omega,xY rest a r.out s]at h;rw[Z,show 64-(a+1)=63-a by omega];exact h
    have bC:IntKind.i64.wrap ((a:Int)+1)=(C:Int):=(IntWalk.i64_in _ (by omega)).trans (by omega);have bD:(a:Int)+1=(C:Int):=by omega
    have x3:(C:Int)≤64:=by omega
    have ci:¬64=C:=by omega
    have cj:C≤64:=by omega
    clear Z G;go_wp2_with(simp only[O]);go_meet;exact⟨rfl,rfl,rfl,rfl,rfl,q.out⟩
  case rest=>
   obtain⟨rfl,rfl,rfl,rfl,rfl,o⟩:=hcut;have aa:=Lib.hid o;clear o an;go_upto_if 39 with fail;go_cut[0,2,3,4](fun ax aA aB aC aF=>ax= .pointer (some ⟨g,0,none⟩)∧aA= .pointer (some ⟨p,0,none⟩)∧aB= .pointer (some ⟨gs,0,none⟩)∧aC= .pointer (some ⟨m,0,none⟩)∧∃y B,dR w1 aF gs m y B∧Ho M L B y);case first=>
    have z:Hid (bp wc):=R.out.al (am.out.fr.trans aa.out.fr);by_cases a1:56≤a
    ·have ad:=Lib.hid (lA gs 0 m 0 141 [] [] ST ag.out (lN rest a) wc aa.out.state rfl (aa.out.cell0 (iB rest a r.out s)) z.out.kk);have aK:=Lib.hid (aG.out.2 a1);have aO:=Lib.hid (sF ST (lN rest a));generalize eJ ST (lN rest a)=bc at*;have bW:decide ((56:Int)≤(a:Int))=true:=by simp;omega
     go_wp2_with fail;refine ad.out.mono ?_;rintro e ac⟨rfl,f4,b4⟩;have bd:=Lib.hid (aa.out.BJ f4 b4);have O:=rJ bd.out (iB rest a r.out s) 0 64 64 (by omega) (by omega);have bQ:Hid (dR w1 (ac.setCells m 0 (List.replicate 64 (.int .u8 0))) gs m bc (List.replicate 64 0)):=by
      have h:=bd.out.clear 0 64 (by rw[iB rest a r.out s];omega);rw[Dt _ (iB rest a r.out s)]at h;exact h
     clear f4 b4 ad;go_wp2;go_meet;exact⟨rfl,rfl,rfl,rfl,bc,_,bQ.out,by simp,aO.out,aK.out⟩
    ·have aJ:=Lib.hid (aG.out.1 (by omega));have bW:decide ((56:Int)≤(a:Int))=false:=by simp;omega
     go_wp2;go_meet;exact⟨rfl,rfl,rfl,rfl,ST,_,aa.out,iB rest a r.out s,ag.out,aJ.out⟩
   case rest=>
    clear aG aa;obtain⟨rfl,rfl,rfl,rfl,y,B,o,K⟩:=hcut;have bS:wc.cell? ⟨g,0,none⟩=some (.int .i64 (L:Nat)):=o.fr.aj ap (fun x=>x);have l:=Lib.hid K.len;have ae:=Lib.hid K;have be:Hid (dR w1 wc gs m y (iT B L 0)):=by simp only[Hid];rw[Ab B L K.len];exact o
    clear o K;have b2:(8:Int)*(L:Int)≤8796093022208:=by omega
    go_wp2;go_loopw[48](fun i wr=>∃k:Nat,k≤8∧i= .int .i64 k∧dR w1 wr gs m y (iT B L k))(fun i _=>8-(intOf i).toNat);case atStart=>exact⟨0,by omega,rfl,be.out⟩
    case round=>
    obtain⟨k,bl,rfl,o⟩:=hrel;have n:=Lib.hid o;clear be bS o;have bV:k=0∨k=1∨k=2∨k=3∨k=4∨k=5∨k=6∨k=7∨k=8:=by omega
    clear bl;rcases bV with rfl|rfl|rfl|rfl|rfl|rfl|rfl|rfl|rfl
    ·have h:=n.out.put (63-0) (gm (8*L));rw[iy B L 0 l.out (by omega) _ (by simp[len8]),gV]at h;have q:Hid (dR w1 (wr.setCell ⟨m,63-0,none⟩ (.int .u8 ((8*L%256:Nat):Int))) gs m y (iT B L (0+1))):=h;have t:wr.cell? ⟨m,63-0,none⟩=some _:=n.out.cell (eN _ _ _ l.out (by omega)) (63-0) (by omega);have u:wr.frozen? ⟨m,63-0,none⟩=false:=n.out.bb.frozen _;simp only[Nat.reduceSub]at t u q;clear h n;go_wp2;go_roundw;case rel=>exact⟨1,by omega,by go_num,dR.val (by omega) q.out⟩
     case measure=>simp[intOf]
    ·have h:=n.out.put (63-1) (gm (8*L/256));rw[iy B L 1 l.out (by omega) _ (by simp[len8]),gV]at h;have q:Hid (dR w1 (wr.setCell ⟨m,63-1,none⟩ (.int .u8 ((8*L/256%256:Nat):Int))) gs m y (iT B L (1+1))):=h;have t:wr.cell? ⟨m,63-1,none⟩=some _:=n.out.cell (eN _ _ _ l.out (by omega)) (63-1) (by omega);have u:wr.frozen? ⟨m,63-1,none⟩=false:=n.out.bb.frozen _;simp only[Nat.reduceSub]at t u q;clear h n;go_wp2;go_roundw;case rel=>exact⟨2,by omega,by go_num,dR.val (by omega) q.out⟩
     case measure=>simp[intOf]
    ·have h:=n.out.put (63-2) (gm (8*L/65536));rw[iy B L 2 l.out (by omega) _ (by simp[len8]),gV]at h;have q:Hid (dR w1 (wr.setCell ⟨m,63-2,none⟩ (.int .u8 ((8*L/65536%256:Nat):Int))) gs m y (iT B L (2+1))):=h;have t:wr.cell? ⟨m,63-2,none⟩=some _:=n.out.cell (eN _ _ _ l.out (by omega)) (63-2) (by omega);have u:wr.frozen? ⟨m,63-2,none⟩=false:=n.out.bb.frozen _;simp only[Nat.reduceSub]at t u q;clear h n;go_wp2;go_roundw;case rel=>exact⟨3,by omega,by go_num,dR.val (by omega) q.out⟩
     case measure=>simp[intOf]
    ·have h:=n.out.put (63-3) (gm (8*L/16777216));rw[iy B L 3 l.out (by omega) _ (by simp[len8]),gV]at h;have q:Hid (dR w1 (wr.setCell ⟨m,63-3,none⟩ (.int .u8 ((8*L/16777216%256:Nat):Int))) gs m y (iT B L (3+1))):=h;have t:wr.cell? ⟨m,63-3,none⟩=some _:=n.out.cell (eN _ _ _ l.out (by omega)) (63-3) (by omega);have u:wr.frozen? ⟨m,63-3,none⟩=false:=n.out.bb.frozen _;simp only[Nat.reduceSub]at t u q;clear h n;go_wp2;go_roundw;case rel=>exact⟨4,by omega,by go_num,dR.val (by omega) q.out⟩
     case measure=>simp[intOf]
    ·have h:=n.out.put (63-4) (gm (8*L/4294967296));rw[iy B L 4 l.out (by omega) _ (by simp[len8]),gV]at h;have q:Hid (dR w1 (wr.setCell ⟨m,63-4,none⟩ (.int .u8 ((8*L/4294967296%256:Nat):Int))) gs m y (iT B L (4+1))):=h;have t:wr.cell? ⟨m,63-4,none⟩=some _:=n.out.cell (eN _ _ _ l.out (by omega)) (63-4) (by omega);have u:wr.frozen? ⟨m,63-4,none⟩=false:=n.out.bb.frozen _;simp only[Nat.reduceSub]at t u q;clear h n;go_wp2;go_roundw;case rel=>exact⟨5,by omega,by go_num,dR.val (by omega) q.out⟩
     case measure=>simp[intOf]
    ·have h:=n.out.put (63-5) (gm (8*L/1099511627776));rw[iy B L 5 l.out (by omega) _ (by simp[len8]),gV]at h;have q:Hid (dR w1 (wr.setCell ⟨m,63-5,none⟩ (.int .u8 ((8*L/1099511627776%256:Nat):Int))) gs m y (iT B L (5+1))):=h;have t:wr.cell? ⟨m,63-5,none⟩=some _:=n.out.cell (eN _ _ _ l.out (by omega)) (63-5) (by omega);have u:wr.frozen? ⟨m,63-5,none⟩=false:=n.out.bb.frozen _;simp only[Nat.reduceSub]at t u q;clear h n;go_wp2;go_roundw;case rel=>exact⟨6,by omega,by go_num,dR.val (by omega) q.out⟩
     case measure=>simp[intOf]
    ·have h:=n.out.put (63-6) (gm (8*L/281474976710656));rw[iy B L 6 l.out (by omega) _ (by simp[len8]),gV]at h;have q:Hid (dR w1 (wr.setCell ⟨m,63-6,none⟩ (.int .u8 ((8*L/281474976710656%256:Nat):Int))) gs m y (iT B L (6+1))):=h;have t:wr.cell? ⟨m,63-6,none⟩=some _:=n.out.cell (eN _ _ _ l.out (by omega)) (63-6) (by omega);have u:wr.frozen? ⟨m,63-6,none⟩=false:=n.out.bb.frozen _;simp only[Nat.reduceSub]at t u q;clear h n;go_wp2;go_roundw;case rel=>exact⟨7,by omega,by go_num,dR.val (by omega) q.out⟩
     case measure=>simp[intOf]
    ·have h:=n.out.put (63-7) (gm (8*L/72057594037927936));rw[iy B L 7 l.out (by omega) _ (by simp[len8]),gV]at h;have q:Hid (dR w1 (wr.setCell ⟨m,63-7,none⟩ (.int .u8 ((8*L/72057594037927936%256:Nat):Int))) gs m y (iT B L (7+1))):=h;have t:wr.cell? ⟨m,63-7,none⟩=some _:=n.out.cell (eN _ _ _ l.out (by omega)) (63-7) (by omega);have u:wr.frozen? ⟨m,63-7,none⟩=false:=n.out.bb.frozen _;simp only[Nat.reduceSub]at t u q;clear h n;go_wp2;go_roundw;case rel=>exact⟨8,by omega,by go_num,dR.val (by omega) q.out⟩
     case measure=>simp[intOf]
    ·rw[GI]at n;have z:Hid (bp wr):=R.out.al (am.out.fr.trans n.out.fr);have ar:(B.take 56++len8 L).length=64:=by simp[l.out,gM]
     have ad:=Lib.hid (lA gs 0 m 0 141 [] [] y ae.out.ok (B.take 56++len8 L) wr n.out.state rfl (n.out.cell0 ar) z.out.kk);have S:=Lib.hid ae.out.eq;have bN:=Lib.hid (sF y (B.take 56++len8 L));generalize eJ y (B.take 56++len8 L)=V at*;clear ar;go_wp2_with fail;refine ad.out.mono ?_;rintro e ac⟨rfl,f4,b4⟩;have J:=Lib.hid (n.out.BJ f4 b4);clear f4 b4 ad n;go_wp2_with(refine ai rfl 38 rfl aQ fW ay rfl ?_);intro aE aw;have aR:Hid (dR w1 aE gs m V (B.take 56++len8 L)):=⟨J.out.fr.trans aw.fr,J.out.ss.fr aw.fr (fun x=>x),J.out.bb.fr aw.fr (fun x=>x),J.out.os,J.out.ob⟩;have a9:=Lib.hid aw.az;have a8:Hid (ak aE p 38 ay):=by rw[aN.out];exact am.out.az.fr aR.out.fr (fun x=>x)
     have ba:Hid (Fr af w aE):=am.out.fr.trans aR.out.fr;have T:Hid (p<ac.heap.size∧gs<ac.heap.size∧w.heap.size≤ac.heap.size∧w.heap.size≤p):=⟨by have:=J.out.fr.size;have:=bJ.out;have:=aN.out;omega,J.out.ss.lt,(am.out.fr.trans J.out.fr).size,by have:=aN.out;omega⟩;clear aw J z;generalize ac.heap.size=g6 at*;obtain⟨aS,aq,aV,aW,aX,aY,aZ,a0⟩:=AN aR.out.ss;go_wp2;go_loopw[62](fun i wr=>∃k:Nat,k≤8∧i= .int .i64 k∧ak wr g6 38 ((kT V (4*k)).map aU).toArray∧Fr (fun k=>k=g6) aE wr)(fun i _=>8-(intOf i).toNat);case atStart=>exact⟨0,by omega,rfl,by rw[Nat.mul_zero,zM];exact a9.out,Fr.refl _ _⟩
     case round=>
     obtain⟨k,bl,rfl,bj,bk⟩:=hrel;have E:=Lib.hid bj;have F:=Lib.hid bk;clear bj bk a9 aS aq aV aW aX aY aZ a0;by_cases au:k<8
     ·have bZ:=uZ wr V k au;have b9:=GY V bN.out k;have D:=Da E.out au;have bE:Hid (Fr (fun k=>k=g6) aE ((((wr.setCell ⟨g6,4*k,none⟩ (.int .u8 ((ev V k/16777216%256:Nat):Int))).setCell ⟨g6,4*k+1,none⟩ (.int .u8 ((ev V k/65536%256:Nat):Int))).setCell ⟨g6,4*k+2,none⟩ (.int .u8 ((ev V k/256%256:Nat):Int))).setCell ⟨g6,4*k+3,none⟩ (.int .u8 ((ev V k%256:Nat):Int)))):=
       (((F.out.setCell (p:=⟨g6,4*k,none⟩) (fun _=>rfl) _).setCell (p:=⟨g6,4*k+1,none⟩) (fun _=>rfl) _).setCell (p:=⟨g6,4*k+2,none⟩) (fun _=>rfl) _).setCell (p:=⟨g6,4*k+3,none⟩) (fun _=>rfl) _;have bI:=Lib.hid D;obtain⟨v0,b5⟩:=oe E.out (i:=4*k) (by omega) (by omega);obtain⟨v1,b6⟩:=oe E.out (i:=4*k+1) (by omega) (by omega);obtain⟨v2,b7⟩:=oe E.out (i:=4*k+2) (by omega) (by omega);obtain⟨v3,b8⟩:=oe E.out (i:=4*k+3) (by omega) (by omega);have f0:=E.out.frozen (4*k);have f1:=E.out.frozen (4*k+1);have f2:=E.out.frozen (4*k+2);have f3:=E.out.frozen (4*k+3);have m0:IntKind.i64.wrap (4*(k:Int))=((4*k:Nat):Int):=(IntWalk.i64_in _ (by omega)).trans (by omega);have m1:IntKind.i64.wrap (((4*k:Nat):Int)+1)=((4*k+1:Nat):Int):=(IntWalk.i64_in _ (by omega)).trans (by omega);have m2:IntKind.i64.wrap (((4*k:Nat):Int)+2)=((4*k+2:Nat):Int):=(IntWalk.i64_in _ (by omega)).trans (by omega);have m3:IntKind.i64.wrap (((4*k:Nat):Int)+3)=((4*k+3:Nat):Int):=(IntWalk.i64_in _ (by omega)).trans (by omega);have n0:4*(k:Int)=((4*k:Nat):Int):=by omega
      have n1:((4*k:Nat):Int)+1=((4*k+1:Nat):Int):=by omega
      have ca:((4*k:Nat):Int)+2=((4*k+2:Nat):Int):=by omega
      have n3:((4*k:Nat):Int)+3=((4*k+3:Nat):Int):=by omega
      have cb:((4*k:Nat):Int)<32:=by omega
      have cc:((4*k+1:Nat):Int)<32:=by omega
      have cd:((4*k+2:Nat):Int)<32:=by omega
      have ce:((4*k+3:Nat):Int)<32:=by omega
      have bm:¬4*k=4*k+1:=by omega
      have bn:¬4*k=4*k+2:=by omega
      have bo:¬4*k=4*k+3:=by omega
      have bq:¬4*k+1=4*k+2:=by omega
      have br:¬4*k+1=4*k+3:=by omega
      have bs:¬4*k+2=4*k+3:=by omega
      have z0:((ev V k:Nat):Int)/16777216=((ev V k/16777216%256:Nat):Int):=by omega
      have z1:((ev V k:Nat):Int)/65536%256=((ev V k/65536%256:Nat):Int):=by omega
      have z2:((ev V k:Nat):Int)/256%256=((ev V k/256%256:Nat):Int):=by omega
      have z3:((ev V k:Nat):Int)%256=((ev V k%256:Nat):Int):=by omega
      have aM:Hid (4*(k+1)=4*k+4):=by simp only[Hid];omega
      have b1:(k:Int)<8:=by omega
      clear D E F;generalize ev V k/16777216%256=ch at*;generalize ev V k/65536%256=bC at*;generalize ev V k/256%256=bD at*;generalize ev V k%256=x3 at*;generalize ev V k=cg at*;generalize 4*k+1=i1 at*;generalize 4*k+2=i2 at*;generalize 4*k+3=i3 at*;generalize 4*k=i0 at*;go_wp2;go_roundw;case rel=>exact⟨k+1,by omega,by go_num,by rw[aM.out];exact bI.out,bE.out⟩
      case measure=>simp[intOf];omega
     ·have bX:decide ((k:Int)<8)=false:=by simp;omega
      have bG:Hid (ak wr g6 38 I):=by
       have h:=E.out;rw[show k=8 by omega,EK,S.out,←U.out]at h;exact h
      have bF:Hid (ak wr p 38 ay):=a8.out.fr F.out (fun e=>by have bg:p=g6:=e;have:=T.out;omega);have bH:Hid (Fr af w wr):=ba.out.ao F.out (fun i bY e=>by have bg:i=g6:=e;have:=T.out;omega);have X:Hid (I.size=32∧I.all (·.oneCell')=true):=by
       simp only[Hid];rw[U.out];refine⟨by rw[List.size_toArray,List.length_map,←S.out,gU],kg _⟩
      have aL:Hid ((Tryz.prog.info? 38).map (·.size)=some I.size):=by
       rw[X.out.1];exact dZ
      clear E F a8 ba U S;go_wp2_with(first|(refine wpList_load_row rfl 38 (.tmp 8) rfl g6 rfl _ I _ _ bG.out Tryz.underlying38 rfl aL.out ?_)|(refine ah rfl 38 (.tmp 2) _ rfl p I rfl rfl _ _ bF.out aL.out (by rw[X.out.1];rfl) X.out.2 ?_));intro bB b4 f4;have bO:=Lib.hid b4;have bP:Hid (Fr af w bB):=bH.out.ao f4 (fun i bY e=>by have bg:i=p:=e;have:=T.out;omega);clear b4 f4;go_wp2;exact bodyPost_ret (results_cell_row (fn:=Tryz.f80) (p:=2) (ty:=38) Tryz.results80 _ bB p 38 I (0,0) _ rfl bO.out Tryz.underlying38 rfl aL.out) rfl ⟨rfl,bP.out⟩
end Go.Proofs.YtphjagkehiklkaaGreatDoor
