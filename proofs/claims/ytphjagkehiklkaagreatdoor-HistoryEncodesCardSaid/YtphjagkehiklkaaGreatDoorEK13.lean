/- Texts. -/
import Derived.Test.YtphjagkehiklkaaGreatDoorEK12
set_option linter.unusedVariables false
set_option linter.unusedSimpArgs false
set_option maxRecDepth 100000
set_option maxHeartbeats 4000000
namespace Go.Proofs.YtphjagkehiklkaaGreatDoor
open Proofs.Tryz Go.RowKit
theorem jn(w:World):(zeroValue 38).run prog w= .ok bp w:=by kernel_rfl
theorem Nc(V:cZ):(prog.info? 141).map (·.size)=some (fQ V).length:=by kernel_rfl
theorem JT:(prog.info? 142).map (·.size)=some 64:=by kernel_rfl
theorem fC:(prog.info? 38).map (·.size)=some 32:=by kernel_rfl
theorem Nu(w:World):(zeroValue 5).run prog w= .ok (.int .u8 0) w:=by kernel_rfl
def nL(rest:List UInt8)(a:Nat):List UInt8:=rest.take a++128::List.replicate (63-a) 0
theorem jX(rest:List UInt8)(a:Nat)(b:rest.length=64)(c:a<64):(nL rest a).length=64:=by simp[nL,b];omega
theorem Bb(rest:List UInt8)(a:Nat)(b:rest.length=64)(c:a<64):cR (rest.set a 128) (a+1) (List.replicate (63-a) 0)=nL rest a:=by
 unfold cR nL;rw[List.drop_of_length_le (by simp[b];omega),List.append_nil,List.take_set,List.take_succ_eq_append_getElem (by omega:a<rest.length),List.set_append_right _ _ (by simp;omega)];simp[b];rw[show a-min a 64=0 by omega];rfl
theorem JL(rest:List UInt8)(a:rest.length=64):rest.set 63 128=nL rest 63:=by
 rw[<-Bb rest 63 a (by omega),cR];simp
def km(B:List UInt8)(L k:Nat):List UInt8:=B.take (64-k)++(len8 L).drop (8-k)
theorem gv(B:List UInt8)(L k:Nat)(a:B.length=64)(b:k<=8):(km B L k).length=64:=by simp[km,a,jh];omega
theorem EB(B:List UInt8)(L:Nat)(a:B.length=64):km B L 0=B:=by
 unfold km;rw[List.take_of_length_le (by omega),List.drop_of_length_le (by rw[jh];omega),List.append_nil]
theorem jP(B:List UInt8)(L k:Nat)(d:B.length=64)(e:k<8)(x:UInt8)(c:(len8 L)[7-k]? =some x):(km B L k).set (63-k) x=km B L (k+1):=by
 unfold km;rw[show 64-k=(63-k)+1 by omega,List.take_succ_eq_append_getElem (by omega:63-k<B.length),List.set_append_left _ _ (by simp;omega),List.set_append_right _ _ (by simp;omega)];obtain⟨a,b⟩:=List.getElem?_eq_some_iff.1 c;rw[show 64-(k+1)=63-k by omega,show 8-(k+1)=7-k by omega,List.drop_eq_getElem_cons a,b,show 7-k+1=8-k by omega];rw[show 63-k-(B.take (63-k)).length=0 by simp;omega];simp
theorem KJ(M rest:List UInt8)(h:lJ M rest)(a:Nat)(i:a=M.length%64):
  (a<56->ey (fZ (gO eC M (M.length/64)) ((nL rest a).take 56++len8 M.length))=eW M)/\
  (56<=a->ey (fZ (fZ (gO eC M (M.length/64)) (nL rest a)) ((List.replicate 64 0).take 56++len8 M.length))=eW M):=by
 have e:=JS M rest h;obtain⟨q,g⟩:∃q,q=M.length/64:=⟨_,rfl⟩;have c:(M.take (64*q)).length=64*q:=by rw[List.length_take,g];omega
 rw[<-i,<-g]at e;have b:(rest.take a).length=a:=by rw[List.length_take,h.1,i];omega
 have j:M.length=64*q+a:=by omega
 have k:gO eC M q=gO eC (M.take (64*q)) q:=by
  rw(occs:= .pos [1])[e];exact j9 eC _ _ q (by omega)
 rw[<-g,k,j];constructor;·intro f;have d:=Fo (M.take (64*q)) (rest.take a) q c (by omega);rw[<-e,b]at d;rw[d];congr 2;unfold nL;rw[show 63-a=(55-a)+8 by omega,<-List.replicate_append_replicate,<-List.cons_append,<-List.append_assoc,List.take_left' (by simp[b];omega)];simp
 ·intro f;have d:=IS (M.take (64*q)) (rest.take a) q c (by omega) (by omega);rw[<-e,b]at d;rw[d];congr 2
structure fh(w w':World)(gs a:Nat)(s:cZ)(B:List UInt8):Prop where
 fr:Fr Nothing w w'
 ss:aq w' gs 141 (fQ s).toArray
 bb:aq w' a 142 (B.map bK).toArray
 os:w.heap.size<=gs
 ob:w.heap.size<=a
theorem fh.ne{w w':World}{gs a:Nat}{s:cZ}{B:List UInt8}(h:fh w w' gs a s B):gs≠a:=h.ss.qW h.bb (by decide)
theorem fh.put{w w':World}{gs a:Nat}{s:cZ}{B:List UInt8}(h:fh w w' gs a s B)(i:Nat)(x:UInt8):fh w (w'.setCell ⟨a,i,none⟩ (bK x)) gs a s (B.set i x):=by
 refine⟨h.fr.setCell (λb=>absurd b (by have:=h.ob;simp only;omega)) _,h.ss.cJ (p:=⟨a,i,none⟩) h.ne _,?_,h.os,h.ob⟩;have:=h.bb.kq i (bK x);rwa[List.setIfInBounds_toArray,<-List.map_set]at this
theorem fh.val{w w':World}{gs a:Nat}{s:cZ}{B:List UInt8}{p:Addr}{x y:Int}(e:x=y)(h:fh w (w'.setCell p (.int .u8 y)) gs a s B):fh w (w'.setCell p (.int .u8 x)) gs a s B:=e▸h
theorem fh.IN{w w':World}{gs a:Nat}{s:cZ}{B:List UInt8}(h:fh w w' gs a s B)(d:Nat)(X:List UInt8)(c:d+X.length<=B.length):fh w (w'.setCells a d (X.map bK)) gs a s (cR B d X):=by
 refine⟨Fr.setCells (λb=>absurd b (by have:=h.ob;omega)) _ _ _ h.fr,h.ss.fr (Fr.setCells (T:=λk=>k=a) (λ_=>rfl) _ _ _ aA) h.ne,?_,h.os,h.ob⟩;have:=aq.setCells (X.map bK) d _ _ h.bb (by simpa using c);unfold cR;simpa[List.map_take,List.map_drop]using this
theorem fh.clear{w w':World}{gs a:Nat}{s:cZ}{B:List UInt8}(h:fh w w' gs a s B)(c n:Nat)(b:c+n<=B.length):fh w (w'.setCells a c (List.replicate n (.int .u8 0))) gs a s (cR B c (List.replicate n 0)):=by
 have:=h.IN c (List.replicate n 0) (by simpa using b);rwa[List.map_replicate]at this
theorem fh.Gy{w w' a:World}{gs b:Nat}{s d:cZ}{B:List UInt8}(h:fh w w' gs b s B)(c:Fr (λk=>k=gs) w' a)(f:aq a gs 141 ([]++fQ d++[]).toArray):fh w a gs b d B:=
 ⟨h.fr.aw c (λi j e=>by have g:i=gs:=e;have:=h.os;omega),by rwa[List.nil_append,List.append_nil]at f,h.bb.fr c (λe=>h.ne (Eq.symm e)),h.os,h.ob⟩
theorem fh.state{w w':World}{gs a:Nat}{s:cZ}{B:List UInt8}(h:fh w w' gs a s B):aq w' gs 141 ([]++fQ s++[]).toArray:=by rw[List.nil_append,List.append_nil];exact h.ss
theorem fh.cell{w w':World}{gs a:Nat}{s:cZ}{B:List UInt8}(h:fh w w' gs a s B)(b:B.length=64)(j:Nat)(c:j<64):w'.cell? ⟨a,j,none⟩=some (bK (B[j]?.getD 0)):=by
 rw[h.bb.cell,bP,List.getElem?_map,List.getElem?_eq_getElem (by omega)];rfl
theorem fh.cell0{w w':World}{gs a:Nat}{s:cZ}{B:List UInt8}(h:fh w w' gs a s B)(b:B.length=64)(j:Nat)(c:j<64):w'.cell? ⟨a,0+j,none⟩=some (bK (B[j]?.getD 0)):=by
 rw[Nat.zero_add];exact h.cell b j c
theorem ui{w w':World}{gs a:Nat}{s:cZ}{B:List UInt8}(h:fh w w' gs a s B)(b:B.length=64)(g n c:Nat)(d:0<n)(f:g+n<=64)(ty:TypeId):
  (Builtin.clear_ #[61] ty #[.slice (some ⟨a,g,none⟩) n c]).run prog w'= .ok (.tuple #[]) (w'.setCells a g (List.replicate n (.int .u8 0))):=
 Lib.run_clear_slice w' 61 5 ty (.int .u8 0) underlying61 Nu rfl rfl a g n c d (λj e=>by rw[h.cell b (g+j) (by omega)];rfl) (λ_ _=>h.bb.frozen _)
theorem Cr(w:World)(A:Option Addr)(c:Nat)(ty:TypeId):(Builtin.clear_ #[61] ty #[.slice A 0 c]).run prog w= .ok (.tuple #[]) w:=by
 cases A<;>simp[Builtin.clear_,run_underlying underlying61]
theorem mG{w:World}{g:Nat}{t:TypeId}{cs:Array Value}(h:aq w g t cs){n:Nat}(b:cs.size=n):w.there g 0 n:=λj a=>by
 rw[Nat.zero_add,h.cell,h.frozen];rw[Array.getElem?_eq_getElem (by omega)];exact⟨rfl,rfl⟩
theorem mN{w:World}{g x:Nat}{c d:Obj}{a:List Value}{i:Nat}{v:Value}(h:w.cell? ⟨g,i,none⟩=some v)(e:w.heap.size<=x):(((w.alloc c).alloc d).drew.setCells x 0 a).cell? ⟨g,i,none⟩=some v:=by
 rw[World.cell?_setCells_out _ _ _ _ _ (λb _=>absurd b (by have:=World.block_lt_of_cell? w _ h;simp only at this⊢;omega))];exact Lib.cell?_alloc_some _ (Lib.cell?_alloc_some _ h)
theorem qZ{w:World}{g x f:Nat}{d e:Obj}{a CV:List Value}(h:w.rangeAt g f CV)(c:w.heap.size<=x):(((w.alloc d).alloc e).drew.setCells x 0 a).rangeAt g f CV:=λj v b=>mN (h j v b) c
theorem se{w:World}{g x:Nat}{c d:Obj}{b:List Value}(h:g<w.heap.size):g<(((w.alloc c).alloc d).drew.setCells x 0 b).heap.size:=by
 have:=(Fr.setCells (T:=λ_=>True) (a:=w) (g:=x) (λ_=>trivial) b 0 _ ((((Fr.refl _ w).alloc c).alloc d).drew)).size;omega
theorem yI{w:World}(s:cZ)(B:List UInt8)(d:B.length=64)(a:Array Value)(c:a.size=64):
  fh w (((w.alloc (.cells (fQ s).toArray 141)).alloc (.cells a 142)).drew.setCells (w.heap.size+1) 0 (B.map bK)) w.heap.size (w.heap.size+1) s B/\
  fh w (((w.alloc (.cells a 142)).alloc (.cells (fQ s).toArray 141)).drew.setCells w.heap.size 0 (B.map bK)) (w.heap.size+1) w.heap.size s B:=by
 have e:∀f:Obj,(w.alloc f).heap.size=w.heap.size+1:=λf=>by simp
 have b:(B.map bK).length=64:=by rw[List.length_map,d]
 refine⟨⟨?_,?_,?_,Nat.le_refl _,by omega⟩,⟨?_,?_,?_,by omega,Nat.le_refl _⟩⟩;·exact Fr.setCells (λh=>absurd h (by omega)) _ _ _ ((((Fr.refl _ w).alloc _).alloc _).drew)
 ·exact(((aq.new w _ _).alloc _).drew).fr (Fr.setCells (T:=λk=>k=w.heap.size+1) (λ_=>rfl) _ _ _ aA) (by omega)
 ·have b0:aq ((w.alloc (.cells (fQ s).toArray 141)).alloc (.cells a 142)).drew (w.heap.size+1) 142 a.toList.toArray:=by
   have:=aq.new (w.alloc (.cells (fQ s).toArray 141)) 142 a;rw[e]at this;simpa using this.drew
  have:=aq.setCells (B.map bK) 0 _ _ b0 (by simp[b,c]);rw[Nat.zero_add,List.drop_of_length_le (by simp[b,c]),List.take_zero,List.nil_append,List.append_nil]at this;exact this
 ·exact Fr.setCells (λh=>absurd h (by omega)) _ _ _ ((((Fr.refl _ w).alloc _).alloc _).drew)
 ·have b0:aq ((w.alloc (.cells a 142)).alloc (.cells (fQ s).toArray 141)).drew (w.heap.size+1) 141 (fQ s).toArray:=by
   have:=aq.new (w.alloc (.cells a 142)) 141 (fQ s).toArray;rw[e]at this;exact this.drew
  exact b0.fr (Fr.setCells (T:=λk=>k=w.heap.size) (λ_=>rfl) _ _ _ aA) (by omega)
 ·have b0:aq ((w.alloc (.cells a 142)).alloc (.cells (fQ s).toArray 141)).drew w.heap.size 142 a.toList.toArray:=by
   have:=(aq.new w 142 a).alloc (.cells (fQ s).toArray 141);simpa using this.drew
  have:=aq.setCells (B.map bK) 0 _ _ b0 (by simp[b,c]);rw[Nat.zero_add,List.drop_of_length_le (by simp[b,c]),List.take_zero,List.nil_append,List.append_nil]at this;exact this
structure MH(M:List UInt8)(L:Nat)(B:List UInt8)(s:cZ):Prop where
 len:B.length=64
 ok:s.ok
 eq:ey (fZ s (B.take 56++len8 L))=eW M
theorem vm(s:cZ)(b:List UInt8):(fZ s b).ok:=Ay _ _
theorem Iq(B:List UInt8)(h:B.length=64):cR B 0 (List.replicate 64 0)=List.replicate 64 0:=by
 unfold cR;rw[List.drop_of_length_le (by simp[h]),List.take_zero,List.nil_append,List.append_nil]
theorem Hs{w:World}{g:Nat}{t:TypeId}{V:cZ}{k:Nat}(h:aq w g t ((mS V (4*k)).map bK).toArray)(a:k<8):
  aq ((((w.setCell ⟨g,4*k,none⟩ (.int .u8 ((fL V k/16777216%256:Nat):Int))).setCell ⟨g,4*k+1,none⟩ (.int .u8 ((fL V k/65536%256:Nat):Int))).setCell ⟨g,4*k+2,none⟩ (.int .u8 ((fL V k/256%256:Nat):Int))).setCell ⟨g,4*k+3,none⟩ (.int .u8 ((fL V k%256:Nat):Int))) g t ((mS V (4*k+4)).map bK).toArray:=by
 have f:(ey V)[4*k]? =some (iP (fL V k/16777216)):=by simpa using uG V k 0 a (by omega)
 have i:(ey V)[4*k+1]? =some (iP (fL V k/65536)):=by simpa using uG V k 1 a (by omega)
 have j:(ey V)[4*k+2]? =some (iP (fL V k/256)):=by simpa using uG V k 2 a (by omega)
 have x3:(ey V)[4*k+3]? =some (iP (fL V k)):=by simpa using uG V k 3 a (by omega)
 rw[<-jB,<-jB,<-jB,<-jB];have b:=h.kq (4*k) (bK (iP (fL V k/16777216)));rw[List.setIfInBounds_toArray,qd V (4*k) _ (by omega) f]at b;have c:=b.kq (4*k+1) (bK (iP (fL V k/65536)));rw[List.setIfInBounds_toArray,qd V (4*k+1) _ (by omega) i]at c;have d:=c.kq (4*k+2) (bK (iP (fL V k/256)));rw[List.setIfInBounds_toArray,qd V (4*k+2) _ (by omega) j]at d;have e:=d.kq (4*k+3) (bK (iP (fL V k)));rw[List.setIfInBounds_toArray,qd V (4*k+3) _ (by omega) x3]at e;exact e
theorem qe{w:World}{g:Nat}{t:TypeId}{V:cZ}{k i:Nat}(h:aq w g t ((mS V k).map bK).toArray)(b:k<=32)(a:i<32):∃u,w.cell? ⟨g,i,none⟩=some u:=by
 have hlen:i<((mS V k).map bK).length:=by rw[List.length_map,zn V k b];exact a
 rw[h.cell,bP];exact⟨_,List.getElem?_eq_getElem hlen⟩
theorem LX(B:List UInt8)(L:Nat):km B L 8=B.take 56++len8 L:=rfl
theorem GN(g:Nat)(M rest:List UInt8)(w:World)(H:oa w g M rest)(hT:bU w)(bR:M.length<=1099511627776)(a0:1<=M.length):
  Calls prog 80 #[.pointer (some ⟨g,0,none⟩)] w (aM w (.agg ((eW M).map bK).toArray)):=by
 have bJ:=af H.ok;have aE:=af (KJ M rest H.ok (M.length%64) rfl);have ag:=af (Cp eC M yp (M.length/64));have R:=af hT;obtain⟨H,ab,a2⟩:=H;clear a2;generalize gO eC M (M.length/64)=ST at*;obtain⟨I,Y⟩:∃I,I=((eW M).map bK).toArray:=⟨_,rfl⟩;rw[<-Y];have U:=af Y;obtain⟨L,N⟩:∃L,L=M.length:=⟨_,rfl⟩;have bI:=af N;obtain⟨a,aG⟩:∃a,a=L%64:=⟨_,rfl⟩;have s:a<64:=by omega
 rw[<-N,<-aG]at aE;rw[<-N]at H bR a0;have b2:=af aG;have hm:((L:Nat):Int).tmod 64=(a:Int):=by rw[Int.tmod_eq_emod_of_nonneg (by omega),aG];omega
 clear Y hT N aG;have bd:w.cell? ⟨g,0,none⟩=some (.int .i64 (L:Nat)):=H.cell 0;have Q:w.rangeAt g 1 (fQ ST):=by
  intro j v P;rw[<-P];exact H.kF (pre:=[.int .i64 L]) (os:=1) rfl (List.getElem?_eq_some_iff.1 P).1
 have bq:w.rangeAt g 9 (rest.map bK):=by
  intro j v P;have bZ:j<64:=by have:=(List.getElem?_eq_some_iff.1 P).1;simpa[ab]using this
  rw[qQ H ab j bZ,<-P,List.getElem?_map,List.getElem?_eq_getElem (by omega)];rfl
 have HB:=af H;have r:=af ab;have a5:=underlying141;have aB:=underlying142;have i8:=Nc ST;have i64:(prog.info? 142).map (·.size)=some (rest.map bK).length:=by rw[List.length_map,ab];exact JT
 have hlen:(rest.map bK).length=64:=by rw[List.length_map,ab]
 have au:∀v∈rest.map bK,v.oneCell'=true:=by
  intro v P;obtain⟨x,_,rfl⟩:=List.mem_map.1 P;rfl
 clear ab;generalize bf:rest.map bK=aP at*;have W:Hid (aP=rest.map bK):=bf.symm;clear bf H;go_enter func80,ntmps80;go_wp2_with(refine an rfl 38 rfl bp jn aH rfl ?_);intro w1 n1;have ah:=af n1;have al:=n1.fr.ak bd id;have br:=n1.fr.ak (Q 0 _ rfl) id;have s1:=n1.fr.ak (Q 1 _ rfl) id;have s2:=n1.fr.ak (Q 2 _ rfl) id;have bs:=n1.fr.ak (Q 3 _ rfl) id;have bt:=n1.fr.ak (Q 4 _ rfl) id;have bu:=n1.fr.ak (Q 5 _ rfl) id;have bv:=n1.fr.ak (Q 6 _ rfl) id;have bw:=n1.fr.ak (Q 7 _ rfl) id;simp only[ke,Nat.reduceAdd]at br s1 s2 bs bt bu bv bw;have a4:w1.rangeAt g 9 aP:=λj v P=>n1.fr.ak (bq j v P) id;have aS:g<w1.heap.size:=Nat.lt_of_lt_of_le HB.out.lt n1.fr.size;have bG:Hid (g<w1.heap.size/\w.heap.size<w1.heap.size):=⟨aS,by have:=n1.size;omega⟩;clear n1 bd Q bq;go_upto_region 3 with fail;have t1:((w1.alloc (.cells #[.int .u32 (ST.a:Nat), .int .u32 (ST.b:Nat), .int .u32 (ST.c:Nat), .int .u32 (ST.d:Nat), .int .u32 (ST.e:Nat), .int .u32 (ST.f:Nat), .int .u32 (ST.g:Nat), .int .u32 (ST.h:Nat)] 141)).alloc (.cells #[.int .u8 0, .int .u8 0, .int .u8 0, .int .u8 0, .int .u8 0, .int .u8 0, .int .u8 0, .int .u8 0, .int .u8 0, .int .u8 0, .int .u8 0, .int .u8 0, .int .u8 0, .int .u8 0, .int .u8 0, .int .u8 0, .int .u8 0, .int .u8 0, .int .u8 0, .int .u8 0, .int .u8 0, .int .u8 0, .int .u8 0, .int .u8 0, .int .u8 0, .int .u8 0, .int .u8 0, .int .u8 0, .int .u8 0, .int .u8 0, .int .u8 0, .int .u8 0, .int .u8 0, .int .u8 0, .int .u8 0, .int .u8 0, .int .u8 0, .int .u8 0, .int .u8 0, .int .u8 0, .int .u8 0, .int .u8 0, .int .u8 0, .int .u8 0, .int .u8 0, .int .u8 0, .int .u8 0, .int .u8 0, .int .u8 0, .int .u8 0, .int .u8 0, .int .u8 0, .int .u8 0, .int .u8 0, .int .u8 0, .int .u8 0, .int .u8 0, .int .u8 0, .int .u8 0, .int .u8 0, .int .u8 0, .int .u8 0, .int .u8 0, .int .u8 0] 142)).drew.there (w1.heap.size+1) 0 64:=by
  have h:=(aq.new (w1.alloc (.cells #[.int .u32 (ST.a:Nat), .int .u32 (ST.b:Nat), .int .u32 (ST.c:Nat), .int .u32 (ST.d:Nat), .int .u32 (ST.e:Nat), .int .u32 (ST.f:Nat), .int .u32 (ST.g:Nat), .int .u32 (ST.h:Nat)] 141)) 142 #[.int .u8 0, .int .u8 0, .int .u8 0, .int .u8 0, .int .u8 0, .int .u8 0, .int .u8 0, .int .u8 0, .int .u8 0, .int .u8 0, .int .u8 0, .int .u8 0, .int .u8 0, .int .u8 0, .int .u8 0, .int .u8 0, .int .u8 0, .int .u8 0, .int .u8 0, .int .u8 0, .int .u8 0, .int .u8 0, .int .u8 0, .int .u8 0, .int .u8 0, .int .u8 0, .int .u8 0, .int .u8 0, .int .u8 0, .int .u8 0, .int .u8 0, .int .u8 0, .int .u8 0, .int .u8 0, .int .u8 0, .int .u8 0, .int .u8 0, .int .u8 0, .int .u8 0, .int .u8 0, .int .u8 0, .int .u8 0, .int .u8 0, .int .u8 0, .int .u8 0, .int .u8 0, .int .u8 0, .int .u8 0, .int .u8 0, .int .u8 0, .int .u8 0, .int .u8 0, .int .u8 0, .int .u8 0, .int .u8 0, .int .u8 0, .int .u8 0, .int .u8 0, .int .u8 0, .int .u8 0, .int .u8 0, .int .u8 0, .int .u8 0, .int .u8 0]).drew;rw[show(w1.alloc (.cells #[.int .u32 (ST.a:Nat), .int .u32 (ST.b:Nat), .int .u32 (ST.c:Nat), .int .u32 (ST.d:Nat), .int .u32 (ST.e:Nat), .int .u32 (ST.f:Nat), .int .u32 (ST.g:Nat), .int .u32 (ST.h:Nat)] 141)).heap.size=w1.heap.size+1 by simp]at h;exact mG h rfl
 have t2:((w1.alloc (.cells #[.int .u8 0, .int .u8 0, .int .u8 0, .int .u8 0, .int .u8 0, .int .u8 0, .int .u8 0, .int .u8 0, .int .u8 0, .int .u8 0, .int .u8 0, .int .u8 0, .int .u8 0, .int .u8 0, .int .u8 0, .int .u8 0, .int .u8 0, .int .u8 0, .int .u8 0, .int .u8 0, .int .u8 0, .int .u8 0, .int .u8 0, .int .u8 0, .int .u8 0, .int .u8 0, .int .u8 0, .int .u8 0, .int .u8 0, .int .u8 0, .int .u8 0, .int .u8 0, .int .u8 0, .int .u8 0, .int .u8 0, .int .u8 0, .int .u8 0, .int .u8 0, .int .u8 0, .int .u8 0, .int .u8 0, .int .u8 0, .int .u8 0, .int .u8 0, .int .u8 0, .int .u8 0, .int .u8 0, .int .u8 0, .int .u8 0, .int .u8 0, .int .u8 0, .int .u8 0, .int .u8 0, .int .u8 0, .int .u8 0, .int .u8 0, .int .u8 0, .int .u8 0, .int .u8 0, .int .u8 0, .int .u8 0, .int .u8 0, .int .u8 0, .int .u8 0] 142)).alloc (.cells #[.int .u32 (ST.a:Nat), .int .u32 (ST.b:Nat), .int .u32 (ST.c:Nat), .int .u32 (ST.d:Nat), .int .u32 (ST.e:Nat), .int .u32 (ST.f:Nat), .int .u32 (ST.g:Nat), .int .u32 (ST.h:Nat)] 141)).drew.there w1.heap.size 0 64:=
  mG ((aq.new w1 142 #[.int .u8 0, .int .u8 0, .int .u8 0, .int .u8 0, .int .u8 0, .int .u8 0, .int .u8 0, .int .u8 0, .int .u8 0, .int .u8 0, .int .u8 0, .int .u8 0, .int .u8 0, .int .u8 0, .int .u8 0, .int .u8 0, .int .u8 0, .int .u8 0, .int .u8 0, .int .u8 0, .int .u8 0, .int .u8 0, .int .u8 0, .int .u8 0, .int .u8 0, .int .u8 0, .int .u8 0, .int .u8 0, .int .u8 0, .int .u8 0, .int .u8 0, .int .u8 0, .int .u8 0, .int .u8 0, .int .u8 0, .int .u8 0, .int .u8 0, .int .u8 0, .int .u8 0, .int .u8 0, .int .u8 0, .int .u8 0, .int .u8 0, .int .u8 0, .int .u8 0, .int .u8 0, .int .u8 0, .int .u8 0, .int .u8 0, .int .u8 0, .int .u8 0, .int .u8 0, .int .u8 0, .int .u8 0, .int .u8 0, .int .u8 0, .int .u8 0, .int .u8 0, .int .u8 0, .int .u8 0, .int .u8 0, .int .u8 0, .int .u8 0, .int .u8 0]).alloc _).drew rfl;go_cut[0,2,3,4,5](λav ax ay az a3 aD=>∃gs m,av= .pointer (some ⟨g,0,none⟩)/\ax= .pointer (some ⟨w.heap.size,0,none⟩)/\ay= .pointer (some ⟨gs,0,none⟩)/\az= .pointer (some ⟨m,0,none⟩)/\a3= .int .i64 a/\fh w1 aD gs m ST rest);case first=>
  go_region_held3(λw'=>w'.cell? ⟨g,0,none⟩=some (.int .i64 (L:Nat))/\w'.cell? ⟨g,1,none⟩=some (.int .u32 (ST.a:Nat))/\w'.cell? ⟨g,2,none⟩=some (.int .u32 (ST.b:Nat))/\w'.cell? ⟨g,3,none⟩=some (.int .u32 (ST.c:Nat))/\w'.cell? ⟨g,4,none⟩=some (.int .u32 (ST.d:Nat))/\w'.cell? ⟨g,5,none⟩=some (.int .u32 (ST.e:Nat))/\w'.cell? ⟨g,6,none⟩=some (.int .u32 (ST.f:Nat))/\w'.cell? ⟨g,7,none⟩=some (.int .u32 (ST.g:Nat))/\w'.cell? ⟨g,8,none⟩=some (.int .u32 (ST.h:Nat))/\w'.rangeAt g 9 aP/\g<w'.heap.size)((go_split_ands;(repeat' constructor)<;>first|assumption|(refine mN (by assumption) (by omega))|(refine qZ (by assumption) (by omega))|(refine se (by assumption))|((repeat refine Lib.cell?_alloc_some _ ?_);assumption)|((repeat refine World.rangeAt_alloc ?_ _);assumption)|(simp;omega)))(first|fail);·go_wp2_with fail;go_meet;have h:=(yI (w:=w1) ST rest r.out #[.int .u8 0, .int .u8 0, .int .u8 0, .int .u8 0, .int .u8 0, .int .u8 0, .int .u8 0, .int .u8 0, .int .u8 0, .int .u8 0, .int .u8 0, .int .u8 0, .int .u8 0, .int .u8 0, .int .u8 0, .int .u8 0, .int .u8 0, .int .u8 0, .int .u8 0, .int .u8 0, .int .u8 0, .int .u8 0, .int .u8 0, .int .u8 0, .int .u8 0, .int .u8 0, .int .u8 0, .int .u8 0, .int .u8 0, .int .u8 0, .int .u8 0, .int .u8 0, .int .u8 0, .int .u8 0, .int .u8 0, .int .u8 0, .int .u8 0, .int .u8 0, .int .u8 0, .int .u8 0, .int .u8 0, .int .u8 0, .int .u8 0, .int .u8 0, .int .u8 0, .int .u8 0, .int .u8 0, .int .u8 0, .int .u8 0, .int .u8 0, .int .u8 0, .int .u8 0, .int .u8 0, .int .u8 0, .int .u8 0, .int .u8 0, .int .u8 0, .int .u8 0, .int .u8 0, .int .u8 0, .int .u8 0, .int .u8 0, .int .u8 0, .int .u8 0] rfl).1;rw[<-W.out]at h;exact⟨_,_,rfl,rfl,rfl,rfl,rfl,h⟩
  ·go_wp2_with fail;go_meet;have h:=(yI (w:=w1) ST rest r.out #[.int .u8 0, .int .u8 0, .int .u8 0, .int .u8 0, .int .u8 0, .int .u8 0, .int .u8 0, .int .u8 0, .int .u8 0, .int .u8 0, .int .u8 0, .int .u8 0, .int .u8 0, .int .u8 0, .int .u8 0, .int .u8 0, .int .u8 0, .int .u8 0, .int .u8 0, .int .u8 0, .int .u8 0, .int .u8 0, .int .u8 0, .int .u8 0, .int .u8 0, .int .u8 0, .int .u8 0, .int .u8 0, .int .u8 0, .int .u8 0, .int .u8 0, .int .u8 0, .int .u8 0, .int .u8 0, .int .u8 0, .int .u8 0, .int .u8 0, .int .u8 0, .int .u8 0, .int .u8 0, .int .u8 0, .int .u8 0, .int .u8 0, .int .u8 0, .int .u8 0, .int .u8 0, .int .u8 0, .int .u8 0, .int .u8 0, .int .u8 0, .int .u8 0, .int .u8 0, .int .u8 0, .int .u8 0, .int .u8 0, .int .u8 0, .int .u8 0, .int .u8 0, .int .u8 0, .int .u8 0, .int .u8 0, .int .u8 0, .int .u8 0, .int .u8 0] rfl).2;rw[<-W.out]at h;exact⟨_,_,rfl,rfl,rfl,rfl,rfl,h⟩
 case rest=>
  clear t1 t2;obtain⟨gs,m,rfl,rfl,rfl,rfl,rfl,o⟩:=hcut;clear br s1 s2 bs bt bu bv bw a4 i8 i64 hlen au hm a5 aB W;have bP:wc.cell? ⟨g,0,none⟩=some (.int .i64 (L:Nat)):=o.fr.ak al id;have ce:((L:Int)==0)=false:=by rw[beq_eq_false_iff_ne];omega
  have bS:(a:Int)<64:=by omega
  have t:=o.cell r.out a s;have u:wc.frozen? ⟨m,a,none⟩=false:=o.bb.frozen a;have aj:Hid (fh w1 (wc.setCell ⟨m,a,none⟩ (.int .u8 128)) gs m ST (rest.set a 128)):=o.put a 128;clear o;go_upto_region 7 with fail;clear bP t u;generalize wc.setCell ⟨m,a,none⟩ (.int .u8 128)=w2 at*;obtain⟨p,a1⟩:∃p,p=w.heap.size:=⟨_,rfl⟩;rw[<-a1];have aN:=af a1;clear a1;go_cut[0,2,3,4,5](λav ax ay az a3 aD=>av= .pointer (some ⟨g,0,none⟩)/\ax= .pointer (some ⟨p,0,none⟩)/\ay= .pointer (some ⟨gs,0,none⟩)/\az= .pointer (some ⟨m,0,none⟩)/\a3= .int .i64 a/\fh w1 aD gs m ST (nL rest a));case first=>
   by_cases G:a=63
   ·have O:=λA ty=>Cr w2 A 0 ty;rw[G,JL rest r.out]at aj;have bH:=af G;have bz:IntKind.i64.wrap ((a:Int)+1)=64:=by rw[G];rfl
    have bA:(a:Int)+1=64:=by omega
    clear G;go_wp2_with(simp only[O]);go_meet;exact⟨rfl,rfl,rfl,rfl,rfl,by rw[bH.out];exact aj.out⟩
   ·obtain⟨C,Z⟩:∃C,C=a+1:=⟨_,rfl⟩;have O:=ui aj.out (by simp[r.out]) C (64-C) (64-C) (by omega) (by omega);have q:Hid (fh w1 (w2.setCells m C (List.replicate (64-C) (.int .u8 0))) gs m ST (nL rest a)):=by
     have h:=aj.out.clear C (64-C) (by simp[r.out];omega);rw[Z,show 64-(a+1)=63-a by omega,Bb rest a r.out s]at h;rw[Z,show 64-(a+1)=63-a by omega];exact h
    have bz:IntKind.i64.wrap ((a:Int)+1)=(C:Int):=(IntWalk.i64_in _ (by omega)).trans (by omega);have bA:(a:Int)+1=(C:Int):=by omega
    have x3:(C:Int)<=64:=by omega
    have ch:¬64=C:=by omega
    have ci:C<=64:=by omega
    clear Z G;go_wp2_with(simp only[O]);go_meet;exact⟨rfl,rfl,rfl,rfl,rfl,q.out⟩
  case rest=>
   obtain⟨rfl,rfl,rfl,rfl,rfl,o⟩:=hcut;have aa:=af o;clear o aj;go_upto_if 39 with fail;go_cut[0,2,3,4](λav ax ay az aD=>av= .pointer (some ⟨g,0,none⟩)/\ax= .pointer (some ⟨p,0,none⟩)/\ay= .pointer (some ⟨gs,0,none⟩)/\az= .pointer (some ⟨m,0,none⟩)/\∃y B,fh w1 aD gs m y B/\MH M L B y);case first=>
    have z:Hid (bU wc):=R.out.ao (ah.out.fr.trans aa.out.fr);by_cases aZ:56<=a
    ·have ad:=af (nk gs 0 m 0 141 [] [] ST ag.out (nL rest a) wc aa.out.state rfl (aa.out.cell0 (jX rest a r.out s)) z.out.kk);have aJ:=af (aE.out.2 aZ);have aO:=af (vm ST (nL rest a));generalize fZ ST (nL rest a)=a9 at*;have bV:decide ((56:Int)<=(a:Int))=true:=by simp;omega
     go_wp2_with fail;refine ad.out.mono ?_;rintro e ac⟨rfl,f4,b4⟩;have ba:=af (aa.out.Gy f4 b4);have O:=ui ba.out (jX rest a r.out s) 0 64 64 (by omega) (by omega);have bO:Hid (fh w1 (ac.setCells m 0 (List.replicate 64 (.int .u8 0))) gs m a9 (List.replicate 64 0)):=by
      have h:=ba.out.clear 0 64 (by rw[jX rest a r.out s];omega);rw[Iq _ (jX rest a r.out s)]at h;exact h
     clear f4 b4 ad;go_wp2;go_meet;exact⟨rfl,rfl,rfl,rfl,a9,_,bO.out,by simp,aO.out,aJ.out⟩
    ·have aI:=af (aE.out.1 (by omega));have bV:decide ((56:Int)<=(a:Int))=false:=by simp;omega
     go_wp2;go_meet;exact⟨rfl,rfl,rfl,rfl,ST,_,aa.out,jX rest a r.out s,ag.out,aI.out⟩
   case rest=>
    clear aE aa;obtain⟨rfl,rfl,rfl,rfl,y,B,o,K⟩:=hcut;have bQ:wc.cell? ⟨g,0,none⟩=some (.int .i64 (L:Nat)):=o.fr.ak al id;have l:=af K.len;have ae:=af K;have bc:Hid (fh w1 wc gs m y (km B L 0)):=by simp only[Hid];rw[EB B L K.len];exact o
    clear o K;have b1:(8:Int)*(L:Int)<=8796093022208:=by omega
    go_wp2;go_loopw[48](λi wr=>∃k:Nat,k<=8/\i= .int .i64 k/\fh w1 wr gs m y (km B L k))(λi _=>8-(intOf i).toNat);case atStart=>exact⟨0,by omega,rfl,bc.out⟩
    case round=>
    obtain⟨k,bi,rfl,o⟩:=hrel;have n:=af o;clear bc bQ o;have bT:k=0\/k=1\/k=2\/k=3\/k=4\/k=5\/k=6\/k=7\/k=8:=by omega
    clear bi;rcases bT with rfl|rfl|rfl|rfl|rfl|rfl|rfl|rfl|rfl
    ·have h:=n.out.put (63-0) (iP (8*L));rw[jP B L 0 l.out (by omega) _ (by simp[len8]),jB]at h;have q:Hid (fh w1 (wr.setCell ⟨m,63-0,none⟩ (.int .u8 ((8*L%256:Nat):Int))) gs m y (km B L (0+1))):=h;have t:wr.cell? ⟨m,63-0,none⟩=some _:=n.out.cell (gv _ _ _ l.out (by omega)) (63-0) (by omega);have u:wr.frozen? ⟨m,63-0,none⟩=false:=n.out.bb.frozen _;simp only[Nat.reduceSub]at t u q;clear h n;go_wp2;go_roundw;case rel=>exact⟨1,by omega,by go_num,fh.val (by omega) q.out⟩
     case measure=>simp[intOf]
    ·have h:=n.out.put (63-1) (iP (8*L/256));rw[jP B L 1 l.out (by omega) _ (by simp[len8]),jB]at h;have q:Hid (fh w1 (wr.setCell ⟨m,63-1,none⟩ (.int .u8 ((8*L/256%256:Nat):Int))) gs m y (km B L (1+1))):=h;have t:wr.cell? ⟨m,63-1,none⟩=some _:=n.out.cell (gv _ _ _ l.out (by omega)) (63-1) (by omega);have u:wr.frozen? ⟨m,63-1,none⟩=false:=n.out.bb.frozen _;simp only[Nat.reduceSub]at t u q;clear h n;go_wp2;go_roundw;case rel=>exact⟨2,by omega,by go_num,fh.val (by omega) q.out⟩
     case measure=>simp[intOf]
    ·have h:=n.out.put (63-2) (iP (8*L/65536));rw[jP B L 2 l.out (by omega) _ (by simp[len8]),jB]at h;have q:Hid (fh w1 (wr.setCell ⟨m,63-2,none⟩ (.int .u8 ((8*L/65536%256:Nat):Int))) gs m y (km B L (2+1))):=h;have t:wr.cell? ⟨m,63-2,none⟩=some _:=n.out.cell (gv _ _ _ l.out (by omega)) (63-2) (by omega);have u:wr.frozen? ⟨m,63-2,none⟩=false:=n.out.bb.frozen _;simp only[Nat.reduceSub]at t u q;clear h n;go_wp2;go_roundw;case rel=>exact⟨3,by omega,by go_num,fh.val (by omega) q.out⟩
     case measure=>simp[intOf]
    ·have h:=n.out.put (63-3) (iP (8*L/16777216));rw[jP B L 3 l.out (by omega) _ (by simp[len8]),jB]at h;have q:Hid (fh w1 (wr.setCell ⟨m,63-3,none⟩ (.int .u8 ((8*L/16777216%256:Nat):Int))) gs m y (km B L (3+1))):=h;have t:wr.cell? ⟨m,63-3,none⟩=some _:=n.out.cell (gv _ _ _ l.out (by omega)) (63-3) (by omega);have u:wr.frozen? ⟨m,63-3,none⟩=false:=n.out.bb.frozen _;simp only[Nat.reduceSub]at t u q;clear h n;go_wp2;go_roundw;case rel=>exact⟨4,by omega,by go_num,fh.val (by omega) q.out⟩
     case measure=>simp[intOf]
    ·have h:=n.out.put (63-4) (iP (8*L/4294967296));rw[jP B L 4 l.out (by omega) _ (by simp[len8]),jB]at h;have q:Hid (fh w1 (wr.setCell ⟨m,63-4,none⟩ (.int .u8 ((8*L/4294967296%256:Nat):Int))) gs m y (km B L (4+1))):=h;have t:wr.cell? ⟨m,63-4,none⟩=some _:=n.out.cell (gv _ _ _ l.out (by omega)) (63-4) (by omega);have u:wr.frozen? ⟨m,63-4,none⟩=false:=n.out.bb.frozen _;simp only[Nat.reduceSub]at t u q;clear h n;go_wp2;go_roundw;case rel=>exact⟨5,by omega,by go_num,fh.val (by omega) q.out⟩
     case measure=>simp[intOf]
    ·have h:=n.out.put (63-5) (iP (8*L/1099511627776));rw[jP B L 5 l.out (by omega) _ (by simp[len8]),jB]at h;have q:Hid (fh w1 (wr.setCell ⟨m,63-5,none⟩ (.int .u8 ((8*L/1099511627776%256:Nat):Int))) gs m y (km B L (5+1))):=h;have t:wr.cell? ⟨m,63-5,none⟩=some _:=n.out.cell (gv _ _ _ l.out (by omega)) (63-5) (by omega);have u:wr.frozen? ⟨m,63-5,none⟩=false:=n.out.bb.frozen _;simp only[Nat.reduceSub]at t u q;clear h n;go_wp2;go_roundw;case rel=>exact⟨6,by omega,by go_num,fh.val (by omega) q.out⟩
     case measure=>simp[intOf]
    ·have h:=n.out.put (63-6) (iP (8*L/281474976710656));rw[jP B L 6 l.out (by omega) _ (by simp[len8]),jB]at h;have q:Hid (fh w1 (wr.setCell ⟨m,63-6,none⟩ (.int .u8 ((8*L/281474976710656%256:Nat):Int))) gs m y (km B L (6+1))):=h;have t:wr.cell? ⟨m,63-6,none⟩=some _:=n.out.cell (gv _ _ _ l.out (by omega)) (63-6) (by omega);have u:wr.frozen? ⟨m,63-6,none⟩=false:=n.out.bb.frozen _;simp only[Nat.reduceSub]at t u q;clear h n;go_wp2;go_roundw;case rel=>exact⟨7,by omega,by go_num,fh.val (by omega) q.out⟩
     case measure=>simp[intOf]
    ·have h:=n.out.put (63-7) (iP (8*L/72057594037927936));rw[jP B L 7 l.out (by omega) _ (by simp[len8]),jB]at h;have q:Hid (fh w1 (wr.setCell ⟨m,63-7,none⟩ (.int .u8 ((8*L/72057594037927936%256:Nat):Int))) gs m y (km B L (7+1))):=h;have t:wr.cell? ⟨m,63-7,none⟩=some _:=n.out.cell (gv _ _ _ l.out (by omega)) (63-7) (by omega);have u:wr.frozen? ⟨m,63-7,none⟩=false:=n.out.bb.frozen _;simp only[Nat.reduceSub]at t u q;clear h n;go_wp2;go_roundw;case rel=>exact⟨8,by omega,by go_num,fh.val (by omega) q.out⟩
     case measure=>simp[intOf]
    ·rw[LX]at n;have z:Hid (bU wr):=R.out.ao (ah.out.fr.trans n.out.fr);have ap:(B.take 56++len8 L).length=64:=by simp[l.out,jh]
     have ad:=af (nk gs 0 m 0 141 [] [] y ae.out.ok (B.take 56++len8 L) wr n.out.state rfl (n.out.cell0 ap) z.out.kk);have S:=af ae.out.eq;have bL:=af (vm y (B.take 56++len8 L));generalize fZ y (B.take 56++len8 L)=V at*;clear ap;go_wp2_with fail;refine ad.out.mono ?_;rintro e ac⟨rfl,f4,b4⟩;have J:=af (n.out.Gy f4 b4);clear f4 b4 ad n;go_wp2_with(refine an rfl 38 rfl bp jn aH rfl ?_);intro aC n5;have aQ:Hid (fh w1 aC gs m V (B.take 56++len8 L)):=⟨J.out.fr.trans n5.fr,J.out.ss.fr n5.fr id,J.out.bb.fr n5.fr id,J.out.os,J.out.ob⟩;have a7:=af n5.aF;have a6:Hid (aq aC p 38 aH):=by rw[aN.out];exact ah.out.aF.fr aQ.out.fr id
     have a8:Hid (Fr Nothing w aC):=ah.out.fr.trans aQ.out.fr;have T:Hid (p<ac.heap.size/\gs<ac.heap.size/\w.heap.size<=ac.heap.size/\w.heap.size<=p):=⟨by have:=J.out.fr.size;have:=bG.out;have:=aN.out;omega,J.out.ss.lt,(ah.out.fr.trans J.out.fr).size,by have:=aN.out;omega⟩;clear n5 J z;generalize ac.heap.size=g6 at*;obtain⟨aR,am,aT,aU,aV,aW,aX,aY⟩:=Fs aQ.out.ss;go_wp2;go_loopw[62](λi wr=>∃k:Nat,k<=8/\i= .int .i64 k/\aq wr g6 38 ((mS V (4*k)).map bK).toArray/\Fr (λk=>k=g6) aC wr)(λi _=>8-(intOf i).toNat);case atStart=>exact⟨0,by omega,rfl,by rw[Nat.mul_zero,Ej];exact a7.out,aA⟩
     case round=>
     obtain⟨k,bi,rfl,bg,bh⟩:=hrel;have E:=af bg;have F:=af bh;clear bg bh a7 aR am aT aU aV aW aX aY;by_cases ar:k<8
     ·have bY:=yo wr V k ar;have b8:=Mj V bL.out k;have D:=Hs E.out ar;have bB:Hid (Fr (λk=>k=g6) aC ((((wr.setCell ⟨g6,4*k,none⟩ (.int .u8 ((fL V k/16777216%256:Nat):Int))).setCell ⟨g6,4*k+1,none⟩ (.int .u8 ((fL V k/65536%256:Nat):Int))).setCell ⟨g6,4*k+2,none⟩ (.int .u8 ((fL V k/256%256:Nat):Int))).setCell ⟨g6,4*k+3,none⟩ (.int .u8 ((fL V k%256:Nat):Int)))):=
       (((F.out.setCell (p:=⟨g6,4*k,none⟩) (λ_=>rfl) _).setCell (p:=⟨g6,4*k+1,none⟩) (λ_=>rfl) _).setCell (p:=⟨g6,4*k+2,none⟩) (λ_=>rfl) _).setCell (p:=⟨g6,4*k+3,none⟩) (λ_=>rfl) _;have bF:=af D;obtain⟨v0,b3⟩:=qe E.out (i:=4*k) (by omega) (by omega);obtain⟨v1,b5⟩:=qe E.out (i:=4*k+1) (by omega) (by omega);obtain⟨v2,b6⟩:=qe E.out (i:=4*k+2) (by omega) (by omega);obtain⟨v3,b7⟩:=qe E.out (i:=4*k+3) (by omega) (by omega);have f0:=E.out.frozen (4*k);have f1:=E.out.frozen (4*k+1);have f2:=E.out.frozen (4*k+2);have f3:=E.out.frozen (4*k+3);have m0:IntKind.i64.wrap (4*(k:Int))=((4*k:Nat):Int):=(IntWalk.i64_in _ (by omega)).trans (by omega);have m1:IntKind.i64.wrap (((4*k:Nat):Int)+1)=((4*k+1:Nat):Int):=(IntWalk.i64_in _ (by omega)).trans (by omega);have m2:IntKind.i64.wrap (((4*k:Nat):Int)+2)=((4*k+2:Nat):Int):=(IntWalk.i64_in _ (by omega)).trans (by omega);have m3:IntKind.i64.wrap (((4*k:Nat):Int)+3)=((4*k+3:Nat):Int):=(IntWalk.i64_in _ (by omega)).trans (by omega);have n0:4*(k:Int)=((4*k:Nat):Int):=by omega
      have n1:((4*k:Nat):Int)+1=((4*k+1:Nat):Int):=by omega
      have b9:((4*k:Nat):Int)+2=((4*k+2:Nat):Int):=by omega
      have n3:((4*k:Nat):Int)+3=((4*k+3:Nat):Int):=by omega
      have ca:((4*k:Nat):Int)<32:=by omega
      have cb:((4*k+1:Nat):Int)<32:=by omega
      have cc:((4*k+2:Nat):Int)<32:=by omega
      have cd:((4*k+3:Nat):Int)<32:=by omega
      have bj:¬4*k=4*k+1:=by omega
      have bk:¬4*k=4*k+2:=by omega
      have bl:¬4*k=4*k+3:=by omega
      have bm:¬4*k+1=4*k+2:=by omega
      have bn:¬4*k+1=4*k+3:=by omega
      have bo:¬4*k+2=4*k+3:=by omega
      have z0:((fL V k:Nat):Int)/16777216=((fL V k/16777216%256:Nat):Int):=by omega
      have z1:((fL V k:Nat):Int)/65536%256=((fL V k/65536%256:Nat):Int):=by omega
      have z2:((fL V k:Nat):Int)/256%256=((fL V k/256%256:Nat):Int):=by omega
      have z3:((fL V k:Nat):Int)%256=((fL V k%256:Nat):Int):=by omega
      have aL:Hid (4*(k+1)=4*k+4):=by simp only[Hid];omega
      have b0:(k:Int)<8:=by omega
      clear D E F;generalize fL V k/16777216%256=cg at*;generalize fL V k/65536%256=bz at*;generalize fL V k/256%256=bA at*;generalize fL V k%256=x3 at*;generalize fL V k=cf at*;generalize 4*k+1=i1 at*;generalize 4*k+2=i2 at*;generalize 4*k+3=i3 at*;generalize 4*k=i0 at*;go_wp2;go_roundw;case rel=>exact⟨k+1,by omega,by go_num,by rw[aL.out];exact bF.out,bB.out⟩
      case measure=>simp[intOf];omega
     ·have bW:decide ((k:Int)<8)=false:=by simp;omega
      have bD:Hid (aq wr g6 38 I):=by
       have h:=E.out;rw[show k=8 by omega,JG,S.out,<-U.out]at h;exact h
      have bC:Hid (aq wr p 38 aH):=a6.out.fr F.out (λe=>by have be:p=g6:=e;have:=T.out;omega);have bE:Hid (Fr Nothing w wr):=a8.out.aw F.out (λi bX e=>by have be:i=g6:=e;have:=T.out;omega);have X:Hid (I.size=32/\I.all (·.oneCell')=true):=by
       simp only[Hid];rw[U.out];refine⟨by rw[List.size_toArray,List.length_map,<-S.out,jA],mn _⟩
      have aK:Hid ((prog.info? 38).map (·.size)=some I.size):=by
       rw[X.out.1];exact fC
      clear E F a6 a8 U S;go_wp2_with(first|(refine wpList_load_row rfl 38 (.tmp 8) rfl g6 rfl _ I _ _ bD.out underlying38 rfl aK.out ?_)|(refine ai rfl 38 (.tmp 2) _ rfl p I rfl rfl _ _ bC.out aK.out (by rw[X.out.1];rfl) X.out.2 ?_));intro bx b4 f4;have bM:=af b4;have bN:Hid (Fr Nothing w bx):=bE.out.aw f4 (λi bX e=>by have be:i=p:=e;have:=T.out;omega);clear b4 f4;go_wp2;exact bodyPost_ret (results_cell_row (fn:=Tryz.f80) (p:=2) (ty:=38) results80 _ bx p 38 I (0,0) _ rfl bM.out underlying38 rfl aK.out) rfl ⟨rfl,bN.out⟩
def FH:cZ:=⟨0,0,0,0,0,0,0,0⟩
def Ah:Array Value:=(gZ 0 FH (List.replicate 64 0)).toArray
theorem NJ(w:World):(zeroValue 144).run prog w= .ok (.agg Ah) w:=by kernel_rfl
theorem bU.ED{w:World}(h:bU w):1<w.heap.size:=World.block_lt_of_cell? w ⟨1,0,none⟩ (h.init 0 _ rfl)
theorem bU.EE{w:World}(h:bU w):2<w.heap.size:=World.block_lt_of_cell? w ⟨2,0,none⟩ (h.kk 0 (by omega))
theorem dX{P:Program}{fn:Func}{p q:Tmp}{ty:TypeId}(h:fn.results=#[.cell p ty, .tmp q])(tmps:Array Value)(w:World)(g:Nat)(t:TypeId)(cs:Array Value)(fr:Nat×Nat)(d:TypeDesc)
  (i:tmps.getD p undef= .pointer (some ⟨g,0,none⟩))(e:w.heap[g]? =some (.cells cs t fr))
  (hu:P.underlying ty=some d)(c:(match d with| .struct _| .array _ _=>true|_=>false)=true)(f:(P.info? ty).map (·.size)=some cs.size)(v:Value)(j:tmps.getD q undef=v):
  (results fn tmps).run P w= .ok (.tuple #[.agg cs,v]) w:=by
 have a:tmps[p]?.getD undef= .pointer (some ⟨g,0,none⟩):=by simpa using i
 have b:tmps[q]?.getD undef=v:=by simpa using j
 simp[results,h,a,b,asAddr,run_loadVar_row w g t ty cs fr d e hu c f]
theorem Ap(s:ByteArray)(w:World)(hT:bU w)(C:s.size<=1099511627776)(j:1<=s.size):
  Calls prog 27 #[.string s] w (aM w (bj (eW (ee s)))):=by
 have o:=af hT;have G:=af (db s);have u:=af (λg w'(b:aq w' g 144 (gZ 0 FH (List.replicate 64 0)).toArray)t K L=>DB s g FH (List.replicate 64 0) (List.length_replicate ..) w' b t K L C j);have r:=af (λg rest w'(h:oa w' g (ee s) rest)t=>GN g (ee s) rest w' h t (by rw[db];exact C) (by rw[db];exact j));have a:=iq (ee s);unfold bj;generalize eW (ee s)=DL at*;have n:Hid ((DL.map bK).toArray.size=32/\(DL.map bK).toArray.all (·.oneCell')=true):=⟨by simp[a],mn DL⟩;have x:Hid ((prog.info? 38).map (·.size)=some (DL.map bK).toArray.size):=by
  rw[n.out.1];exact fC
 generalize(DL.map bK).toArray=z at*;clear hT a;go_enter func27,ntmps27;go_wp2_with(refine an rfl 38 rfl bp jn aH rfl ?_);intro w1 n1;have k:=af n1;clear n1;go_wp2_with(refine an rfl 144 rfl (.agg Ah) NJ Ah rfl ?_);intro w2 m;have y:=af m;have A:=af (o.out.ao (k.out.fr.trans m.fr));have c:Hid (w.heap.size<w1.heap.size/\1<w.heap.size/\2<w.heap.size):=⟨by have:=k.out.size;omega,o.out.ED,o.out.EE⟩;have f:=af (u.out w1.heap.size w2 m.aF A.out (by have:=c.out;omega) (by have:=c.out;omega));clear m u;go_wp2_with fail;refine f.out.mono ?_;rintro e w3⟨rfl,f3,rest,B⟩;have J:=af (A.out.fr f3 (λe=>by have l:1=w1.heap.size:=e;have:=c.out;omega) (λe=>by have l:2=w1.heap.size:=e;have:=c.out;omega));have d:=af (r.out _ _ _ B J.out);have q:=af ((k.out.aF.fr y.out.fr id).fr f3 (λe=>by have l:w.heap.size=w1.heap.size:=e;have:=c.out;omega));have v:Hid (Fr Nothing w w3):=(k.out.fr.trans y.out.fr).aw f3 (λi M e=>by have l:i=w1.heap.size:=e;have:=c.out;omega);clear f3 B r f;go_wp2_with fail;refine d.out.mono ?_;rintro e N⟨rfl,f4⟩;have E:=af (q.out.fr f4 id);have F:=af (v.out.trans f4);clear f4 d q v;go_wp2_with(refine ai rfl 38 (.tmp 2) _ rfl w.heap.size z rfl rfl _ _ E.out x.out (by rw[n.out.1];rfl) n.out.2 ?_);intro D b5 f5;have H:=af b5;have I:Hid (Fr Nothing w D):=F.out.aw f5 (λi M e=>by have l:i=w.heap.size:=e;omega);clear b5 f5;go_wp2;exact bodyPost_ret (results_cell_row (fn:=Tryz.f27) (p:=2) (ty:=38) results27 _ D _ 38 z (0,0) _ rfl H.out underlying38 rfl x.out) rfl ⟨rfl,I.out⟩
theorem pc(tag:UInt8)(a:List ByteArray)(A:Option Addr)(n c:Nat)(S:Nat->Prop)(w:World)(hT:bU w)(r:Rd w S 1 A n (a.map nQ))(z:n<=255)(o:∀k,(eE tag a k).length<=1099511627776)(y:∀p∈a,p.size<4294967296):
  Calls prog 120 #[bK tag, .slice A n c] w (aM w (.tuple #[bj (eW (iG tag (a.map ee))), .int .i64 0])):=by
 have t:=af (λw'(s:Fr Nothing w w')=>GO tag a A n c S w' (r.ao s) z o y);have l:a.length=n:=by have:=r.1;simpa using this
 have f:(iG tag (a.map ee)).length<=1099511627776:=by
  rw[<-uU tag a n (by omega)];exact o n
 have d:1<=(iG tag (a.map ee)).length:=by simp[iG]
 have h:=af (λw'(s:Fr Nothing w w')=>Ap ⟨(iG tag (a.map ee)).toArray⟩ w' (hT.ao s) (by simp only[ByteArray.size,List.size_toArray];exact f) (by simp only[ByteArray.size,List.size_toArray];exact d));have b:=iq (iG tag (a.map ee));have x:ee ⟨(iG tag (a.map ee)).toArray⟩=iG tag (a.map ee):=by simp[ee]
 rw[x]at h;unfold bj at*;generalize(⟨(iG tag (a.map ee)).toArray⟩:ByteArray)=RS at*;generalize eW (iG tag (a.map ee))=DL at*;have m:Hid ((DL.map bK).toArray.size=32/\(DL.map bK).toArray.all (·.oneCell')=true):=⟨by simp[b],mn DL⟩;have u:Hid ((prog.info? 38).map (·.size)=some (DL.map bK).toArray.size):=by
  rw[m.out.1];exact fC
 generalize(DL.map bK).toArray=v at*;clear r z o y l f d b x hT;unfold bK at*;go_enter func120,ntmps120;go_wp2_with(refine an rfl 38 rfl bp jn aH rfl ?_);intro w1 n1;have g:=af n1;clear n1;go_wp2_with fail;refine(t.out _ g.out.fr).mono ?_;rintro e w2⟨rfl,f2⟩;have j:Hid (Fr Nothing w w2):=g.out.fr.trans f2;have C:=af (g.out.aF.fr f2 id);clear f2 t;go_wp2_with fail;refine(h.out _ j.out).mono ?_;rintro e w3⟨rfl,f3⟩;have D:=af (C.out.fr f3 id);have E:Hid (Fr Nothing w w3):=j.out.trans f3;clear f3 h j g;go_wp2_with(refine ai rfl 38 (.tmp 4) _ rfl w.heap.size v rfl rfl _ _ D.out u.out (by rw[m.out.1];rfl) m.out.2 ?_);intro B b4 f4;have F:=af b4;have G:Hid (Fr Nothing w B):=E.out.aw f4 (λi I e=>by have H:i=w.heap.size:=e;omega);clear b4 f4;go_wp2;exact bodyPost_ret (dX (fn:=Tryz.f120) (p:=4) (q:=5) (ty:=38) results120 _ B _ 38 v (0,0) _ rfl F.out underlying38 rfl u.out _ rfl) rfl ⟨rfl,G.out⟩
end Go.Proofs.YtphjagkehiklkaaGreatDoor
namespace Go.Proofs.YtphjagkehiklkaaGreatDoor.Lt
open Proofs.Tryz Go.RowKit
def sW(s:List UInt8):List UInt8:=eW (iG 0 [s])
def cS(l r:List UInt8):List UInt8:=eW (iG 1 [l,r])
def rP:List UInt8:=eW (iG 2 [])
theorem nt(s:List UInt8):(sW s).length=32:=iq _
theorem eT(l r:List UInt8):(cS l r).length=32:=iq _
theorem pt:rP.length=32:=iq _
theorem Dm(tag:UInt8)(k:Nat):(eE tag [] k).length<=1099511627776:=by simp[eE]
theorem Dn(tag:UInt8)(s:ByteArray)(a:s.size<4294967296)(k:Nat):(eE tag [s] k).length<=1099511627776:=by
 have hw:(eG s.size).length=4:=rfl;rcases k with _|k<;>simp[eE,db,hw]<;>omega
theorem Dp(tag:UInt8)(s t:ByteArray)(b:s.size<4294967296)(c:t.size<4294967296)(k:Nat):(eE tag [s,t] k).length<=1099511627776:=by
 have hw:(eG s.size).length=4:=rfl;have a:(eG t.size).length=4:=rfl;rcases k with _|_|k<;>simp[eE,db,hw,a]<;>omega
theorem Kq(w:World)(cs:List Value)(n:Nat)(a:cs.length=n)(t:TypeId):Rd (w.alloc (.cells cs.toArray t)) (λk=>k=w.heap.size) 1 (some ⟨w.heap.size,0,none⟩) n cs:=by
 refine⟨by rw[a,Nat.mul_one],λ_=>⟨_,rfl,rfl,λj u hu=>?_⟩⟩;have:(⟨w.heap.size,0,none⟩:Addr).add j=⟨w.heap.size,j,none⟩:=by rw[Addr.add_mid,Nat.zero_add]
 rw[this,(aq.new w t cs.toArray).cell,bP];exact hu
theorem Gx{w:World}{g:Nat}{t:TypeId}{cs:List Value}(h:aq w g t cs.toArray){n:Nat}(a:cs.length=n):Rd w (λk=>k=g) 1 (some ⟨g,0,none⟩) n cs:=by
 refine⟨by rw[a,Nat.mul_one],λ_=>⟨_,rfl,rfl,λj u hu=>?_⟩⟩;rw[Addr.add_mid,Nat.zero_add,h.cell,bP];exact hu
structure dL(a:Array Value):Prop where
 size:a.size=32
 one:a.all (·.oneCell')=true
theorem dL.of{l:List UInt8}(h:l.length=32):dL (l.map bK).toArray:=⟨by simp[h],mn l⟩
theorem dL.info{a:Array Value}(h:dL a):(prog.info? 38).map (·.size)=some a.size:=by rw[h.size];exact fC
theorem dL.MW{a:Array Value}(h:dL a):(prog.info? 37).map (·.size)=some a.size:=by rw[h.size];exact Gm
theorem dL.zero{a:Array Value}(h:dL a):aH.size=a.size:=by rw[h.size];rfl
theorem xN(s:ByteArray)(w:World)(hT:bU w)(o:s.size<4294967296):Calls prog 76 #[.string s] w (aM w (bj (sW (ee s)))):=by
 have j:Hid (∀w',bU w'->Calls prog 120 #[.int .u8 0, .slice (some ⟨w'.heap.size,0,none⟩) 1 1] (w'.alloc (.cells #[.string s] 9)) (aM (w'.alloc (.cells #[.string s] 9)) (.tuple #[bj (sW (ee s)), .int .i64 0]))):=
  λw' A=>pc 0 [s] (some ⟨w'.heap.size,0,none⟩) 1 1 _ _ (A.ao (aA.alloc _)) (Kq w' [.string s] 1 rfl 9) (by omega) (Dn 0 s o) (by simpa using o);have u:=af hT;have a:=af (dL.of (nt (ee s)));unfold bj at*;generalize((sW (ee s)).map bK).toArray=f at*;clear hT;go_enter func76,ntmps76;go_wp2_with(refine an rfl 38 rfl bp jn aH rfl ?_);intro w1 n1;have c:=af n1;clear n1;go_wp2_with fail;refine(j.out _ (u.out.ao c.out.fr)).mono ?_;rintro e w2⟨rfl,f2⟩;have d:Hid (Fr Nothing w1 w2):=((Fr.refl _ w1).alloc _).trans f2;clear f2 j;go_wp2_with(refine an rfl 38 rfl bp jn aH rfl ?_);intro w3 n3;have h:=af n3.aF;have k:Hid (Fr Nothing w w3):=c.out.fr.trans (d.out.trans n3.fr);have l:=af (c.out.aF.fr (d.out.trans n3.fr) id);have b:Hid (w.heap.size<w2.heap.size):=by have:=d.out.size;have:=c.out.size;simp only[Hid];omega
 clear n3 c d;generalize n:w2.heap.size=g at*;have C:=af n;clear n;go_wp2_with(refine ai rfl 38 (.tmp 3) _ rfl g f rfl rfl _ _ h.out a.out.info a.out.zero a.out.one ?_);intro B b4 f4;have r:=af b4;have t:Hid (Fr Nothing w B):=k.out.aw f4 (λi z e=>by have m:i=g:=e;have:=b.out;omega);have y:=af (l.out.fr f4 (λe=>by have m:w.heap.size=g:=e;have:=b.out;omega));clear b4 f4 k l h;go_wp2_with(first|(refine wpList_load_row rfl 38 (.tmp 3) rfl g rfl _ f _ _ r.out underlying38 rfl a.out.info ?_)|(refine ai rfl 38 (.tmp 2) _ rfl w.heap.size f rfl rfl _ _ y.out a.out.info a.out.zero a.out.one ?_));intro q b5 f5;have v:=af b5;have x:Hid (Fr Nothing w q):=t.out.aw f5 (λi z e=>by have m:i=w.heap.size:=e;omega);clear b5 f5;go_wp2;exact bodyPost_ret (results_cell_row (fn:=Tryz.f76) (p:=2) (ty:=38) results76 _ q _ 38 f (0,0) _ rfl v.out underlying38 rfl a.out.info) rfl ⟨rfl,x.out⟩
theorem De(w:World)(hT:bU w):Calls prog 73 #[] w (aM w (bj rP)):=by
 have j:Hid (∀w',bU w'->Calls prog 120 #[.int .u8 2, .slice none 0 0] w' (aM w' (.tuple #[bj rP, .int .i64 0]))):=
  λw' y=>pc 2 [] none 0 0 (λ_=>False) _ y Rd.none_ (by omega) (Dm 2) (by simp);have s:=af hT;have a:=af (dL.of pt);unfold bj at*;generalize(rP.map bK).toArray=f at*;clear hT;go_enter func73,ntmps73;go_wp2_with(refine an rfl 38 rfl bp jn aH rfl ?_);intro w1 n1;have c:=af n1;clear n1;go_wp2_with fail;refine(j.out _ (s.out.ao c.out.fr)).mono ?_;rintro e w2⟨rfl,f2⟩;have d:Hid (Fr Nothing w1 w2):=f2;clear f2 j;go_wp2_with(refine an rfl 38 rfl bp jn aH rfl ?_);intro w3 n3;have h:=af n3.aF;have k:Hid (Fr Nothing w w3):=c.out.fr.trans (d.out.trans n3.fr);have l:=af (c.out.aF.fr (d.out.trans n3.fr) id);have b:Hid (w.heap.size<w2.heap.size):=by have:=d.out.size;have:=c.out.size;simp only[Hid];omega
 clear n3 c d;generalize n:w2.heap.size=g at*;have A:=af n;clear n;go_wp2_with(refine ai rfl 38 (.tmp 1) _ rfl g f rfl rfl _ _ h.out a.out.info a.out.zero a.out.one ?_);intro z b4 f4;have q:=af b4;have r:Hid (Fr Nothing w z):=k.out.aw f4 (λi x e=>by have m:i=g:=e;have:=b.out;omega);have v:=af (l.out.fr f4 (λe=>by have m:w.heap.size=g:=e;have:=b.out;omega));clear b4 f4 k l h;go_wp2_with(first|(refine wpList_load_row rfl 38 (.tmp 1) rfl g rfl _ f _ _ q.out underlying38 rfl a.out.info ?_)|(refine ai rfl 38 (.tmp 0) _ rfl w.heap.size f rfl rfl _ _ v.out a.out.info a.out.zero a.out.one ?_));intro o b5 f5;have t:=af b5;have u:Hid (Fr Nothing w o):=r.out.aw f5 (λi x e=>by have m:i=w.heap.size:=e;omega);clear b5 f5;go_wp2;exact bodyPost_ret (results_cell_row (fn:=Tryz.f73) (p:=0) (ty:=38) results73 _ o _ 38 f (0,0) _ rfl t.out underlying38 rfl a.out.info) rfl ⟨rfl,u.out⟩
end Go.Proofs.YtphjagkehiklkaaGreatDoor.Lt
namespace Go.Proofs.YtphjagkehiklkaaGreatDoor
open Proofs.Tryz Go.RowKit
theorem wX(w:World)(d:Nat)(l r:List UInt8)(a:l.length=32)(b:r.length=32):∀is:List Nat,(∀i∈is,i<32)->
  (Op.eqItems (d+1) 5 1 (l.map bK).toArray (r.map bK).toArray is).run prog w= .ok (is.all λi=>l[i]? ==r[i]?) w
 |[],_=>by simp[Op.eqItems]
 |i::is,h=>by
  have k:i<32:=h i (by simp);have c:(isAgg 5).run prog w= .ok false w:=by kernel_rfl
  have p:∀x:List UInt8,x.length=32->(part 5 (x.map bK).toArray (i*1)).run prog w= .ok (bK (x[i]?.getD 0)) w:=by
   intro x n;unfold part;rw[Sem.run_bind,c];simp only[Result.andThen_ok,Bool.false_eq_true,if_false,Nat.mul_one,bP,List.getElem?_map,List.getElem?_eq_getElem (show i<x.length by omega),Option.map_some,Sem.run_pure,Option.getD_some]
  have g:=wX w d l r a b is (λj f=>h j (by simp[f]));have e:((((l[i]?.getD 0).toNat:Nat):Int)==(((r[i]?.getD 0).toNat:Nat):Int))=(l[i]? ==r[i]?):=by
   rw[List.getElem?_eq_getElem (show i<l.length by omega),List.getElem?_eq_getElem (show i<r.length by omega),Bool.eq_iff_iff];simp[<-UInt8.toNat_inj];omega
  have q:(Op.equalIn (d+1) 5 (bK (l[i]?.getD 0)) (bK (r[i]?.getD 0))).run prog w= .ok (l[i]? ==r[i]?) w:=by
   rw[<-e];exact run_equalIn_int w d 5 .u8 .u8 _ _ underlying5
  simp only[Op.eqItems,Sem.run_bind,p l a,p r b,q,Result.andThen_ok,List.all_cons];cases m:(l[i]? ==r[i]?);·simp
  ·simpa using g
theorem GY(l r:List UInt8)(b:l.length=32)(c:r.length=32):((List.range 32).all λi=>l[i]? ==r[i]?)=decide (l=r):=by
 rw[Bool.eq_iff_iff];simp only[List.all_eq_true,List.mem_range,beq_iff_eq,decide_eq_true_eq];constructor
 ·intro h;apply List.ext_getElem?;intro i;rcases Nat.lt_or_ge i 32 with a|a;·exact h i a
  ·rw[List.getElem?_eq_none (by omega),List.getElem?_eq_none (by omega)]
 ·rintro rfl _ _;rfl
theorem LS:(prog.info? 5).isSome=true:=by kernel_rfl
theorem AQ:prog.cellsOf 5=1:=by kernel_rfl
theorem wW(w:World)(t:TypeId)(hu:prog.underlying t=some (.array 32 5))(l r:List UInt8)(b:l.length=32)(c:r.length=32):
  (Op.equalIn 10000 t (bj l) (bj r)).run prog w= .ok (decide (l=r)) w:=by
 obtain⟨i,a⟩:=Option.isSome_iff_exists.1 LS;unfold bj;rw[run_equalIn_array w 9999 _ _ hu a,AQ,wX w 9998 l r b c _ (λi a=>List.mem_range.1 a),GY l r b c]
theorem Kv(w:World)(t:TypeId)(hu:prog.underlying t=some (.array 32 5))(l r:List UInt8)(a:l.length=32)(b:r.length=32):
  (binOp .neq t (bj l) (bj r)).run prog w= .ok (.bool (!decide (l=r))) w:=by
 have:=wW w t hu l r a b;unfold bj at*;rw[run_neq_struct,this];rfl
end Go.Proofs.YtphjagkehiklkaaGreatDoor
namespace Go.Proofs.YtphjagkehiklkaaGreatDoor.Lt
open Proofs.Tryz Go.RowKit
structure eJ(w w':World)(g0 g1 g2:Nat)(l r:List UInt8):Prop where
 fr:Fr Nothing w w'
 b0:aq w' g0 38 (l.map bK).toArray
 b1:aq w' g1 38 (r.map bK).toArray
 b2:aq w' g2 38 aH
theorem eJ.drew{w w':World}{g0 g1 g2:Nat}{l r:List UInt8}(h:eJ w w' g0 g1 g2 l r):eJ w w'.drew g0 g1 g2 l r:=⟨h.fr.drew,h.b0.drew,h.b1.drew,h.b2.drew⟩
theorem eJ.later{w w' a:World}{g0 g1 g2:Nat}{l r:List UInt8}(h:eJ w w' g0 g1 g2 l r)(b:Fr Nothing w' a):eJ w a g0 g1 g2 l r:=⟨h.fr.trans b,h.b0.fr b id,h.b1.fr b id,h.b2.fr b id⟩
theorem eJ.alloc{w w':World}{g0 g1 g2:Nat}{l r:List UInt8}(h:eJ w w' g0 g1 g2 l r)(a:Obj):eJ w (w'.alloc a) g0 g1 g2 l r:=h.later (aA.alloc a)
theorem eJ.store{w w':World}{g0 g1 g2 g:Nat}{l r:List UInt8}(h:eJ w w' g0 g1 g2 l r)(d:w.heap.size<=g/\g0<g/\g1<g/\g2<g)(c:List Value):eJ w (w'.setCells g 0 c) g0 g1 g2 l r:=by
 have a:Fr (λk=>k=g) w' (w'.setCells g 0 c):=Fr.setCells (T:=λk=>k=g) (λ_=>rfl) _ _ _ aA;exact⟨h.fr.aw a (λi f e=>by have b:i=g:=e;omega),h.b0.fr a (λe=>by have b:g0=g:=e;omega),h.b1.fr a (λe=>by have b:g1=g:=e;omega),h.b2.fr a (λe=>by have b:g2=g:=e;omega)⟩
theorem eJ.all{w w':World}{g0 g1 g2:Nat}{l r:List UInt8}(h:eJ w w' g0 g1 g2 l r)(a:l.length=32)(b:r.length=32):eJ w w' g0 g1 g2 l r/\
  (convert 61 9 (.slice (some ⟨g0,0,none⟩) 32 32)).run prog w'= .ok (.string ⟨l.toArray⟩) w'/\(convert 61 9 (.slice (some ⟨g1,0,none⟩) 32 32)).run prog w'= .ok (.string ⟨r.toArray⟩) w':=
 ⟨h,sd (P:=prog) w' 61 9 5 underlying61 underlying5 underlying9 _ _ 32 32 l (Gx h.b0 (by rw[List.length_map,a])),
  sd (P:=prog) w' 61 9 5 underlying61 underlying5 underlying9 _ _ 32 32 r (Gx h.b1 (by rw[List.length_map,b]))⟩
theorem yG{w w':World}{g n:Nat}(h:w.there g 0 n)(a:Fr Nothing w w'):w'.there g 0 n:=λj e=>by
 obtain⟨b,c⟩:=h j e;obtain⟨u,hu⟩:=Option.isSome_iff_exists.1 b;have d:=World.block_lt_of_cell? w _ hu;exact⟨by rw[a.ak hu id];rfl,by rw[a.frozen d id];exact c⟩
theorem Md{w:World}{b:Nat}{s t:Value}(a:w.cell? ⟨b,0,none⟩=some s)(c:w.cell? ⟨b,1,none⟩=some t):Rd w (λk=>k=b) 1 (some ⟨b,0,none⟩) 2 [s,t]:=by
 refine⟨rfl,λ_=>⟨_,rfl,rfl,λj u hu=>?_⟩⟩;rw[Addr.add_mid,Nat.zero_add];rcases j with _|_|j;·cases hu;exact a
 ·cases hu;exact c
 ·cases hu
theorem lZ(l r:List UInt8)(m:l.length=32)(n:r.length=32)(w:World)(hT:bU w):Calls prog 122 #[bj l,bj r] w (aM w (bj (cS l r))):=by
 have el:ee ⟨l.toArray⟩=l:=by simp[ee]
 have x:ee ⟨r.toArray⟩=r:=by simp[ee]
 have D:Hid (∀(W:World)(b:Nat),bU W->W.cell? ⟨b,0,none⟩=some (.string ⟨l.toArray⟩)->W.cell? ⟨b,1,none⟩=some (.string ⟨r.toArray⟩)->Calls prog 120 #[.int .u8 1, .slice (some ⟨b,0,none⟩) 2 2] W (aM W (.tuple #[bj (cS l r), .int .i64 0]))):=by
  intro W b N K L;have h:=pc 1 [⟨l.toArray⟩,⟨r.toArray⟩] (some ⟨b,0,none⟩) 2 2 _ W N (Md K L) (by omega) (Dp 1 _ _ (by rw[ByteArray.size,List.size_toArray,m];omega) (by rw[ByteArray.size,List.size_toArray,n];omega)) (by
   intro p z;simp only[List.mem_cons,List.not_mem_nil,or_false]at z;rcases z with rfl|rfl<;>simp only[ByteArray.size,List.size_toArray,m,n]<;>omega);simp only[List.map_cons,List.map_nil,el,x]at h;exact h
 have G:=af hT;have j:=af (dL.of (eT l r));have E:=af m;have F:=af n;have hlen:((cS l r).map bK).length=32:=by rw[List.length_map,eT]
 have y:∀v∈(cS l r).map bK,v.oneCell'=true:=j6 _;unfold bj at*;generalize(cS l r).map bK=d at*;have i24:(prog.info? 38).map (·.size)=some d.length:=by rw[hlen];exact fC
 clear hT m n el x;go_enter func122,ntmps122;go_wp2_with(refine aD rfl 38 (.tmp 0) rfl _ rfl ?_);intro w1 n1;have k:=af n1;clear n1;go_wp2_with(refine aD rfl 38 (.tmp 1) rfl _ rfl ?_);intro w2 A;have a:=af A;clear A;go_wp2_with(refine an rfl 38 rfl bp jn aH rfl ?_);intro w3 n3;have c:=af n3;clear n3;have NS:eJ w w3 w.heap.size w1.heap.size w2.heap.size l r:=⟨k.out.fr.trans (a.out.fr.trans c.out.fr),(k.out.aF.fr a.out.fr id).fr c.out.fr id,a.out.aF.fr c.out.fr id,c.out.aF⟩;have z0:w.heap.size<=w3.heap.size:=NS.fr.size;have z1:w.heap.size<w3.heap.size:=NS.b0.lt;have z2:w1.heap.size<w3.heap.size:=NS.b1.lt;have z3:w2.heap.size<w3.heap.size:=NS.b2.lt;have H:Hid (w.heap.size<=w2.heap.size):=(k.out.fr.trans a.out.fr).size;clear k a c;generalize f:w.heap.size=g0 at*;generalize w1.heap.size=g1 at*;generalize w2.heap.size=g2 at*;have t:=af f;clear f;have U:w.heap.size<=w3.heap.size:=NS.fr.size;go_upto_region 1 with fail;go_cut[4,5](λP Q B=>∃g,P= .pointer (some ⟨g2,0,none⟩)/\Q= .pointer (some ⟨g,0,none⟩)/\B.rangeAt g 0 d/\eJ w B g0 g1 g2 l r);case first=>
  have s:Hid (((w3.alloc (.cells #[.string ⟨l.toArray⟩, .string ⟨r.toArray⟩] 9)).alloc (.cells #[.int .u8 0, .int .u8 0, .int .u8 0, .int .u8 0, .int .u8 0, .int .u8 0, .int .u8 0, .int .u8 0, .int .u8 0, .int .u8 0, .int .u8 0, .int .u8 0, .int .u8 0, .int .u8 0, .int .u8 0, .int .u8 0, .int .u8 0, .int .u8 0, .int .u8 0, .int .u8 0, .int .u8 0, .int .u8 0, .int .u8 0, .int .u8 0, .int .u8 0, .int .u8 0, .int .u8 0, .int .u8 0, .int .u8 0, .int .u8 0, .int .u8 0, .int .u8 0] 38)).drew.there (w3.heap.size+1) 0 32):=by
   have h:=aq.new (w3.alloc (.cells #[.string ⟨l.toArray⟩, .string ⟨r.toArray⟩] 9)) 38 #[.int .u8 0, .int .u8 0, .int .u8 0, .int .u8 0, .int .u8 0, .int .u8 0, .int .u8 0, .int .u8 0, .int .u8 0, .int .u8 0, .int .u8 0, .int .u8 0, .int .u8 0, .int .u8 0, .int .u8 0, .int .u8 0, .int .u8 0, .int .u8 0, .int .u8 0, .int .u8 0, .int .u8 0, .int .u8 0, .int .u8 0, .int .u8 0, .int .u8 0, .int .u8 0, .int .u8 0, .int .u8 0, .int .u8 0, .int .u8 0, .int .u8 0, .int .u8 0];rw[show(w3.alloc (.cells #[.string ⟨l.toArray⟩, .string ⟨r.toArray⟩] 9)).heap.size=w3.heap.size+1 by simp]at h;exact mG h.drew rfl
  have q:Hid (((w3.alloc (.cells #[.int .u8 0, .int .u8 0, .int .u8 0, .int .u8 0, .int .u8 0, .int .u8 0, .int .u8 0, .int .u8 0, .int .u8 0, .int .u8 0, .int .u8 0, .int .u8 0, .int .u8 0, .int .u8 0, .int .u8 0, .int .u8 0, .int .u8 0, .int .u8 0, .int .u8 0, .int .u8 0, .int .u8 0, .int .u8 0, .int .u8 0, .int .u8 0, .int .u8 0, .int .u8 0, .int .u8 0, .int .u8 0, .int .u8 0, .int .u8 0, .int .u8 0, .int .u8 0] 38)).alloc (.cells #[.string ⟨l.toArray⟩, .string ⟨r.toArray⟩] 9)).drew.there w3.heap.size 0 32):=mG ((aq.new w3 38 #[.int .u8 0, .int .u8 0, .int .u8 0, .int .u8 0, .int .u8 0, .int .u8 0, .int .u8 0, .int .u8 0, .int .u8 0, .int .u8 0, .int .u8 0, .int .u8 0, .int .u8 0, .int .u8 0, .int .u8 0, .int .u8 0, .int .u8 0, .int .u8 0, .int .u8 0, .int .u8 0, .int .u8 0, .int .u8 0, .int .u8 0, .int .u8 0, .int .u8 0, .int .u8 0, .int .u8 0, .int .u8 0, .int .u8 0, .int .u8 0, .int .u8 0, .int .u8 0]).alloc _).drew rfl;go_region_held3(λw'=>eJ w w' g0 g1 g2 l r/\(convert 61 9 (.slice (some ⟨g0,0,none⟩) 32 32)).run prog w'= .ok (.string ⟨l.toArray⟩) w'/\(convert 61 9 (.slice (some ⟨g1,0,none⟩) 32 32)).run prog w'= .ok (.string ⟨r.toArray⟩) w')((go_split_ands;refine eJ.all ?_ E.out F.out;first|assumption|exact eJ.drew (by assumption)|exact eJ.later (by assumption) (by assumption)|exact eJ.store (by assumption) ⟨by omega,by omega,by omega,by omega⟩ _|exact eJ.alloc (by assumption) _|exact(eJ.alloc (by assumption) _).alloc _|exact(eJ.drew (by assumption)).alloc _|exact((eJ.drew (by assumption)).alloc _).alloc _))((first|(go_at_call 120;go_split_ands;refine(D.out _ _ (G.out.ao (eJ.fr (by assumption))) (by simp) (by simp)).mono ?_;rintro e o⟨rfl,f4⟩;have O:w3.heap.size<=o.heap.size:=Nat.le_trans (by first|(simp;done)|(simp;omega)) f4.size;have t4:(o.alloc (.cells #[.int .u8 0, .int .u8 0, .int .u8 0, .int .u8 0, .int .u8 0, .int .u8 0, .int .u8 0, .int .u8 0, .int .u8 0, .int .u8 0, .int .u8 0, .int .u8 0, .int .u8 0, .int .u8 0, .int .u8 0, .int .u8 0, .int .u8 0, .int .u8 0, .int .u8 0, .int .u8 0, .int .u8 0, .int .u8 0, .int .u8 0, .int .u8 0, .int .u8 0, .int .u8 0, .int .u8 0, .int .u8 0, .int .u8 0, .int .u8 0, .int .u8 0, .int .u8 0] 38)).there o.heap.size 0 32:=mG (aq.new o 38 #[.int .u8 0, .int .u8 0, .int .u8 0, .int .u8 0, .int .u8 0, .int .u8 0, .int .u8 0, .int .u8 0, .int .u8 0, .int .u8 0, .int .u8 0, .int .u8 0, .int .u8 0, .int .u8 0, .int .u8 0, .int .u8 0, .int .u8 0, .int .u8 0, .int .u8 0, .int .u8 0, .int .u8 0, .int .u8 0, .int .u8 0, .int .u8 0, .int .u8 0, .int .u8 0, .int .u8 0, .int .u8 0, .int .u8 0, .int .u8 0, .int .u8 0, .int .u8 0]) rfl;first|(have R:=yG s.out (by with_reducible exact f4))|(have R:=yG q.out (by with_reducible exact f4))|skip)));all_goals
   go_split_ands;go_wp2_with fail;go_meet;exact⟨_,rfl,rfl,World.rangeAt_setCells_same _ _ _ _ (by rw[hlen];assumption),by assumption⟩
 case rest=>
  obtain⟨g,rfl,rfl,M,hN⟩:=hcut;have KN:=af hN;have u:Hid (w.heap.size<=g2):=by have:=H.out;have:=t.out;simp only[Hid];omega
  have ty:=underlying38;clear NS hN z0 z1 z2 z3;go_wp2_with(first|(refine wpList_load_mid rfl 38 (.tmp 5) rfl g 0 rfl d _ M ty rfl i24 ?_)|(refine ai rfl 38 (.tmp 4) _ rfl g2 d.toArray rfl rfl _ _ KN.out.b2 j.out.info j.out.zero j.out.one ?_));intro C b7 f7;have I:=af b7;have J:Hid (Fr Nothing w C):=KN.out.fr.aw f7 (λi T e=>by have S:i=g2:=e;have:=u.out;omega);clear b7 f7;go_wp2;exact bodyPost_ret (results_cell_row (fn:=Tryz.f122) (p:=4) (ty:=38) results122 _ C _ 38 d.toArray (0,0) _ rfl I.out underlying38 rfl j.out.info) rfl ⟨rfl,J.out⟩
structure lB(w w':World)(g0 g1:Nat)(a b:List Value):Prop where
 fr:Fr Nothing w w'
 b0:aq w' g0 37 a.toArray
 b1:aq w' g1 37 b.toArray
theorem lB.drew{w w':World}{g0 g1:Nat}{l r:List Value}(h:lB w w' g0 g1 l r):lB w w'.drew g0 g1 l r:=⟨h.fr.drew,h.b0.drew,h.b1.drew⟩
theorem lB.later{w w' a:World}{g0 g1:Nat}{l r:List Value}(h:lB w w' g0 g1 l r)(b:Fr Nothing w' a):lB w a g0 g1 l r:=⟨h.fr.trans b,h.b0.fr b id,h.b1.fr b id⟩
theorem lB.alloc{w w':World}{g0 g1:Nat}{l r:List Value}(h:lB w w' g0 g1 l r)(a:Obj):lB w (w'.alloc a) g0 g1 l r:=h.later (aA.alloc a)
theorem dE{w:World}{g:Nat}{t:TypeId}{cs:List Value}(h:aq w g t cs.toArray):w.rangeAt g 0 cs:=λj v a=>by
 rw[Nat.zero_add,h.cell,bP];exact a
theorem lB.all{w w':World}{g0 g1:Nat}{l r:List Value}(h:lB w w' g0 g1 l r):lB w w' g0 g1 l r/\w'.rangeAt g0 0 l/\w'.rangeAt g1 0 r:=⟨h,dE h.b0,dE h.b1⟩
def aU(n:Nat):Nat:=2^(Lib.bitLen (n-1)-1)
theorem dG(n:Nat)(h:2<=n)(e:n<=1099511627776):aU n<n/\n<=2*aU n/\1<=aU n:=by
 obtain⟨d,b,c⟩:=Lib.bitLenAux_bounds 64 (n-1) (by omega) (by omega);obtain⟨m,hm⟩:∃m,Lib.bitLen (n-1)=m+1:=⟨Lib.bitLenAux 64 (n-1)-1,by unfold Lib.bitLen;omega⟩;have a:Lib.bitLenAux 64 (n-1)=m+1:=hm;unfold aU;rw[a]at d b c;rw[hm];rw[Nat.pow_succ]at c;have:1<=2^m:=Nat.one_le_two_pow;simp only[Nat.add_sub_cancel]at b⊢;omega
theorem pow_one(n i j:Nat)(a:2^i<n)(b:n<=2*2^i)(c:2^j<n)(d:n<=2*2^j):2^i=2^j:=by
 rcases Nat.lt_trichotomy i j with h|h|h;·have:2^(i+1)<=2^j:=Nat.pow_le_pow_right (by omega) h;rw[Nat.pow_succ]at this;omega
 ·rw[h]
 ·have:2^(j+1)<=2^i:=Nat.pow_le_pow_right (by omega) h;rw[Nat.pow_succ]at this;omega
theorem yt(n j:Nat)(f:n<=1099511627776)(d:2^j<n)(e:n<=2*2^j):2^j=aU n:=by
 have:1<=2^j:=Nat.one_le_two_pow;obtain⟨a,b,c⟩:=dG n (by omega) f;exact pow_one n j _ d e a b
theorem ny(n:Nat)(w:World)(k:2<=n)(q:n<=1099511627776):Calls prog 121 #[.int .i64 n] w λe w'=>e= .returned (.int .i64 (aU n:Nat))/\w=w':=by
 obtain⟨a,b,c⟩:=dG n k q;obtain⟨m,hm⟩:∃m,m=n-1:=⟨_,rfl⟩;have l:1<=Lib.bitLen m:=(Lib.bitLenAux_bounds 64 m (by omega) (by omega)).1;have o:Lib.bitLen m<=64:=Lib.bitLen_le m 64 (by omega) (by omega);have d:Hid (aU n=2^(Lib.bitLen m-1)):=by rw[hm];rfl
 obtain⟨x,h⟩:∃x,x=Lib.bitLen m-1:=⟨_,rfl⟩;rw[<-h]at d;have r:((Lib.bitLen m:Nat):Int)-1=(x:Int):=by omega
 have i:(x:Int)<=64:=by omega
 have p:(n:Int)-1=(m:Int):=by omega
 have j:Hid (∀w,Calls prog 150 #[.int .u64 (m:Int)] w λe w'=>e= .returned (.int .i64 (Lib.bitLen m:Nat))/\w'=w):=λw=>Tryz.bits_Len (m:Int) w (by omega) (by omega);have f:IntKind.i64.wrap (1*2^x)=((aU n:Nat):Int):=by
  rw[d.out,Int.one_mul];have:(2:Int)^x=((2^x:Nat):Int):=by simp
  rw[this];refine IntWalk.i64_in _ ?_;rw[<-d.out];omega
 have g:IntKind.i64.wrap (2^x)=((aU n:Nat):Int):=by rw[<-f,Int.one_mul]
 clear h a b c;generalize Lib.bitLen m=B at*;generalize aU n=t at*;have s:=af hm;clear hm;go_enter func121,ntmps121;go_wp2_with fail;refine(j.out _).mono ?_;rintro e w'⟨rfl,rfl⟩;go_wp2;go_ret;exact⟨rfl,rfl⟩
def cY(ds:List (List UInt8)):List UInt8:=
 if a:1<=aU ds.length/\aU ds.length<ds.length then cS (cY (ds.take (aU ds.length))) (cY (ds.drop (aU ds.length)))else ds.headD []
termination_by ds.length
decreasing_by
 ·simp only[List.length_take];omega
 ·simp only[List.length_drop];omega
theorem q9(d:List UInt8):cY [d]=d:=by
 rw[cY,dif_neg (by simp;omega)];rfl
theorem nd(ds:List (List UInt8))(n:Nat)(b:ds.length=n)(d:2<=n)(e:n<=1099511627776):cY ds=cS (cY (ds.take (aU n))) (cY (ds.drop (aU n))):=by
 obtain⟨a,_,c⟩:=dG n d e;rw[cY,dif_pos (by rw[b];exact⟨c,a⟩),b]
theorem gH(n:Nat):∀ds:List (List UInt8),ds.length=n->1<=n->n<=1099511627776->(∀d∈ds,d.length=32)->(cY ds).length=32:=by
 intro ds a f e b;by_cases c:2<=n;·rw[nd ds n a c e];exact eT _ _
 ·match ds,a,b with
  |[d],_,b=>rw[q9];exact b d (by simp)
  |[],a,_=>simp at a;omega
  |_::_::_,a,_=>simp at a;omega
def aC(d:List UInt8):List Value:=d.map bK
structure gK(w:World)(S:Nat->Prop)(A:Option Addr)(n:Nat)(ds:List (List UInt8)):Prop where
 rd:Rd w S 32 A n (ds.flatMap aC)
 len:ds.length=n
 each:∀d∈ds,d.length=32
theorem gK.ao{w w':World}{S:Nat->Prop}{A:Option Addr}{n:Nat}{ds:List (List UInt8)}(h:gK w S A n ds)(a:Fr Nothing w w'):gK w' S A n ds:=⟨h.rd.ao a,h.len,h.each⟩
theorem gK.fr{w w':World}{S T:Nat->Prop}{A:Option Addr}{n:Nat}{ds:List (List UInt8)}(h:gK w S A n ds)(b:Fr T w w')(a:∀k,S k->¬T k):gK w' S A n ds:=⟨h.rd.fr b a,h.len,h.each⟩
theorem ox(ds:List (List UInt8))(h:∀d∈ds,d.length=32):∀k,(ds.flatMap aC).take (k*32)=(ds.take k).flatMap aC:=by
 induction ds with
 |nil=>simp
 |cons d r b=>
  intro k;rcases k with _|k;·simp
  ·have c:(aC d).length=32:=by rw[aC,List.length_map];exact h d (by simp)
   rw[List.flatMap_cons,List.take_succ_cons,List.flatMap_cons,show(k+1)*32=(aC d).length+k*32 by omega,List.take_length_add_append,b (λx a=>h x (by simp[a]))]
theorem mx(ds:List (List UInt8))(h:∀d∈ds,d.length=32):∀k,(ds.flatMap aC).drop (k*32)=(ds.drop k).flatMap aC:=by
 induction ds with
 |nil=>simp
 |cons d r b=>
  intro k;rcases k with _|k;·simp
  ·have c:(aC d).length=32:=by rw[aC,List.length_map];exact h d (by simp)
   rw[List.flatMap_cons,List.drop_succ_cons,show(k+1)*32=(aC d).length+k*32 by omega,List.drop_length_add_append,b (λx a=>h x (by simp[a]))]
theorem gK.take{w:World}{S:Nat->Prop}{A:Option Addr}{n k:Nat}{ds:List (List UInt8)}(h:gK w S A n ds)(b:k<=n):gK w S A k (ds.take k):=by
 have:=h.rd.take b;rw[ox ds h.each]at this;exact⟨this,by rw[List.length_take,h.len];omega,λd a=>h.each d (List.mem_of_mem_take a)⟩
theorem gK.cut{w:World}{S:Nat->Prop}{A:Option Addr}{n k cap:Nat}{ds:List (List UInt8)}(h:gK w S A n ds)(c:k<=n)(a:n<=cap):gK w S (if cap=k then A else A.map (·.add (k*32))) (n-k) (ds.drop k):=by
 have:=h.rd.cut c a;rw[mx ds h.each]at this;exact⟨this,by rw[List.length_drop,h.len],λd b=>h.each d (List.mem_of_mem_drop b)⟩
theorem gK.at_{w:World}{S:Nat->Prop}{A:Option Addr}{n k:Nat}{ds:List (List UInt8)}(h:gK w S A n ds)(o:k<n):∃f d,A=some f/\S f.block/\ds[k]? =some d/\d.length=32/\∀j v,(aC d)[j]? =some v->w.cell? ((f.add (k*32)).add j)=some v:=by
 obtain⟨f,e,i,l⟩:=h.rd.2 (by omega);have c:k<ds.length:=by rw[h.len];exact o
 have a:ds[k].length=32:=h.each _ (List.getElem_mem c);refine⟨f,ds[k],e,i,List.getElem?_eq_getElem c,a,λj v g=>?_⟩;rw[iQ];refine l _ v ?_;have m:j<32:=by have:=(List.getElem?_eq_some_iff.1 g).1;rw[aC,List.length_map,a]at this;exact this
 have b:(ds.flatMap aC).drop (k*32)=aC ds[k]++(ds.drop (k+1)).flatMap aC:=by
  rw[mx ds h.each,List.drop_eq_getElem_cons c,List.flatMap_cons]
 rw[<-List.getElem?_drop,b,List.getElem?_append_left (by rw[aC,List.length_map,a];exact m)];exact g
theorem kK{P:Program}(w:World)(b:Addr)(ty:TypeId)(cs:List Value)(d:TypeDesc)(f:∀j v,cs[j]? =some v->w.cell? (b.add j)=some v)
  (hu:P.underlying ty=some d)(k:d.isRow=true)(e:(P.info? ty).map (·.size)=some cs.length):(loadVar ty b).run P w= .ok (.agg cs.toArray) w:=by
 have g:(loadCells b cs.length).run P w= .ok cs.toArray w:=run_loadCells_list (P:=P) w b cs f;cases c:P.info? ty with
 |none=>simp[c]at e
 |some i=>
  have h:i.size=cs.length:=by simpa[c]using e
  have a:(isAgg ty).run P w= .ok true w:=by
   unfold isAgg;rw[Sem.run_bind,run_underlying hu w];cases d<;>simp_all
  simp[loadVar,Sem.run_bind,a,sizeOf,typeInfo,c,h,g]
theorem au{P:Program}{op:Oper}{a:Act}{w:World}{K:Act->World->Prop}{Q:Exit->Act->World->Prop}(ty:TypeId)(x:Operand)(g:op.op= .load ty x)
  (b:Addr)(i:a.eval x= .pointer (some b))(cs:List Value)(d:TypeDesc)(c:∀j v,cs[j]? =some v->w.cell? (b.add j)=some v)
  (hu:P.underlying ty=some d)(e:d.isRow=true)(f:(P.info? ty).map (·.size)=some cs.length)
  (h:K (a.put op.dst (.agg cs.toArray)) w):op.wp P a w K Q:=by
 unfold Oper.wp execOp;simp only[g,i,Instr.loadAt,Instr.sureAddr,Sem.run_bind,Sem.run_pure,Result.andThen_ok,kK w b ty cs d c hu e f];exact h
theorem aB{P:Program}{ops:Array Oper}{rest:List Oper}{op:Oper}{a:Act}{w:World}{Q:Exit->Act->World->Prop}(c:op.guard=none)(ty:TypeId)(x:Operand)(k:op.op= .load ty x)
  (b:Addr)(l:a.eval x= .pointer (some b))(cs:List Value)(d:TypeDesc)(f:∀j v,cs[j]? =some v->w.cell? (b.add j)=some v)
  (hu:P.underlying ty=some d)(g:d.isRow=true)(i:(P.info? ty).map (·.size)=some cs.length)
  (h:wpList P ops Q rest (a.put op.dst (.agg cs.toArray)) w):wpList P ops Q (op::rest) a w:=
 wpList_plain c λ_ e=>au ty x k b l cs d f hu g i (e _ _ h)
def gN(ds:List (List UInt8)):List UInt8:=if ds=[]then rP else cY ds
def aX(p:Prop):Prop:=p
theorem aX.go{p:Prop}(h:aX p):p:=h
theorem uJ:(prog.info? 38).map (λi=>(i.zero,i.size,i.bytes))=some (some bp,32,32):=by kernel_rfl
theorem foldl_set:∀(l:List Value)(k off:Nat)(b:List Value),off+k+l.length<=b.length->(l.zipIdx k).foldl (λcs x=>cs.setIfInBounds (off+x.2) x.1) b.toArray=(b.take (off+k)++l++b.drop (off+k+l.length)).toArray
 |[],k,off,b,_=>by simp
 |c::r,k,off,b,h=>by
  simp only[List.length_cons]at h;rw[List.zipIdx_cons,List.foldl_cons,List.setIfInBounds_toArray,foldl_set r (k+1) off (b.set (off+k) c) (by rw[List.length_set];omega)];congr 1;have a:(b.set (off+k) c).take (off+(k+1))=b.take (off+k)++[c]:=by
   rw[List.take_set,show off+(k+1)=(off+k)+1 by omega,List.take_succ_eq_append_getElem (by omega:off+k<b.length),List.set_append_right _ _ (by simp;omega)];simp;rw[show off+k-min (off+k) b.length=0 by omega];rfl
  have d:(b.set (off+k) c).drop (off+(k+1)+r.length)=b.drop (off+k+(c::r).length):=by
   rw[List.drop_set_of_lt (by omega)];congr 1;simp only[List.length_cons];omega
  rw[a,d];simp
theorem mc(cs b:Array Value)(off:Nat)(h:off+cs.size<=b.size):cs.zipIdx.foldl (λcs(x:Value×Nat)=>cs.setIfInBounds (off+x.2) x.1) b=(b.toList.take off++cs.toList++b.toList.drop (off+cs.size)).toArray:=by
 rw[<-Array.foldl_toList,Array.toList_zipIdx];have:=foldl_set cs.toList 0 off b.toList (by simpa using h);simpa using this
theorem sN(cs b:Array Value)(d:cs.size=32)(c:b.size=32):Instr.fill (λi=>some (i*32,32)) b [(0, .agg cs)]=some cs:=by
 have a:=mc cs b 0 (by omega);simp only[Instr.fill,Value.cells,d,c,Nat.zero_mul,Nat.zero_add,ne_eq,not_true_eq_false,decide_false,Bool.false_or,gt_iff_lt,Nat.lt_irrefl,Bool.false_eq_true,if_false];simp only[Nat.zero_add,List.take_zero,List.nil_append,d]at a;rw[List.drop_of_length_le (by simp[c]),List.append_nil]at a;rw[a]
def yY(w:World)(n:Nat)(ds:List (List UInt8))(e:Ending)(w':World):Prop:=∃v,e= .returned v/\bT 38 32 w (.slice none 0 0) w' v n (ds.flatMap aC)
def MK(w:World)(e:Ending)(w':World):Prop:=e= .returned (.pointer (some ⟨w.heap.size,0,none⟩))/\w'=w.alloc (.cells #[.slice none 0 0, .map none] 180)
theorem o3(w:World):Calls prog 83 #[] w (MK w):=by
 go_enter func83,ntmps83;go_wp2;go_ret;exact⟨rfl,rfl⟩
structure Lc(w w':World):Prop where
 map:w'.heap[w.heap.size]? =some (.map #[] 0)
 fr:Fr Nothing w w'
 size:w'.heap.size=w.heap.size+1
theorem uz{P:Program}{ops:Array Oper}{rest:List Oper}{e:Oper}{a:Act}{w:World}{Q:Exit->Act->World->Prop}(c:e.guard=none)(t:TypeId)(d:e.op= .makeMap t none)
  (h:∀w',Lc w w'->wpList P ops Q rest (a.put e.dst (.map (some w.heap.size))) w'):wpList P ops Q (e::rest) a w:=by
 refine wpList_plain c λK b=>?_;have mk:(Instr.makeMap t none).run P w= .ok (.map (some w.heap.size)) (w.alloc (.map #[] 0)):=by simp[Instr.makeMap]
 unfold Oper.wp execOp;simp only[d,Option.map_none,Sem.run_bind,mk,Sem.run_pure,Result.andThen_ok];exact b _ _ (h _ ⟨heap_alloc_new w _,aA.alloc _,by simp⟩)
theorem fj{P:Program}{ops:Array Oper}{rest:List Oper}{op:Oper}{a:Act}{w:World}{Q:Exit->Act->World->Prop}(b:op.guard=none)(ty:TypeId)(x:Operand)(i:op.op= .load ty x)
  (g:Nat)(l:a.eval x= .pointer (some ⟨g,0,none⟩))(t:TypeId)(cs:List Value)(c:aq w g t cs.toArray)(d:TypeDesc)
  (hu:P.underlying ty=some d)(e:d.isRow=true)(f:(P.info? ty).map (·.size)=some cs.length)
  (h:wpList P ops Q rest (a.put op.dst (.agg cs.toArray)) w):wpList P ops Q (op::rest) a w:=
 aB b ty x i ⟨g,0,none⟩ l cs d (λj v k=>by rw[Addr.add_mid,Nat.zero_add,c.cell,bP];exact k) hu e f h
theorem Ib(a e b:Array Value)(c:a.size=32)(g:e.size=32)(f:b.size=64):Instr.fill (λi=>some (i*32,32)) b [(0, .agg a),(1, .agg e)]=some (a.toList++e.toList).toArray:=by
 have h:=mc a b 0 (by omega);simp only[Nat.zero_add,List.take_zero,List.nil_append,c]at h;have l:(a.toList++b.toList.drop 32).toArray.size=64:=by simp[c,f]
 have d:=mc e (a.toList++b.toList.drop 32).toArray 32 (by omega);have j:(a.toList++b.toList.drop 32).take 32=a.toList:=by rw[List.take_append_of_le_length (by simp[c]),List.take_of_length_le (by simp[c])]
 have k:(a.toList++b.toList.drop 32).drop (32+32)=[]:=List.drop_of_length_le (by simp[c,f]);simp only[g,j,k,List.append_nil]at d;simp only[Instr.fill,Value.cells,c,g,f,Nat.zero_mul,Nat.zero_add,Nat.one_mul,ne_eq,not_true_eq_false,decide_false,Bool.false_or,gt_iff_lt,Nat.lt_irrefl,Bool.false_eq_true,if_false,Nat.reduceAdd,Nat.reduceLT,h,l,d]
theorem gK.BJ{w w':World}{v:Value}{n:Nat}{ds:List (List UInt8)}(h:bT 38 32 w (.slice none 0 0) w' v n (ds.flatMap aC))(i:ds.length=n)(he:∀d∈ds,d.length=32):
  ∃A c,v= .slice A n c/\gK w' (od v) A n ds/\n<=c/\c<=9223372036854775807/\Fr Nothing w w':=by
 obtain⟨A,c,rfl,f⟩:=wF h.own;refine⟨A,c,rfl,⟨Rd.ia h.own,i,he⟩,f,?_,h.ao⟩;rcases h.own.2 with⟨b,_⟩|⟨g,cap,cur,b,_,_,_,a,_⟩;·injection b with _ _ e;omega
 ·injection b with _ _ e;unfold maxLen at a;omega
theorem mJ{P:Program}{op:Oper}{a:Act}{w:World}{K:Act->World->Prop}{Q:Exit->Act->World->Prop}(i:BinOp)(t:TypeId)(x y:Operand)(ty:TypeId)(d:op.op= .binOp i t x y ty)
  (xs b:Array Value)(f:a.eval x= .agg xs)(g:a.eval y= .agg b)(c:P.eqGuardType P.depth t=false)
  (v:Value)(e:(binOp i t (.agg xs) (.agg b)).run P w= .ok v w)(h:K (a.put op.dst v) w):op.wp P a w K Q:=by
 have he:=run_eqGuard_agg (P:=P) (w:=w) i t x y xs b c;unfold Oper.wp execOp;simp only[d,f,g,Sem.run_bind,he,e,Result.andThen_ok];exact h
theorem nF(n:Nat)(ds:List (List UInt8))(b:ds.length=n)(e:n<=1048576)(he:∀d∈ds,d.length=32):(gN ds).length=32:=by
 unfold gN;split;·exact pt
 ·rename_i h;have c:1<=n:=by
   rcases Nat.eq_zero_or_pos n with a|a;·exact absurd (List.eq_nil_of_length_eq_zero (b.trans a)) h
   ·exact a
  exact gH n ds b c (by omega) he
end Go.Proofs.YtphjagkehiklkaaGreatDoor.Lt
namespace Go.Proofs.YtphjagkehiklkaaGreatDoor.Lt
open Proofs.Tryz Go.RowKit Go.ChangeShapes Go.WideShapes Go.Deep
structure uC where
 leaf:List UInt8
 index:Int
 n:Int
 A:Option Addr
 len:Nat
 cap:Nat
 path:List (List UInt8)
def uC.val(c:uC):Value:= .agg (aC c.leaf++[Value.int .i64 c.index,Value.int .i64 c.n,Value.slice c.A c.len c.cap]).toArray
structure uC.jZ(c:uC)(w:World):Prop where
 leaf:c.leaf.length=32
 index:-9223372036854775808<=c.index/\c.index<=9223372036854775807
 n:-9223372036854775808<=c.n/\c.n<=9223372036854775807
 path:gK w (Old w) c.A c.len c.path
 le:c.len<=c.cap
 cap:c.cap<=9223372036854775807
end Go.Proofs.YtphjagkehiklkaaGreatDoor.Lt
