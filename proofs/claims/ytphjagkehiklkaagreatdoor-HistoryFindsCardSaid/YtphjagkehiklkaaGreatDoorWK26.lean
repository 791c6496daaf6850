/- Texts. -/
import Derived.Test.YtphjagkehiklkaaGreatDoorWK25
set_option linter.unusedVariables false
set_option linter.unusedSimpArgs false
set_option maxRecDepth 100000
set_option maxHeartbeats 4000000
namespace Go.Proofs.YtphjagkehiklkaaGreatDoor
open Go.RowKit
structure JD(M:List UInt8)(L:Nat)(B:List UInt8)(s:cS):Prop where
 len:B.length=64
 ok:s.ok
 eq:dR (fN s (B.take 56++len8 L))=eF M
theorem tO(s:cS)(b:List UInt8):(fN s b).ok:=yL _ _
theorem E0(B:List UInt8)(h:B.length=64):cO B 0 (List.replicate 64 0)=List.replicate 64 0:=by
 unfold cO;rw[List.drop_of_length_le (by simp[h]),List.take_zero,List.nil_append,List.append_nil]
theorem ED{w:World}{g:Nat}{t:TypeId}{V:cS}{k:Nat}(h:aq w g t ((lX V (4*k)).map aS).toArray)(a:k<8):
  aq ((((w.setCell ⟨g,4*k,none⟩ (.int .u8 ((fo V k/16777216%256:Nat):Int))).setCell ⟨g,4*k+1,none⟩ (.int .u8 ((fo V k/65536%256:Nat):Int))).setCell ⟨g,4*k+2,none⟩ (.int .u8 ((fo V k/256%256:Nat):Int))).setCell ⟨g,4*k+3,none⟩ (.int .u8 ((fo V k%256:Nat):Int))) g t ((lX V (4*k+4)).map aS).toArray:=by
 have f:(dR V)[4*k]? =some (ij (fo V k/16777216)):=by simpa using td V k 0 a (by omega)
 have i:(dR V)[4*k+1]? =some (ij (fo V k/65536)):=by simpa using td V k 1 a (by omega)
 have j:(dR V)[4*k+2]? =some (ij (fo V k/256)):=by simpa using td V k 2 a (by omega)
 have x3:(dR V)[4*k+3]? =some (ij (fo V k)):=by simpa using td V k 3 a (by omega)
 rw[←iY,←iY,←iY,←iY];have b:=h.jC (4*k) (aS (ij (fo V k/16777216)));rw[List.setIfInBounds_toArray,pj V (4*k) _ (by omega) f]at b;have c:=b.jC (4*k+1) (aS (ij (fo V k/65536)));rw[List.setIfInBounds_toArray,pj V (4*k+1) _ (by omega) i]at c;have d:=c.jC (4*k+2) (aS (ij (fo V k/256)));rw[List.setIfInBounds_toArray,pj V (4*k+2) _ (by omega) j]at d;have e:=d.jC (4*k+3) (aS (ij (fo V k)));rw[List.setIfInBounds_toArray,pj V (4*k+3) _ (by omega) x3]at e;exact e
theorem pk{w:World}{g:Nat}{t:TypeId}{V:cS}{k i:Nat}(h:aq w g t ((lX V k).map aS).toArray)(b:k≤32)(a:i<32):∃u,w.cell? ⟨g,i,none⟩=some u:=by
 have hlen:i<((lX V k).map aS).length:=by rw[List.length_map,xK V k b];exact a
 rw[h.cell,bR];exact⟨_,List.getElem?_eq_getElem hlen⟩
theorem I7(B:List UInt8)(L:Nat):jB B L 8=B.take 56++len8 L:=rfl
theorem Eb(g:Nat)(M rest:List UInt8)(w:World)(H:mX w g M rest)(bk:bB w)(bV:M.length≤1099511627776)(a4:1≤M.length):
  Calls Tryz.prog 80 #[.pointer (some ⟨g,0,none⟩)] w (aJ w (.agg ((eF M).map aS).toArray)):=by
 have bO:=af H.ok;have aK:=af (Im M rest H.ok (M.length%64) rfl);have ah:=af (Ab dU M wQ (M.length/64));have R:=af bk;obtain⟨H,ab,a6⟩:=H;clear a6;generalize gv dU M (M.length/64)=ST at*;obtain⟨I,Y⟩:∃I,I=((eF M).map aS).toArray:=⟨_,rfl⟩;rw[←Y];have U:=af Y;obtain⟨L,N⟩:∃L,L=M.length:=⟨_,rfl⟩;have bN:=af N;obtain⟨a,aL⟩:∃a,a=L%64:=⟨_,rfl⟩;have s:a<64:=by omega
 rw[←N,←aL]at aK;rw[←N]at H bV a4;have b6:=af aL;have hm:((L:Nat):Int).tmod 64=(a:Int):=by rw[Int.tmod_eq_emod_of_nonneg (by omega),aL];omega
 clear Y bk N aL;have bh:w.cell? ⟨g,0,none⟩=some (.int .i64 (L:Nat)):=H.cell 0;have Q:w.rangeAt g 1 (fC ST):=by
  intro j v P;rw[←P];exact H.lA (pre:=[.int .i64 L]) (os:=1) rfl (List.getElem?_eq_some_iff.1 P).1
 have bu:w.rangeAt g 9 (rest.map aS):=by
  intro j v P;have b2:j<64:=by have:=(List.getElem?_eq_some_iff.1 P).1;simpa[ab]using this
  rw[qb H ab j b2,←P,List.getElem?_map,List.getElem?_eq_getElem (by omega)];rfl
 have HB:=af H;have r:=af ab;have a9:=Tryz.underlying141;have aE:=Tryz.underlying142;have i8:=JQ ST;have i64:(Tryz.prog.info? 142).map (·.size)=some (rest.map aS).length:=by rw[List.length_map,ab];exact He
 have hlen:(rest.map aS).length=64:=by rw[List.length_map,ab]
 have av:∀v∈rest.map aS,v.oneCell'=true:=by
  intro v P;obtain⟨x,_,rfl⟩:=List.mem_map.1 P;rfl
 clear ab;generalize bj:rest.map aS=aT at*;have W:Hid (aT=rest.map aS):=bj.symm;clear bj H;go_enter Tryz.func80,Tryz.ntmps80;go_wp2_with(refine ak rfl 38 rfl aI dW aB rfl ?_);intro w1 n1;have aj:=af n1;have am:=n1.fr.an bh (fun x=>x);have bv:=n1.fr.an (Q 0 _ rfl) (fun x=>x);have s1:=n1.fr.an (Q 1 _ rfl) (fun x=>x);have s2:=n1.fr.an (Q 2 _ rfl) (fun x=>x);have bw:=n1.fr.an (Q 3 _ rfl) (fun x=>x);have bx:=n1.fr.an (Q 4 _ rfl) (fun x=>x);have bz:=n1.fr.an (Q 5 _ rfl) (fun x=>x);have bA:=n1.fr.an (Q 6 _ rfl) (fun x=>x);have bC:=n1.fr.an (Q 7 _ rfl) (fun x=>x);simp only[ju,Nat.reduceAdd]at bv s1 s2 bw bx bz bA bC;have a8:w1.rangeAt g 9 aT:=fun j v P=>n1.fr.an (bu j v P) (fun x=>x);have aW:g<w1.heap.size:=Nat.lt_of_lt_of_le HB.out.lt n1.fr.size;have bL:Hid (g<w1.heap.size∧w.heap.size<w1.heap.size):=⟨aW,by have:=n1.size;omega⟩;clear n1 bh Q bu;go_upto_region 3 with fail;have t1:((w1.alloc (.cells #[.int .u32 (ST.a:Nat), .int .u32 (ST.b:Nat), .int .u32 (ST.c:Nat), .int .u32 (ST.d:Nat), .int .u32 (ST.e:Nat), .int .u32 (ST.f:Nat), .int .u32 (ST.g:Nat), .int .u32 (ST.h:Nat)] 141)).alloc (.cells #[.int .u8 0, .int .u8 0, .int .u8 0, .int .u8 0, .int .u8 0, .int .u8 0, .int .u8 0, .int .u8 0, .int .u8 0, .int .u8 0, .int .u8 0, .int .u8 0, .int .u8 0, .int .u8 0, .int .u8 0, .int .u8 0, .int .u8 0, .int .u8 0, .int .u8 0, .int .u8 0, .int .u8 0, .int .u8 0, .int .u8 0, .int .u8 0, .int .u8 0, .int .u8 0, .int .u8 0, .int .u8 0, .int .u8 0, .int .u8 0, .int .u8 0, .int .u8 0, .int .u8 0, .int .u8 0, .int .u8 0, .int .u8 0, .int .u8 0, .int .u8 0, .int .u8 0, .int .u8 0, .int .u8 0, .int .u8 0, .int .u8 0, .int .u8 0, .int .u8 0, .int .u8 0, .int .u8 0, .int .u8 0, .int .u8 0, .int .u8 0, .int .u8 0, .int .u8 0, .int .u8 0, .int .u8 0, .int .u8 0, .int .u8 0, .int .u8 0, .int .u8 0, .int .u8 0, .int .u8 0, .int .u8 0, .int .u8 0, .int .u8 0, .int .u8 0] 142)).drew.there (w1.heap.size+1) 0 64:=by
  have h:=(aq.new (w1.alloc (.cells #[.int .u32 (ST.a:Nat), .int .u32 (ST.b:Nat), .int .u32 (ST.c:Nat), .int .u32 (ST.d:Nat), .int .u32 (ST.e:Nat), .int .u32 (ST.f:Nat), .int .u32 (ST.g:Nat), .int .u32 (ST.h:Nat)] 141)) 142 #[.int .u8 0, .int .u8 0, .int .u8 0, .int .u8 0, .int .u8 0, .int .u8 0, .int .u8 0, .int .u8 0, .int .u8 0, .int .u8 0, .int .u8 0, .int .u8 0, .int .u8 0, .int .u8 0, .int .u8 0, .int .u8 0, .int .u8 0, .int .u8 0, .int .u8 0, .int .u8 0, .int .u8 0, .int .u8 0, .int .u8 0, .int .u8 0, .int .u8 0, .int .u8 0, .int .u8 0, .int .u8 0, .int .u8 0, .int .u8 0, .int .u8 0, .int .u8 0, .int .u8 0, .int .u8 0, .int .u8 0, .int .u8 0, .int .u8 0, .int .u8 0, .int .u8 0, .int .u8 0, .int .u8 0, .int .u8 0, .int .u8 0, .int .u8 0, .int .u8 0, .int .u8 0, .int .u8 0, .int .u8 0, .int .u8 0, .int .u8 0, .int .u8 0, .int .u8 0, .int .u8 0, .int .u8 0, .int .u8 0, .int .u8 0, .int .u8 0, .int .u8 0, .int .u8 0, .int .u8 0, .int .u8 0, .int .u8 0, .int .u8 0, .int .u8 0]).drew;rw[show(w1.alloc (.cells #[.int .u32 (ST.a:Nat), .int .u32 (ST.b:Nat), .int .u32 (ST.c:Nat), .int .u32 (ST.d:Nat), .int .u32 (ST.e:Nat), .int .u32 (ST.f:Nat), .int .u32 (ST.g:Nat), .int .u32 (ST.h:Nat)] 141)).heap.size=w1.heap.size+1 by simp]at h;exact lK h rfl
 have t2:((w1.alloc (.cells #[.int .u8 0, .int .u8 0, .int .u8 0, .int .u8 0, .int .u8 0, .int .u8 0, .int .u8 0, .int .u8 0, .int .u8 0, .int .u8 0, .int .u8 0, .int .u8 0, .int .u8 0, .int .u8 0, .int .u8 0, .int .u8 0, .int .u8 0, .int .u8 0, .int .u8 0, .int .u8 0, .int .u8 0, .int .u8 0, .int .u8 0, .int .u8 0, .int .u8 0, .int .u8 0, .int .u8 0, .int .u8 0, .int .u8 0, .int .u8 0, .int .u8 0, .int .u8 0, .int .u8 0, .int .u8 0, .int .u8 0, .int .u8 0, .int .u8 0, .int .u8 0, .int .u8 0, .int .u8 0, .int .u8 0, .int .u8 0, .int .u8 0, .int .u8 0, .int .u8 0, .int .u8 0, .int .u8 0, .int .u8 0, .int .u8 0, .int .u8 0, .int .u8 0, .int .u8 0, .int .u8 0, .int .u8 0, .int .u8 0, .int .u8 0, .int .u8 0, .int .u8 0, .int .u8 0, .int .u8 0, .int .u8 0, .int .u8 0, .int .u8 0, .int .u8 0] 142)).alloc (.cells #[.int .u32 (ST.a:Nat), .int .u32 (ST.b:Nat), .int .u32 (ST.c:Nat), .int .u32 (ST.d:Nat), .int .u32 (ST.e:Nat), .int .u32 (ST.f:Nat), .int .u32 (ST.g:Nat), .int .u32 (ST.h:Nat)] 141)).drew.there w1.heap.size 0 64:=
  lK ((aq.new w1 142 #[.int .u8 0, .int .u8 0, .int .u8 0, .int .u8 0, .int .u8 0, .int .u8 0, .int .u8 0, .int .u8 0, .int .u8 0, .int .u8 0, .int .u8 0, .int .u8 0, .int .u8 0, .int .u8 0, .int .u8 0, .int .u8 0, .int .u8 0, .int .u8 0, .int .u8 0, .int .u8 0, .int .u8 0, .int .u8 0, .int .u8 0, .int .u8 0, .int .u8 0, .int .u8 0, .int .u8 0, .int .u8 0, .int .u8 0, .int .u8 0, .int .u8 0, .int .u8 0, .int .u8 0, .int .u8 0, .int .u8 0, .int .u8 0, .int .u8 0, .int .u8 0, .int .u8 0, .int .u8 0, .int .u8 0, .int .u8 0, .int .u8 0, .int .u8 0, .int .u8 0, .int .u8 0, .int .u8 0, .int .u8 0, .int .u8 0, .int .u8 0, .int .u8 0, .int .u8 0, .int .u8 0, .int .u8 0, .int .u8 0, .int .u8 0, .int .u8 0, .int .u8 0, .int .u8 0, .int .u8 0, .int .u8 0, .int .u8 0, .int .u8 0, .int .u8 0]).alloc _).drew rfl;go_cut[0,2,3,4,5](fun ay az aA aC a7 aG=>∃gs m,ay= .pointer (some ⟨g,0,none⟩)∧az= .pointer (some ⟨w.heap.size,0,none⟩)∧aA= .pointer (some ⟨gs,0,none⟩)∧aC= .pointer (some ⟨m,0,none⟩)∧a7= .int .i64 a∧eK w1 aG gs m ST rest);case first=>
  go_region_held3(fun w'=>w'.cell? ⟨g,0,none⟩=some (.int .i64 (L:Nat))∧w'.cell? ⟨g,1,none⟩=some (.int .u32 (ST.a:Nat))∧w'.cell? ⟨g,2,none⟩=some (.int .u32 (ST.b:Nat))∧w'.cell? ⟨g,3,none⟩=some (.int .u32 (ST.c:Nat))∧w'.cell? ⟨g,4,none⟩=some (.int .u32 (ST.d:Nat))∧w'.cell? ⟨g,5,none⟩=some (.int .u32 (ST.e:Nat))∧w'.cell? ⟨g,6,none⟩=some (.int .u32 (ST.f:Nat))∧w'.cell? ⟨g,7,none⟩=some (.int .u32 (ST.g:Nat))∧w'.cell? ⟨g,8,none⟩=some (.int .u32 (ST.h:Nat))∧w'.rangeAt g 9 aT∧g<w'.heap.size)((go_split_ands;(repeat' constructor)<;>first|assumption|(refine lT (by assumption) (by omega))|(refine ql (by assumption) (by omega))|(refine ri (by assumption))|((repeat refine Lib.cell?_alloc_some _ ?_);assumption)|((repeat refine World.rangeAt_alloc ?_ _);assumption)|(simp;omega)))(first|fail);·go_wp2_with fail;go_meet;have h:=(xg (w:=w1) ST rest r.out #[.int .u8 0, .int .u8 0, .int .u8 0, .int .u8 0, .int .u8 0, .int .u8 0, .int .u8 0, .int .u8 0, .int .u8 0, .int .u8 0, .int .u8 0, .int .u8 0, .int .u8 0, .int .u8 0, .int .u8 0, .int .u8 0, .int .u8 0, .int .u8 0, .int .u8 0, .int .u8 0, .int .u8 0, .int .u8 0, .int .u8 0, .int .u8 0, .int .u8 0, .int .u8 0, .int .u8 0, .int .u8 0, .int .u8 0, .int .u8 0, .int .u8 0, .int .u8 0, .int .u8 0, .int .u8 0, .int .u8 0, .int .u8 0, .int .u8 0, .int .u8 0, .int .u8 0, .int .u8 0, .int .u8 0, .int .u8 0, .int .u8 0, .int .u8 0, .int .u8 0, .int .u8 0, .int .u8 0, .int .u8 0, .int .u8 0, .int .u8 0, .int .u8 0, .int .u8 0, .int .u8 0, .int .u8 0, .int .u8 0, .int .u8 0, .int .u8 0, .int .u8 0, .int .u8 0, .int .u8 0, .int .u8 0, .int .u8 0, .int .u8 0, .int .u8 0] rfl).1;rw[←W.out]at h;exact⟨_,_,rfl,rfl,rfl,rfl,rfl,h⟩
  ·go_wp2_with fail;go_meet;have h:=(xg (w:=w1) ST rest r.out #[.int .u8 0, .int .u8 0, .int .u8 0, .int .u8 0, .int .u8 0, .int .u8 0, .int .u8 0, .int .u8 0, .int .u8 0, .int .u8 0, .int .u8 0, .int .u8 0, .int .u8 0, .int .u8 0, .int .u8 0, .int .u8 0, .int .u8 0, .int .u8 0, .int .u8 0, .int .u8 0, .int .u8 0, .int .u8 0, .int .u8 0, .int .u8 0, .int .u8 0, .int .u8 0, .int .u8 0, .int .u8 0, .int .u8 0, .int .u8 0, .int .u8 0, .int .u8 0, .int .u8 0, .int .u8 0, .int .u8 0, .int .u8 0, .int .u8 0, .int .u8 0, .int .u8 0, .int .u8 0, .int .u8 0, .int .u8 0, .int .u8 0, .int .u8 0, .int .u8 0, .int .u8 0, .int .u8 0, .int .u8 0, .int .u8 0, .int .u8 0, .int .u8 0, .int .u8 0, .int .u8 0, .int .u8 0, .int .u8 0, .int .u8 0, .int .u8 0, .int .u8 0, .int .u8 0, .int .u8 0, .int .u8 0, .int .u8 0, .int .u8 0, .int .u8 0] rfl).2;rw[←W.out]at h;exact⟨_,_,rfl,rfl,rfl,rfl,rfl,h⟩
 case rest=>
  clear t1 t2;obtain⟨gs,m,rfl,rfl,rfl,rfl,rfl,o⟩:=hcut;clear bv s1 s2 bw bx bz bA bC a8 i8 i64 hlen av hm a9 aE W;have bT:wc.cell? ⟨g,0,none⟩=some (.int .i64 (L:Nat)):=o.fr.an am (fun x=>x);have ci:((L:Int)==0)=false:=by rw[beq_eq_false_iff_ne];omega
  have bW:(a:Int)<64:=by omega
  have t:=o.cell r.out a s;have u:wc.frozen? ⟨m,a,none⟩=false:=o.bb.frozen a;have al:Hid (eK w1 (wc.setCell ⟨m,a,none⟩ (.int .u8 128)) gs m ST (rest.set a 128)):=o.put a 128;clear o;go_upto_region 7 with fail;clear bT t u;generalize wc.setCell ⟨m,a,none⟩ (.int .u8 128)=w2 at*;obtain⟨p,a5⟩:∃p,p=w.heap.size:=⟨_,rfl⟩;rw[←a5];have aQ:=af a5;clear a5;go_cut[0,2,3,4,5](fun ay az aA aC a7 aG=>ay= .pointer (some ⟨g,0,none⟩)∧az= .pointer (some ⟨p,0,none⟩)∧aA= .pointer (some ⟨gs,0,none⟩)∧aC= .pointer (some ⟨m,0,none⟩)∧a7= .int .i64 a∧eK w1 aG gs m ST (mL rest a));case first=>
   by_cases G:a=63
   ·have O:=fun A ty=>Ad w2 A 0 ty;rw[G,GV rest r.out]at al;have bM:=af G;have bE:IntKind.i64.wrap ((a:Int)+1)=64:=by rw[G];rfl
    have bF:(a:Int)+1=64:=by omega
    clear G;go_wp2_with(simp only[O]);go_meet;exact⟨rfl,rfl,rfl,rfl,rfl,by rw[bM.out];exact al.out⟩
   ·obtain⟨C,Z⟩:∃C,C=a+1:=⟨_,rfl⟩;have O:=sM al.out (by simp[r.out]) C (64-C) (64-C) (by omega) (by omega);have q:Hid (eK w1 (w2.setCells m C (List.replicate (64-C) (.int .u8 0))) gs m ST (mL rest a)):=by
     have h:=al.out.clear C (64-C) (by simp[r.out];omega);rw[Z,show 64-(a+1)=63-a by omega,zj rest a r.out s]at h;rw[Z,show 64-(a+1)=63-a by omega];exact h
    have bE:IntKind.i64.wrap ((a:Int)+1)=(C:Int):=(IntWalk.i64_in _ (by omega)).trans (by omega);have bF:(a:Int)+1=(C:Int):=by omega
    have x3:(C:Int)≤64:=by omega
    have cl:¬64=C:=by omega
    have cm:C≤64:=by omega
    clear Z G;go_wp2_with(simp only[O]);go_meet;exact⟨rfl,rfl,rfl,rfl,rfl,q.out⟩
  case rest=>
   obtain⟨rfl,rfl,rfl,rfl,rfl,o⟩:=hcut;have aa:=af o;clear o al;go_upto_if 39 with fail;go_cut[0,2,3,4](fun ay az aA aC aG=>ay= .pointer (some ⟨g,0,none⟩)∧az= .pointer (some ⟨p,0,none⟩)∧aA= .pointer (some ⟨gs,0,none⟩)∧aC= .pointer (some ⟨m,0,none⟩)∧∃y B,eK w1 aG gs m y B∧JD M L B y);case first=>
    have z:Hid (bB wc):=R.out.ar (aj.out.fr.trans aa.out.fr);by_cases a3:56≤a
    ·have ad:=af (my gs 0 m 0 141 [] [] ST ah.out (mL rest a) wc aa.out.state rfl (aa.out.cell0 (jo rest a r.out s)) z.out.kk);have aN:=af (aK.out.2 a3);have aR:=af (tO ST (mL rest a));generalize fN ST (mL rest a)=be at*;have bY:decide ((56:Int)≤(a:Int))=true:=by simp;omega
     go_wp2_with fail;refine ad.out.mono ?_;rintro e ac⟨rfl,f4,b4⟩;have bf:=af (aa.out.DS f4 b4);have O:=sM bf.out (jo rest a r.out s) 0 64 64 (by omega) (by omega);have bS:Hid (eK w1 (ac.setCells m 0 (List.replicate 64 (.int .u8 0))) gs m be (List.replicate 64 0)):=by
      have h:=bf.out.clear 0 64 (by rw[jo rest a r.out s];omega);rw[E0 _ (jo rest a r.out s)]at h;exact h
     clear f4 b4 ad;go_wp2;go_meet;exact⟨rfl,rfl,rfl,rfl,be,_,bS.out,by simp,aR.out,aN.out⟩
    ·have aM:=af (aK.out.1 (by omega));have bY:decide ((56:Int)≤(a:Int))=false:=by simp;omega
     go_wp2;go_meet;exact⟨rfl,rfl,rfl,rfl,ST,_,aa.out,jo rest a r.out s,ah.out,aM.out⟩
   case rest=>
    clear aK aa;obtain⟨rfl,rfl,rfl,rfl,y,B,o,K⟩:=hcut;have bU:wc.cell? ⟨g,0,none⟩=some (.int .i64 (L:Nat)):=o.fr.an am (fun x=>x);have l:=af K.len;have ae:=af K;have bg:Hid (eK w1 wc gs m y (jB B L 0)):=by simp only[Hid];rw[BJ B L K.len];exact o
    clear o K;have b5:(8:Int)*(L:Int)≤8796093022208:=by omega
    go_wp2;go_loopw[48](fun i wr=>∃k:Nat,k≤8∧i= .int .i64 k∧eK w1 wr gs m y (jB B L k))(fun i _=>8-(intOf i).toNat);case atStart=>exact⟨0,by omega,rfl,bg.out⟩
    case round=>
    obtain⟨k,bn,rfl,o⟩:=hrel;have n:=af o;clear bg bU o;have bX:k=0∨k=1∨k=2∨k=3∨k=4∨k=5∨k=6∨k=7∨k=8:=by omega
    clear bn;rcases bX with rfl|rfl|rfl|rfl|rfl|rfl|rfl|rfl|rfl
    ·have h:=n.out.put (63-0) (ij (8*L));rw[jl B L 0 l.out (by omega) _ (by simp[len8]),iY]at h;have q:Hid (eK w1 (wr.setCell ⟨m,63-0,none⟩ (.int .u8 ((8*L%256:Nat):Int))) gs m y (jB B L (0+1))):=h;have t:wr.cell? ⟨m,63-0,none⟩=some _:=n.out.cell (fQ _ _ _ l.out (by omega)) (63-0) (by omega);have u:wr.frozen? ⟨m,63-0,none⟩=false:=n.out.bb.frozen _;simp only[Nat.reduceSub]at t u q;clear h n;go_wp2;go_roundw;case rel=>exact⟨1,by omega,by go_num,eK.val (by omega) q.out⟩
     case measure=>simp[intOf]
    ·have h:=n.out.put (63-1) (ij (8*L/256));rw[jl B L 1 l.out (by omega) _ (by simp[len8]),iY]at h;have q:Hid (eK w1 (wr.setCell ⟨m,63-1,none⟩ (.int .u8 ((8*L/256%256:Nat):Int))) gs m y (jB B L (1+1))):=h;have t:wr.cell? ⟨m,63-1,none⟩=some _:=n.out.cell (fQ _ _ _ l.out (by omega)) (63-1) (by omega);have u:wr.frozen? ⟨m,63-1,none⟩=false:=n.out.bb.frozen _;simp only[Nat.reduceSub]at t u q;clear h n;go_wp2;go_roundw;case rel=>exact⟨2,by omega,by go_num,eK.val (by omega) q.out⟩
     case measure=>simp[intOf]
    ·have h:=n.out.put (63-2) (ij (8*L/65536));rw[jl B L 2 l.out (by omega) _ (by simp[len8]),iY]at h;have q:Hid (eK w1 (wr.setCell ⟨m,63-2,none⟩ (.int .u8 ((8*L/65536%256:Nat):Int))) gs m y (jB B L (2+1))):=h;have t:wr.cell? ⟨m,63-2,none⟩=some _:=n.out.cell (fQ _ _ _ l.out (by omega)) (63-2) (by omega);have u:wr.frozen? ⟨m,63-2,none⟩=false:=n.out.bb.frozen _;simp only[Nat.reduceSub]at t u q;clear h n;go_wp2;go_roundw;case rel=>exact⟨3,by omega,by go_num,eK.val (by omega) q.out⟩
     case measure=>simp[intOf]
    ·have h:=n.out.put (63-3) (ij (8*L/16777216));rw[jl B L 3 l.out (by omega) _ (by simp[len8]),iY]at h;have q:Hid (eK w1 (wr.setCell ⟨m,63-3,none⟩ (.int .u8 ((8*L/16777216%256:Nat):Int))) gs m y (jB B L (3+1))):=h;have t:wr.cell? ⟨m,63-3,none⟩=some _:=n.out.cell (fQ _ _ _ l.out (by omega)) (63-3) (by omega);have u:wr.frozen? ⟨m,63-3,none⟩=false:=n.out.bb.frozen _;simp only[Nat.reduceSub]at t u q;clear h n;go_wp2;go_roundw;case rel=>exact⟨4,by omega,by go_num,eK.val (by omega) q.out⟩
     case measure=>simp[intOf]
    ·have h:=n.out.put (63-4) (ij (8*L/4294967296));rw[jl B L 4 l.out (by omega) _ (by simp[len8]),iY]at h;have q:Hid (eK w1 (wr.setCell ⟨m,63-4,none⟩ (.int .u8 ((8*L/4294967296%256:Nat):Int))) gs m y (jB B L (4+1))):=h;have t:wr.cell? ⟨m,63-4,none⟩=some _:=n.out.cell (fQ _ _ _ l.out (by omega)) (63-4) (by omega);have u:wr.frozen? ⟨m,63-4,none⟩=false:=n.out.bb.frozen _;simp only[Nat.reduceSub]at t u q;clear h n;go_wp2;go_roundw;case rel=>exact⟨5,by omega,by go_num,eK.val (by omega) q.out⟩
     case measure=>simp[intOf]
    ·have h:=n.out.put (63-5) (ij (8*L/1099511627776));rw[jl B L 5 l.out (by omega) _ (by simp[len8]),iY]at h;have q:Hid (eK w1 (wr.setCell ⟨m,63-5,none⟩ (.int .u8 ((8*L/1099511627776%256:Nat):Int))) gs m y (jB B L (5+1))):=h;have t:wr.cell? ⟨m,63-5,none⟩=some _:=n.out.cell (fQ _ _ _ l.out (by omega)) (63-5) (by omega);have u:wr.frozen? ⟨m,63-5,none⟩=false:=n.out.bb.frozen _;simp only[Nat.reduceSub]at t u q;clear h n;go_wp2;go_roundw;case rel=>exact⟨6,by omega,by go_num,eK.val (by omega) q.out⟩
     case measure=>simp[intOf]
    ·have h:=n.out.put (63-6) (ij (8*L/281474976710656));rw[jl B L 6 l.out (by omega) _ (by simp[len8]),iY]at h;have q:Hid (eK w1 (wr.setCell ⟨m,63-6,none⟩ (.int .u8 ((8*L/281474976710656%256:Nat):Int))) gs m y (jB B L (6+1))):=h;have t:wr.cell? ⟨m,63-6,none⟩=some _:=n.out.cell (fQ _ _ _ l.out (by omega)) (63-6) (by omega);have u:wr.frozen? ⟨m,63-6,none⟩=false:=n.out.bb.frozen _;simp only[Nat.reduceSub]at t u q;clear h n;go_wp2;go_roundw;case rel=>exact⟨7,by omega,by go_num,eK.val (by omega) q.out⟩
     case measure=>simp[intOf]
    ·have h:=n.out.put (63-7) (ij (8*L/72057594037927936));rw[jl B L 7 l.out (by omega) _ (by simp[len8]),iY]at h;have q:Hid (eK w1 (wr.setCell ⟨m,63-7,none⟩ (.int .u8 ((8*L/72057594037927936%256:Nat):Int))) gs m y (jB B L (7+1))):=h;have t:wr.cell? ⟨m,63-7,none⟩=some _:=n.out.cell (fQ _ _ _ l.out (by omega)) (63-7) (by omega);have u:wr.frozen? ⟨m,63-7,none⟩=false:=n.out.bb.frozen _;simp only[Nat.reduceSub]at t u q;clear h n;go_wp2;go_roundw;case rel=>exact⟨8,by omega,by go_num,eK.val (by omega) q.out⟩
     case measure=>simp[intOf]
    ·rw[I7]at n;have z:Hid (bB wr):=R.out.ar (aj.out.fr.trans n.out.fr);have ap:(B.take 56++len8 L).length=64:=by simp[l.out,iK]
     have ad:=af (my gs 0 m 0 141 [] [] y ae.out.ok (B.take 56++len8 L) wr n.out.state rfl (n.out.cell0 ap) z.out.kk);have S:=af ae.out.eq;have bP:=af (tO y (B.take 56++len8 L));generalize fN y (B.take 56++len8 L)=V at*;clear ap;go_wp2_with fail;refine ad.out.mono ?_;rintro e ac⟨rfl,f4,b4⟩;have J:=af (n.out.DS f4 b4);clear f4 b4 ad n;go_wp2_with(refine ak rfl 38 rfl aI dW aB rfl ?_);intro aF ax;have aU:Hid (eK w1 aF gs m V (B.take 56++len8 L)):=⟨J.out.fr.trans ax.fr,J.out.ss.fr ax.fr (fun x=>x),J.out.bb.fr ax.fr (fun x=>x),J.out.os,J.out.ob⟩;have bc:=af ax.aH;have ba:Hid (aq aF p 38 aB):=by rw[aQ.out];exact aj.out.aH.fr aU.out.fr (fun x=>x)
     have bd:Hid (Fr ag w aF):=aj.out.fr.trans aU.out.fr;have T:Hid (p<ac.heap.size∧gs<ac.heap.size∧w.heap.size≤ac.heap.size∧w.heap.size≤p):=⟨by have:=J.out.fr.size;have:=bL.out;have:=aQ.out;omega,J.out.ss.lt,(aj.out.fr.trans J.out.fr).size,by have:=aQ.out;omega⟩;clear ax J z;generalize ac.heap.size=g6 at*;obtain⟨aV,ao,aX,aY,aZ,a0,a1,a2⟩:=Cy aU.out.ss;go_wp2;go_loopw[62](fun i wr=>∃k:Nat,k≤8∧i= .int .i64 k∧aq wr g6 38 ((lX V (4*k)).map aS).toArray∧Fr (fun k=>k=g6) aF wr)(fun i _=>8-(intOf i).toNat);case atStart=>exact⟨0,by omega,rfl,by rw[Nat.mul_zero,Bf];exact bc.out,aD⟩
     case round=>
     obtain⟨k,bn,rfl,bl,bm⟩:=hrel;have E:=af bl;have F:=af bm;clear bl bm bc aV ao aX aY aZ a0 a1 a2;by_cases au:k<8
     ·have b1:=wP wr V k au;have cb:=Jl V bP.out k;have D:=ED E.out au;have bG:Hid (Fr (fun k=>k=g6) aF ((((wr.setCell ⟨g6,4*k,none⟩ (.int .u8 ((fo V k/16777216%256:Nat):Int))).setCell ⟨g6,4*k+1,none⟩ (.int .u8 ((fo V k/65536%256:Nat):Int))).setCell ⟨g6,4*k+2,none⟩ (.int .u8 ((fo V k/256%256:Nat):Int))).setCell ⟨g6,4*k+3,none⟩ (.int .u8 ((fo V k%256:Nat):Int)))):=
       (((F.out.setCell (p:=⟨g6,4*k,none⟩) (fun _=>rfl) _).setCell (p:=⟨g6,4*k+1,none⟩) (fun _=>rfl) _).setCell (p:=⟨g6,4*k+2,none⟩) (fun _=>rfl) _).setCell (p:=⟨g6,4*k+3,none⟩) (fun _=>rfl) _;have bK:=af D;obtain⟨v0,b7⟩:=pk E.out (i:=4*k) (by omega) (by omega);obtain⟨v1,b8⟩:=pk E.out (i:=4*k+1) (by omega) (by omega);obtain⟨v2,b9⟩:=pk E.out (i:=4*k+2) (by omega) (by omega);obtain⟨v3,ca⟩:=pk E.out (i:=4*k+3) (by omega) (by omega);have f0:=E.out.frozen (4*k);have f1:=E.out.frozen (4*k+1);have f2:=E.out.frozen (4*k+2);have f3:=E.out.frozen (4*k+3);have m0:IntKind.i64.wrap (4*(k:Int))=((4*k:Nat):Int):=(IntWalk.i64_in _ (by omega)).trans (by omega);have m1:IntKind.i64.wrap (((4*k:Nat):Int)+1)=((4*k+1:Nat):Int):=(IntWalk.i64_in _ (by omega)).trans (by omega);have m2:IntKind.i64.wrap (((4*k:Nat):Int)+2)=((4*k+2:Nat):Int):=(IntWalk.i64_in _ (by omega)).trans (by omega);have m3:IntKind.i64.wrap (((4*k:Nat):Int)+3)=((4*k+3:Nat):Int):=(IntWalk.i64_in _ (by omega)).trans (by omega);have n0:4*(k:Int)=((4*k:Nat):Int):=by omega
      have n1:((4*k:Nat):Int)+1=((4*k+1:Nat):Int):=by omega
      have cc:((4*k:Nat):Int)+2=((4*k+2:Nat):Int):=by omega
      have n3:((4*k:Nat):Int)+3=((4*k+3:Nat):Int):=by omega
      have cd:((4*k:Nat):Int)<32:=by omega
      have ce:((4*k+1:Nat):Int)<32:=by omega
      have cf:((4*k+2:Nat):Int)<32:=by omega
      have ch:((4*k+3:Nat):Int)<32:=by omega
      have bo:¬4*k=4*k+1:=by omega
      have bp:¬4*k=4*k+2:=by omega
      have bq:¬4*k=4*k+3:=by omega
      have br:¬4*k+1=4*k+2:=by omega
      have bs:¬4*k+1=4*k+3:=by omega
      have bt:¬4*k+2=4*k+3:=by omega
      have z0:((fo V k:Nat):Int)/16777216=((fo V k/16777216%256:Nat):Int):=by omega
      have z1:((fo V k:Nat):Int)/65536%256=((fo V k/65536%256:Nat):Int):=by omega
      have z2:((fo V k:Nat):Int)/256%256=((fo V k/256%256:Nat):Int):=by omega
      have z3:((fo V k:Nat):Int)%256=((fo V k%256:Nat):Int):=by omega
      have aP:Hid (4*(k+1)=4*k+4):=by simp only[Hid];omega
      have b3:(k:Int)<8:=by omega
      clear D E F;generalize fo V k/16777216%256=ck at*;generalize fo V k/65536%256=bE at*;generalize fo V k/256%256=bF at*;generalize fo V k%256=x3 at*;generalize fo V k=cj at*;generalize 4*k+1=i1 at*;generalize 4*k+2=i2 at*;generalize 4*k+3=i3 at*;generalize 4*k=i0 at*;go_wp2;go_roundw;case rel=>exact⟨k+1,by omega,by go_num,by rw[aP.out];exact bK.out,bG.out⟩
      case measure=>simp[intOf];omega
     ·have bZ:decide ((k:Int)<8)=false:=by simp;omega
      have bI:Hid (aq wr g6 38 I):=by
       have h:=E.out;rw[show k=8 by omega,GQ,S.out,←U.out]at h;exact h
      have bH:Hid (aq wr p 38 aB):=ba.out.fr F.out (fun e=>by have bi:p=g6:=e;have:=T.out;omega);have bJ:Hid (Fr ag w wr):=bd.out.aw F.out (fun i b0 e=>by have bi:i=g6:=e;have:=T.out;omega);have X:Hid (I.size=32∧I.all (·.oneCell')=true):=by
       simp only[Hid];rw[U.out];refine⟨by rw[List.size_toArray,List.length_map,←S.out,iX],kZ _⟩
      have aO:Hid ((Tryz.prog.info? 38).map (·.size)=some I.size):=by
       rw[X.out.1];exact cg
      clear E F ba bd U S;go_wp2_with(first|(refine wpList_load_row rfl 38 (.tmp 8) rfl g6 rfl _ I _ _ bI.out Tryz.underlying38 rfl aO.out ?_)|(refine ai rfl 38 (.tmp 2) _ rfl p I rfl rfl _ _ bH.out aO.out (by rw[X.out.1];rfl) X.out.2 ?_));intro bD b4 f4;have bQ:=af b4;have bR:Hid (Fr ag w bD):=bJ.out.aw f4 (fun i b0 e=>by have bi:i=p:=e;have:=T.out;omega);clear b4 f4;go_wp2;exact bodyPost_ret (results_cell_row (fn:=Tryz.f80) (p:=2) (ty:=38) Tryz.results80 _ bD p 38 I (0,0) _ rfl bQ.out Tryz.underlying38 rfl aO.out) rfl ⟨rfl,bR.out⟩
def Di:cS:=⟨0,0,0,0,0,0,0,0⟩
def yy:Array Value:=(gG 0 Di (List.replicate 64 0)).toArray
theorem Kq(w:World):(zeroValue 144).run Tryz.prog w= .ok (.agg yy) w:=by kernel_rfl
theorem bB.Fg{w:World}(h:bB w):1<w.heap.size:=World.block_lt_of_cell? w ⟨1,0,none⟩ (h.init 0 _ rfl)
theorem bB.Fh{w:World}(h:bB w):2<w.heap.size:=World.block_lt_of_cell? w ⟨2,0,none⟩ (h.kk 0 (by omega))
theorem dK{P:Program}{fn:Func}{p q:Tmp}{ty:TypeId}(h:fn.results=#[.cell p ty, .tmp q])(tmps:Array Value)(w:World)(g:Nat)(t:TypeId)(cs:Array Value)(fr:Nat×Nat)(d:TypeDesc)
  (i:tmps.getD p undef= .pointer (some ⟨g,0,none⟩))(e:w.heap[g]? =some (.cells cs t fr))
  (hu:P.underlying ty=some d)(c:(match d with| .struct _| .array _ _=>true|_=>false)=true)(f:(P.info? ty).map (·.size)=some cs.size)(v:Value)(j:tmps.getD q undef=v):
  (results fn tmps).run P w= .ok (.tuple #[.agg cs,v]) w:=by
 have a:tmps[p]?.getD undef= .pointer (some ⟨g,0,none⟩):=by simpa using i
 have b:tmps[q]?.getD undef=v:=by simpa using j
 simp[results,h,a,b,asAddr,run_loadVar_row w g t ty cs fr d e hu c f]
theorem yG(s:ByteArray)(w:World)(E:bB w)(F:s.size≤1099511627776)(k:1≤s.size):
  Calls Tryz.prog 27 #[.string s] w (aJ w (aE (eF (eH s)))):=by
 have q:=af E;have J:=af (dL s);have v:=af (fun g w'(b:aq w' g 144 (gG 0 Di (List.replicate 64 0)).toArray)t N O=>AM s g Di (List.replicate 64 0) (List.length_replicate ..) w' b t N O F k);have u:=af (fun g rest w'(h:mX w' g (eH s) rest)t=>Eb g (eH s) rest w' h t (by rw[dL];exact F) (by rw[dL];exact k));have a:=gJ (eH s);unfold aE;generalize eF (eH s)=j at*;have o:Hid ((j.map aS).toArray.size=32∧(j.map aS).toArray.all (·.oneCell')=true):=⟨by simp[a],kZ j⟩;have z:Hid ((Tryz.prog.info? 38).map (·.size)=some (j.map aS).toArray.size):=by
  rw[o.out.1];exact cg
 generalize(j.map aS).toArray=B at*;clear E a;go_enter Tryz.func27,Tryz.ntmps27;go_wp2_with(refine ak rfl 38 rfl aI dW aB rfl ?_);intro w1 n1;have l:=af n1;clear n1;go_wp2_with(refine ak rfl 144 rfl (.agg yy) Kq yy rfl ?_);intro w2 n;have A:=af n;have C:=af (q.out.ar (l.out.fr.trans n.fr));have c:Hid (w.heap.size<w1.heap.size∧1<w.heap.size∧2<w.heap.size):=⟨by have:=l.out.size;omega,q.out.Fg,q.out.Fh⟩;have f:=af (v.out w1.heap.size w2 n.aH C.out (by have:=c.out;omega) (by have:=c.out;omega));clear n v;go_wp2_with fail;refine f.out.mono ?_;rintro e w3⟨rfl,f3,rest,D⟩;have M:=af (C.out.fr f3 (fun e=>by have m:1=w1.heap.size:=e;have:=c.out;omega) (fun e=>by have m:2=w1.heap.size:=e;have:=c.out;omega));have d:=af (u.out _ _ _ D M.out);have r:=af ((l.out.aH.fr A.out.fr (fun x=>x)).fr f3 (fun e=>by have m:w.heap.size=w1.heap.size:=e;have:=c.out;omega));have y:Hid (Fr ag w w3):=(l.out.fr.trans A.out.fr).aw f3 (fun i P e=>by have m:i=w1.heap.size:=e;have:=c.out;omega);clear f3 D u f;go_wp2_with fail;refine d.out.mono ?_;rintro e Q⟨rfl,f4⟩;have H:=af (r.out.fr f4 (fun x=>x));have I:=af (y.out.trans f4);clear f4 d r y;go_wp2_with(refine ai rfl 38 (.tmp 2) _ rfl w.heap.size B rfl rfl _ _ H.out z.out (by rw[o.out.1];rfl) o.out.2 ?_);intro G b5 f5;have K:=af b5;have L:Hid (Fr ag w G):=I.out.aw f5 (fun i P e=>by have m:i=w.heap.size:=e;omega);clear b5 f5;go_wp2;exact bodyPost_ret (results_cell_row (fn:=Tryz.f27) (p:=2) (ty:=38) Tryz.results27 _ G _ 38 B (0,0) _ rfl K.out Tryz.underlying38 rfl z.out) rfl ⟨rfl,L.out⟩
theorem oy(tag:UInt8)(a:List ByteArray)(A:Option Addr)(n c:Nat)(S:Nat→Prop)(w:World)(C:bB w)(s:Rd w S 1 A n (a.map mS))(D:n≤255)(r:∀k,(ea tag a k).length≤1099511627776)(B:∀p∈a,p.size<4294967296):
  Calls Tryz.prog 120 #[aS tag, .slice A n c] w (aJ w (.tuple #[aE (eF (gV tag (a.map eH))), .int .i64 0])):=by
 have u:=af (fun w'(t:Fr ag w w')=>Ec tag a A n c S w' (s.ar t) D r B);have m:a.length=n:=by have:=s.1;simpa using this
 have g:(gV tag (a.map eH)).length≤1099511627776:=by
  rw[←tG tag a n (by omega)];exact r n
 have d:1≤(gV tag (a.map eH)).length:=by simp[gV]
 have j:=af (fun w'(t:Fr ag w w')=>yG ⟨(gV tag (a.map eH)).toArray⟩ w' (C.ar t) (by simp only[ByteArray.size,List.size_toArray];exact g) (by simp only[ByteArray.size,List.size_toArray];exact d));have b:=gJ (gV tag (a.map eH));have z:eH ⟨(gV tag (a.map eH)).toArray⟩=gV tag (a.map eH):=by simp[eH]
 rw[z]at j;unfold aE at*;generalize(⟨(gV tag (a.map eH)).toArray⟩:ByteArray)=RS at*;generalize eF (gV tag (a.map eH))=f at*;have o:Hid ((f.map aS).toArray.size=32∧(f.map aS).toArray.all (·.oneCell')=true):=⟨by simp[b],kZ f⟩;have v:Hid ((Tryz.prog.info? 38).map (·.size)=some (f.map aS).toArray.size):=by
  rw[o.out.1];exact cg
 generalize(f.map aS).toArray=y at*;clear s D r B m g d b z C;unfold aS at*;go_enter Tryz.func120,Tryz.ntmps120;go_wp2_with(refine ak rfl 38 rfl aI dW aB rfl ?_);intro w1 n1;have h:=af n1;clear n1;go_wp2_with fail;refine(u.out _ h.out.fr).mono ?_;rintro e w2⟨rfl,f2⟩;have l:Hid (Fr ag w w2):=h.out.fr.trans f2;have F:=af (h.out.aH.fr f2 (fun x=>x));clear f2 u;go_wp2_with fail;refine(j.out _ l.out).mono ?_;rintro e w3⟨rfl,f3⟩;have G:=af (F.out.fr f3 (fun x=>x));have H:Hid (Fr ag w w3):=l.out.trans f3;clear f3 j l h;go_wp2_with(refine ai rfl 38 (.tmp 4) _ rfl w.heap.size y rfl rfl _ _ G.out v.out (by rw[o.out.1];rfl) o.out.2 ?_);intro E b4 f4;have I:=af b4;have J:Hid (Fr ag w E):=H.out.aw f4 (fun i L e=>by have K:i=w.heap.size:=e;omega);clear b4 f4;go_wp2;exact bodyPost_ret (dK (fn:=Tryz.f120) (p:=4) (q:=5) (ty:=38) Tryz.results120 _ E _ 38 y (0,0) _ rfl I.out Tryz.underlying38 rfl v.out _ rfl) rfl ⟨rfl,J.out⟩
theorem uX(w:World)(d:Nat)(l r:List UInt8)(a:l.length=32)(b:r.length=32):∀is:List Nat,(∀i∈is,i<32)→
  (Op.eqItems (d+1) 5 1 (l.map aS).toArray (r.map aS).toArray is).run Tryz.prog w= .ok (is.all fun i=>l[i]? ==r[i]?) w
 |[],_=>by simp[Op.eqItems]
 |i::is,h=>by
  have k:i<32:=h i (by simp);have c:(isAgg 5).run Tryz.prog w= .ok false w:=by kernel_rfl
  have p:∀x:List UInt8,x.length=32→(part 5 (x.map aS).toArray (i*1)).run Tryz.prog w= .ok (aS (x[i]?.getD 0)) w:=by
   intro x n;unfold part;rw[Sem.run_bind,c];simp only[Result.andThen_ok,Bool.false_eq_true,if_false,Nat.mul_one,bR,List.getElem?_map,List.getElem?_eq_getElem (show i<x.length by omega),Option.map_some,Sem.run_pure,Option.getD_some]
  have g:=uX w d l r a b is (fun j f=>h j (by simp[f]));have e:((((l[i]?.getD 0).toNat:Nat):Int)==(((r[i]?.getD 0).toNat:Nat):Int))=(l[i]? ==r[i]?):=by
   rw[List.getElem?_eq_getElem (show i<l.length by omega),List.getElem?_eq_getElem (show i<r.length by omega),Bool.eq_iff_iff];simp[←UInt8.toNat_inj];omega
  have q:(Op.equalIn (d+1) 5 (aS (l[i]?.getD 0)) (aS (r[i]?.getD 0))).run Tryz.prog w= .ok (l[i]? ==r[i]?) w:=by
   rw[←e];exact run_equalIn_int w d 5 .u8 .u8 _ _ Tryz.underlying5
  simp only[Op.eqItems,Sem.run_bind,p l a,p r b,q,Result.andThen_ok,List.all_cons];cases m:(l[i]? ==r[i]?);·simp
  ·simpa using g
theorem Em(l r:List UInt8)(b:l.length=32)(c:r.length=32):((List.range 32).all fun i=>l[i]? ==r[i]?)=decide (l=r):=by
 rw[Bool.eq_iff_iff];simp only[List.all_eq_true,List.mem_range,beq_iff_eq,decide_eq_true_eq];constructor
 ·intro h;apply List.ext_getElem?;intro i;rcases Nat.lt_or_ge i 32 with a|a;·exact h i a
  ·rw[List.getElem?_eq_none (by omega),List.getElem?_eq_none (by omega)]
 ·rintro rfl _ _;rfl
theorem I3:(Tryz.prog.info? 5).isSome=true:=by kernel_rfl
theorem yY:Tryz.prog.cellsOf 5=1:=by kernel_rfl
theorem oV(w:World)(t:TypeId)(hu:Tryz.prog.underlying t=some (.array 32 5))(l r:List UInt8)(b:l.length=32)(c:r.length=32):
  (Op.equalIn 10000 t (aE l) (aE r)).run Tryz.prog w= .ok (decide (l=r)) w:=by
 obtain⟨i,a⟩:=Option.isSome_iff_exists.1 I3;unfold aE;rw[run_equalIn_array w 9999 _ _ hu a,yY,uX w 9998 l r b c _ (fun i a=>List.mem_range.1 a),Em l r b c]
theorem Ig(w:World)(t:TypeId)(hu:Tryz.prog.underlying t=some (.array 32 5))(l r:List UInt8)(a:l.length=32)(b:r.length=32):
  (binOp .neq t (aE l) (aE r)).run Tryz.prog w= .ok (.bool (!decide (l=r))) w:=by
 have:=oV w t hu l r a b;unfold aE at*;rw[run_neq_struct,this];rfl
end Go.Proofs.YtphjagkehiklkaaGreatDoor
