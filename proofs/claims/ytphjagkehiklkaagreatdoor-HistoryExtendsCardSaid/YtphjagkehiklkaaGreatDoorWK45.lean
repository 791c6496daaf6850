/- Texts. -/
import Derived.Test.YtphjagkehiklkaaGreatDoorWK44
set_option linter.unusedVariables false
set_option linter.unusedSimpArgs false
set_option maxRecDepth 100000
set_option maxHeartbeats 2000000
namespace Go.Proofs.YtphjagkehiklkaaGreatDoor.Lt
open Go.RowKit
theorem gI{P:Program}{fn:Func}{p q:Tmp}{ty:TypeId}(h:fn.results=#[.cell p ty, .cell q ty])(tmps:Array Value)(w:World)(g a:Nat)(t:TypeId)(cs cs':Array Value)(fr:Nat×Nat){d:TypeDesc}
  (l:tmps.getD p undef= .pointer (some ⟨g,0,none⟩))(m:tmps.getD q undef= .pointer (some ⟨a,0,none⟩))(j:w.heap[g]? =some (.cells cs t fr))(b:w.heap[a]? =some (.cells cs' t fr))
  (hu:P.underlying ty=some d)(i:(match d with| .struct _| .array _ _=>true|_=>false)=true)(k:(P.info? ty).map (·.size)=some cs.size)(c:(P.info? ty).map (·.size)=some cs'.size):
  (results fn tmps).run P w= .ok (.tuple #[.agg cs, .agg cs']) w:=by
 have e:tmps[p]?.getD undef= .pointer (some ⟨g,0,none⟩):=by simpa using l
 have f:tmps[q]?.getD undef= .pointer (some ⟨a,0,none⟩):=by simpa using m
 simp[results,h,e,f,asAddr,run_loadVar_row w g t ty cs fr d j hu i k,run_loadVar_row w a t ty cs' fr d b hu i c]
theorem iR.stored{w w3 d f:World}{ty:TypeId}{g X Y j l:Array Value}{g5 g10 g11:Nat}(h:iR w w3 ty g X Y g5 g10 g11)(m:Fr (fun k=>k=g10) w3 d)(n:aq d g10 ty j)(a:Fr (fun k=>k=g11) d f)(c:aq f g11 ty l):iR w f ty g j l g5 g10 g11:=by
 have:=h.l1;have:=h.l2;have:=h.lo;exact⟨(h.fr.aw m (fun i o e=>by have b:i=g10:=e;omega)).aw a (fun i o e=>by have b:i=g11:=e;omega),
  (h.b5.fr m (fun e=>by have b:g5=g10:=e;omega)).fr a (fun e=>by have b:g5=g11:=e;omega),
  n.fr a (fun e=>by have b:g10=g11:=e;omega),c,h.lo,h.l1,h.l2⟩
def Gj(n:Nat):Prop:=∀(a:List UInt8)(m:Nat)(whole:Bool)(path:List (List UInt8))(p:Nat)(A:Option Addr)(c:Nat)(S:Nat→Prop)(w:World),eM w S A p path→a.length=32→1≤m→m≤n→n≤1048576→p=cQ m n whole→p≤c→c≤9223372036854775807→bB w→
 Calls Tryz.prog 91 #[aE a, .int .i64 m, .int .i64 n, .bool whole, .slice A p c] w (aJ w (.tuple #[aE (ef a m n whole path).1,aE (ef a m n whole path).2]))
theorem vG(a:List UInt8)(E:a.length=32)(m:Nat)(v:Value)(w:World):Calls Tryz.prog 91 #[aE a, .int .i64 m, .int .i64 m, .bool true,v] w (aJ w (.tuple #[aE a,aE a])):=by
 have g:Hid (bT (ao a).toArray):=bT.of E;have n:Hid ((Tryz.prog.info? 38).map (·.size)=some (ao a).length):=by rw[ao,List.length_map,E];exact cg
 unfold aE at*;change Calls _ _ #[.agg (ao a).toArray,_,_,_,_] _ (aJ w (.tuple #[.agg (ao a).toArray, .agg (ao a).toArray]));generalize ao a=c at*;go_enter Tryz.func91,Tryz.ntmps91;go_wp2_with(refine aA rfl 38 (.tmp 0) rfl _ rfl ?_);intro w1 n1;have C:=af n1;clear n1;go_wp2_with(refine ak rfl 38 rfl aI dW aB rfl ?_);intro w2 F;have D:=af F;clear F;go_wp2_with(refine ak rfl 38 rfl aI dW aB rfl ?_);intro w3 n3;have b:=af (iR.of C.out D.out n3);clear n3 C D;generalize w.heap.size=g5 at*;generalize w1.heap.size=g10 at*;generalize w2.heap.size=g11 at*;go_upto_region 2 with fail;refine aC 3 (fun k=>k=g10) [Is (.agg c.toArray),Is (.agg c.toArray),fun _ _=>True] [(2,fun w'=>aq w' g10 38 c.toArray)] (fun w'=>aq w' g10 38 aB) (fun _ _=>false) (by kernel_rfl) (by kernel_rfl) (by kernel_rfl) (by kernel_rfl) ⟨Is.ah _,Is.ah _,fun _ _ _ _ _ h=>h,trivial⟩ ⟨fun _ _ _ f h=>h.fr f (fun x=>x),trivial⟩ (fun _ _ _ f h=>h.fr f (fun x=>x)) b.out.fj ?_ ?_
 ·refine⟨?_,?_,?_,trivial⟩;all_goals intro u w' d f l B s j
  all_goals simp only[bH,bI,bJ,bK,ay,Act.put,bL,bM,bN,Nat.reduceAdd,Nat.zero_add]
  ·clear l B s j;refine aj ?_;exact wp_load_mid _ _ rfl g5 0 rfl c _ (bw (b.out.b5.fr f (fun e=>by have o:g5=g10:=e;have:=b.out.l1;have:=b.out.l2;omega))) Tryz.underlying38 rfl n.out ⟨_,rfl,al⟩
  ·clear l B s j;refine aj ?_;exact wp_load_mid _ _ rfl g5 0 rfl c _ (bw (b.out.b5.fr f (fun e=>by have o:g5=g10:=e;have:=b.out.l1;have:=b.out.l2;omega))) Tryz.underlying38 rfl n.out ⟨_,rfl,al⟩
  ·have J:u 0=_:=l 0;clear l;simp only[J];refine aj ?_;have L:aq w' g10 38 aB:=by rw[bX,if_neg (by rw[s 2 (by kernel_rfl)];exact Bool.false_ne_true)]at j;exact j
   clear B s j;refine db 38 (.tmp 10) (.tmp 21) rfl g10 c.toArray rfl rfl _ _ L g.out.info g.out.zero g.out.one ?_;intro N b4 f4;exact⟨_,rfl,f4,trivial,b4⟩
 ·intro u w' f l j;have K:u 1=_:=l 1 (by omega);clear l;have r:aq w' g10 38 c.toArray:=j;clear j;simp only[bH,bI,bJ,bK,ay,Act.put,bL,bM,bN,dD,dE,Nat.zero_add,K];have y:=af (b.out.gg.fr f (fun e=>by have o:g11=g10:=e;have:=b.out.l1;have:=b.out.l2;omega));have t:=af r;have H:=af f;clear r f;go_wp2_with(refine ai rfl 38 (.tmp 11) _ rfl g11 c.toArray rfl rfl _ _ y.out g.out.info g.out.zero g.out.one ?_);intro G b5 f5;have A:=af b5;have z:=af (t.out.fr f5 (fun e=>by have o:g10=g11:=e;have:=b.out.l1;have:=b.out.l2;omega));have I:Hid (Fr ag w G):=(b.out.fr.aw H.out (fun i M e=>by have o:i=g10:=e;have:=b.out.lo;have:=b.out.l1;omega)).aw f5 (fun i M e=>by have o:i=g11:=e;have:=b.out.lo;have:=b.out.l1;have:=b.out.l2;omega);clear b5 f5;go_wp2;exact bodyPost_ret (gI (fn:=Tryz.f91) (p:=10) (q:=11) (ty:=38) Tryz.results91 _ G _ _ 38 c.toArray c.toArray (0,0) rfl rfl z.out A.out Tryz.underlying38 rfl g.out.info g.out.info) rfl ⟨rfl,I.out⟩
theorem xP(z:List UInt8)(m:Nat)(path:List (List UInt8))(A:Option Addr)(c:Nat)(S:Nat→Prop)(w:World)(J:eM w S A 1 path):Calls Tryz.prog 91 #[aE z, .int .i64 m, .int .i64 m, .bool false, .slice A 1 c] w (aJ w (.tuple #[aE (path.headD []),aE (path.headD [])])):=by
 obtain⟨r,d,rfl,_,E,n,f⟩:=J.at_ (k:=0) (by omega);have he:path.headD []=d:=by
  match path,J.len,E with
  |[x],_,E=>cases E;rfl
  |[],L,_=>simp at L
  |_::_::_,L,_=>simp at L
 rw[he];rw[Nat.zero_mul,show r.add 0=r from rfl]at f;have M:Hid (∀w',Fr ag w w'→∀j v,(ao d)[j]? =some v→w'.cell? (r.add j)=some v):=fun w' g j v ab=>g.an (f j v ab) (fun x=>x);have s:Hid (bT (ao d).toArray):=bT.of n;have B:Hid ((Tryz.prog.info? 38).map (·.size)=some (ao d).length):=by rw[ao,List.length_map,n];exact cg
 clear f E n he J;unfold aE at*;change Calls _ _ #[.agg (ao z).toArray,_,_,_,_] _ (aJ w (.tuple #[.agg (ao d).toArray, .agg (ao d).toArray]));generalize ao z=ac at*;generalize ao d=o at*;go_enter Tryz.func91,Tryz.ntmps91;go_wp2_with(refine aA rfl 38 (.tmp 0) rfl _ rfl ?_);intro w1 n1;have N:=af n1;clear n1;go_wp2_with(refine ak rfl 38 rfl aI dW aB rfl ?_);intro w2 P;have O:=af P;clear P;go_wp2_with(refine ak rfl 38 rfl aI dW aB rfl ?_);intro w3 n3;have a:=af (iR.of N.out O.out n3);clear n3 N O;generalize w.heap.size=g5 at*;generalize w1.heap.size=g10 at*;generalize w2.heap.size=g11 at*;go_upto_region 4 with fail;refine aC 7 (fun k=>k=g10) [Is (.slice (some r) 1 c),Is (.pointer (some r)),Is (.agg o.toArray),Is (.slice (some r) 1 c),Is (.pointer (some r)),Is (.agg o.toArray),fun _ _=>True] [(6,fun w'=>aq w' g10 38 o.toArray)] (fun w'=>aq w' g10 38 aB) (fun _ _=>false) (by kernel_rfl) (by kernel_rfl) (by kernel_rfl) (by kernel_rfl) ⟨Is.ah _,Is.ah _,Is.ah _,Is.ah _,Is.ah _,Is.ah _,fun _ _ _ _ _ h=>h,trivial⟩ ⟨fun _ _ _ g h=>h.fr g (fun x=>x),trivial⟩ (fun _ _ _ g h=>h.fr g (fun x=>x)) a.out.fj ?_ ?_
 ·refine⟨?_,?_,?_,?_,?_,?_,?_,trivial⟩;all_goals intro u w' d g b y t l
  all_goals simp only[bH,bI,bJ,bK,ay,Act.put,bL,bM,bN,Nat.reduceAdd,Nat.zero_add]
  ·clear b y t l;refine aj ?_;go_simp;exact⟨_,rfl,al⟩
  ·have U:u 0=_:=b 0;clear b y t l;simp only[U];refine aj ?_;go_simp;exact⟨_,rfl,al⟩
  ·have V:u 1=_:=b 1;clear b y t l;simp only[V];refine aj ?_;exact az _ _ rfl r rfl o _ (M.out _ (a.out.fr.aw g (fun i K e=>by have C:i=g10:=e;have:=a.out.lo;have:=a.out.l1;omega))) Tryz.underlying38 rfl B.out ⟨_,rfl,al⟩
  ·clear b y t l;refine aj ?_;go_simp;exact⟨_,rfl,al⟩
  ·have X:u 3=_:=b 3;clear b y t l;simp only[X];refine aj ?_;go_simp;exact⟨_,rfl,al⟩
  ·have Y:u 4=_:=b 4;clear b y t l;simp only[Y];refine aj ?_;exact az _ _ rfl r rfl o _ (M.out _ (a.out.fr.aw g (fun i K e=>by have C:i=g10:=e;have:=a.out.lo;have:=a.out.l1;omega))) Tryz.underlying38 rfl B.out ⟨_,rfl,al⟩
  ·have W:u 2=_:=b 2;clear b;simp only[W];refine aj ?_;have aa:aq w' g10 38 aB:=by rw[bX,if_neg (by rw[t 6 (by kernel_rfl)];exact Bool.false_ne_true)]at l;exact l
   clear y t l;refine db 38 (.tmp 10) (.tmp 29) rfl g10 o.toArray rfl rfl _ _ aa s.out.info s.out.zero s.out.one ?_;intro ad b4 f4;exact⟨_,rfl,f4,trivial,b4⟩
 ·intro u w' g b l;have Z:u 5=_:=b 5 (by omega);clear b;have D:aq w' g10 38 o.toArray:=l;clear l;simp only[bH,bI,bJ,bK,ay,Act.put,bL,bM,bN,dD,dE,Nat.reduceAdd,Nat.zero_add,Z];have G:=af (a.out.gg.fr g (fun e=>by have C:g11=g10:=e;have:=a.out.l1;have:=a.out.l2;omega));have F:=af D;have R:=af g;clear D g;go_wp2_with(refine ai rfl 38 (.tmp 11) _ rfl g11 o.toArray rfl rfl _ _ G.out s.out.info s.out.zero s.out.one ?_);intro Q b5 f5;have I:=af b5;have H:=af (F.out.fr f5 (fun e=>by have C:g10=g11:=e;have:=a.out.l1;have:=a.out.l2;omega));have T:Hid (Fr ag w Q):=(a.out.fr.aw R.out (fun i K e=>by have C:i=g10:=e;have:=a.out.lo;have:=a.out.l1;omega)).aw f5 (fun i K e=>by have C:i=g11:=e;have:=a.out.lo;have:=a.out.l1;have:=a.out.l2;omega);clear b5 f5;go_wp2;exact bodyPost_ret (gI (fn:=Tryz.f91) (p:=10) (q:=11) (ty:=38) Tryz.results91 _ Q _ _ 38 o.toArray o.toArray (0,0) rfl rfl H.out I.out Tryz.underlying38 rfl s.out.info s.out.info) rfl ⟨rfl,T.out⟩
theorem xO(n:Nat)(a3:∀m,m<n→Gj m)(g:List UInt8)(m:Nat)(whole:Bool)(path:List (List UInt8))(G:Nat)(A:Option Addr)(c:Nat)(S:Nat→Prop)(w:World)(Q:eM w S A G path)(Z:g.length=32)(P:1≤m)(aP:m≤n)(be:n≤1048576)
  (a1:G=cQ m n whole)(bd:G≤c)(T:c≤9223372036854775807)(aM:bB w)(e:m≠n)(hm:m≤au n):
  Calls Tryz.prog 91 #[aE g, .int .i64 m, .int .i64 n, .bool whole, .slice A G c] w (aJ w (.tuple #[aE (ef g m n whole path).1,aE (ef g m n whole path).2])):=by
 obtain⟨bf,_,bg⟩:=aX n (by omega) (by omega);have aV:=af (fun w=>fV n w (by omega) (by omega));have aL:=iJ whole e (by omega) (by omega) hm;have hle:=nA n m whole P aP (by omega);obtain⟨p,J⟩:∃p,p=cQ m (au n) whole:=⟨_,rfl⟩;rw[←J]at aL;have aO:path.length=p+1:=by rw[Q.len,a1,aL]
 have aN:=p9 g whole path aO e (by omega) (by omega) hm;obtain⟨L,last,rfl,_,X,D,C⟩:=Q.at_ (k:=p) (by omega);have E:path.getD p []=last:=by rw[List.getD_eq_getElem?_getD,X];rfl
 rw[E]at aN;obtain⟨l1,l2⟩:=kF (au n) g m whole (path.take p) (by omega) (by omega) (by omega) Z (by rw[List.length_take,aO,←J];omega) (fun d X=>Q.each d (List.mem_of_mem_take X));have aU:Hid (∀w',Fr ag w w'→Calls Tryz.prog 91 #[aE g, .int .i64 (m:Nat), .int .i64 ((au n):Nat), .bool whole, .slice (some L) p c] w' (aJ w' (.tuple #[aE (ef g m (au n) whole (path.take p)).1,aE (ef g m (au n) whole (path.take p)).2]))):=
  fun w' f=>a3 _ (by omega) g _ _ (path.take p) p (some L) c S w' ((Q.take (by omega)).ar f) Z (by omega) (by omega) (by omega) J (by omega) T (aM.ar f);have a8:Hid (∀w',Fr ag w w'→∀j v,(ao last)[j]? =some v→w'.cell? ((L.add (p*32)).add j)=some v):=fun w' f j v bc=>f.an (C j v bc) (fun x=>x);generalize ef g m (au n) whole (path.take p)=r at*;have a7:Hid (∀w',Fr ag w w'→Calls Tryz.prog 122 #[aE r.2,aE last] w' (aJ w' (aE (bU r.2 last)))):=fun w' f=>iG _ _ l2 D w' (aM.ar f);rw[aN];have a4:=cJ r.2 last;show Calls _ _ _ _ (aJ w (.tuple #[aE r.1,aE (bU r.2 last)]));generalize bU r.2 last=a6 at*;generalize r.1=ra at*;generalize r.2=rb at*;have K:Hid (bT (ao ra).toArray):=bT.of l1;have U:Hid (bT (ao rb).toArray):=bT.of l2;have V:Hid (bT (ao a6).toArray):=bT.of a4;have am:Hid ((Tryz.prog.info? 38).map (·.size)=some (ao g).length):=by rw[ao,List.length_map,Z];exact cg
 have ac:Hid ((Tryz.prog.info? 38).map (·.size)=some (ao ra).length):=by rw[ao,List.length_map,l1];exact cg
 have ad:Hid ((Tryz.prog.info? 38).map (·.size)=some (ao rb).length):=by rw[ao,List.length_map,l2];exact cg
 have ae:Hid ((Tryz.prog.info? 38).map (·.size)=some (ao last).length):=by rw[ao,List.length_map,D];exact cg
 have aa:Hid ((ao ra).toArray.size=32):=K.out.size;have ab:Hid ((ao rb).toArray.size=32):=U.out.size;generalize au n=k at*;have t1:((m:Int)==(n:Int))=false:=by rw[beq_eq_false_iff_ne];omega
 have t2:decide ((m:Int)≤(k:Int))=true:=dh (by omega);have aQ:G=p+1:=by omega
 have s1:(G:Int)-1=(p:Int):=by omega
 have b1:(p:Int)≤(c:Int):=by omega
 have b2:(p:Int)<(G:Int):=by omega
 have b3:p<G:=by omega
 have a2:G≤1048576:=by omega
 clear aM Q aL hle J aO aN E X D C a3 l1 l2 a4 Z a1 aQ;unfold aE at*;simp only[show∀l:List UInt8,l.map aS=ao l from fun _=>rfl]at*;generalize ao g=a0 at*;generalize ao ra=y at*;generalize ao rb=O at*;generalize ao last=aW at*;generalize ao a6=NV at*;go_enter Tryz.func91,Tryz.ntmps91;go_wp2_with(refine aA rfl 38 (.tmp 0) rfl _ rfl ?_);intro w1 n1;have aY:=af n1;clear n1;go_wp2_with(refine ak rfl 38 rfl aI dW aB rfl ?_);intro w2 a5;have aZ:=af a5;clear a5;go_wp2_with(refine ak rfl 38 rfl aI dW aB rfl ?_);intro w3 n3;have z:=af (iR.of aY.out aZ.out n3);clear n3 aY aZ;generalize w.heap.size=g5 at*;generalize w1.heap.size=g10 at*;generalize w2.heap.size=g11 at*;go_wp2_with fail;refine(aV.out _).mono ?_;rintro e w'⟨rfl,rfl⟩;clear aV;go_upto_region 7 with fail;refine aC 12 (fun k=>k=g10) [Is (.agg a0.toArray),Is (.int .i64 m),Is (.int .i64 k),Is (.bool whole),Is (.slice (some L) G c),Is (.int .i64 p),Is (.slice (some L) p c),Is (.tuple #[.agg y.toArray, .agg O.toArray]),Is (.tuple #[.agg y.toArray, .agg O.toArray]),Is (.agg y.toArray),Is (.agg O.toArray),fun _ _=>True] [(11,fun w'=>aq w' g10 38 y.toArray)] (fun w'=>aq w' g10 38 aB) (fun _ _=>false) (by kernel_rfl) (by kernel_rfl) (by kernel_rfl) (by kernel_rfl) ⟨Is.ah _,Is.ah _,Is.ah _,Is.ah _,Is.ah _,Is.ah _,Is.ah _,Is.ah _,Is.ah _,Is.ah _,Is.ah _,fun _ _ _ _ _ h=>h,trivial⟩ ⟨fun _ _ _ f h=>h.fr f (fun x=>x),trivial⟩ (fun _ _ _ f h=>h.fr f (fun x=>x)) z.out.fj ?_ ?_
 ·refine⟨?_,?_,?_,?_,?_,?_,?_,?_,?_,?_,?_,?_,trivial⟩;all_goals intro u w' d f a t o b
  all_goals simp only[bH,bI,bJ,bK,ay,Act.put,bL,bM,bN,Nat.reduceAdd,Nat.zero_add]
  ·clear a t o b;refine aj ?_;exact wp_load_mid _ _ rfl g5 0 rfl a0 _ (bw (z.out.b5.fr f (fun e=>by have H:g5=g10:=e;have:=z.out.l1;have:=z.out.l2;omega))) Tryz.underlying38 rfl am.out ⟨_,rfl,al⟩
  ·clear a t o b;refine aj ?_;go_simp;exact⟨_,rfl,al⟩
  ·clear a t o b;refine aj ?_;go_simp;exact⟨_,rfl,al⟩
  ·clear a t o b;refine aj ?_;go_simp;exact⟨_,rfl,al⟩
  ·clear a t o b;refine aj ?_;go_simp;exact⟨_,rfl,al⟩
  ·clear a t o b;refine aj ?_;go_simp;exact⟨_,rfl,al⟩
  ·have aF:u 4=_:=a 4;have aG:u 5=_:=a 5;clear a t o b;simp only[aF,aG];refine aj ?_;go_simp;exact⟨_,rfl,al⟩
  ·have ap:u 0=_:=a 0;have P:u 1=_:=a 1;have ax:u 2=_:=a 2;have aD:u 3=_:=a 3;have aH:u 6=_:=a 6;clear a t o b;simp only[ap,P,ax,aD,aH];refine aj ?_;go_simp;refine(aU.out _ (z.out.fr.aw f (fun i Y e=>by have H:i=g10:=e;have:=z.out.lo;have:=z.out.l1;omega))).mono ?_;rintro e aR⟨rfl,f4⟩;exact⟨_,rfl,f4.bP,rfl,trivial⟩
  ·have ba:u 7=_:=a 7;clear a t o b;simp only[ba];refine aj ?_;go_simp;exact⟨_,rfl,al⟩
  ·have aK:u 8=_:=a 8;clear a t o b;simp only[aK];refine aj ?_;go_simp;exact⟨_,rfl,al⟩
  ·have aK:u 8=_:=a 8;clear a t o b;simp only[aK];refine aj ?_;go_simp;exact⟨_,rfl,al⟩
  ·have bb:u 9=_:=a 9;clear a;simp only[bb];refine aj ?_;have R:aq w' g10 38 aB:=by rw[bX,if_neg (by rw[o 11 (by kernel_rfl)];exact Bool.false_ne_true)]at b;exact b
   clear t o b;refine db 38 (.tmp 10) (.tmp 50) rfl g10 y.toArray rfl rfl _ _ R K.out.info K.out.zero K.out.one ?_;intro aR b4 f4;exact⟨_,rfl,f4,trivial,b4⟩
 ·intro u w' f a b;have av:u 10=_:=a 10 (by omega);clear a;have F:aq w' g10 38 y.toArray:=b;clear b;simp only[bH,bI,bJ,bK,ay,Act.put,bL,bM,bN,dD,dE,Nat.reduceAdd,Nat.zero_add,av];have I:=af (z.out.gg.fr f (fun e=>by have H:g11=g10:=e;have:=z.out.l1;have:=z.out.l2;omega));have B:=af F;have W:=af f;clear F f;go_wp2_with(refine ai rfl 38 (.tmp 11) _ rfl g11 O.toArray rfl rfl _ _ I.out U.out.info U.out.zero U.out.one ?_);intro aT b5 f5;have N:=af b5;have M:=af (B.out.fr f5 (fun e=>by have H:g10=g11:=e;have:=z.out.l1;have:=z.out.l2;omega));have s:=af (z.out.stored W.out B.out f5 b5);clear b5 f5 z W B I M N aU;go_upto_region 8 with fail;refine aC 8 (fun k=>k=g10) [Is (.agg y.toArray),Is (.agg O.toArray),Is (.slice (some L) G c),Is (.int .i64 p),Is (.pointer (some (L.add (p*32)))),Is (.agg aW.toArray),Is (.agg NV.toArray),fun _ _=>True] [(7,fun w'=>aq w' g10 38 y.toArray)] (fun w'=>aq w' g10 38 y.toArray) (fun i j=>i==0&&j==7) (by kernel_rfl) (by kernel_rfl) (by kernel_rfl) (by kernel_rfl) ⟨Is.ah _,Is.ah _,Is.ah _,Is.ah _,Is.ah _,Is.ah _,Is.ah _,fun _ _ _ _ _ h=>h,trivial⟩ ⟨fun _ _ _ f h=>h.fr f (fun x=>x),trivial⟩ (fun _ _ _ f h=>h.fr f (fun x=>x)) s.out.fj ?_ ?_
  ·refine⟨?_,?_,?_,?_,?_,?_,?_,?_,trivial⟩;all_goals intro u w' d f a t o b
   all_goals simp only[bH,bI,bJ,bK,ay,Act.put,bL,bM,bN,Nat.reduceAdd,Nat.zero_add]
   ·clear a;refine aj ?_;have R:aq w' g10 38 y.toArray:=by rw[bX,if_neg (by rw[o 7 (by kernel_rfl)];exact Bool.false_ne_true)]at b;exact b
    clear t o b;exact wp_load_mid _ _ rfl g10 0 rfl y _ (bw (R)) Tryz.underlying38 rfl ac.out ⟨_,rfl,al⟩
   ·clear a t o b;refine aj ?_;exact wp_load_mid _ _ rfl g11 0 rfl O _ (bw (s.out.gg.fr f (fun e=>by have H:g11=g10:=e;have:=s.out.l1;have:=s.out.l2;omega))) Tryz.underlying38 rfl ad.out ⟨_,rfl,al⟩
   ·clear a t o b;refine aj ?_;go_simp;exact⟨_,rfl,al⟩
   ·clear a t o b;refine aj ?_;go_simp;exact⟨_,rfl,al⟩
   ·have ax:u 2=_:=a 2;have aD:u 3=_:=a 3;clear a t o b;simp only[ax,aD];refine aj ?_;go_simp;exact⟨_,rfl,al⟩
   ·have aF:u 4=_:=a 4;clear a t o b;simp only[aF];refine aj ?_;exact az _ _ rfl (L.add (p*32)) rfl aW _ (a8.out _ (s.out.fr.aw f (fun i Y e=>by have H:i=g10:=e;have:=s.out.lo;have:=s.out.l1;omega))) Tryz.underlying38 rfl ae.out ⟨_,rfl,al⟩
   ·have P:u 1=_:=a 1;have aG:u 5=_:=a 5;clear a t o b;simp only[P,aG];refine aj ?_;go_simp;refine(a7.out _ (s.out.fr.aw f (fun i Y e=>by have H:i=g10:=e;have:=s.out.lo;have:=s.out.l1;omega))).mono ?_;rintro e aR⟨rfl,f4⟩;exact⟨_,rfl,f4.bP,rfl,trivial⟩
   ·have ap:u 0=_:=a 0;clear a;simp only[ap];refine aj ?_;have R:aq w' g10 38 y.toArray:=by rw[bX,if_neg (by rw[o 7 (by kernel_rfl)];exact Bool.false_ne_true)]at b;exact b
    clear t o b;refine db 38 (.tmp 10) (.tmp 52) rfl g10 y.toArray rfl rfl _ _ R K.out.info (aa.out.trans K.out.size.symm) K.out.one ?_;intro aR b4 f4;exact⟨_,rfl,f4,trivial,b4⟩
  ·intro u w' f a b;have aH:u 6=_:=a 6 (by omega);clear a;have F:aq w' g10 38 y.toArray:=b;clear b;simp only[bH,bI,bJ,bK,ay,Act.put,bL,bM,bN,dD,dE,Nat.reduceAdd,Nat.zero_add,aH];have I:=af (s.out.gg.fr f (fun e=>by have H:g11=g10:=e;have:=s.out.l1;have:=s.out.l2;omega));have B:=af F;have W:=af f;clear F f;go_wp2_with(refine ai rfl 38 (.tmp 11) _ rfl g11 NV.toArray rfl rfl _ _ I.out V.out.info (ab.out.trans V.out.size.symm) V.out.one ?_);intro aT b5 f5;have N:=af b5;have M:=af (B.out.fr f5 (fun e=>by have H:g10=g11:=e;have:=s.out.l1;have:=s.out.l2;omega));have a9:Hid (Fr ag w aT):=(s.out.fr.aw W.out (fun i Y e=>by have H:i=g10:=e;have:=s.out.lo;have:=s.out.l1;omega)).aw f5 (fun i Y e=>by have H:i=g11:=e;have:=s.out.lo;have:=s.out.l1;have:=s.out.l2;omega);clear b5 f5;go_wp2;exact bodyPost_ret (gI (fn:=Tryz.f91) (p:=10) (q:=11) (ty:=38) Tryz.results91 _ aT _ _ 38 y.toArray NV.toArray (0,0) rfl rfl M.out N.out Tryz.underlying38 rfl K.out.info V.out.info) rfl ⟨rfl,a9.out⟩
theorem vF(n:Nat)(bf:∀m,m<n→Gj m)(t:List UInt8)(m:Nat)(whole:Bool)(path:List (List UInt8))(C:Nat)(A:Option Addr)(c:Nat)(S:Nat→Prop)(w:World)(W:eM w S A C path)(aD:t.length=32)(V:1≤m)(a5:m≤n)(bt:n≤1048576)
  (bd:C=cQ m n whole)(bs:C≤c)(Y:c≤9223372036854775807)(av:bB w)(e:m≠n)(hm:¬m≤au n):
  Calls Tryz.prog 91 #[aE t, .int .i64 m, .int .i64 n, .bool whole, .slice A C c] w (aJ w (.tuple #[aE (ef t m n whole path).1,aE (ef t m n whole path).2])):=by
 obtain⟨bu,_,bv⟩:=aX n (by omega) (by omega);have a8:=af (fun w=>fV n w (by omega) (by omega));have a2:=gQ whole e (by omega) (by omega) hm;have hle:=nA n m whole V a5 (by omega);obtain⟨p,L⟩:∃p,p=cQ (m-au n) (n-au n) false:=⟨_,rfl⟩;rw[←L]at a2;have a4:path.length=p+1:=by rw[W.len,bd,a2]
 have a3:=oG t whole path a4 e (by omega) (by omega) hm;obtain⟨F,last,rfl,_,ax,z,H⟩:=W.at_ (k:=p) (by omega);have I:path.getD p []=last:=by rw[List.getD_eq_getElem?_getD,ax];rfl
 rw[I]at a3;obtain⟨l1,l2⟩:=kF (n-au n) t (m-au n) false (path.take p) (by omega) (by omega) (by omega) aD (by rw[List.length_take,a4,←L];omega) (fun d ax=>W.each d (List.mem_of_mem_take ax));have aK:Hid (∀w',Fr ag w w'→Calls Tryz.prog 91 #[aE t, .int .i64 ((m-au n):Nat), .int .i64 ((n-au n):Nat), .bool false, .slice (some F) p c] w' (aJ w' (.tuple #[aE (ef t (m-au n) (n-au n) false (path.take p)).1,aE (ef t (m-au n) (n-au n) false (path.take p)).2]))):=
  fun w' f=>bf _ (by omega) t _ _ (path.take p) p (some F) c S w' ((W.take (by omega)).ar f) aD (by omega) (by omega) (by omega) L (by omega) Y (av.ar f);have a9:Hid (∀w',Fr ag w w'→∀j v,(ao last)[j]? =some v→w'.cell? ((F.add (p*32)).add j)=some v):=fun w' f j v bn=>f.an (H j v bn) (fun x=>x);generalize ef t (m-au n) (n-au n) false (path.take p)=r at*;have bl:Hid (∀w',Fr ag w w'→Calls Tryz.prog 122 #[aE last,aE r.1] w' (aJ w' (aE (bU last r.1)))):=fun w' f=>iG _ _ z l1 w' (av.ar f);have bk:Hid (∀w',Fr ag w w'→Calls Tryz.prog 122 #[aE last,aE r.2] w' (aJ w' (aE (bU last r.2)))):=fun w' f=>iG _ _ z l2 w' (av.ar f);rw[a3];have bg:=cJ last r.1;have lm:=cJ last r.2;show Calls _ _ _ _ (aJ w (.tuple #[aE (bU last r.1),aE (bU last r.2)]));generalize bU last r.1=bj at*;generalize bU last r.2=bh at*;generalize r.1=ra at*;generalize r.2=rb at*;have ab:Hid (bT (ao ra).toArray):=bT.of l1;have ac:Hid (bT (ao rb).toArray):=bT.of l2;have ae:Hid (bT (ao bj).toArray):=bT.of bg;have ad:Hid (bT (ao bh).toArray):=bT.of lm;have aN:Hid ((Tryz.prog.info? 38).map (·.size)=some (ao t).length):=by rw[ao,List.length_map,aD];exact cg
 have aL:Hid ((Tryz.prog.info? 38).map (·.size)=some (ao ra).length):=by rw[ao,List.length_map,l1];exact cg
 have aM:Hid ((Tryz.prog.info? 38).map (·.size)=some (ao rb).length):=by rw[ao,List.length_map,l2];exact cg
 have U:Hid ((Tryz.prog.info? 38).map (·.size)=some (ao last).length):=by rw[ao,List.length_map,z];exact cg
 have aG:Hid ((ao ra).toArray.size=32):=ab.out.size;have aH:Hid ((ao rb).toArray.size=32):=ac.out.size;generalize au n=k at*;have t1:((m:Int)==(n:Int))=false:=by rw[beq_eq_false_iff_ne];omega
 have t2:decide ((m:Int)≤(k:Int))=false:=ct (by omega);have a6:C=p+1:=by omega
 have s1:(C:Int)-1=(p:Int):=by omega
 have b1:(p:Int)≤(c:Int):=by omega
 have b2:(p:Int)<(C:Int):=by omega
 have b3:p<C:=by omega
 obtain⟨P,Z⟩:∃P:Nat,P=m-k:=⟨_,rfl⟩;obtain⟨Q,aa⟩:∃Q:Nat,Q=n-k:=⟨_,rfl⟩;rw[←Z,←aa]at aK;have s2:(m:Int)-(k:Int)=(P:Int):=by omega
 have bx:(n:Int)-(k:Int)=(Q:Int):=by omega
 have bo:P≤1048576:=by omega
 have bp:Q≤1048576:=by omega
 have bq:IntKind.i64.wrap (P:Int)=(P:Int):=IntWalk.i64_in _ (by omega);have br:IntKind.i64.wrap (Q:Int)=(Q:Int):=IntWalk.i64_in _ (by omega);clear Z aa;have be:C≤1048576:=by omega
 clear av W a2 hle L a4 a3 I ax z H bf l1 l2 bg aD bd a6 lm;unfold aE at*;simp only[show∀l:List UInt8,l.map aS=ao l from fun _=>rfl]at*;generalize ao t=bc at*;generalize ao ra=D at*;generalize ao rb=R at*;generalize ao last=ap at*;generalize ao bj=NV at*;generalize ao bh=aO at*;go_enter Tryz.func91,Tryz.ntmps91;go_wp2_with(refine aA rfl 38 (.tmp 0) rfl _ rfl ?_);intro w1 n1;have ba:=af n1;clear n1;go_wp2_with(refine ak rfl 38 rfl aI dW aB rfl ?_);intro w2 bi;have bb:=af bi;clear bi;go_wp2_with(refine ak rfl 38 rfl aI dW aB rfl ?_);intro w3 n3;have y:=af (iR.of ba.out bb.out n3);clear n3 ba bb;generalize w.heap.size=g5 at*;generalize w1.heap.size=g10 at*;generalize w2.heap.size=g11 at*;go_wp2_with fail;refine(a8.out _).mono ?_;rintro e w'⟨rfl,rfl⟩;clear a8;go_upto_region 9 with fail;refine aC 15 (fun k=>k=g10) [Is (.agg bc.toArray),Is (.int .i64 m),Is (.int .i64 k),Is (.int .i64 P),Is (.int .i64 n),Is (.int .i64 k),Is (.int .i64 Q),Is (.slice (some F) C c),Is (.int .i64 p),Is (.slice (some F) p c),Is (.tuple #[.agg D.toArray, .agg R.toArray]),Is (.tuple #[.agg D.toArray, .agg R.toArray]),Is (.agg D.toArray),Is (.agg R.toArray),fun _ _=>True] [(14,fun w'=>aq w' g10 38 D.toArray)] (fun w'=>aq w' g10 38 aB) (fun _ _=>false) (by kernel_rfl) (by kernel_rfl) (by kernel_rfl) (by kernel_rfl) ⟨Is.ah _,Is.ah _,Is.ah _,Is.ah _,Is.ah _,Is.ah _,Is.ah _,Is.ah _,Is.ah _,Is.ah _,Is.ah _,Is.ah _,Is.ah _,Is.ah _,fun _ _ _ _ _ h=>h,trivial⟩ ⟨fun _ _ _ f h=>h.fr f (fun x=>x),trivial⟩ (fun _ _ _ f h=>h.fr f (fun x=>x)) y.out.fj ?_ ?_
 ·refine⟨?_,?_,?_,?_,?_,?_,?_,?_,?_,?_,?_,?_,?_,?_,?_,trivial⟩;all_goals intro u w' d f a o g b
  all_goals simp only[bH,bI,bJ,bK,ay,Act.put,bL,bM,bN,Nat.reduceAdd,Nat.zero_add]
  ·clear a o g b;refine aj ?_;exact wp_load_mid _ _ rfl g5 0 rfl bc _ (bw (y.out.b5.fr f (fun e=>by have B:g5=g10:=e;have:=y.out.l1;have:=y.out.l2;omega))) Tryz.underlying38 rfl aN.out ⟨_,rfl,al⟩
  ·clear a o g b;refine aj ?_;go_simp;exact⟨_,rfl,al⟩
  ·clear a o g b;refine aj ?_;go_simp;exact⟨_,rfl,al⟩
  ·have V:u 1=_:=a 1;have aT:u 2=_:=a 2;clear a o g b;simp only[V,aT];refine aj ?_;go_simp;exact⟨_,rfl,al⟩
  ·clear a o g b;refine aj ?_;go_simp;exact⟨_,rfl,al⟩
  ·clear a o g b;refine aj ?_;go_simp;exact⟨_,rfl,al⟩
  ·have aV:u 4=_:=a 4;have aW:u 5=_:=a 5;clear a o g b;simp only[aV,aW];refine aj ?_;go_simp;exact⟨_,rfl,al⟩
  ·clear a o g b;refine aj ?_;go_simp;exact⟨_,rfl,al⟩
  ·clear a o g b;refine aj ?_;go_simp;exact⟨_,rfl,al⟩
  ·have aZ:u 7=_:=a 7;have a0:u 8=_:=a 8;clear a o g b;simp only[aZ,a0];refine aj ?_;go_simp;exact⟨_,rfl,al⟩
  ·have aP:u 0=_:=a 0;have aU:u 3=_:=a 3;have aY:u 6=_:=a 6;have a1:u 9=_:=a 9;clear a o g b;simp only[aP,aU,aY,a1];refine aj ?_;go_simp;refine(aK.out _ (y.out.fr.aw f (fun i T e=>by have B:i=g10:=e;have:=y.out.lo;have:=y.out.l1;omega))).mono ?_;rintro e aF⟨rfl,f4⟩;exact⟨_,rfl,f4.bP,rfl,trivial⟩
  ·have O:u 10=_:=a 10;clear a o g b;simp only[O];refine aj ?_;go_simp;exact⟨_,rfl,al⟩
  ·have G:u 11=_:=a 11;clear a o g b;simp only[G];refine aj ?_;go_simp;exact⟨_,rfl,al⟩
  ·have G:u 11=_:=a 11;clear a o g b;simp only[G];refine aj ?_;go_simp;exact⟨_,rfl,al⟩
  ·have aQ:u 12=_:=a 12;clear a;simp only[aQ];refine aj ?_;have X:aq w' g10 38 aB:=by rw[bX,if_neg (by rw[g 14 (by kernel_rfl)];exact Bool.false_ne_true)]at b;exact b
   clear o g b;refine db 38 (.tmp 10) (.tmp 71) rfl g10 D.toArray rfl rfl _ _ X ab.out.info ab.out.zero ab.out.one ?_;intro aF b4 f4;exact⟨_,rfl,f4,trivial,b4⟩
 ·intro u w' f a b;have aR:u 13=_:=a 13 (by omega);clear a;have J:aq w' g10 38 D.toArray:=b;clear b;simp only[bH,bI,bJ,bK,ay,Act.put,bL,bM,bN,dD,dE,Nat.reduceAdd,Nat.zero_add,aR];have K:=af (y.out.gg.fr f (fun e=>by have B:g11=g10:=e;have:=y.out.l1;have:=y.out.l2;omega));have E:=af J;have am:=af f;clear J f;go_wp2_with(refine ai rfl 38 (.tmp 11) _ rfl g11 R.toArray rfl rfl _ _ K.out ac.out.info ac.out.zero ac.out.one ?_);intro a7 b5 f5;have N:=af b5;have M:=af (E.out.fr f5 (fun e=>by have B:g10=g11:=e;have:=y.out.l1;have:=y.out.l2;omega));have s:=af (y.out.stored am.out E.out f5 b5);clear b5 f5 y am E K M N aK;go_upto_region 10 with fail;refine aC 13 (fun k=>k=g10) [Is (.slice (some F) C c),Is (.int .i64 p),Is (.pointer (some (F.add (p*32)))),Is (.agg ap.toArray),Is (.agg D.toArray),Is (.agg NV.toArray),Is (.slice (some F) C c),Is (.int .i64 p),Is (.pointer (some (F.add (p*32)))),Is (.agg ap.toArray),Is (.agg R.toArray),Is (.agg aO.toArray),fun _ _=>True] [(12,fun w'=>aq w' g10 38 NV.toArray)] (fun w'=>aq w' g10 38 D.toArray) (fun i j=>i==4&&j==12) (by kernel_rfl) (by kernel_rfl) (by kernel_rfl) (by kernel_rfl) ⟨Is.ah _,Is.ah _,Is.ah _,Is.ah _,Is.ah _,Is.ah _,Is.ah _,Is.ah _,Is.ah _,Is.ah _,Is.ah _,Is.ah _,fun _ _ _ _ _ h=>h,trivial⟩ ⟨fun _ _ _ f h=>h.fr f (fun x=>x),trivial⟩ (fun _ _ _ f h=>h.fr f (fun x=>x)) s.out.fj ?_ ?_
  ·refine⟨?_,?_,?_,?_,?_,?_,?_,?_,?_,?_,?_,?_,?_,trivial⟩;all_goals intro u w' d f a o g b
   all_goals simp only[bH,bI,bJ,bK,ay,Act.put,bL,bM,bN,Nat.reduceAdd,Nat.zero_add]
   ·clear a o g b;refine aj ?_;go_simp;exact⟨_,rfl,al⟩
   ·clear a o g b;refine aj ?_;go_simp;exact⟨_,rfl,al⟩
   ·have aP:u 0=_:=a 0;have V:u 1=_:=a 1;clear a o g b;simp only[aP,V];refine aj ?_;go_simp;exact⟨_,rfl,al⟩
   ·have aT:u 2=_:=a 2;clear a o g b;simp only[aT];refine aj ?_;exact az _ _ rfl (F.add (p*32)) rfl ap _ (a9.out _ (s.out.fr.aw f (fun i T e=>by have B:i=g10:=e;have:=s.out.lo;have:=s.out.l1;omega))) Tryz.underlying38 rfl U.out ⟨_,rfl,al⟩
   ·clear a;refine aj ?_;have X:aq w' g10 38 D.toArray:=by rw[bX,if_neg (by rw[g 12 (by kernel_rfl)];exact Bool.false_ne_true)]at b;exact b
    clear o g b;exact wp_load_mid _ _ rfl g10 0 rfl D _ (bw (X)) Tryz.underlying38 rfl aL.out ⟨_,rfl,al⟩
   ·have aU:u 3=_:=a 3;have aV:u 4=_:=a 4;clear a o g b;simp only[aU,aV];refine aj ?_;go_simp;refine(bl.out _ (s.out.fr.aw f (fun i T e=>by have B:i=g10:=e;have:=s.out.lo;have:=s.out.l1;omega))).mono ?_;rintro e aF⟨rfl,f4⟩;exact⟨_,rfl,f4.bP,rfl,trivial⟩
   ·clear a o g b;refine aj ?_;go_simp;exact⟨_,rfl,al⟩
   ·clear a o g b;refine aj ?_;go_simp;exact⟨_,rfl,al⟩
   ·have aY:u 6=_:=a 6;have aZ:u 7=_:=a 7;clear a o g b;simp only[aY,aZ];refine aj ?_;go_simp;exact⟨_,rfl,al⟩
   ·have a0:u 8=_:=a 8;clear a o g b;simp only[a0];refine aj ?_;exact az _ _ rfl (F.add (p*32)) rfl ap _ (a9.out _ (s.out.fr.aw f (fun i T e=>by have B:i=g10:=e;have:=s.out.lo;have:=s.out.l1;omega))) Tryz.underlying38 rfl U.out ⟨_,rfl,al⟩
   ·clear a o g b;refine aj ?_;exact wp_load_mid _ _ rfl g11 0 rfl R _ (bw (s.out.gg.fr f (fun e=>by have B:g11=g10:=e;have:=s.out.l1;have:=s.out.l2;omega))) Tryz.underlying38 rfl aM.out ⟨_,rfl,al⟩
   ·have a1:u 9=_:=a 9;have O:u 10=_:=a 10;clear a o g b;simp only[a1,O];refine aj ?_;go_simp;refine(bk.out _ (s.out.fr.aw f (fun i T e=>by have B:i=g10:=e;have:=s.out.lo;have:=s.out.l1;omega))).mono ?_;rintro e aF⟨rfl,f4⟩;exact⟨_,rfl,f4.bP,rfl,trivial⟩
   ·have aW:u 5=_:=a 5;clear a;simp only[aW];refine aj ?_;have X:aq w' g10 38 D.toArray:=by rw[bX,if_neg (by rw[g 12 (by kernel_rfl)];exact Bool.false_ne_true)]at b;exact b
    clear o g b;refine db 38 (.tmp 10) (.tmp 78) rfl g10 NV.toArray rfl rfl _ _ X ae.out.info (aG.out.trans ae.out.size.symm) ae.out.one ?_;intro aF b4 f4;exact⟨_,rfl,f4,trivial,b4⟩
  ·intro u w' f a b;have G:u 11=_:=a 11 (by omega);clear a;have J:aq w' g10 38 NV.toArray:=b;clear b;simp only[bH,bI,bJ,bK,ay,Act.put,bL,bM,bN,dD,dE,Nat.reduceAdd,Nat.zero_add,G];have K:=af (s.out.gg.fr f (fun e=>by have B:g11=g10:=e;have:=s.out.l1;have:=s.out.l2;omega));have E:=af J;have am:=af f;clear J f;go_wp2_with(refine ai rfl 38 (.tmp 11) _ rfl g11 aO.toArray rfl rfl _ _ K.out ad.out.info (aH.out.trans ad.out.size.symm) ad.out.one ?_);intro a7 b5 f5;have N:=af b5;have M:=af (E.out.fr f5 (fun e=>by have B:g10=g11:=e;have:=s.out.l1;have:=s.out.l2;omega));have bm:Hid (Fr ag w a7):=(s.out.fr.aw am.out (fun i T e=>by have B:i=g10:=e;have:=s.out.lo;have:=s.out.l1;omega)).aw f5 (fun i T e=>by have B:i=g11:=e;have:=s.out.lo;have:=s.out.l1;have:=s.out.l2;omega);clear b5 f5;go_wp2;exact bodyPost_ret (gI (fn:=Tryz.f91) (p:=10) (q:=11) (ty:=38) Tryz.results91 _ a7 _ _ 38 NV.toArray aO.toArray (0,0) rfl rfl M.out N.out Tryz.underlying38 rfl ae.out.info ad.out.info) rfl ⟨rfl,bm.out⟩
theorem zm(n:Nat):Gj n:=by
 induction n using Nat.strongRecOn with
 |_ n o=>
  intro a m whole path p A c S w g h i d l f k b j;by_cases e:m=n
  ·subst e;rw[uj];rw[jd]at f;cases whole;·obtain rfl:p=1:=f;exact xP a m path A c S w g
   ·exact vG a h m _ w
  ·by_cases hm:m≤au n;·exact xO n o a m whole path p A c S w g h i d l f k b j e hm
   ·exact vF n o a m whole path p A c S w g h i d l f k b j e hm
end Go.Proofs.YtphjagkehiklkaaGreatDoor.Lt
namespace Go.Proofs.YtphjagkehiklkaaGreatDoor
open Go.RowKit Go.Shelf
theorem pb{P:Program}{ops:Array Oper}{rest:List Oper}{c f o o4:Oper}{a:Act}{w:World}{Q:Exit→Act→World→Prop}(u:c.guard=none)(v:f.guard=none)(y:o.guard=none)(A:o4.guard=none)(t:TypeId)(d e:Tmp)(D:c.op= .alloc t)(E:f.op= .alloc t)(M:Operand)(F:o.op= .store t (.tmp d) M)(N:Operand)(G:o4.op= .store t (.tmp e) N)
  (z:Value)(O:∀w,(zeroValue t).run P w= .ok z w)(l:Array Value)(p:z.cells=l)(m n:Array Value)
  (H:∀g b,((a.put c.dst (.pointer (some ⟨g,0,none⟩))).put f.dst (.pointer (some ⟨b,0,none⟩))).eval (.tmp d)= .pointer (some ⟨g,0,none⟩))(J:∀g b,((a.put c.dst (.pointer (some ⟨g,0,none⟩))).put f.dst (.pointer (some ⟨b,0,none⟩))).eval M= .agg m)
  (I:∀g b,(((a.put c.dst (.pointer (some ⟨g,0,none⟩))).put f.dst (.pointer (some ⟨b,0,none⟩))).put o.dst undef).eval (.tmp e)= .pointer (some ⟨b,0,none⟩))(K:∀g b,(((a.put c.dst (.pointer (some ⟨g,0,none⟩))).put f.dst (.pointer (some ⟨b,0,none⟩))).put o.dst undef).eval N= .agg n)
  (B:(P.info? t).map (·.size)=some m.size)(j:l.size=m.size)(r:m.all (·.oneCell')=true)(C:(P.info? t).map (·.size)=some n.size)(k:l.size=n.size)(s:n.all (·.oneCell')=true)
  (h:∀w' g b,w.heap.size≤g→g<b→b<w'.heap.size→aq w' g t m→aq w' b t n→Fr ag w w'→wpList P ops Q rest ((((a.put c.dst (.pointer (some ⟨g,0,none⟩))).put f.dst (.pointer (some ⟨b,0,none⟩))).put o.dst undef).put o4.dst undef) w'):wpList P ops Q (c::f::o::o4::rest) a w:=by
 refine ak u t D z O l p fun w1 n1=>?_;refine ak v t E z O l p fun w2 L=>?_;have b1:=n1.aH.fr L.fr (fun x=>x);have T:=n1.size;refine ai y t (.tmp d) M F w.heap.size m (H _ _) (J _ _) t l b1 B j r fun w3 b3 f3=>?_;have b2:=L.aH.fr f3 (fun e=>by have q:w1.heap.size=w.heap.size:=e;omega);refine ai A t (.tmp e) N G w1.heap.size n (I _ _) (K _ _) t l b2 C k s fun S b4 f4=>?_;exact h S w.heap.size w1.heap.size (Nat.le_refl _) (by omega) b4.lt (b3.fr f4 (fun e=>by have q:w.heap.size=w1.heap.size:=e;omega)) b4
  (((n1.fr.trans L.fr).aw f3 (fun i R e=>by have q:i=w.heap.size:=e;omega)).aw f4 (fun i R e=>by have q:i=w1.heap.size:=e;omega))
end Go.Proofs.YtphjagkehiklkaaGreatDoor
