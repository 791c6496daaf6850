/- Texts. -/
import Derived.Test.YtphjagkehiklkaaGreatDoorWK45
set_option linter.unusedVariables false
set_option linter.unusedSimpArgs false
set_option maxRecDepth 100000
set_option maxHeartbeats 1000000
namespace Go.Proofs.YtphjagkehiklkaaGreatDoor.Lt
open Go.RowKit
theorem dX{P:Program}{fn:Func}{p q r:Tmp}{ty:TypeId}(h:fn.results=#[.cell p ty, .cell q ty, .tmp r])(tmps:Array Value)(w:World)(g a:Nat)(t:TypeId)(cs cs':Array Value)(fr:Nat×Nat){d:TypeDesc}
  (m:tmps.getD p undef= .pointer (some ⟨g,0,none⟩))(n:tmps.getD q undef= .pointer (some ⟨a,0,none⟩))(k:w.heap[g]? =some (.cells cs t fr))(b:w.heap[a]? =some (.cells cs' t fr))
  (hu:P.underlying ty=some d)(j:(match d with| .struct _| .array _ _=>true|_=>false)=true)(l:(P.info? ty).map (·.size)=some cs.size)(c:(P.info? ty).map (·.size)=some cs'.size)(v:Value)(o:tmps.getD r undef=v):
  (results fn tmps).run P w= .ok (.tuple #[.agg cs, .agg cs',v]) w:=by
 have e:tmps[p]?.getD undef= .pointer (some ⟨g,0,none⟩):=by simpa using m
 have f:tmps[q]?.getD undef= .pointer (some ⟨a,0,none⟩):=by simpa using n
 have i:tmps[r]?.getD undef=v:=by simpa using o
 simp[results,h,e,f,i,asAddr,run_loadVar_row w g t ty cs fr d k hu j l,run_loadVar_row w a t ty cs' fr d b hu j c]
theorem tC(t:List UInt8)(Q:t.length=32)(m n:Int)(v:Value)(w:World)(T:¬(0≤n∧n≤1048576∧0≤m∧m≤n)):
  Calls Tryz.prog 36 #[aE t, .int .i64 m, .int .i64 n,v] w (aJ w (.tuple #[aE cC,aE cC, .int .i64 2])):=by
 have Y:Hid (bT (ao t).toArray):=bT.of Q;have V:Hid ((Tryz.prog.info? 38).map (·.size)=some (ao t).length):=by rw[ao,List.length_map,Q];exact cg
 have o:Hid (bT (ao cC).toArray):=bT.of ck;have y:Hid ((Tryz.prog.info? 38).map (·.size)=some (ao cC).length):=by rw[ao,List.length_map,ck];exact cg
 have R:Hid (∀w',Calls Tryz.prog 89 #[.int .i64 n, .int .i64 0, .int .i64 1048576] w' (aY w' (.bool (decide (0≤n∧n≤1048576))))):=fun w'=>cy n 0 1048576 w';have U:Hid (∀w',Calls Tryz.prog 89 #[.int .i64 m, .int .i64 0, .int .i64 n] w' (aY w' (.bool (decide (0≤m∧m≤n))))):=fun w'=>cy m 0 n w';have W:decide (0≤n∧n≤1048576)=false∨(decide (0≤n∧n≤1048576)=true∧decide (0≤m∧m≤n)=false):=by
  by_cases A:0≤n∧n≤1048576;·exact .inr ⟨decide_eq_true A,ct (fun h=>T ⟨A.1,A.2,h.1,h.2⟩)⟩
  ·exact .inl (decide_eq_false A)
 have S:Hid ((ao cC).toArray=aB):=jz;clear Q T;unfold aE at*;simp only[show∀l:List UInt8,l.map aS=ao l from fun _=>rfl]at*;generalize ao t=Z at*;generalize ao cC=b at*;generalize decide (0≤n∧n≤1048576)=aa at*;generalize decide (0≤m∧m≤n)=ab at*;rcases W with rfl|⟨rfl,rfl⟩
 ·go_enter Tryz.func36,Tryz.ntmps36;go_wp2_with(refine aA rfl 38 (.tmp 0) rfl _ rfl ?_);intro w1 n1;have D:=af n1;clear n1;go_wp2_with(refine ak rfl 38 rfl aI dW aB rfl ?_);intro w2 G;have E:=af G;clear G;go_wp2_with(refine ak rfl 38 rfl aI dW aB rfl ?_);intro w3 n3;have a:=af (iR.of D.out E.out n3);clear n3 D E;generalize w.heap.size=g4 at*;generalize w1.heap.size=g8 at*;generalize w2.heap.size=g9 at*;go_wp2_with fail;refine(R.out _).mono ?_;rintro e w'⟨rfl,rfl⟩;rw[←S.out]at a;go_upto_region 2 with fail;refine aC 3 (fun k=>k=g8) [Is (.agg b.toArray),Is (.agg b.toArray),fun _ _=>True] [(2,fun w'=>aq w' g8 38 b.toArray)] (fun w'=>aq w' g8 38 b.toArray) (fun i j=>i==0&&j==2) (by kernel_rfl) (by kernel_rfl) (by kernel_rfl) (by kernel_rfl) ⟨Is.ah _,Is.ah _,fun _ _ _ _ _ h=>h,trivial⟩ ⟨fun _ _ _ f h=>h.fr f (fun x=>x),trivial⟩ (fun _ _ _ f h=>h.fr f (fun x=>x)) a.out.fj ?_ ?_
  ·refine⟨?_,?_,?_,trivial⟩;all_goals intro u w' d f g C s c
   all_goals simp only[bH,bI,bJ,bK,ay,Act.put,bL,bM,bN,Nat.reduceAdd,Nat.zero_add]
   ·clear g;refine aj ?_;have B:aq w' g8 38 b.toArray:=by rw[bX,if_neg (by rw[s 2 (by kernel_rfl)];exact Bool.false_ne_true)]at c;exact c
    clear C s c;exact wp_load_mid _ _ rfl g8 0 rfl b _ (bw (B)) Tryz.underlying38 rfl y.out ⟨_,rfl,al⟩
   ·clear g C s c;refine aj ?_;exact wp_load_mid _ _ rfl g9 0 rfl b _ (bw (a.out.gg.fr f (fun e=>by have z:g9=g8:=e;have:=a.out.l1;have:=a.out.l2;omega))) Tryz.underlying38 rfl y.out ⟨_,rfl,al⟩
   ·have O:u 0=_:=g 0;clear g;simp only[O];refine aj ?_;have B:aq w' g8 38 b.toArray:=by rw[bX,if_neg (by rw[s 2 (by kernel_rfl)];exact Bool.false_ne_true)]at c;exact c
    clear C s c;refine db 38 (.tmp 8) (.tmp 20) rfl g8 b.toArray rfl rfl _ _ B o.out.info rfl o.out.one ?_;intro X b4 f4;exact⟨_,rfl,f4,trivial,b4⟩
  ·intro u w' f g c;have A:u 1=_:=g 1 (by omega);clear g;have F:aq w' g8 38 b.toArray:=c;clear c;simp only[bH,bI,bJ,bK,ay,Act.put,bL,bM,bN,dD,dE,Nat.zero_add,A];have J:=af (a.out.gg.fr f (fun e=>by have z:g9=g8:=e;have:=a.out.l1;have:=a.out.l2;omega));have I:=af F;have K:=af f;clear F f;go_wp2_with(refine ai rfl 38 (.tmp 9) _ rfl g9 b.toArray rfl rfl _ _ J.out o.out.info rfl o.out.one ?_);intro H b5 f5;have M:=af b5;have L:=af (I.out.fr f5 (fun e=>by have z:g8=g9:=e;have:=a.out.l1;have:=a.out.l2;omega));have N:Hid (Fr ag w H):=(a.out.fr.aw K.out (fun i P e=>by have z:i=g8:=e;have:=a.out.lo;have:=a.out.l1;omega)).aw f5 (fun i P e=>by have z:i=g9:=e;have:=a.out.lo;have:=a.out.l1;have:=a.out.l2;omega);clear b5 f5;go_wp2;exact bodyPost_ret (dX (fn:=Tryz.f36) (p:=8) (q:=9) (r:=10) (ty:=38) Tryz.results36 _ H _ _ 38 b.toArray b.toArray (0,0) rfl rfl L.out M.out Tryz.underlying38 rfl o.out.info o.out.info _ rfl) rfl ⟨rfl,N.out⟩
 ·go_enter Tryz.func36,Tryz.ntmps36;go_wp2_with(refine aA rfl 38 (.tmp 0) rfl _ rfl ?_);intro w1 n1;have D:=af n1;clear n1;go_wp2_with(refine ak rfl 38 rfl aI dW aB rfl ?_);intro w2 G;have E:=af G;clear G;go_wp2_with(refine ak rfl 38 rfl aI dW aB rfl ?_);intro w3 n3;have a:=af (iR.of D.out E.out n3);clear n3 D E;generalize w.heap.size=g4 at*;generalize w1.heap.size=g8 at*;generalize w2.heap.size=g9 at*;go_wp2_with fail;refine(R.out _).mono ?_;rintro e w'⟨rfl,rfl⟩;go_wp2_with fail;refine(U.out _).mono ?_;rintro e w'⟨rfl,rfl⟩;rw[←S.out]at a;go_upto_region 2 with fail;refine aC 3 (fun k=>k=g8) [Is (.agg b.toArray),Is (.agg b.toArray),fun _ _=>True] [(2,fun w'=>aq w' g8 38 b.toArray)] (fun w'=>aq w' g8 38 b.toArray) (fun i j=>i==0&&j==2) (by kernel_rfl) (by kernel_rfl) (by kernel_rfl) (by kernel_rfl) ⟨Is.ah _,Is.ah _,fun _ _ _ _ _ h=>h,trivial⟩ ⟨fun _ _ _ f h=>h.fr f (fun x=>x),trivial⟩ (fun _ _ _ f h=>h.fr f (fun x=>x)) a.out.fj ?_ ?_
  ·refine⟨?_,?_,?_,trivial⟩;all_goals intro u w' d f g C s c
   all_goals simp only[bH,bI,bJ,bK,ay,Act.put,bL,bM,bN,Nat.reduceAdd,Nat.zero_add]
   ·clear g;refine aj ?_;have B:aq w' g8 38 b.toArray:=by rw[bX,if_neg (by rw[s 2 (by kernel_rfl)];exact Bool.false_ne_true)]at c;exact c
    clear C s c;exact wp_load_mid _ _ rfl g8 0 rfl b _ (bw (B)) Tryz.underlying38 rfl y.out ⟨_,rfl,al⟩
   ·clear g C s c;refine aj ?_;exact wp_load_mid _ _ rfl g9 0 rfl b _ (bw (a.out.gg.fr f (fun e=>by have z:g9=g8:=e;have:=a.out.l1;have:=a.out.l2;omega))) Tryz.underlying38 rfl y.out ⟨_,rfl,al⟩
   ·have O:u 0=_:=g 0;clear g;simp only[O];refine aj ?_;have B:aq w' g8 38 b.toArray:=by rw[bX,if_neg (by rw[s 2 (by kernel_rfl)];exact Bool.false_ne_true)]at c;exact c
    clear C s c;refine db 38 (.tmp 8) (.tmp 20) rfl g8 b.toArray rfl rfl _ _ B o.out.info rfl o.out.one ?_;intro X b4 f4;exact⟨_,rfl,f4,trivial,b4⟩
  ·intro u w' f g c;have A:u 1=_:=g 1 (by omega);clear g;have F:aq w' g8 38 b.toArray:=c;clear c;simp only[bH,bI,bJ,bK,ay,Act.put,bL,bM,bN,dD,dE,Nat.zero_add,A];have J:=af (a.out.gg.fr f (fun e=>by have z:g9=g8:=e;have:=a.out.l1;have:=a.out.l2;omega));have I:=af F;have K:=af f;clear F f;go_wp2_with(refine ai rfl 38 (.tmp 9) _ rfl g9 b.toArray rfl rfl _ _ J.out o.out.info rfl o.out.one ?_);intro H b5 f5;have M:=af b5;have L:=af (I.out.fr f5 (fun e=>by have z:g8=g9:=e;have:=a.out.l1;have:=a.out.l2;omega));have N:Hid (Fr ag w H):=(a.out.fr.aw K.out (fun i P e=>by have z:i=g8:=e;have:=a.out.lo;have:=a.out.l1;omega)).aw f5 (fun i P e=>by have z:i=g9:=e;have:=a.out.lo;have:=a.out.l1;have:=a.out.l2;omega);clear b5 f5;go_wp2;exact bodyPost_ret (dX (fn:=Tryz.f36) (p:=8) (q:=9) (r:=10) (ty:=38) Tryz.results36 _ H _ _ 38 b.toArray b.toArray (0,0) rfl rfl L.out M.out Tryz.underlying38 rfl o.out.info o.out.info _ rfl) rfl ⟨rfl,N.out⟩
theorem vA(o:List UInt8)(T:o.length=32)(n:Nat)(Z:n≤1048576)(p:Nat)(A:Option Addr)(c:Nat)(w:World):
  Calls Tryz.prog 36 #[aE o, .int .i64 0, .int .i64 n, .slice A p c] w (aJ w (if p=0 then .tuple #[aE o,aE cC, .int .i64 0]else .tuple #[aE cC,aE cC, .int .i64 35])):=by
 have J:Hid (bT (ao o).toArray):=bT.of T;have N:Hid ((Tryz.prog.info? 38).map (·.size)=some (ao o).length):=by rw[ao,List.length_map,T];exact cg
 have s:Hid (bT (ao cC).toArray):=bT.of ck;have y:Hid ((Tryz.prog.info? 38).map (·.size)=some (ao cC).length):=by rw[ao,List.length_map,ck];exact cg
 have U:Hid (∀w',Calls Tryz.prog 89 #[.int .i64 n, .int .i64 0, .int .i64 1048576] w' (aY w' (.bool true))):=by
  intro w';have h:=cy (n:Int) 0 1048576 w';rw[dh (by omega)]at h;exact h
 have V:Hid (∀w',Calls Tryz.prog 89 #[.int .i64 0, .int .i64 0, .int .i64 n] w' (aY w' (.bool true))):=by
  intro w';have h:=cy 0 0 n w';rw[dh (by omega)]at h;exact h
 have W:Hid (∀w',Calls Tryz.prog 90 #[.int .i64 0, .int .i64 n, .bool true] w' (aY w' (.int .i64 0))):=fun w'=>oq n true w';have X:Hid ((ao cC).toArray=aB):=jz;clear T;unfold aE at*;simp only[show∀l:List UInt8,l.map aS=ao l from fun _=>rfl]at*;generalize ao o=C at*;generalize ao cC=f at*;by_cases z:p=0
 ·subst z;rw[if_pos rfl];go_enter Tryz.func36,Tryz.ntmps36;go_wp2_with(refine aA rfl 38 (.tmp 0) rfl _ rfl ?_);intro w1 n1;have D:=af n1;clear n1;go_wp2_with(refine ak rfl 38 rfl aI dW aB rfl ?_);intro w2 H;have E:=af H;clear H;go_wp2_with(refine ak rfl 38 rfl aI dW aB rfl ?_);intro w3 n3;have a:=af (iR.of D.out E.out n3);clear n3 D E;generalize w.heap.size=g4 at*;generalize w1.heap.size=g8 at*;generalize w2.heap.size=g9 at*;go_wp2_with fail;refine(U.out _).mono ?_;rintro e w'⟨rfl,rfl⟩;go_wp2_with fail;refine(V.out _).mono ?_;rintro e w'⟨rfl,rfl⟩;go_wp2_with fail;refine(W.out _).mono ?_;rintro e w'⟨rfl,rfl⟩;rw[←X.out]at a;go_upto_region 6 with fail;refine aC 3 (fun k=>k=g8) [Is (.agg C.toArray),Is (.agg f.toArray),fun _ _=>True] [(2,fun w'=>aq w' g8 38 C.toArray)] (fun w'=>aq w' g8 38 f.toArray) (fun _ _=>false) (by kernel_rfl) (by kernel_rfl) (by kernel_rfl) (by kernel_rfl) ⟨Is.ah _,Is.ah _,fun _ _ _ _ _ h=>h,trivial⟩ ⟨fun _ _ _ b h=>h.fr b (fun x=>x),trivial⟩ (fun _ _ _ b h=>h.fr b (fun x=>x)) a.out.fj ?_ ?_
  ·refine⟨?_,?_,?_,trivial⟩;all_goals intro u w' d b m B v g
   all_goals simp only[bH,bI,bJ,bK,ay,Act.put,bL,bM,bN,Nat.reduceAdd,Nat.zero_add]
   ·clear m B v g;refine aj ?_;exact wp_load_mid _ _ rfl g4 0 rfl C _ (bw (a.out.b5.fr b (fun e=>by have t:g4=g8:=e;have:=a.out.l1;have:=a.out.l2;omega))) Tryz.underlying38 rfl N.out ⟨_,rfl,al⟩
   ·clear m B v g;refine aj ?_;exact wp_load_mid _ _ rfl g9 0 rfl f _ (bw (a.out.gg.fr b (fun e=>by have t:g9=g8:=e;have:=a.out.l1;have:=a.out.l2;omega))) Tryz.underlying38 rfl y.out ⟨_,rfl,al⟩
   ·have z:u 0=_:=m 0;clear m;simp only[z];refine aj ?_;have F:aq w' g8 38 f.toArray:=by rw[bX,if_neg (by rw[v 2 (by kernel_rfl)];exact Bool.false_ne_true)]at g;exact g
    clear B v g;refine db 38 (.tmp 8) (.tmp 32) rfl g8 C.toArray rfl rfl _ _ F J.out.info (s.out.size.trans J.out.size.symm) J.out.one ?_;intro Y b4 f4;exact⟨_,rfl,f4,trivial,b4⟩
  ·intro u w' b m g;have R:u 1=_:=m 1 (by omega);clear m;have G:aq w' g8 38 C.toArray:=g;clear g;simp only[bH,bI,bJ,bK,ay,Act.put,bL,bM,bN,dD,dE,Nat.zero_add,R];have L:=af (a.out.gg.fr b (fun e=>by have t:g9=g8:=e;have:=a.out.l1;have:=a.out.l2;omega));have K:=af G;have M:=af b;clear G b;go_wp2_with(refine ai rfl 38 (.tmp 9) _ rfl g9 f.toArray rfl rfl _ _ L.out s.out.info rfl s.out.one ?_);intro I b5 f5;have P:=af b5;have O:=af (K.out.fr f5 (fun e=>by have t:g8=g9:=e;have:=a.out.l1;have:=a.out.l2;omega));have Q:Hid (Fr ag w I):=(a.out.fr.aw M.out (fun i S e=>by have t:i=g8:=e;have:=a.out.lo;have:=a.out.l1;omega)).aw f5 (fun i S e=>by have t:i=g9:=e;have:=a.out.lo;have:=a.out.l1;have:=a.out.l2;omega);clear b5 f5;go_wp2;exact bodyPost_ret (dX (fn:=Tryz.f36) (p:=8) (q:=9) (r:=10) (ty:=38) Tryz.results36 _ I _ _ 38 C.toArray f.toArray (0,0) rfl rfl O.out P.out Tryz.underlying38 rfl J.out.info s.out.info _ rfl) rfl ⟨rfl,Q.out⟩
 ·rw[if_neg z];have t5:((p:Int)==0)=false:=by rw[beq_eq_false_iff_ne];omega
  have t6:¬p=0:=z;go_enter Tryz.func36,Tryz.ntmps36;go_wp2_with(refine aA rfl 38 (.tmp 0) rfl _ rfl ?_);intro w1 n1;have D:=af n1;clear n1;go_wp2_with(refine ak rfl 38 rfl aI dW aB rfl ?_);intro w2 H;have E:=af H;clear H;go_wp2_with(refine ak rfl 38 rfl aI dW aB rfl ?_);intro w3 n3;have a:=af (iR.of D.out E.out n3);clear n3 D E;generalize w.heap.size=g4 at*;generalize w1.heap.size=g8 at*;generalize w2.heap.size=g9 at*;go_wp2_with fail;refine(U.out _).mono ?_;rintro e w'⟨rfl,rfl⟩;go_wp2_with fail;refine(V.out _).mono ?_;rintro e w'⟨rfl,rfl⟩;go_wp2_with fail;refine(W.out _).mono ?_;rintro e w'⟨rfl,rfl⟩;rw[←X.out]at a;go_upto_region 4 with fail;refine aC 3 (fun k=>k=g8) [Is (.agg f.toArray),Is (.agg f.toArray),fun _ _=>True] [(2,fun w'=>aq w' g8 38 f.toArray)] (fun w'=>aq w' g8 38 f.toArray) (fun i j=>i==0&&j==2) (by kernel_rfl) (by kernel_rfl) (by kernel_rfl) (by kernel_rfl) ⟨Is.ah _,Is.ah _,fun _ _ _ _ _ h=>h,trivial⟩ ⟨fun _ _ _ b h=>h.fr b (fun x=>x),trivial⟩ (fun _ _ _ b h=>h.fr b (fun x=>x)) a.out.fj ?_ ?_
  ·refine⟨?_,?_,?_,trivial⟩;all_goals intro u w' d b m B v g
   all_goals simp only[bH,bI,bJ,bK,ay,Act.put,bL,bM,bN,Nat.reduceAdd,Nat.zero_add]
   ·clear m;refine aj ?_;have F:aq w' g8 38 f.toArray:=by rw[bX,if_neg (by rw[v 2 (by kernel_rfl)];exact Bool.false_ne_true)]at g;exact g
    clear B v g;exact wp_load_mid _ _ rfl g8 0 rfl f _ (bw (F)) Tryz.underlying38 rfl y.out ⟨_,rfl,al⟩
   ·clear m B v g;refine aj ?_;exact wp_load_mid _ _ rfl g9 0 rfl f _ (bw (a.out.gg.fr b (fun e=>by have t:g9=g8:=e;have:=a.out.l1;have:=a.out.l2;omega))) Tryz.underlying38 rfl y.out ⟨_,rfl,al⟩
   ·have z:u 0=_:=m 0;clear m;simp only[z];refine aj ?_;have F:aq w' g8 38 f.toArray:=by rw[bX,if_neg (by rw[v 2 (by kernel_rfl)];exact Bool.false_ne_true)]at g;exact g
    clear B v g;refine db 38 (.tmp 8) (.tmp 28) rfl g8 f.toArray rfl rfl _ _ F s.out.info rfl s.out.one ?_;intro Y b4 f4;exact⟨_,rfl,f4,trivial,b4⟩
  ·intro u w' b m g;have R:u 1=_:=m 1 (by omega);clear m;have G:aq w' g8 38 f.toArray:=g;clear g;simp only[bH,bI,bJ,bK,ay,Act.put,bL,bM,bN,dD,dE,Nat.zero_add,R];have L:=af (a.out.gg.fr b (fun e=>by have t:g9=g8:=e;have:=a.out.l1;have:=a.out.l2;omega));have K:=af G;have M:=af b;clear G b;go_wp2_with(refine ai rfl 38 (.tmp 9) _ rfl g9 f.toArray rfl rfl _ _ L.out s.out.info rfl s.out.one ?_);intro I b5 f5;have P:=af b5;have O:=af (K.out.fr f5 (fun e=>by have t:g8=g9:=e;have:=a.out.l1;have:=a.out.l2;omega));have Q:Hid (Fr ag w I):=(a.out.fr.aw M.out (fun i S e=>by have t:i=g8:=e;have:=a.out.lo;have:=a.out.l1;omega)).aw f5 (fun i S e=>by have t:i=g9:=e;have:=a.out.lo;have:=a.out.l1;have:=a.out.l2;omega);clear b5 f5;go_wp2;exact bodyPost_ret (dX (fn:=Tryz.f36) (p:=8) (q:=9) (r:=10) (ty:=38) Tryz.results36 _ I _ _ 38 f.toArray f.toArray (0,0) rfl rfl O.out P.out Tryz.underlying38 rfl s.out.info s.out.info _ rfl) rfl ⟨rfl,Q.out⟩
theorem tE(f:List UInt8)(E:f.length=32)(m n:Nat)(B:1≤m)(D:m≤n)(Y:n≤1048576)(p:Nat)(A:Option Addr)(c:Nat)(w:World)(ab:p≠cQ m n true):
  Calls Tryz.prog 36 #[aE f, .int .i64 m, .int .i64 n, .slice A p c] w (aJ w (.tuple #[aE cC,aE cC, .int .i64 35])):=by
 have Z:Hid (bT (ao f).toArray):=bT.of E;have R:Hid ((Tryz.prog.info? 38).map (·.size)=some (ao f).length):=by rw[ao,List.length_map,E];exact cg
 have t:Hid (bT (ao cC).toArray):=bT.of ck;have v:Hid ((Tryz.prog.info? 38).map (·.size)=some (ao cC).length):=by rw[ao,List.length_map,ck];exact cg
 have N:Hid (∀w',Calls Tryz.prog 89 #[.int .i64 n, .int .i64 0, .int .i64 1048576] w' (aY w' (.bool true))):=by
  intro w';have h:=cy (n:Int) 0 1048576 w';rw[dh (by omega)]at h;exact h
 have O:Hid (∀w',Calls Tryz.prog 89 #[.int .i64 m, .int .i64 0, .int .i64 n] w' (aY w' (.bool true))):=by
  intro w';have h:=cy (m:Int) 0 n w';rw[dh (by omega)]at h;exact h
 have P:Hid (∀w',Calls Tryz.prog 90 #[.int .i64 m, .int .i64 n, .bool true] w' (aY w' (.int .i64 (cQ m n true:Nat)))):=fun w'=>j8 n m true w' B D Y;generalize cQ m n true=q at*;have t5:((p:Int)==(q:Int))=false:=by rw[beq_eq_false_iff_ne];omega
 have t6:((m:Int)==0)=false:=by rw[beq_eq_false_iff_ne];omega
 have V:Hid ((ao cC).toArray=aB):=jz;clear E;unfold aE at*;simp only[show∀l:List UInt8,l.map aS=ao l from fun _=>rfl]at*;generalize ao f=aa at*;generalize ao cC=b at*;go_enter Tryz.func36,Tryz.ntmps36;go_wp2_with(refine aA rfl 38 (.tmp 0) rfl _ rfl ?_);intro w1 n1;have G:=af n1;clear n1;go_wp2_with(refine ak rfl 38 rfl aI dW aB rfl ?_);intro w2 J;have H:=af J;clear J;go_wp2_with(refine ak rfl 38 rfl aI dW aB rfl ?_);intro w3 n3;have a:=af (iR.of G.out H.out n3);clear n3 G H;generalize w.heap.size=g4 at*;generalize w1.heap.size=g8 at*;generalize w2.heap.size=g9 at*;go_wp2_with fail;refine(N.out _).mono ?_;rintro e w'⟨rfl,rfl⟩;go_wp2_with fail;refine(O.out _).mono ?_;rintro e w'⟨rfl,rfl⟩;go_wp2_with fail;refine(P.out _).mono ?_;rintro e w'⟨rfl,rfl⟩;rw[←V.out]at a;go_upto_region 4 with fail;refine aC 3 (fun k=>k=g8) [Is (.agg b.toArray),Is (.agg b.toArray),fun _ _=>True] [(2,fun w'=>aq w' g8 38 b.toArray)] (fun w'=>aq w' g8 38 b.toArray) (fun i j=>i==0&&j==2) (by kernel_rfl) (by kernel_rfl) (by kernel_rfl) (by kernel_rfl) ⟨Is.ah _,Is.ah _,fun _ _ _ _ _ h=>h,trivial⟩ ⟨fun _ _ _ o h=>h.fr o (fun x=>x),trivial⟩ (fun _ _ _ o h=>h.fr o (fun x=>x)) a.out.fj ?_ ?_
 ·refine⟨?_,?_,?_,trivial⟩;all_goals intro u w' d o s F y g
  all_goals simp only[bH,bI,bJ,bK,ay,Act.put,bL,bM,bN,Nat.reduceAdd,Nat.zero_add]
  ·clear s;refine aj ?_;have C:aq w' g8 38 b.toArray:=by rw[bX,if_neg (by rw[y 2 (by kernel_rfl)];exact Bool.false_ne_true)]at g;exact g
   clear F y g;exact wp_load_mid _ _ rfl g8 0 rfl b _ (bw (C)) Tryz.underlying38 rfl v.out ⟨_,rfl,al⟩
  ·clear s F y g;refine aj ?_;exact wp_load_mid _ _ rfl g9 0 rfl b _ (bw (a.out.gg.fr o (fun e=>by have z:g9=g8:=e;have:=a.out.l1;have:=a.out.l2;omega))) Tryz.underlying38 rfl v.out ⟨_,rfl,al⟩
  ·have W:u 0=_:=s 0;clear s;simp only[W];refine aj ?_;have C:aq w' g8 38 b.toArray:=by rw[bX,if_neg (by rw[y 2 (by kernel_rfl)];exact Bool.false_ne_true)]at g;exact g
   clear F y g;refine db 38 (.tmp 8) (.tmp 28) rfl g8 b.toArray rfl rfl _ _ C t.out.info rfl t.out.one ?_;intro ac b4 f4;exact⟨_,rfl,f4,trivial,b4⟩
 ·intro u w' o s g;have B:u 1=_:=s 1 (by omega);clear s;have I:aq w' g8 38 b.toArray:=g;clear g;simp only[bH,bI,bJ,bK,ay,Act.put,bL,bM,bN,dD,dE,Nat.zero_add,B];have M:=af (a.out.gg.fr o (fun e=>by have z:g9=g8:=e;have:=a.out.l1;have:=a.out.l2;omega));have L:=af I;have Q:=af o;clear I o;go_wp2_with(refine ai rfl 38 (.tmp 9) _ rfl g9 b.toArray rfl rfl _ _ M.out t.out.info rfl t.out.one ?_);intro K b5 f5;have T:=af b5;have S:=af (L.out.fr f5 (fun e=>by have z:g8=g9:=e;have:=a.out.l1;have:=a.out.l2;omega));have U:Hid (Fr ag w K):=(a.out.fr.aw Q.out (fun i X e=>by have z:i=g8:=e;have:=a.out.lo;have:=a.out.l1;omega)).aw f5 (fun i X e=>by have z:i=g9:=e;have:=a.out.lo;have:=a.out.l1;have:=a.out.l2;omega);clear b5 f5;go_wp2;exact bodyPost_ret (dX (fn:=Tryz.f36) (p:=8) (q:=9) (r:=10) (ty:=38) Tryz.results36 _ K _ _ 38 b.toArray b.toArray (0,0) rfl rfl S.out T.out Tryz.underlying38 rfl t.out.info t.out.info _ rfl) rfl ⟨rfl,U.out⟩
theorem tD(a:List UInt8)(F:a.length=32)(m n:Nat)(D:1≤m)(t:m≤n)(W:n≤1048576)(path:List (List UInt8))(p:Nat)(A:Option Addr)(c:Nat)(S:Nat→Prop)(w:World)(K:eM w S A p path)(az:p≤c)(E:c≤9223372036854775807)(L:p=cQ m n true)(ax:bB w):
  Calls Tryz.prog 36 #[aE a, .int .i64 m, .int .i64 n, .slice A p c] w (aJ w (.tuple #[aE (ef a m n true path).1,aE (ef a m n true path).2, .int .i64 0])):=by
 have aG:Hid (bT (ao a).toArray):=bT.of F;have O:Hid ((Tryz.prog.info? 38).map (·.size)=some (ao a).length):=by rw[ao,List.length_map,F];exact cg
 have aa:Hid (∀w',Calls Tryz.prog 89 #[.int .i64 n, .int .i64 0, .int .i64 1048576] w' (aY w' (.bool true))):=by
  intro w';have h:=cy (n:Int) 0 1048576 w';rw[dh (by omega)]at h;exact h
 have ab:Hid (∀w',Calls Tryz.prog 89 #[.int .i64 m, .int .i64 0, .int .i64 n] w' (aY w' (.bool true))):=by
  intro w';have h:=cy (m:Int) 0 n w';rw[dh (by omega)]at h;exact h
 have ac:Hid (∀w',Calls Tryz.prog 90 #[.int .i64 m, .int .i64 n, .bool true] w' (aY w' (.int .i64 (p:Nat)))):=fun w'=>by rw[L];exact j8 n m true w' D t W
 have ad:Hid (∀w',Fr ag w w'→Calls Tryz.prog 91 #[aE a, .int .i64 m, .int .i64 n, .bool true, .slice A p c] w' (aJ w' (.tuple #[aE (ef a m n true path).1,aE (ef a m n true path).2]))):=
  fun w' f=>zm n a m true path p A c S w' (K.ar f) F D t W L az E (ax.ar f);obtain⟨l1,l2⟩:=kF n a m true path D t (by omega) F (by rw[K.len];exact L) K.each;generalize(ef a m n true path).1=ra at*;generalize(ef a m n true path).2=rb at*;have v:Hid (bT (ao ra).toArray):=bT.of l1;have y:Hid (bT (ao rb).toArray):=bT.of l2;have M:Hid ((Tryz.prog.info? 38).map (·.size)=some (ao ra).length):=by rw[ao,List.length_map,l1];exact cg
 have N:Hid ((Tryz.prog.info? 38).map (·.size)=some (ao rb).length):=by rw[ao,List.length_map,l2];exact cg
 have t6:((m:Int)==0)=false:=by rw[beq_eq_false_iff_ne];omega
 clear F K l1 l2 L;unfold aE at*;simp only[show∀l:List UInt8,l.map aS=ao l from fun _=>rfl]at*;generalize ao a=au at*;generalize ao ra=g at*;generalize ao rb=B at*;go_enter Tryz.func36,Tryz.ntmps36;go_wp2_with(refine aA rfl 38 (.tmp 0) rfl _ rfl ?_);intro w1 n1;have T:=af n1;clear n1;go_wp2_with(refine ak rfl 38 rfl aI dW aB rfl ?_);intro w2 Y;have U:=af Y;clear Y;go_wp2_with(refine ak rfl 38 rfl aI dW aB rfl ?_);intro w3 n3;have J:=af (iR.of T.out U.out n3);clear n3 T U;generalize w.heap.size=g4 at*;generalize w1.heap.size=g8 at*;generalize w2.heap.size=g9 at*;go_wp2_with fail;refine(aa.out _).mono ?_;rintro e w'⟨rfl,rfl⟩;go_wp2_with fail;refine(ab.out _).mono ?_;rintro e w'⟨rfl,rfl⟩;go_wp2_with fail;refine(ac.out _).mono ?_;rintro e w'⟨rfl,rfl⟩;go_wp2_with(refine dZ rfl 38 (.tmp 4) rfl g4 rfl _ au J.out.b5 _ Tryz.underlying38 rfl O.out ?_);refine(ad.out _ J.out.fr).mono ?_;rintro e aF⟨rfl,f4⟩;have z:=af (J.out.later f4);clear f4 J;go_wp2_with(refine ai rfl 38 (.tmp 8) _ rfl g8 g.toArray rfl rfl _ _ z.out.fj v.out.info v.out.zero v.out.one ?_);intro aH b5 f5;have H:=af b5;have R:=af f5;have I:=af (z.out.gg.fr f5 (fun e=>by have C:g9=g8:=e;have:=z.out.l1;have:=z.out.l2;omega));clear b5 f5;go_wp2_with(refine ai rfl 38 (.tmp 9) _ rfl g9 B.toArray rfl rfl _ _ I.out y.out.info y.out.zero y.out.one ?_);intro aK V f6;have b:=af (z.out.stored R.out H.out f6 V);clear V f6 z H I R;go_upto_region 8 with fail;refine aC 3 (fun k=>k=g8) [Is (.agg g.toArray),Is (.agg B.toArray),fun _ _=>True] [(2,fun w'=>aq w' g8 38 g.toArray)] (fun w'=>aq w' g8 38 g.toArray) (fun i j=>i==0&&j==2) (by kernel_rfl) (by kernel_rfl) (by kernel_rfl) (by kernel_rfl) ⟨Is.ah _,Is.ah _,fun _ _ _ _ _ h=>h,trivial⟩ ⟨fun _ _ _ f h=>h.fr f (fun x=>x),trivial⟩ (fun _ _ _ f h=>h.fr f (fun x=>x)) b.out.fj ?_ ?_
 ·refine⟨?_,?_,?_,trivial⟩;all_goals intro u w' d f s Q G o
  all_goals simp only[bH,bI,bJ,bK,ay,Act.put,bL,bM,bN,Nat.reduceAdd,Nat.zero_add]
  ·clear s;refine aj ?_;have P:aq w' g8 38 g.toArray:=by rw[bX,if_neg (by rw[G 2 (by kernel_rfl)];exact Bool.false_ne_true)]at o;exact o
   clear Q G o;exact wp_load_mid _ _ rfl g8 0 rfl g _ (bw (P)) Tryz.underlying38 rfl M.out ⟨_,rfl,al⟩
  ·clear s Q G o;refine aj ?_;exact wp_load_mid _ _ rfl g9 0 rfl B _ (bw (b.out.gg.fr f (fun e=>by have C:g9=g8:=e;have:=b.out.l1;have:=b.out.l2;omega))) Tryz.underlying38 rfl N.out ⟨_,rfl,al⟩
  ·have av:u 0=_:=s 0;clear s;simp only[av];refine aj ?_;have P:aq w' g8 38 g.toArray:=by rw[bX,if_neg (by rw[G 2 (by kernel_rfl)];exact Bool.false_ne_true)]at o;exact o
   clear Q G o;refine db 38 (.tmp 8) (.tmp 42) rfl g8 g.toArray rfl rfl _ _ P v.out.info rfl v.out.one ?_;intro aF b4 f4;exact⟨_,rfl,f4,trivial,b4⟩
 ·intro u w' f s o;have D:u 1=_:=s 1 (by omega);clear s;have X:aq w' g8 38 g.toArray:=o;clear o;simp only[bH,bI,bJ,bK,ay,Act.put,bL,bM,bN,dD,dE,Nat.zero_add,D];have I:=af (b.out.gg.fr f (fun e=>by have C:g9=g8:=e;have:=b.out.l1;have:=b.out.l2;omega));have H:=af X;have ae:=af f;clear X f;go_wp2_with(refine ai rfl 38 (.tmp 9) _ rfl g9 B.toArray rfl rfl _ _ I.out y.out.info rfl y.out.one ?_);intro Z b5 f5;have an:=af b5;have am:=af (H.out.fr f5 (fun e=>by have C:g8=g9:=e;have:=b.out.l1;have:=b.out.l2;omega));have ap:Hid (Fr ag w Z):=(b.out.fr.aw ae.out (fun i aD e=>by have C:i=g8:=e;have:=b.out.lo;have:=b.out.l1;omega)).aw f5 (fun i aD e=>by have C:i=g9:=e;have:=b.out.lo;have:=b.out.l1;have:=b.out.l2;omega);clear b5 f5;go_wp2;exact bodyPost_ret (dX (fn:=Tryz.f36) (p:=8) (q:=9) (r:=10) (ty:=38) Tryz.results36 _ Z _ _ 38 g.toArray B.toArray (0,0) rfl rfl am.out an.out Tryz.underlying38 rfl v.out.info y.out.info _ rfl) rfl ⟨rfl,ap.out⟩
def eZ(a:List UInt8)(m n:Int)(path:List (List UInt8)):List UInt8×List UInt8×Int:=
  if 0≤n∧n≤1048576∧0≤m∧m≤n then
    (if m=0 then(if path.length=0 then(a,cC,0)else(cC,cC,35))
     else if path.length=cQ m.toNat n.toNat true then((ef a m.toNat n.toNat true path).1,(ef a m.toNat n.toNat true path).2,0)else(cC,cC,35))
  else(cC,cC,2)
theorem qO(a:List UInt8)(m n:Int)(path:List (List UInt8))(b:a.length=32)(he:∀d∈path,d.length=32):(eZ a m n path).1.length=32∧(eZ a m n path).2.1.length=32:=by
 unfold eZ;split
 ·rename_i h;split
  ·split;·exact⟨b,ck⟩
   ·exact⟨ck,ck⟩
  ·split;·rename_i c;exact kF n.toNat a m.toNat true path (by omega) (by omega) (by omega) b c he
   ·exact⟨ck,ck⟩
 ·exact⟨ck,ck⟩
theorem mV(a:List UInt8)(g:a.length=32)(m n:Int)(q:-9223372036854775808≤m∧m≤9223372036854775807)(r:-9223372036854775808≤n∧n≤9223372036854775807)(path:List (List UInt8))(p:Nat)(A:Option Addr)(c:Nat)(S:Nat→Prop)(w:World)(j:eM w S A p path)(o:p≤c)(f:c≤9223372036854775807)(l:bB w):
  Calls Tryz.prog 36 #[aE a, .int .i64 m, .int .i64 n, .slice A p c] w (aJ w (.tuple #[aE (eZ a m n path).1,aE (eZ a m n path).2.1, .int .i64 (eZ a m n path).2.2])):=by
 by_cases h:0≤n∧n≤1048576∧0≤m∧m≤n
 ·obtain⟨e,rfl⟩:∃e:Nat,n=e:=⟨n.toNat,by omega⟩;obtain⟨d,rfl⟩:∃d:Nat,m=d:=⟨m.toNat,by omega⟩;unfold eZ;rw[if_pos h];simp only[Int.toNat_natCast];by_cases k:d=0
  ·subst k;have i:=vA a g e (by omega) p A c w;rw[if_pos (by rfl)];rw[j.len];by_cases b:p=0;·rw[if_pos b]at i⊢;exact i
   ·rw[if_neg b]at i⊢;exact i
  ·rw[if_neg (by omega),j.len];by_cases b:p=cQ d e true;·rw[if_pos b];exact tD a g d e (by omega) (by omega) (by omega) path p A c S w j o f b l
   ·rw[if_neg b];exact tE a g d e (by omega) (by omega) (by omega) p A c w b
 ·unfold eZ;rw[if_neg h];exact tC a g m n _ w h
def xD(ds:List (List UInt8))(k:Nat):List (List UInt8):=if k=0 then[]else ev ds k true
theorem qm(ds:List (List UInt8))(h:1≤ds.length):dC ds=bQ ds:=by
 unfold dC;rw[if_neg (by rintro rfl;simp at h)]
theorem AO(m:Nat)(ds:List (List UInt8))(k:Nat)(b:ds.length=m)(c:1≤k)(a:k≤m)(hm:m≤1048576):eZ (dC (ds.take k)) k m (xD ds k)=(dC (ds.take k),dC ds,0):=by
 unfold eZ xD;rw[if_pos (by omega),if_neg (by omega),if_neg (show¬k=0 by omega),Int.toNat_natCast,Int.toNat_natCast,if_pos (kG m ds k true b (by omega) a hm)];rw[Bh m ds k true _ b c a hm (fun _=>qm _ (by rw[List.length_take];omega)),qm ds (by omega),qm (ds.take k) (by rw[List.length_take];omega)]
end Go.Proofs.YtphjagkehiklkaaGreatDoor.Lt
