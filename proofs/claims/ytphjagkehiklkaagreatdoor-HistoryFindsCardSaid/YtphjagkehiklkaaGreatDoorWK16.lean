/- Texts. -/
import Derived.Test.YtphjagkehiklkaaGreatDoorWK15
set_option linter.unusedVariables false
set_option linter.unusedSimpArgs false
set_option maxRecDepth 100000
set_option maxHeartbeats 4000000
namespace Go.Proofs.YtphjagkehiklkaaGreatDoor
open Go.RowKit Go.Shelf
def ft(w:World)(s:Nat)(L:List Ent):Prop:=∃t,Ei w s t∧t.bC=L
theorem ft.ar{w w':World}{s:Nat}{L:List Ent}(h:ft w s L)(c:Fr ag w w'):ft w' s L:=by
 obtain⟨t,a,b⟩:=h;exact⟨t,a.ar c,b⟩
structure rq(L:List Ent):Prop where
 sort:fF L
 short:jA L
 len:L.length≤60000
 bytes:dm L≤1099511500000
 ok:∀x∈L,dA x.1=true
structure tF(n:aK):Prop where
 owner:n.owner.size≤1099511627776
 text:n.text.size≤1099511627776
theorem ud{nm:aK}:∀{L:List Ent},eU nm L=none→dz nm L=L
 |[],_=>rfl
 |y::L,h=>by
  rw[eU]at h;split at h;·cases h
  ·rename_i e;rw[dz,if_neg e,ud h]
def BU(n:aK)(v:ByteArray):Array Value:=([Value.pointer none,Value.pointer none]++n.cells++[Value.string v,Value.int .i64 0,Value.int .i64 0,Value.int .i64 0]).toArray
theorem xE(n:aK)(v:ByteArray):Tryz.prog.built 177 [(2, .agg n.cells.toArray),(3, .string v)]=some (BU n v):=by kernel_rfl
def Dr(w:World)(L:List Ent)(n:aK)(v:ByteArray)(e:Ending)(w':World):Prop:=∃p k,e= .returned (.tuple #[.pointer p, .int .i64 k])∧Fr ag w w'∧
 ((dA n=true∧v.size≤65536∧k=0∧∃a,p=some ⟨a,0,none⟩∧ft w' a (dY n v L))∨(dA n=false∧k=12∧p=none)∨(dA n=true∧65536<v.size∧k=5∧p=none))
def tM(w:World)(L:List Ent)(n:aK)(e:Ending)(w':World):Prop:=∃p k,e= .returned (.tuple #[.pointer p, .int .i64 k])∧Fr ag w w'∧
 ((dA n=true∧k=0∧∃a,p=some ⟨a,0,none⟩∧ft w' a (dz n L))∨(dA n=false∧k=12∧p=none))
def Jz(a:Option ByteArray):Value:=match a with
 |some v=> .tuple #[.string v, .bool true]
 |none=> .tuple #[.string ByteArray.empty, .bool false]
theorem Ej(L:List Ent)(n:aK)(v:ByteArray)(s:Nat)(w:World)(J:ft w s L)(av:eE w)(au:rq L)(B:tF n):
  Calls Tryz.prog 130 #[.pointer (some ⟨s,0,none⟩), .agg n.cells.toArray, .string v] w (Dr w L n v):=by
 obtain⟨t,J,H⟩:=J;have aO:=af J;have p:=af H;have aJ:Hid (∀w',Fr ag w w'→Calls Tryz.prog 115 #[.agg n.cells.toArray] w' (Checked w' n)):=fun w' m=>kS n w' (av.ar m) B.owner B.text;have aI:=af (xE n v);obtain⟨a,K,E⟩:=J;have W:Hid (w.cell? ⟨s,0,none⟩=some (.pointer a)):=K.cell 0;have P:=af E;have F:=af au;have aN:=af B;clear K E av au B H;go_enter Tryz.func130,Tryz.ntmps130;go_wp2_with(refine aA rfl 106 (.tmp 1) rfl n.cells.toArray rfl ?_);intro w1 n1;have ao:=af n1.fr;have G:=af n1.aH;clear n1;generalize w.heap.size=X at*;have T:Hid (aq w1 X 106 n.cells.toArray):=G.out;clear G;go_wp2_with(refine aF rfl 106 (.tmp 4) rfl ⟨X,0,none⟩ rfl n.cells _ ?zA Tryz.underlying106 rfl bD (bj.go ?hold));case zA=>exact fun j x ae=>by rw[Addr.add_mid,Nat.zero_add];exact T.out.cell j|>.trans (by rw[bR];exact ae)
 unfold bj;go_wp2_with fail;refine(aJ.out _ ao.out).mono ?_;rintro e w2⟨k,rfl,aw,f2⟩;have C:=af (ao.out.trans f2);have U:=af (T.out.fr f2 (fun x=>x));have ap:=af aw;clear f2 T aw;cases r:dA n
 ·have A:k≠0:=by
   have h:=ap.out;rw[r]at h;intro e;subst e;simp at h
  have t0:=sj A;have y:=af r;clear r A;go_wp2;go_ret2;exact⟨none,12,rfl,C.out, .inr (.inl ⟨y.out,rfl,rfl⟩)⟩
 ·have A:k=0:=by
   have h:=ap.out;rw[r]at h;simpa using h
  subst A;have y:=af r;clear r;by_cases ad:v.size≤65536
  ·have aT:decide ((65536:Int)<(v.size:Int))=false:=ct (by omega);have R:=af ad;obtain⟨z,ax⟩:∃z:Int,z=(t.size:Nat):=⟨_,rfl⟩;have aV:decide ((65536:Int)≤z)=false:=ct (by have h:=F.out.len;rw[←p.out,Tr.cM]at h;omega);have CL:Hid (∀w',Fr ag w2 w'→Calls Tryz.prog 94 #[.pointer (some ⟨s,0,none⟩)] w' (aY w' (.int .i64 z))):=fun w' m=>by
    rw[ax];exact yF w' s t (aO.out.ar (C.out.trans m))
   have aL:Hid (∀w' g,Fr ag w2 w'→Mid w' g n v→Calls Tryz.prog 163 #[.pointer a, .pointer (some ⟨g,0,none⟩)] w' (Balanced w' (dY n v t.bC))):=fun w' g m hm=>
    Gb n v g aN.out.owner t a w' (P.out.ar (C.out.trans m)) hm (by rw[p.out];exact F.out.sort) (by rw[p.out];exact F.out.short) (by have h:=F.out.len;rw[←p.out,Tr.cM]at h;omega) (by have h:=F.out.bytes;rw[←p.out,←Tr.dx]at h;omega);clear ad ax;go_upto_region 7 with fail;refine aC 13 ag [Is (.pointer (some ⟨s,0,none⟩)),Is (.int .i64 z),Is (.bool false),Is (.bool false),Is (undef),Is (undef),Is (undef),Is (undef),Is (undef),Is (undef),Is (undef),Is (.bool false),Is (.bool false)] [] (fun _=>True) (fun _ _=>false) (by kernel_rfl) (by kernel_rfl) (by kernel_rfl) (by kernel_rfl) ⟨Is.ah _,Is.ah _,Is.ah _,Is.ah _,Is.ah _,Is.ah _,Is.ah _,Is.ah _,Is.ah _,Is.ah _,Is.ah _,Is.ah _,Is.ah _,trivial⟩ trivial (fun _ _ _ _ h=>h) trivial ?_ ?_
   ·refine⟨?_,?_,?_,?_,?_,?_,?_,?_,?_,?_,?_,?_,?_,trivial⟩;all_goals intro u w' d m b l i c
    all_goals simp only[bH,bI,bJ,bK,ay,Act.put,bL,bM,bN,Nat.reduceAdd,Nat.zero_add]
    ·clear b l i c;refine aj ?_;go_simp;exact⟨_,rfl,al⟩
    ·have Y:u 0=_:=b 0;clear b l i c;simp only[Y];refine aj ?_;go_simp;refine(CL.out _ m).mono ?_;rintro e aU⟨rfl,rfl⟩;exact⟨_,rfl,al⟩
    ·have Z:u 1=_:=b 1;clear b l i c;simp only[Z];refine aj ?_;go_simp;exact⟨_,rfl,al⟩
    ·have ac:u 2=_:=b 2;clear b l i c;simp only[ac];refine aj ?_;go_simp;exact⟨_,rfl,al⟩
    ·have o:u 3=_:=b 3;clear b l i c;simp only[o];exact .inr ⟨by kernel_rfl,_,rfl,aD,rfl,trivial⟩
    ·have o:u 3=_:=b 3;clear b l i c;simp only[o];exact .inr ⟨by kernel_rfl,_,rfl,aD,rfl,trivial⟩
    ·have o:u 3=_:=b 3;clear b l i c;simp only[o];exact .inr ⟨by kernel_rfl,_,rfl,aD,rfl,trivial⟩
    ·have o:u 3=_:=b 3;clear b l i c;simp only[o];exact .inr ⟨by kernel_rfl,_,rfl,aD,rfl,trivial⟩
    ·have o:u 3=_:=b 3;clear b l i c;simp only[o];exact .inr ⟨by kernel_rfl,_,rfl,aD,rfl,trivial⟩
    ·have o:u 3=_:=b 3;clear b l i c;simp only[o];exact .inr ⟨by kernel_rfl,_,rfl,aD,rfl,trivial⟩
    ·have o:u 3=_:=b 3;clear b l i c;simp only[o];exact .inr ⟨by kernel_rfl,_,rfl,aD,rfl,trivial⟩
    ·have o:u 3=_:=b 3;have aa:u 10=_:=b 10;clear b l i c;simp only[o,aa];refine aj ?_;go_simp;exact⟨_,rfl,al⟩
    ·have ab:u 11=_:=b 11;clear b l i c;simp only[ab];refine aj ?_;go_simp;exact⟨_,rfl,al⟩
   ·intro u w' m b c;have I:u 12=_:=b 12 (by omega);clear b c;simp only[bH,bI,bJ,bK,ay,Act.put,bL,bM,bN,dD,dE,Nat.reduceAdd,Nat.zero_add,I];have N:=af m;have V:=af (U.out.fr m (fun x=>x));clear m I;go_upto_region 9 with fail;refine aC 9 ag [Is (.pointer (some ⟨s,0,none⟩)),Is (.pointer (some ⟨s,0,none⟩)),Is (.pointer (some ⟨s,0,none⟩)),Is (.pointer a),Is (.agg n.cells.toArray),Is (.string v),Is (.agg (BU n v)),(fun am ai=>∃aG,am= .pointer (some ⟨aG,0,none⟩)∧Mid ai aG n v),(fun am ai=>jY ai am (dY n v t.bC))] [] (fun _=>True) (fun _ _=>false) (by kernel_rfl) (by kernel_rfl) (by kernel_rfl) (by kernel_rfl) ⟨Is.ah _,Is.ah _,Is.ah _,Is.ah _,Is.ah _,Is.ah _,Is.ah _,fun _ _ _ _ m h=>by obtain⟨g,h,K⟩:=h;exact⟨g,h,K.ar m⟩,fun v w1 w2 _ f h=>by obtain⟨a,t,e,E,D⟩:=h;exact⟨a,t,e,E.ar f,D⟩,trivial⟩ trivial (fun _ _ _ _ h=>h) trivial ?_ ?_
    ·refine⟨?_,?_,?_,?_,?_,?_,?_,?_,?_,trivial⟩;all_goals intro u w' d m b l i c
     all_goals simp only[bH,bI,bJ,bK,ay,Act.put,bL,bM,bN,Nat.reduceAdd,Nat.zero_add]
     ·clear b l i c;refine aj ?_;go_simp;exact⟨_,rfl,al⟩
     ·have Y:u 0=_:=b 0;clear b l i c;simp only[Y];refine aj ?_;go_simp;exact⟨_,rfl,al⟩
     ·have Z:u 1=_:=b 1;clear b l i c;simp only[Z];refine aj ?_;go_simp;exact⟨_,rfl,al⟩
     ·have ac:u 2=_:=b 2;clear b l i c;simp only[ac];refine aj ?_;have q:=m.an ((C.out.trans N.out).an W.out (fun x=>x)) (fun x=>x);go_simp;exact⟨_,rfl,al⟩
     ·clear b l i c;refine aj ?_;exact az _ _ rfl ⟨X,0,none⟩ rfl n.cells _ (fun j x ae=>by rw[Addr.add_mid,Nat.zero_add];exact(V.out.fr m (fun x=>x)).cell j|>.trans (by rw[bR];exact ae)) Tryz.underlying106 rfl bD ⟨_,rfl,al⟩
     ·clear b l i c;refine aj ?_;go_simp;exact⟨_,rfl,al⟩
     ·have aQ:u 4=_:=b 4;have aR:u 5=_:=b 5;clear b l i c;simp only[aQ,aR];refine aj ?_;exact iF 177 _ rfl (BU n v) _ (by simp only[List.map_toArray,List.map_cons,List.map_nil];rfl) (aI.out) ⟨_,rfl,al⟩
     ·have aS:u 6=_:=b 6;clear b l i c;simp only[aS];refine aj ?_;go_simp;exact⟨_,rfl,aD.alloc _,⟨_,rfl,Mid.of (aq.new _ _ _)⟩,trivial⟩
     ·have o:u 3=_:=b 3;obtain⟨g7,aP,b7⟩:=b 7;clear b l i c;simp only[o,aP];refine aj ?_;go_simp;refine(aL.out _ g7 (N.out.trans m) b7).mono ?_;rintro e aU⟨M,ak,rfl,E,D,f4⟩;exact⟨_,rfl,f4.bP,⟨M,ak,rfl,E,D⟩,trivial⟩
    ·intro u w' m b c;obtain⟨M,ak,aB,B,D⟩:=b 8 (by omega);clear b c;simp only[bH,bI,bJ,bK,ay,Act.put,bL,bM,bN,dD,dE,Nat.reduceAdd,Nat.zero_add,aB];have aM:=af (C.out.trans (N.out.trans m));have Q:=af B;have O:=af D;clear m aB B D;go_wp2_with(refine aA rfl 174 (.tmp 41) rfl #[.pointer M] rfl ?_);intro aW aE;have S:=af aE;clear aE;go_wp2;go_ret2;exact⟨_,0,rfl,aM.out.trans S.out.fr, .inl ⟨y.out,R.out,rfl,_,rfl,ak,⟨M,S.out.aH,Q.out.ar S.out.fr⟩,by rw[O.out,p.out]⟩⟩
  ·have aT:decide ((65536:Int)<(v.size:Int))=true:=dh (by omega);have R:Hid (65536<v.size):=by simp only[Hid];omega
   clear ad;go_wp2;go_ret2;exact⟨none,5,rfl,C.out, .inr (.inr ⟨y.out,R.out,rfl,rfl⟩)⟩
theorem Gk(L:List Ent)(n:aK)(s:Nat)(w:World)(K:ft w s L)(J:rq L)(S:tF n):
  Calls Tryz.prog 53 #[.pointer (some ⟨s,0,none⟩), .agg n.cells.toArray] w (aJ w (Jz (eU n L))):=by
 obtain⟨t,K,M⟩:=K;subst M;obtain⟨a,r,T⟩:=K;have Q:Hid (∀w',Fr ag w w'→Calls Tryz.prog 108 #[.pointer a, .agg n.cells.toArray] w' (Found w' n t.bC)):=fun w' c=>wN n a t w' (T.ar c) J.sort S.owner J.short;have v:Hid (w.cell? ⟨s,0,none⟩=some (.pointer a)):=r.cell 0;clear r T J S;cases c:eU n t.bC with
 |none=>
  have B:=af c;clear c;go_enter Tryz.func53,Tryz.ntmps53;go_wp2_with(refine aA rfl 106 (.tmp 1) rfl n.cells.toArray rfl ?_);intro w1 n1;have o:=af n1.fr;have l:=af n1.aH;clear n1;generalize w.heap.size=z at*;have D:Hid (aq w1 z 106 n.cells.toArray):=l.out;clear l;go_upto_region 3 with fail;refine aC 7 ag [Is (.pointer (some ⟨s,0,none⟩)),Is (.pointer (some ⟨s,0,none⟩)),Is (.pointer (some ⟨s,0,none⟩)),Is (.pointer a),Is (.agg n.cells.toArray),Is (.pointer none),Is (.pointer none)] [] (fun _=>True) (fun _ _=>false) (by kernel_rfl) (by kernel_rfl) (by kernel_rfl) (by kernel_rfl) ⟨Is.ah _,Is.ah _,Is.ah _,Is.ah _,Is.ah _,Is.ah _,Is.ah _,trivial⟩ trivial (fun _ _ _ _ h=>h) trivial ?_ ?_
  ·refine⟨?_,?_,?_,?_,?_,?_,?_,trivial⟩;all_goals intro u w' d c b k i f
   all_goals simp only[bH,bI,bJ,bK,ay,Act.put,bL,bM,bN,Nat.reduceAdd,Nat.zero_add]
   ·clear b k i f;refine aj ?_;go_simp;exact⟨_,rfl,al⟩
   ·have E:u 0=_:=b 0;clear b k i f;simp only[E];refine aj ?_;go_simp;exact⟨_,rfl,al⟩
   ·have F:u 1=_:=b 1;clear b k i f;simp only[F];refine aj ?_;go_simp;exact⟨_,rfl,al⟩
   ·have G:u 2=_:=b 2;clear b k i f;simp only[G];refine aj ?_;have q:=c.an (o.out.an v.out (fun x=>x)) (fun x=>x);go_simp;exact⟨_,rfl,al⟩
   ·clear b k i f;refine aj ?_;exact az _ _ rfl ⟨z,0,none⟩ rfl n.cells _ (fun j x N=>by rw[Addr.add_mid,Nat.zero_add];exact(D.out.fr c (fun x=>x)).cell j|>.trans (by rw[bR];exact N)) Tryz.underlying106 rfl bD ⟨_,rfl,al⟩
   ·have H:u 3=_:=b 3;have I:u 4=_:=b 4;clear b k i f;simp only[H,I];refine aj ?_;go_simp;refine(Q.out _ (o.out.trans c)).mono ?_;rintro e W⟨p,rfl,f4,⟨g,y,rfl,m,hm⟩|⟨rfl,m⟩⟩;·rw[B.out]at m;cases m
    ·exact⟨_,rfl,f4.bP,rfl,trivial⟩
   ·have V:u 5=_:=b 5;clear b k i f;simp only[V];refine aj ?_;go_simp;exact⟨_,rfl,al⟩
  ·intro u w' c b f;have k6:u 6=_:=b 6 (by omega);clear b f;simp only[bH,bI,bJ,bK,ay,Act.put,bL,bM,bN,dD,dE,Nat.reduceAdd,Nat.zero_add,k6];have C:=af (o.out.trans c);clear c k6;go_wp2;go_ret2;exact⟨rfl,C.out⟩
 |some x=>
  have B:=af c;clear c;go_enter Tryz.func53,Tryz.ntmps53;go_wp2_with(refine aA rfl 106 (.tmp 1) rfl n.cells.toArray rfl ?_);intro w1 n1;have o:=af n1.fr;have l:=af n1.aH;clear n1;generalize w.heap.size=z at*;have D:Hid (aq w1 z 106 n.cells.toArray):=l.out;clear l;go_upto_region 3 with fail;refine aC 7 ag [Is (.pointer (some ⟨s,0,none⟩)),Is (.pointer (some ⟨s,0,none⟩)),Is (.pointer (some ⟨s,0,none⟩)),Is (.pointer a),Is (.agg n.cells.toArray),(fun P O=>∃A,P= .pointer (some ⟨A,0,none⟩)∧Mid O A n x),(fun P O=>∃A,P= .pointer (some ⟨A,0,none⟩)∧Mid O A n x)] [] (fun _=>True) (fun _ _=>false) (by kernel_rfl) (by kernel_rfl) (by kernel_rfl) (by kernel_rfl) ⟨Is.ah _,Is.ah _,Is.ah _,Is.ah _,Is.ah _,fun _ _ _ _ c h=>by obtain⟨g,h,r⟩:=h;exact⟨g,h,r.ar c⟩,fun _ _ _ _ c h=>by obtain⟨g,h,r⟩:=h;exact⟨g,h,r.ar c⟩,trivial⟩ trivial (fun _ _ _ _ h=>h) trivial ?_ ?_
  ·refine⟨?_,?_,?_,?_,?_,?_,?_,trivial⟩;all_goals intro u w' d c b k i f
   all_goals simp only[bH,bI,bJ,bK,ay,Act.put,bL,bM,bN,Nat.reduceAdd,Nat.zero_add]
   ·clear b k i f;refine aj ?_;go_simp;exact⟨_,rfl,al⟩
   ·have E:u 0=_:=b 0;clear b k i f;simp only[E];refine aj ?_;go_simp;exact⟨_,rfl,al⟩
   ·have F:u 1=_:=b 1;clear b k i f;simp only[F];refine aj ?_;go_simp;exact⟨_,rfl,al⟩
   ·have G:u 2=_:=b 2;clear b k i f;simp only[G];refine aj ?_;have q:=c.an (o.out.an v.out (fun x=>x)) (fun x=>x);go_simp;exact⟨_,rfl,al⟩
   ·clear b k i f;refine aj ?_;exact az _ _ rfl ⟨z,0,none⟩ rfl n.cells _ (fun j x N=>by rw[Addr.add_mid,Nat.zero_add];exact(D.out.fr c (fun x=>x)).cell j|>.trans (by rw[bR];exact N)) Tryz.underlying106 rfl bD ⟨_,rfl,al⟩
   ·have H:u 3=_:=b 3;have I:u 4=_:=b 4;clear b k i f;simp only[H,I];refine aj ?_;go_simp;refine(Q.out _ (o.out.trans c)).mono ?_;rintro e W⟨p,rfl,f4,⟨g,y,rfl,m,hm⟩|⟨rfl,m⟩⟩;·rw[B.out]at m;cases m;exact⟨_,rfl,f4.bP,⟨g,rfl,hm⟩,trivial⟩
    ·rw[B.out]at m;cases m
   ·obtain⟨g5,U,m5⟩:=b 5;clear b k i f;simp only[U];refine aj ?_;go_simp;exact⟨_,rfl,aD,⟨_,rfl,m5⟩,trivial⟩
  ·intro u w' c b f;obtain⟨g6,R,m6⟩:=b 6 (by omega);clear b f;simp only[bH,bI,bJ,bK,ay,Act.put,bL,bM,bN,dD,dE,Nat.reduceAdd,Nat.zero_add,R];have C:=af (o.out.trans c);have cv:=m6.val;clear c R m6;go_wp2;go_ret2;exact⟨rfl,C.out⟩
theorem xx(L:List Ent)(n:aK)(s:Nat)(w:World)(U:ft w s L)(ax:eE w)(F:rq L)(C:tF n):
  Calls Tryz.prog 129 #[.pointer (some ⟨s,0,none⟩), .agg n.cells.toArray] w (tM w L n):=by
 have ab:=af U;obtain⟨t,U,ak⟩:=U;subst ak;obtain⟨a,V,G⟩:=U;have au:Hid (∀w',Fr ag w w'→Calls Tryz.prog 108 #[.pointer a, .agg n.cells.toArray] w' (Found w' n t.bC)):=fun w' c=>wN n a t w' (G.ar c) F.sort C.owner F.short;have E:Hid (w.cell? ⟨s,0,none⟩=some (.pointer a)):=V.cell 0;have aJ:Hid (∀w',Fr ag w w'→Calls Tryz.prog 115 #[.agg n.cells.toArray] w' (Checked w' n)):=fun w' c=>kS n w' (ax.ar c) C.owner C.text;have aL:Hid (∀w',(∃v,(n,v)∈t.bC)→Fr ag w w'→Calls Tryz.prog 162 #[.pointer a, .agg n.cells.toArray] w' (Balanced w' (dz n t.bC))):=fun w' hm c=>
  yv t n a w' C.owner hm (G.ar c) F.sort F.short (by have h:=F.len;rw[Tr.cM]at h;omega) (by have h:=F.bytes;rw[←Tr.dx]at h;omega);clear V G F C ax;go_enter Tryz.func129,Tryz.ntmps129;go_wp2_with(refine aA rfl 106 (.tmp 1) rfl n.cells.toArray rfl ?_);intro w1 n1;have av:=af n1.fr;have K:=af n1.aH;clear n1;generalize w.heap.size=M at*;have ad:Hid (aq w1 M 106 n.cells.toArray):=K.out;clear K;go_wp2_with(refine aF rfl 106 (.tmp 3) rfl ⟨M,0,none⟩ rfl n.cells _ ?zA Tryz.underlying106 rfl bD (bj.go ?hold));case zA=>exact fun j x H=>by rw[Addr.add_mid,Nat.zero_add];exact ad.out.cell j|>.trans (by rw[bR];exact H)
 unfold bj;go_wp2_with fail;refine(aJ.out _ av.out).mono ?_;rintro e w2⟨k,rfl,aB,f2⟩;have r:=af (av.out.trans f2);have D:=af (ad.out.fr f2 (fun x=>x));have aw:=af aB;clear f2 ad aB;cases o:dA n
 ·have A:k≠0:=by
   have h:=aw.out;rw[o]at h;intro e;subst e;simp at h
  have t0:=sj A;have z:=af o;clear o A;go_wp2;go_ret2;exact⟨none,12,rfl,r.out, .inr ⟨z.out,rfl,rfl⟩⟩
 ·have A:k=0:=by
   have h:=aw.out;rw[o]at h;simpa using h
  subst A;have z:=af o;clear o;cases c:eU n t.bC with
  |none=>
   have T:=af c;have X:=af (ud c);clear c;go_upto_region 5 with fail;refine aC 8 ag [Is (.pointer (some ⟨s,0,none⟩)),Is (.pointer (some ⟨s,0,none⟩)),Is (.pointer (some ⟨s,0,none⟩)),Is (.pointer a),Is (.agg n.cells.toArray),Is (.pointer none),Is (.bool true),Is (.bool true)] [] (fun _=>True) (fun _ _=>false) (by kernel_rfl) (by kernel_rfl) (by kernel_rfl) (by kernel_rfl) ⟨Is.ah _,Is.ah _,Is.ah _,Is.ah _,Is.ah _,Is.ah _,Is.ah _,Is.ah _,trivial⟩ trivial (fun _ _ _ _ h=>h) trivial ?_ ?_
   ·refine⟨?_,?_,?_,?_,?_,?_,?_,?_,trivial⟩;all_goals intro u w' d c b m l i
    all_goals simp only[bH,bI,bJ,bK,ay,Act.put,bL,bM,bN,Nat.reduceAdd,Nat.zero_add]
    ·clear b m l i;refine aj ?_;go_simp;exact⟨_,rfl,al⟩
    ·have N:u 0=_:=b 0;clear b m l i;simp only[N];refine aj ?_;go_simp;exact⟨_,rfl,al⟩
    ·have O:u 1=_:=b 1;clear b m l i;simp only[O];refine aj ?_;go_simp;exact⟨_,rfl,al⟩
    ·have P:u 2=_:=b 2;clear b m l i;simp only[P];refine aj ?_;have q:=c.an (r.out.an E.out (fun x=>x)) (fun x=>x);go_simp;exact⟨_,rfl,al⟩
    ·clear b m l i;refine aj ?_;exact az _ _ rfl ⟨M,0,none⟩ rfl n.cells _ (fun j x H=>by rw[Addr.add_mid,Nat.zero_add];exact(D.out.fr c (fun x=>x)).cell j|>.trans (by rw[bR];exact H)) Tryz.underlying106 rfl bD ⟨_,rfl,al⟩
    ·have Q:u 3=_:=b 3;have R:u 4=_:=b 4;clear b m l i;simp only[Q,R];refine aj ?_;go_simp;refine(au.out _ (r.out.trans c)).mono ?_;rintro e aG⟨p,rfl,f4,⟨g,y,rfl,B,hm⟩|⟨rfl,B⟩⟩;·rw[T.out]at B;cases B
     ·exact⟨_,rfl,f4.bP,rfl,trivial⟩
    ·have aO:u 5=_:=b 5;clear b m l i;simp only[aO];refine aj ?_;go_simp;exact⟨_,rfl,al⟩
    ·have ai:u 6=_:=b 6;clear b m l i;simp only[ai];refine aj ?_;go_simp;exact⟨_,rfl,al⟩
   ·intro u w' c b i;have S:u 7=_:=b 7 (by omega);clear b i;simp only[bH,bI,bJ,bK,ay,Act.put,bL,bM,bN,dD,dE,Nat.reduceAdd,Nat.zero_add,S];have I:=af (r.out.trans c);clear c S;go_wp2;go_ret2;exact⟨_,0,rfl,I.out, .inl ⟨z.out,rfl,s,rfl,by rw[X.out];exact ab.out.ar I.out⟩⟩
  |some x=>
   have T:=af c;have Z:Hid (∃v,(n,v)∈t.bC):=⟨x,uu c⟩;clear c;go_upto_region 5 with fail;refine aC 8 ag [Is (.pointer (some ⟨s,0,none⟩)),Is (.pointer (some ⟨s,0,none⟩)),Is (.pointer (some ⟨s,0,none⟩)),Is (.pointer a),Is (.agg n.cells.toArray),(fun ap am=>∃aI,ap= .pointer (some ⟨aI,0,none⟩)∧Mid am aI n x),Is (.bool false),Is (.bool false)] [] (fun _=>True) (fun _ _=>false) (by kernel_rfl) (by kernel_rfl) (by kernel_rfl) (by kernel_rfl) ⟨Is.ah _,Is.ah _,Is.ah _,Is.ah _,Is.ah _,fun _ _ _ _ c h=>by obtain⟨g,h,V⟩:=h;exact⟨g,h,V.ar c⟩,Is.ah _,Is.ah _,trivial⟩ trivial (fun _ _ _ _ h=>h) trivial ?_ ?_
   ·refine⟨?_,?_,?_,?_,?_,?_,?_,?_,trivial⟩;all_goals intro u w' d c b m l i
    all_goals simp only[bH,bI,bJ,bK,ay,Act.put,bL,bM,bN,Nat.reduceAdd,Nat.zero_add]
    ·clear b m l i;refine aj ?_;go_simp;exact⟨_,rfl,al⟩
    ·have N:u 0=_:=b 0;clear b m l i;simp only[N];refine aj ?_;go_simp;exact⟨_,rfl,al⟩
    ·have O:u 1=_:=b 1;clear b m l i;simp only[O];refine aj ?_;go_simp;exact⟨_,rfl,al⟩
    ·have P:u 2=_:=b 2;clear b m l i;simp only[P];refine aj ?_;have q:=c.an (r.out.an E.out (fun x=>x)) (fun x=>x);go_simp;exact⟨_,rfl,al⟩
    ·clear b m l i;refine aj ?_;exact az _ _ rfl ⟨M,0,none⟩ rfl n.cells _ (fun j x H=>by rw[Addr.add_mid,Nat.zero_add];exact(D.out.fr c (fun x=>x)).cell j|>.trans (by rw[bR];exact H)) Tryz.underlying106 rfl bD ⟨_,rfl,al⟩
    ·have Q:u 3=_:=b 3;have R:u 4=_:=b 4;clear b m l i;simp only[Q,R];refine aj ?_;go_simp;refine(au.out _ (r.out.trans c)).mono ?_;rintro e aG⟨p,rfl,f4,⟨g,y,rfl,B,hm⟩|⟨rfl,B⟩⟩;·rw[T.out]at B;cases B;exact⟨_,rfl,f4.bP,⟨g,rfl,hm⟩,trivial⟩
     ·rw[T.out]at B;cases B
    ·obtain⟨g5,aN,m5⟩:=b 5;clear b m l i;simp only[aN];refine aj ?_;go_simp;exact⟨_,rfl,al⟩
    ·have ai:u 6=_:=b 6;clear b m l i;simp only[ai];refine aj ?_;go_simp;exact⟨_,rfl,al⟩
   ·intro u w' c b i;have S:u 7=_:=b 7 (by omega);clear b i;simp only[bH,bI,bJ,bK,ay,Act.put,bL,bM,bN,dD,dE,Nat.reduceAdd,Nat.zero_add,S];have I:=af c;have ae:=af (D.out.fr c (fun x=>x));clear c S;go_upto_region 7 with fail;refine aC 6 ag [Is (.pointer (some ⟨s,0,none⟩)),Is (.pointer (some ⟨s,0,none⟩)),Is (.pointer (some ⟨s,0,none⟩)),Is (.pointer a),Is (.agg n.cells.toArray),(fun ap am=>jY am ap (dz n t.bC))] [] (fun _=>True) (fun _ _=>false) (by kernel_rfl) (by kernel_rfl) (by kernel_rfl) (by kernel_rfl) ⟨Is.ah _,Is.ah _,Is.ah _,Is.ah _,Is.ah _,fun v w1 w2 _ f h=>by obtain⟨a,t,e,G,J⟩:=h;exact⟨a,t,e,G.ar f,J⟩,trivial⟩ trivial (fun _ _ _ _ h=>h) trivial ?_ ?_
    ·refine⟨?_,?_,?_,?_,?_,?_,trivial⟩;all_goals intro u w' d c b m l i
     all_goals simp only[bH,bI,bJ,bK,ay,Act.put,bL,bM,bN,Nat.reduceAdd,Nat.zero_add]
     ·clear b m l i;refine aj ?_;go_simp;exact⟨_,rfl,al⟩
     ·have N:u 0=_:=b 0;clear b m l i;simp only[N];refine aj ?_;go_simp;exact⟨_,rfl,al⟩
     ·have O:u 1=_:=b 1;clear b m l i;simp only[O];refine aj ?_;go_simp;exact⟨_,rfl,al⟩
     ·have P:u 2=_:=b 2;clear b m l i;simp only[P];refine aj ?_;have q:=c.an ((r.out.trans I.out).an E.out (fun x=>x)) (fun x=>x);go_simp;exact⟨_,rfl,al⟩
     ·clear b m l i;refine aj ?_;exact az _ _ rfl ⟨M,0,none⟩ rfl n.cells _ (fun j x H=>by rw[Addr.add_mid,Nat.zero_add];exact(ae.out.fr c (fun x=>x)).cell j|>.trans (by rw[bR];exact H)) Tryz.underlying106 rfl bD ⟨_,rfl,al⟩
     ·have Q:u 3=_:=b 3;have R:u 4=_:=b 4;clear b m l i;simp only[Q,R];refine aj ?_;go_simp;refine(aL.out _ Z.out (r.out.trans (I.out.trans c))).mono ?_;rintro e aG⟨W,ao,rfl,G,J,f4⟩;exact⟨_,rfl,f4.bP,⟨W,ao,rfl,G,J⟩,trivial⟩
    ·intro u w' c b i;obtain⟨W,ao,aD,C,J⟩:=b 5 (by omega);clear b i;simp only[bH,bI,bJ,bK,ay,Act.put,bL,bM,bN,dD,dE,Nat.reduceAdd,Nat.zero_add,aD];have aM:=af (r.out.trans (I.out.trans c));have aa:=af C;have Y:=af J;clear c aD C J;go_wp2_with(refine aA rfl 174 (.tmp 28) rfl #[.pointer W] rfl ?_);intro aP aE;have ac:=af aE;clear aE;go_wp2;go_ret2;exact⟨_,0,rfl,aM.out.trans ac.out.fr, .inl ⟨z.out,rfl,_,rfl,ao,⟨W,ac.out.aH,aa.out.ar ac.out.fr⟩,Y.out⟩⟩
def lk(x:Ent):List Value:=x.1.cells++[.string x.2]
theorem gF(x:Ent):(lk x).length=6:=rfl
theorem Ha:∀(xs:List Ent)(k:Nat)(c:Ent),xs[k]? =some c→∀j x,(lk c)[j]? =some x→(xs.flatMap lk)[k*6+j]? =some x
 |[],_,_,h,_,_,_=>by simp at h
 |y::b,0,c,h,j,x,a=>by
  simp only[List.getElem?_cons_zero,Option.some.injEq]at h;subst h;have d:j<6:=(List.getElem?_eq_some_iff.1 a).1;rw[List.flatMap_cons,Nat.zero_mul,Nat.zero_add,List.getElem?_append_left d];exact a
 |y::b,k+1,c,h,j,x,a=>by
  simp only[List.getElem?_cons_succ]at h;rw[List.flatMap_cons,List.getElem?_append_right (by rw[gF];omega),gF,show(k+1)*6+j-6=k*6+j by omega];exact Ha b k c h j x a
structure EL(w:World)(S:Nat→Prop)(A:Option Addr)(n:Nat)(xs:List Ent):Prop where
 rd:Rd w S 6 A n (xs.flatMap lk)
 len:xs.length=n
theorem EL.ar{w w':World}{S:Nat→Prop}{A:Option Addr}{n:Nat}{xs:List Ent}(h:EL w S A n xs)(a:Fr ag w w'):EL w' S A n xs:=⟨h.rd.ar a,h.len⟩
theorem EL.at_{w:World}{S:Nat→Prop}{A:Option Addr}{n k:Nat}{xs:List Ent}(h:EL w S A n xs)(f:k<n):∃b c,A=some b∧xs[k]? =some c∧∀j x,(lk c)[j]? =some x→w.cell? ((b.add (k*6)).add j)=some x:=by
 obtain⟨b,e,i,d⟩:=h.rd.2 (by omega);have a:k<xs.length:=by rw[h.len];exact f
 refine⟨b,xs[k],e,List.getElem?_eq_getElem a,fun j x g=>?_⟩;rw[Addr.add_add];exact d _ _ (Ha xs k _ (List.getElem?_eq_getElem a) j x g)
theorem fD{P:Program}{op:Oper}{a:Act}{w:World}{K:Act→World→Prop}{Q:Exit→Act→World→Prop}(i:BinOp)(t:TypeId)(x y:Operand)(ty:TypeId)(d:op.op= .binOp i t x y ty)
  (xs b:Array Value)(f:a.eval x= .agg xs)(g:a.eval y= .agg b)(c:P.eqGuardType P.depth t=false)
  (v:Value)(e:(binOp i t (.agg xs) (.agg b)).run P w= .ok v w)(h:K (a.put op.dst v) w):op.wp P a w K Q:=by
 have he:=run_eqGuard_agg (P:=P) (w:=w) i t x y xs b c;unfold Oper.wp execOp;simp only[d,f,g,Sem.run_bind,he,e,Result.andThen_ok];exact h
theorem rU{P:Program}(w:World)(t e:TypeId)(c:TypeInfo)(hu:P.underlying t=some (.slice e))(a:P.info? e=some c):
  (Instr.buildSlice t 0 #[]).run P w= .ok (.slice (some ⟨w.heap.size,0,none⟩) 0 0) (w.alloc (.cells #[] e)):=by
 have b:∀cs:Array Value,(newRow e cs).run P w= .ok ⟨w.heap.size,0,none⟩ (w.alloc (.cells cs e)):=fun cs=>rfl;simp[Instr.buildSlice,run_underlying hu,sizeOf,typeInfo,a,Result.andThen,Instr.fill,b];rw[show(Array.range 0).map (fun _=>(default:Value))=#[]from Array.eq_empty_of_size_eq_zero (by simp)]
theorem nZ{P:Program}{f:Oper}{a:Act}{w:World}{K:Act→World→Prop}{Q:Exit→Act→World→Prop}(t e:TypeId)(d:f.op= .buildSlice t 0 #[])(c:TypeInfo)
  (hu:P.underlying t=some (.slice e))(b:P.info? e=some c)(h:∀w',dF w w' e #[]→K (a.put f.dst (.slice (some ⟨w.heap.size,0,none⟩) 0 0)) w'):f.wp P a w K Q:=by
 unfold Oper.wp;simp[execOp,d,rU w t e c hu b,Result.andThen];exact h _ (dF.alloc w e #[])
theorem sc{P:Program}{ops:Array Oper}{rest:List Oper}{j:Oper}{a:Act}{w:World}{Q:Exit→Act→World→Prop}(f:j.guard=none)(t e:TypeId)(i:j.op= .buildSlice t 0 #[])(c:TypeInfo)
  (hu:P.underlying t=some (.slice e))(b:P.info? e=some c)(h:∀w',dF w w' e #[]→wpList P ops Q rest (a.put j.dst (.slice (some ⟨w.heap.size,0,none⟩) 0 0)) w'):wpList P ops Q (j::rest) a w:=
 wpList_plain f fun _ d=>nZ t e i c hu b fun w' g=>d _ _ (h w' g)
theorem dF.Hu{w w':World}{e:TypeId}{size:Nat}(h:dF w w' e #[]):w'.ownsRow 0 e size (.slice (some ⟨w.heap.size,0,none⟩) 0 0) 0 []:=
 ⟨by simp, .inr ⟨w.heap.size,0,#[],rfl,Nat.zero_le _,h.aH,Nat.le_refl _,Nat.zero_le _,by simp,by simp⟩⟩
theorem Fx{P:Program}(w:World)(t ty e:TypeId)(i:TypeInfo)(d:P.underlying t=some (.slice e))(b:P.info? e=some i)(g:Nat)(A:Option Addr)(c:Nat):
  (Builtin.append_ #[t,t] ty #[.slice (some ⟨g,0,none⟩) 0 0, .slice A 0 c]).run P w= .ok (.slice (some ⟨g,0,none⟩) 0 0) w:=by
 cases A with
 |none=>simp[Builtin.append_,run_underlying d,sizeOf,typeInfo,b,Builtin.lenOf,Builtin.firstCells,storeCells,Result.andThen]
 |some a=>
  have h:=run_append_room_cells (P:=P) (w:=w) t ty e i d b g 0 0 0 a 0 c [] (by simp) (by simp) (by simp) (by simp) (by simp) (by simp);simpa[World.setCells]using h
theorem Fo{w:World}{base:Nat}{e:TypeId}{size n:Nat}{v:Value}{xs:List Value}(h:w.ownsRow base e size v n xs):w.ownsRow 0 e size v n xs:=by
 refine⟨h.1,?_⟩;rcases h.2 with h|⟨g,cap,cur,a,_,b⟩;·exact .inl h
 ·exact .inr ⟨g,cap,cur,a,Nat.zero_le _,b⟩
theorem Al{P:Program}{O:Oper}{a:Act}{w:World}{K:Act→World→Prop}{Q:Exit→Act→World→Prop}(s x:Operand)(t:TypeId)(C:O.op= .call {callee:= .builtin .append,args:=#[s,x],argTypes:=#[t,t]})
  (e:TypeId)(i:TypeInfo)(z:Value)(size bytes:Nat)(E:P.underlying t=some (.slice e))(B:P.info? e=some i)(M:i.zero=some z)(j:i.size=size)(p:i.bytes=bytes)(v:z.cells.size=size)(u:0<size)
  (g:Nat)(D:a.eval s= .slice (some ⟨g,0,none⟩) 0 0)(l:w.ownsRow 0 e size (.slice (some ⟨g,0,none⟩) 0 0) 0 [])(S:Nat→Prop)(A:Option Addr)(m c:Nat)(news:List Value)(F:a.eval x= .slice A m c)(r:Rd w S size A m news)(d:m*bytes≤140737488355328)(hm:m≤1048576)
  (h:∀o w',w'.ownsRow 0 e size o m news→Fr ag w w'→(∀k,o.ownBlock=some k→k=g∨w.heap.size≤k)→K (a.put O.dst o) w'):O.wp P a w K Q:=by
 by_cases q:m=0;·subst q;have L:news=[]:=List.length_eq_zero_iff.1 (by have:=r.1;omega);subst L;have b:=Fx (P:=P) w t O.type e i E B g A c;unfold Oper.wp execOp;simp only[C,resolve,invoke,builtin,Sem.run_bind,Sem.run_pure,Result.andThen_ok,List.map_toArray,List.map_cons,List.map_nil,D,F,b];exact h _ _ l aD (fun k n=> .inl (by simpa[Value.ownBlock]using n.symm))
 ·obtain⟨G,rfl,_,H⟩:=r.2 (by omega);obtain⟨o,w',b,f,I⟩:=run_append_arg_grows (P:=P) (w:=w) t O.type e i z size bytes E B M j p v u ⟨g,0,none⟩ 0 0 [] (by simp) (by simp) G m c news r.1 H (by omega) (by simp only[maxLen];omega) (by simpa using d);rw[Nat.zero_add]at f;unfold Oper.wp execOp;simp only[C,resolve,invoke,builtin,Sem.run_bind,Sem.run_pure,Result.andThen_ok,List.map_toArray,List.map_cons,List.map_nil,D,F,b];refine h _ _ (Fo f) ((Fr.grown I).mono (fun _ _ e=>by cases e)) (fun k n=> .inr ?_);rcases f.2 with⟨rfl,_⟩|⟨N,y,cur,rfl,J,_⟩;·simp[Value.ownBlock]at n
  ·simp[Value.ownBlock]at n;omega
theorem me(L:List Ent):(L.flatMap lk).length=L.length*6:=by
 induction L with
 |nil=>rfl
 |cons x L a=>rw[List.flatMap_cons,bh,a,gF,List.length_cons];omega
theorem vK(L:List Ent)(k:Nat):(L.take k).flatMap lk=(L.flatMap lk).take (k*6):=by
 induction L generalizing k with
 |nil=>simp
 |cons x L a=>
  cases k with
  |zero=>simp
  |succ k=>
   rw[List.take_succ_cons,List.flatMap_cons,List.flatMap_cons,a,List.take_append,gF,show(lk x).take ((k+1)*6)=lk x from List.take_of_length_le (by rw[gF];omega),show(k+1)*6-6=k*6 by omega]
theorem vJ(L:List Ent)(k:Nat):(L.drop k).flatMap lk=(L.flatMap lk).drop (k*6):=by
 induction L generalizing k with
 |nil=>simp
 |cons x L a=>
  cases k with
  |zero=>simp
  |succ k=>
   rw[List.drop_succ_cons,List.flatMap_cons,a,List.drop_append,gF,show(lk x).drop ((k+1)*6)=[]from List.drop_of_length_le (by rw[gF];omega),List.nil_append,show(k+1)*6-6=k*6 by omega]
theorem EL.take{w:World}{S:Nat→Prop}{A:Option Addr}{n k:Nat}{L:List Ent}(h:EL w S A n L)(g:k≤n):Rd w S 6 A k ((L.take k).flatMap lk):=by
 refine⟨by rw[me,List.length_take,h.len];omega,fun f=>?_⟩;obtain⟨a,e,d,b⟩:=h.rd.2 (by omega);refine⟨a,e,d,fun j u hu=>b j u ?_⟩;rw[vK]at hu;have c:=(List.getElem?_eq_some_iff.1 hu).1;rw[List.getElem?_take_of_lt (by rw[List.length_take]at c;omega)]at hu;exact hu
theorem EL.drop{w:World}{S:Nat→Prop}{a:Addr}{n k:Nat}{L:List Ent}(h:EL w S (some a) n L)(g:k≤n):Rd w S 6 (some (a.add (k*6))) (n-k) ((L.drop k).flatMap lk):=by
 refine⟨by rw[me,List.length_drop,h.len],fun f=>?_⟩;obtain⟨b,e,d,c⟩:=h.rd.2 (by omega);cases e;refine⟨_,rfl,by unfold Addr.add;split<;>exact d,fun j u hu=>?_⟩;rw[Addr.add_add];refine c _ u ?_;rw[vJ,List.getElem?_drop]at hu;exact hu
def ki(c:CV)(L:List Ent):List Ent:=if c.bA then dz c.nm L else dY c.nm c.value L
def mr(xs:List CV)(L:List Ent):List Ent:=xs.foldl (fun l c=>ki c l) L
def CU(c:CV)(L:List Ent):List Ent:=if dA c.nm then ki c L else L
structure ed(c:CV):Prop where
 owner:c.nm.owner.size≤100
 text:c.nm.text.size≤100
 value:c.value.size≤200
structure cW(k:Nat)(L:List Ent):Prop where
 sort:fF L
 len:L.length≤k
 ok:∀x∈L,dA x.1=true
 owner:∀x∈L,x.1.owner.size≤100
 text:∀x∈L,x.1.text.size≤100
 value:∀x∈L,x.2.size≤200
theorem cW.nil:cW 0 []:=⟨List.Pairwise.nil,Nat.le_refl _,(fun _ h=>by cases h),(fun _ h=>by cases h),(fun _ h=>by cases h),(fun _ h=>by cases h)⟩
theorem tP:∀L:List Ent,(∀x∈L,x.2.size≤200)→dm L≤200*L.length
 |[],_=>by simp[dm]
 |x::L,h=>by
  have a:=tP L (fun y b=>h y (List.mem_cons_of_mem _ b));have c:=h x (List.mem_cons_self ..);simp only[dm,List.map_cons,List.sum_cons,List.length_cons]at a⊢;omega
theorem cW.oh{k:Nat}{L:List Ent}(h:cW k L)(b:k≤60000):rq L:=
 ⟨h.sort,fun x a=>by have:=h.owner x a;omega,by have:=h.len;omega,by have:=tP L h.value;have:=h.len;omega,h.ok⟩
theorem cW.more{k a:Nat}{L:List Ent}(h:cW k L)(b:k≤a):cW a L:=⟨h.sort,by have:=h.len;omega,h.ok,h.owner,h.text,h.value⟩
theorem cW.next{k:Nat}{L:List Ent}{c:CV}(h:cW k L)(d:ed c)(e:dA c.nm=true):cW (k+1) (ki c L):=by
 unfold ki;cases c.bA
 ·rw[if_neg (by decide)];have hm:=(nH (nm:=c.nm) (v:=c.value) h.sort).2;refine⟨(nH h.sort).1,by have:=(nG (nm:=c.nm) (v:=c.value) L).1;have:=h.len;omega,fun x a=>?_,fun x a=>?_,fun x a=>?_,fun x a=>?_⟩
  ·rcases hm x a with rfl|b;·exact e
   ·exact h.ok x b
  ·rcases hm x a with rfl|b;·exact d.owner
   ·exact h.owner x b
  ·rcases hm x a with rfl|b;·exact d.text
   ·exact h.text x b
  ·rcases hm x a with rfl|b;·exact d.value
   ·exact h.value x b
 ·rw[if_pos rfl];have hm:=(rC (nm:=c.nm) L).subset;exact⟨Be h.sort,by have:=(lg (nm:=c.nm) L).1;have:=h.len;omega,fun x a=>h.ok x (hm a),fun x a=>h.owner x (hm a),fun x a=>h.text x (hm a),fun x a=>h.value x (hm a)⟩
theorem cW.step{k:Nat}{L:List Ent}{c:CV}(h:cW k L)(a:ed c):cW (k+1) (CU c L):=by
 unfold CU;cases b:dA c.nm;·exact h.more (by omega)
 ·exact h.next a b
theorem ed.name{c:CV}(h:ed c):tF c.nm:=⟨by have:=h.owner;omega,by have:=h.text;omega⟩
theorem pX(s:ByteArray)(k:Nat):(wG s (k:Int)).size≤k:=by
 rw[wG,ByteArray.size_extract];omega
theorem CV.Bd(c:CV):ed c.cut:=⟨pX _ 100,pX _ 100,pX _ 200⟩
theorem Cv{xs:List CV}{k:Nat}{c:CV}(h:xs[k]? =some c)(L:List Ent):mr (xs.take (k+1)) L=ki c (mr (xs.take k) L):=by
 rw[mr,List.take_add_one,h,Option.toList_some,List.foldl_append];rfl
def rE(xs:List CV)(n:Nat):List CV:=(xs.take (min n 24)).map CV.cut
theorem xQ(xs:List CV)(n:Nat):∀c∈rE xs n,ed c:=fun c a=>by
 obtain⟨x,_,rfl⟩:=List.mem_map.1 a;exact x.Bd
def SV(c:CV)(L:List Ent)(v:Value)(w:World):Prop:=∃a,v= .pointer (some ⟨a,0,none⟩)∧ft w a (CU c L)
theorem SV.ar{c:CV}{L:List Ent}{v:Value}{w w':World}(h:SV c L v w)(b:Fr ag w w'):SV c L v w':=by
 obtain⟨s,e,a⟩:=h;exact⟨s,e,a.ar b⟩
end Go.Proofs.YtphjagkehiklkaaGreatDoor
