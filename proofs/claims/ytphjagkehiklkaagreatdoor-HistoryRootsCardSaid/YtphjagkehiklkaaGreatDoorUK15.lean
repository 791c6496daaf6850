/- Texts. -/
import Derived.Test.YtphjagkehiklkaaGreatDoorUK14
set_option linter.unusedVariables false
set_option linter.unusedSimpArgs false
set_option maxRecDepth 100000
set_option maxHeartbeats 4000000
namespace Go.Proofs.YtphjagkehiklkaaGreatDoor
open Go.RowKit Go.Shelf
def ew(w:World)(s:Nat)(L:List Ent):Prop:=∃t,Cj w s t∧t.aW=L
theorem ew.al{w w':World}{s:Nat}{L:List Ent}(h:ew w s L)(c:Fr af w w'):ew w' s L:=by
 obtain⟨t,a,b⟩:=h;exact⟨t,a.al c,b⟩
structure qh(L:List Ent):Prop where
 sort:eC L
 short:iR L
 len:L.length≤60000
 bytes:cG L≤1099511500000
 ok:∀x∈L,cU x.1=true
structure su(n:aD):Prop where
 owner:n.owner.size≤1099511627776
 text:n.text.size≤1099511627776
theorem sS{nm:aD}:∀{L:List Ent},dY nm L=none→cT nm L=L
 |[],_=>rfl
 |y::L,h=>by
  rw[dY]at h;split at h;·cases h
  ·rename_i e;rw[cT,if_neg e,sS h]
def Ag(n:aD)(v:ByteArray):Array Value:=([Value.pointer none,Value.pointer none]++n.cells++[Value.string v,Value.int .i64 0,Value.int .i64 0,Value.int .i64 0]).toArray
theorem wu(n:aD)(v:ByteArray):Tryz.prog.built 177 [(2, .agg n.cells.toArray),(3, .string v)]=some (Ag n v):=by kernel_rfl
def Bh(w:World)(L:List Ent)(n:aD)(v:ByteArray)(e:Ending)(w':World):Prop:=∃p k,e= .returned (.tuple #[.pointer p, .int .i64 k])∧Fr af w w'∧
 ((cU n=true∧v.size≤65536∧k=0∧∃a,p=some ⟨a,0,none⟩∧ew w' a (dq n v L))∨(cU n=false∧k=12∧p=none)∨(cU n=true∧65536<v.size∧k=5∧p=none))
def sD(w:World)(L:List Ent)(n:aD)(e:Ending)(w':World):Prop:=∃p k,e= .returned (.tuple #[.pointer p, .int .i64 k])∧Fr af w w'∧
 ((cU n=true∧k=0∧∃a,p=some ⟨a,0,none⟩∧ew w' a (cT n L))∨(cU n=false∧k=12∧p=none))
def Hl(a:Option ByteArray):Value:=match a with
 |some v=> .tuple #[.string v, .bool true]
 |none=> .tuple #[.string ByteArray.empty, .bool false]
theorem Ck(L:List Ent)(n:aD)(v:ByteArray)(s:Nat)(w:World)(J:ew w s L)(av:dy w)(aq:qh L)(B:su n):
  Calls Tryz.prog 130 #[.pointer (some ⟨s,0,none⟩), .agg n.cells.toArray, .string v] w (Bh w L n v):=by
 obtain⟨t,J,H⟩:=J;have aK:=Lib.hid J;have p:=Lib.hid H;have aG:Hid (∀w',Fr af w w'→Calls Tryz.prog 115 #[.agg n.cells.toArray] w' (Checked w' n)):=fun w' m=>j9 n w' (av.al m) B.owner B.text;have aF:=Lib.hid (wu n v);obtain⟨a,K,E⟩:=J;have W:Hid (w.cell? ⟨s,0,none⟩=some (.pointer a)):=K.cell 0;have P:=Lib.hid E;have F:=Lib.hid aq;have aJ:=Lib.hid B;clear K E av aq B H;go_enter Tryz.func130,Tryz.ntmps130;go_wp2_with(refine au rfl 106 (.tmp 1) rfl n.cells.toArray rfl ?_);intro w1 n1;have ao:=Lib.hid n1.fr;have G:=Lib.hid n1.az;clear n1;generalize w.heap.size=X at*;have T:Hid (ak w1 X 106 n.cells.toArray):=G.out;clear G;go_wp2_with(refine aw rfl 106 (.tmp 4) rfl ⟨X,0,none⟩ rfl n.cells _ ?zA Tryz.underlying106 rfl aX (aR.go ?hold));case zA=>exact fun j x ae=>by rw[Addr.add_mid,Nat.zero_add];exact T.out.cell j|>.trans (by rw[List.getElem?_toArray];exact ae)
 unfold aR;go_wp2_with fail;refine(aG.out _ ao.out).mono ?_;rintro e w2⟨k,rfl,ax,f2⟩;have C:=Lib.hid (ao.out.trans f2);have U:=Lib.hid (T.out.fr f2 (fun x=>x));have ap:=Lib.hid ax;clear f2 T ax;cases r:cU n
 ·have A:k≠0:=by
   have h:=ap.out;rw[r]at h;intro e;subst e;simp at h
  have t0:=re A;have y:=Lib.hid r;clear r A;go_wp2;go_ret2;exact⟨none,12,rfl,C.out, .inr (.inl ⟨y.out,rfl,rfl⟩)⟩
 ·have A:k=0:=by
   have h:=ap.out;rw[r]at h;simpa using h
  subst A;have y:=Lib.hid r;clear r;by_cases ad:v.size≤65536
  ·have aP:decide ((65536:Int)<(v.size:Int))=false:=decide_eq_false (by omega);have R:=Lib.hid ad;obtain⟨z,ay⟩:∃z:Int,z=(t.size:Nat):=⟨_,rfl⟩;have aS:decide ((65536:Int)≤z)=false:=decide_eq_false (by have h:=F.out.len;rw[←p.out,Tr.bU]at h;omega);have CL:Hid (∀w',Fr af w2 w'→Calls Tryz.prog 94 #[.pointer (some ⟨s,0,none⟩)] w' (bj w' (.int .i64 z))):=fun w' m=>by
    rw[ay];exact xw w' s t (aK.out.al (C.out.trans m))
   have aH:Hid (∀w' g,Fr af w2 w'→Mid w' g n v→Calls Tryz.prog 163 #[.pointer a, .pointer (some ⟨g,0,none⟩)] w' (Balanced w' (dq n v t.aW))):=fun w' g m hm=>
    Eb n v g aJ.out.owner t a w' (P.out.al (C.out.trans m)) hm (by rw[p.out];exact F.out.sort) (by rw[p.out];exact F.out.short) (by have h:=F.out.len;rw[←p.out,Tr.bU]at h;omega) (by have h:=F.out.bytes;rw[←p.out,←Tr.cP]at h;omega);clear ad ay;go_upto_region 7 with fail;refine aA 13 af [Is (.pointer (some ⟨s,0,none⟩)),Is (.int .i64 z),Is (.bool false),Is (.bool false),Is (undef),Is (undef),Is (undef),Is (undef),Is (undef),Is (undef),Is (undef),Is (.bool false),Is (.bool false)] [] (fun _=>True) (fun _ _=>false) (by kernel_rfl) (by kernel_rfl) (by kernel_rfl) (by kernel_rfl) ⟨Is.ag _,Is.ag _,Is.ag _,Is.ag _,Is.ag _,Is.ag _,Is.ag _,Is.ag _,Is.ag _,Is.ag _,Is.ag _,Is.ag _,Is.ag _,trivial⟩ trivial (fun _ _ _ _ h=>h) trivial ?_ ?_
   ·refine⟨fun u w' d m b l i c=>?_,fun u w' d m b l i c=>?_,fun u w' d m b l i c=>?_,fun u w' d m b l i c=>?_,fun u w' d m b l i c=>?_,fun u w' d m b l i c=>?_,fun u w' d m b l i c=>?_,fun u w' d m b l i c=>?_,fun u w' d m b l i c=>?_,fun u w' d m b l i c=>?_,fun u w' d m b l i c=>?_,fun u w' d m b l i c=>?_,fun u w' d m b l i c=>?_,trivial⟩;all_goals simp only[List.take_succ_cons,List.take_zero,List.map_cons,List.map_nil,an,Act.put,List.setIfInBounds_toArray,List.set_cons_zero,List.set_cons_succ,Nat.reduceAdd,Nat.zero_add]
    ·clear b l i c;refine .inl ⟨by kernel_rfl,?_⟩;go_simp;exact⟨_,rfl,Fr.refl _ _,rfl,trivial⟩
    ·have Y:u 0=_:=b 0 (by kernel_rfl);clear b l i c;simp only[Y];refine .inl ⟨by kernel_rfl,?_⟩;go_simp;refine(CL.out _ m).mono ?_;rintro e aQ⟨rfl,rfl⟩;exact⟨_,rfl,Fr.refl _ _,rfl,trivial⟩
    ·have Z:u 1=_:=b 1 (by kernel_rfl);clear b l i c;simp only[Z];refine .inl ⟨by kernel_rfl,?_⟩;go_simp;exact⟨_,rfl,Fr.refl _ _,rfl,trivial⟩
    ·have ac:u 2=_:=b 2 (by kernel_rfl);clear b l i c;simp only[ac];refine .inl ⟨by kernel_rfl,?_⟩;go_simp;exact⟨_,rfl,Fr.refl _ _,rfl,trivial⟩
    ·have o:u 3=_:=b 3 (by kernel_rfl);clear b l i c;simp only[o];exact .inr ⟨by kernel_rfl,_,rfl,Fr.refl _ _,rfl,trivial⟩
    ·have o:u 3=_:=b 3 (by kernel_rfl);clear b l i c;simp only[o];exact .inr ⟨by kernel_rfl,_,rfl,Fr.refl _ _,rfl,trivial⟩
    ·have o:u 3=_:=b 3 (by kernel_rfl);clear b l i c;simp only[o];exact .inr ⟨by kernel_rfl,_,rfl,Fr.refl _ _,rfl,trivial⟩
    ·have o:u 3=_:=b 3 (by kernel_rfl);clear b l i c;simp only[o];exact .inr ⟨by kernel_rfl,_,rfl,Fr.refl _ _,rfl,trivial⟩
    ·have o:u 3=_:=b 3 (by kernel_rfl);clear b l i c;simp only[o];exact .inr ⟨by kernel_rfl,_,rfl,Fr.refl _ _,rfl,trivial⟩
    ·have o:u 3=_:=b 3 (by kernel_rfl);clear b l i c;simp only[o];exact .inr ⟨by kernel_rfl,_,rfl,Fr.refl _ _,rfl,trivial⟩
    ·have o:u 3=_:=b 3 (by kernel_rfl);clear b l i c;simp only[o];exact .inr ⟨by kernel_rfl,_,rfl,Fr.refl _ _,rfl,trivial⟩
    ·have o:u 3=_:=b 3 (by kernel_rfl);have aa:u 10=_:=b 10 (by kernel_rfl);clear b l i c;simp only[o,aa];refine .inl ⟨by kernel_rfl,?_⟩;go_simp;exact⟨_,rfl,Fr.refl _ _,rfl,trivial⟩
    ·have ab:u 11=_:=b 11 (by kernel_rfl);clear b l i c;simp only[ab];refine .inl ⟨by kernel_rfl,?_⟩;go_simp;exact⟨_,rfl,Fr.refl _ _,rfl,trivial⟩
   ·intro u w' m b c;have I:u 12=_:=b 12 (by omega);clear b c;simp only[List.take_succ_cons,List.take_zero,List.map_cons,List.map_nil,an,Act.put,List.setIfInBounds_toArray,List.set_cons_zero,List.set_cons_succ,List.drop_succ_cons,List.drop_zero,Nat.reduceAdd,Nat.zero_add,I];have N:=Lib.hid m;have V:=Lib.hid (U.out.fr m (fun x=>x));clear m I;go_upto_region 9 with fail;refine aA 9 af [Is (.pointer (some ⟨s,0,none⟩)),Is (.pointer (some ⟨s,0,none⟩)),Is (.pointer (some ⟨s,0,none⟩)),Is (.pointer a),Is (.agg n.cells.toArray),Is (.string v),Is (.agg (Ag n v)),(fun am ah=>∃aE,am= .pointer (some ⟨aE,0,none⟩)∧Mid ah aE n v),(fun am ah=>ju ah am (dq n v t.aW))] [] (fun _=>True) (fun _ _=>false) (by kernel_rfl) (by kernel_rfl) (by kernel_rfl) (by kernel_rfl) ⟨Is.ag _,Is.ag _,Is.ag _,Is.ag _,Is.ag _,Is.ag _,Is.ag _,fun _ _ _ _ m h=>by obtain⟨g,h,K⟩:=h;exact⟨g,h,K.al m⟩,fun v w1 w2 _ f h=>by obtain⟨a,t,e,E,D⟩:=h;exact⟨a,t,e,E.al f,D⟩,trivial⟩ trivial (fun _ _ _ _ h=>h) trivial ?_ ?_
    ·refine⟨fun u w' d m b l i c=>?_,fun u w' d m b l i c=>?_,fun u w' d m b l i c=>?_,fun u w' d m b l i c=>?_,fun u w' d m b l i c=>?_,fun u w' d m b l i c=>?_,fun u w' d m b l i c=>?_,fun u w' d m b l i c=>?_,fun u w' d m b l i c=>?_,trivial⟩;all_goals simp only[List.take_succ_cons,List.take_zero,List.map_cons,List.map_nil,an,Act.put,List.setIfInBounds_toArray,List.set_cons_zero,List.set_cons_succ,Nat.reduceAdd,Nat.zero_add]
     ·clear b l i c;refine .inl ⟨by kernel_rfl,?_⟩;go_simp;exact⟨_,rfl,Fr.refl _ _,rfl,trivial⟩
     ·have Y:u 0=_:=b 0 (by kernel_rfl);clear b l i c;simp only[Y];refine .inl ⟨by kernel_rfl,?_⟩;go_simp;exact⟨_,rfl,Fr.refl _ _,rfl,trivial⟩
     ·have Z:u 1=_:=b 1 (by kernel_rfl);clear b l i c;simp only[Z];refine .inl ⟨by kernel_rfl,?_⟩;go_simp;exact⟨_,rfl,Fr.refl _ _,rfl,trivial⟩
     ·have ac:u 2=_:=b 2 (by kernel_rfl);clear b l i c;simp only[ac];refine .inl ⟨by kernel_rfl,?_⟩;have q:=m.aj ((C.out.trans N.out).aj W.out (fun x=>x)) (fun x=>x);go_simp;exact⟨_,rfl,Fr.refl _ _,rfl,trivial⟩
     ·clear b l i c;refine .inl ⟨by kernel_rfl,?_⟩;exact ar _ _ rfl ⟨X,0,none⟩ rfl n.cells _ (fun j x ae=>by rw[Addr.add_mid,Nat.zero_add];exact(V.out.fr m (fun x=>x)).cell j|>.trans (by rw[List.getElem?_toArray];exact ae)) Tryz.underlying106 rfl aX ⟨_,rfl,Fr.refl _ _,rfl,trivial⟩
     ·clear b l i c;refine .inl ⟨by kernel_rfl,?_⟩;go_simp;exact⟨_,rfl,Fr.refl _ _,rfl,trivial⟩
     ·have aM:u 4=_:=b 4 (by kernel_rfl);have aN:u 5=_:=b 5 (by kernel_rfl);clear b l i c;simp only[aM,aN];refine .inl ⟨by kernel_rfl,?_⟩;exact iu 177 _ rfl (Ag n v) _ (by simp only[List.map_toArray,List.map_cons,List.map_nil];rfl) (aF.out) ⟨_,rfl,Fr.refl _ _,rfl,trivial⟩
     ·have aO:u 6=_:=b 6 (by kernel_rfl);clear b l i c;simp only[aO];refine .inl ⟨by kernel_rfl,?_⟩;go_simp;exact⟨_,rfl,(Fr.refl _ _).alloc _,⟨_,rfl,Mid.of (ak.new _ _ _)⟩,trivial⟩
     ·have o:u 3=_:=b 3 (by kernel_rfl);obtain⟨g7,aL,b7⟩:=b 7 (by kernel_rfl);clear b l i c;simp only[o,aL];refine .inl ⟨by kernel_rfl,?_⟩;go_simp;refine(aH.out _ g7 (N.out.trans m) b7).mono ?_;rintro e aQ⟨M,ai,rfl,E,D,f4⟩;exact⟨_,rfl,f4.bA,⟨M,ai,rfl,E,D⟩,trivial⟩
    ·intro u w' m b c;obtain⟨M,ai,aB,B,D⟩:=b 8 (by omega);clear b c;simp only[List.take_succ_cons,List.take_zero,List.map_cons,List.map_nil,an,Act.put,List.setIfInBounds_toArray,List.set_cons_zero,List.set_cons_succ,List.drop_succ_cons,List.drop_zero,Nat.reduceAdd,Nat.zero_add,aB];have aI:=Lib.hid (C.out.trans (N.out.trans m));have Q:=Lib.hid B;have O:=Lib.hid D;clear m aB B D;go_wp2_with(refine au rfl 174 (.tmp 41) rfl #[.pointer M] rfl ?_);intro aT aC;have S:=Lib.hid aC;clear aC;go_wp2;go_ret2;exact⟨_,0,rfl,aI.out.trans S.out.fr, .inl ⟨y.out,R.out,rfl,_,rfl,ai,⟨M,S.out.az,Q.out.al S.out.fr⟩,by rw[O.out,p.out]⟩⟩
  ·have aP:decide ((65536:Int)<(v.size:Int))=true:=decide_eq_true (by omega);have R:Hid (65536<v.size):=by simp only[Hid];omega
   clear ad;go_wp2;go_ret2;exact⟨none,5,rfl,C.out, .inr (.inr ⟨y.out,R.out,rfl,rfl⟩)⟩
theorem Ei(L:List Ent)(n:aD)(s:Nat)(w:World)(K:ew w s L)(J:qh L)(S:su n):
  Calls Tryz.prog 53 #[.pointer (some ⟨s,0,none⟩), .agg n.cells.toArray] w (aH w (Hl (dY n L))):=by
 obtain⟨t,K,M⟩:=K;subst M;obtain⟨a,r,T⟩:=K;have Q:Hid (∀w',Fr af w w'→Calls Tryz.prog 108 #[.pointer a, .agg n.cells.toArray] w' (Found w' n t.aW)):=fun w' c=>uX n a t w' (T.al c) J.sort S.owner J.short;have v:Hid (w.cell? ⟨s,0,none⟩=some (.pointer a)):=r.cell 0;clear r T J S;cases c:dY n t.aW with
 |none=>
  have B:=Lib.hid c;clear c;go_enter Tryz.func53,Tryz.ntmps53;go_wp2_with(refine au rfl 106 (.tmp 1) rfl n.cells.toArray rfl ?_);intro w1 n1;have o:=Lib.hid n1.fr;have l:=Lib.hid n1.az;clear n1;generalize w.heap.size=z at*;have D:Hid (ak w1 z 106 n.cells.toArray):=l.out;clear l;go_upto_region 3 with fail;refine aA 7 af [Is (.pointer (some ⟨s,0,none⟩)),Is (.pointer (some ⟨s,0,none⟩)),Is (.pointer (some ⟨s,0,none⟩)),Is (.pointer a),Is (.agg n.cells.toArray),Is (.pointer none),Is (.pointer none)] [] (fun _=>True) (fun _ _=>false) (by kernel_rfl) (by kernel_rfl) (by kernel_rfl) (by kernel_rfl) ⟨Is.ag _,Is.ag _,Is.ag _,Is.ag _,Is.ag _,Is.ag _,Is.ag _,trivial⟩ trivial (fun _ _ _ _ h=>h) trivial ?_ ?_
  ·refine⟨fun u w' d c b k i f=>?_,fun u w' d c b k i f=>?_,fun u w' d c b k i f=>?_,fun u w' d c b k i f=>?_,fun u w' d c b k i f=>?_,fun u w' d c b k i f=>?_,fun u w' d c b k i f=>?_,trivial⟩;all_goals simp only[List.take_succ_cons,List.take_zero,List.map_cons,List.map_nil,an,Act.put,List.setIfInBounds_toArray,List.set_cons_zero,List.set_cons_succ,Nat.reduceAdd,Nat.zero_add]
   ·clear b k i f;refine .inl ⟨by kernel_rfl,?_⟩;go_simp;exact⟨_,rfl,Fr.refl _ _,rfl,trivial⟩
   ·have E:u 0=_:=b 0 (by kernel_rfl);clear b k i f;simp only[E];refine .inl ⟨by kernel_rfl,?_⟩;go_simp;exact⟨_,rfl,Fr.refl _ _,rfl,trivial⟩
   ·have F:u 1=_:=b 1 (by kernel_rfl);clear b k i f;simp only[F];refine .inl ⟨by kernel_rfl,?_⟩;go_simp;exact⟨_,rfl,Fr.refl _ _,rfl,trivial⟩
   ·have G:u 2=_:=b 2 (by kernel_rfl);clear b k i f;simp only[G];refine .inl ⟨by kernel_rfl,?_⟩;have q:=c.aj (o.out.aj v.out (fun x=>x)) (fun x=>x);go_simp;exact⟨_,rfl,Fr.refl _ _,rfl,trivial⟩
   ·clear b k i f;refine .inl ⟨by kernel_rfl,?_⟩;exact ar _ _ rfl ⟨z,0,none⟩ rfl n.cells _ (fun j x N=>by rw[Addr.add_mid,Nat.zero_add];exact(D.out.fr c (fun x=>x)).cell j|>.trans (by rw[List.getElem?_toArray];exact N)) Tryz.underlying106 rfl aX ⟨_,rfl,Fr.refl _ _,rfl,trivial⟩
   ·have H:u 3=_:=b 3 (by kernel_rfl);have I:u 4=_:=b 4 (by kernel_rfl);clear b k i f;simp only[H,I];refine .inl ⟨by kernel_rfl,?_⟩;go_simp;refine(Q.out _ (o.out.trans c)).mono ?_;rintro e W⟨p,rfl,f4,⟨g,y,rfl,m,hm⟩|⟨rfl,m⟩⟩;·rw[B.out]at m;cases m
    ·exact⟨_,rfl,f4.bA,rfl,trivial⟩
   ·have V:u 5=_:=b 5 (by kernel_rfl);clear b k i f;simp only[V];refine .inl ⟨by kernel_rfl,?_⟩;go_simp;exact⟨_,rfl,Fr.refl _ _,rfl,trivial⟩
  ·intro u w' c b f;have k6:u 6=_:=b 6 (by omega);clear b f;simp only[List.take_succ_cons,List.take_zero,List.map_cons,List.map_nil,an,Act.put,List.setIfInBounds_toArray,List.set_cons_zero,List.set_cons_succ,List.drop_succ_cons,List.drop_zero,Nat.reduceAdd,Nat.zero_add,k6];have C:=Lib.hid (o.out.trans c);clear c k6;go_wp2;go_ret2;exact⟨rfl,C.out⟩
 |some x=>
  have B:=Lib.hid c;clear c;go_enter Tryz.func53,Tryz.ntmps53;go_wp2_with(refine au rfl 106 (.tmp 1) rfl n.cells.toArray rfl ?_);intro w1 n1;have o:=Lib.hid n1.fr;have l:=Lib.hid n1.az;clear n1;generalize w.heap.size=z at*;have D:Hid (ak w1 z 106 n.cells.toArray):=l.out;clear l;go_upto_region 3 with fail;refine aA 7 af [Is (.pointer (some ⟨s,0,none⟩)),Is (.pointer (some ⟨s,0,none⟩)),Is (.pointer (some ⟨s,0,none⟩)),Is (.pointer a),Is (.agg n.cells.toArray),(fun P O=>∃A,P= .pointer (some ⟨A,0,none⟩)∧Mid O A n x),(fun P O=>∃A,P= .pointer (some ⟨A,0,none⟩)∧Mid O A n x)] [] (fun _=>True) (fun _ _=>false) (by kernel_rfl) (by kernel_rfl) (by kernel_rfl) (by kernel_rfl) ⟨Is.ag _,Is.ag _,Is.ag _,Is.ag _,Is.ag _,fun _ _ _ _ c h=>by obtain⟨g,h,r⟩:=h;exact⟨g,h,r.al c⟩,fun _ _ _ _ c h=>by obtain⟨g,h,r⟩:=h;exact⟨g,h,r.al c⟩,trivial⟩ trivial (fun _ _ _ _ h=>h) trivial ?_ ?_
  ·refine⟨fun u w' d c b k i f=>?_,fun u w' d c b k i f=>?_,fun u w' d c b k i f=>?_,fun u w' d c b k i f=>?_,fun u w' d c b k i f=>?_,fun u w' d c b k i f=>?_,fun u w' d c b k i f=>?_,trivial⟩;all_goals simp only[List.take_succ_cons,List.take_zero,List.map_cons,List.map_nil,an,Act.put,List.setIfInBounds_toArray,List.set_cons_zero,List.set_cons_succ,Nat.reduceAdd,Nat.zero_add]
   ·clear b k i f;refine .inl ⟨by kernel_rfl,?_⟩;go_simp;exact⟨_,rfl,Fr.refl _ _,rfl,trivial⟩
   ·have E:u 0=_:=b 0 (by kernel_rfl);clear b k i f;simp only[E];refine .inl ⟨by kernel_rfl,?_⟩;go_simp;exact⟨_,rfl,Fr.refl _ _,rfl,trivial⟩
   ·have F:u 1=_:=b 1 (by kernel_rfl);clear b k i f;simp only[F];refine .inl ⟨by kernel_rfl,?_⟩;go_simp;exact⟨_,rfl,Fr.refl _ _,rfl,trivial⟩
   ·have G:u 2=_:=b 2 (by kernel_rfl);clear b k i f;simp only[G];refine .inl ⟨by kernel_rfl,?_⟩;have q:=c.aj (o.out.aj v.out (fun x=>x)) (fun x=>x);go_simp;exact⟨_,rfl,Fr.refl _ _,rfl,trivial⟩
   ·clear b k i f;refine .inl ⟨by kernel_rfl,?_⟩;exact ar _ _ rfl ⟨z,0,none⟩ rfl n.cells _ (fun j x N=>by rw[Addr.add_mid,Nat.zero_add];exact(D.out.fr c (fun x=>x)).cell j|>.trans (by rw[List.getElem?_toArray];exact N)) Tryz.underlying106 rfl aX ⟨_,rfl,Fr.refl _ _,rfl,trivial⟩
   ·have H:u 3=_:=b 3 (by kernel_rfl);have I:u 4=_:=b 4 (by kernel_rfl);clear b k i f;simp only[H,I];refine .inl ⟨by kernel_rfl,?_⟩;go_simp;refine(Q.out _ (o.out.trans c)).mono ?_;rintro e W⟨p,rfl,f4,⟨g,y,rfl,m,hm⟩|⟨rfl,m⟩⟩;·rw[B.out]at m;cases m;exact⟨_,rfl,f4.bA,⟨g,rfl,hm⟩,trivial⟩
    ·rw[B.out]at m;cases m
   ·obtain⟨g5,U,m5⟩:=b 5 (by kernel_rfl);clear b k i f;simp only[U];refine .inl ⟨by kernel_rfl,?_⟩;go_simp;exact⟨_,rfl,Fr.refl _ _,⟨_,rfl,m5⟩,trivial⟩
  ·intro u w' c b f;obtain⟨g6,R,m6⟩:=b 6 (by omega);clear b f;simp only[List.take_succ_cons,List.take_zero,List.map_cons,List.map_nil,an,Act.put,List.setIfInBounds_toArray,List.set_cons_zero,List.set_cons_succ,List.drop_succ_cons,List.drop_zero,Nat.reduceAdd,Nat.zero_add,R];have C:=Lib.hid (o.out.trans c);have cv:=m6.val;clear c R m6;go_wp2;go_ret2;exact⟨rfl,C.out⟩
theorem vW(L:List Ent)(n:aD)(s:Nat)(w:World)(U:ew w s L)(ay:dy w)(F:qh L)(C:su n):
  Calls Tryz.prog 129 #[.pointer (some ⟨s,0,none⟩), .agg n.cells.toArray] w (sD w L n):=by
 have ab:=Lib.hid U;obtain⟨t,U,ai⟩:=U;subst ai;obtain⟨a,V,G⟩:=U;have aq:Hid (∀w',Fr af w w'→Calls Tryz.prog 108 #[.pointer a, .agg n.cells.toArray] w' (Found w' n t.aW)):=fun w' c=>uX n a t w' (G.al c) F.sort C.owner F.short;have E:Hid (w.cell? ⟨s,0,none⟩=some (.pointer a)):=V.cell 0;have aH:Hid (∀w',Fr af w w'→Calls Tryz.prog 115 #[.agg n.cells.toArray] w' (Checked w' n)):=fun w' c=>j9 n w' (ay.al c) C.owner C.text;have aI:Hid (∀w',(∃v,(n,v)∈t.aW)→Fr af w w'→Calls Tryz.prog 162 #[.pointer a, .agg n.cells.toArray] w' (Balanced w' (cT n t.aW))):=fun w' hm c=>
  xn t n a w' C.owner hm (G.al c) F.sort F.short (by have h:=F.len;rw[Tr.bU]at h;omega) (by have h:=F.bytes;rw[←Tr.cP]at h;omega);clear V G F C ay;go_enter Tryz.func129,Tryz.ntmps129;go_wp2_with(refine au rfl 106 (.tmp 1) rfl n.cells.toArray rfl ?_);intro w1 n1;have av:=Lib.hid n1.fr;have K:=Lib.hid n1.az;clear n1;generalize w.heap.size=M at*;have ad:Hid (ak w1 M 106 n.cells.toArray):=K.out;clear K;go_wp2_with(refine aw rfl 106 (.tmp 3) rfl ⟨M,0,none⟩ rfl n.cells _ ?zA Tryz.underlying106 rfl aX (aR.go ?hold));case zA=>exact fun j x H=>by rw[Addr.add_mid,Nat.zero_add];exact ad.out.cell j|>.trans (by rw[List.getElem?_toArray];exact H)
 unfold aR;go_wp2_with fail;refine(aH.out _ av.out).mono ?_;rintro e w2⟨k,rfl,aB,f2⟩;have r:=Lib.hid (av.out.trans f2);have D:=Lib.hid (ad.out.fr f2 (fun x=>x));have ax:=Lib.hid aB;clear f2 ad aB;cases o:cU n
 ·have A:k≠0:=by
   have h:=ax.out;rw[o]at h;intro e;subst e;simp at h
  have t0:=re A;have z:=Lib.hid o;clear o A;go_wp2;go_ret2;exact⟨none,12,rfl,r.out, .inr ⟨z.out,rfl,rfl⟩⟩
 ·have A:k=0:=by
   have h:=ax.out;rw[o]at h;simpa using h
  subst A;have z:=Lib.hid o;clear o;cases c:dY n t.aW with
  |none=>
   have T:=Lib.hid c;have X:=Lib.hid (sS c);clear c;go_upto_region 5 with fail;refine aA 8 af [Is (.pointer (some ⟨s,0,none⟩)),Is (.pointer (some ⟨s,0,none⟩)),Is (.pointer (some ⟨s,0,none⟩)),Is (.pointer a),Is (.agg n.cells.toArray),Is (.pointer none),Is (.bool true),Is (.bool true)] [] (fun _=>True) (fun _ _=>false) (by kernel_rfl) (by kernel_rfl) (by kernel_rfl) (by kernel_rfl) ⟨Is.ag _,Is.ag _,Is.ag _,Is.ag _,Is.ag _,Is.ag _,Is.ag _,Is.ag _,trivial⟩ trivial (fun _ _ _ _ h=>h) trivial ?_ ?_
   ·refine⟨fun u w' d c b m l i=>?_,fun u w' d c b m l i=>?_,fun u w' d c b m l i=>?_,fun u w' d c b m l i=>?_,fun u w' d c b m l i=>?_,fun u w' d c b m l i=>?_,fun u w' d c b m l i=>?_,fun u w' d c b m l i=>?_,trivial⟩;all_goals simp only[List.take_succ_cons,List.take_zero,List.map_cons,List.map_nil,an,Act.put,List.setIfInBounds_toArray,List.set_cons_zero,List.set_cons_succ,Nat.reduceAdd,Nat.zero_add]
    ·clear b m l i;refine .inl ⟨by kernel_rfl,?_⟩;go_simp;exact⟨_,rfl,Fr.refl _ _,rfl,trivial⟩
    ·have N:u 0=_:=b 0 (by kernel_rfl);clear b m l i;simp only[N];refine .inl ⟨by kernel_rfl,?_⟩;go_simp;exact⟨_,rfl,Fr.refl _ _,rfl,trivial⟩
    ·have O:u 1=_:=b 1 (by kernel_rfl);clear b m l i;simp only[O];refine .inl ⟨by kernel_rfl,?_⟩;go_simp;exact⟨_,rfl,Fr.refl _ _,rfl,trivial⟩
    ·have P:u 2=_:=b 2 (by kernel_rfl);clear b m l i;simp only[P];refine .inl ⟨by kernel_rfl,?_⟩;have q:=c.aj (r.out.aj E.out (fun x=>x)) (fun x=>x);go_simp;exact⟨_,rfl,Fr.refl _ _,rfl,trivial⟩
    ·clear b m l i;refine .inl ⟨by kernel_rfl,?_⟩;exact ar _ _ rfl ⟨M,0,none⟩ rfl n.cells _ (fun j x H=>by rw[Addr.add_mid,Nat.zero_add];exact(D.out.fr c (fun x=>x)).cell j|>.trans (by rw[List.getElem?_toArray];exact H)) Tryz.underlying106 rfl aX ⟨_,rfl,Fr.refl _ _,rfl,trivial⟩
    ·have Q:u 3=_:=b 3 (by kernel_rfl);have R:u 4=_:=b 4 (by kernel_rfl);clear b m l i;simp only[Q,R];refine .inl ⟨by kernel_rfl,?_⟩;go_simp;refine(aq.out _ (r.out.trans c)).mono ?_;rintro e aF⟨p,rfl,f4,⟨g,y,rfl,B,hm⟩|⟨rfl,B⟩⟩;·rw[T.out]at B;cases B
     ·exact⟨_,rfl,f4.bA,rfl,trivial⟩
    ·have aL:u 5=_:=b 5 (by kernel_rfl);clear b m l i;simp only[aL];refine .inl ⟨by kernel_rfl,?_⟩;go_simp;exact⟨_,rfl,Fr.refl _ _,rfl,trivial⟩
    ·have ah:u 6=_:=b 6 (by kernel_rfl);clear b m l i;simp only[ah];refine .inl ⟨by kernel_rfl,?_⟩;go_simp;exact⟨_,rfl,Fr.refl _ _,rfl,trivial⟩
   ·intro u w' c b i;have S:u 7=_:=b 7 (by omega);clear b i;simp only[List.take_succ_cons,List.take_zero,List.map_cons,List.map_nil,an,Act.put,List.setIfInBounds_toArray,List.set_cons_zero,List.set_cons_succ,List.drop_succ_cons,List.drop_zero,Nat.reduceAdd,Nat.zero_add,S];have I:=Lib.hid (r.out.trans c);clear c S;go_wp2;go_ret2;exact⟨_,0,rfl,I.out, .inl ⟨z.out,rfl,s,rfl,by rw[X.out];exact ab.out.al I.out⟩⟩
  |some x=>
   have T:=Lib.hid c;have Z:Hid (∃v,(n,v)∈t.aW):=⟨x,ta c⟩;clear c;go_upto_region 5 with fail;refine aA 8 af [Is (.pointer (some ⟨s,0,none⟩)),Is (.pointer (some ⟨s,0,none⟩)),Is (.pointer (some ⟨s,0,none⟩)),Is (.pointer a),Is (.agg n.cells.toArray),(fun ap am=>∃aG,ap= .pointer (some ⟨aG,0,none⟩)∧Mid am aG n x),Is (.bool false),Is (.bool false)] [] (fun _=>True) (fun _ _=>false) (by kernel_rfl) (by kernel_rfl) (by kernel_rfl) (by kernel_rfl) ⟨Is.ag _,Is.ag _,Is.ag _,Is.ag _,Is.ag _,fun _ _ _ _ c h=>by obtain⟨g,h,V⟩:=h;exact⟨g,h,V.al c⟩,Is.ag _,Is.ag _,trivial⟩ trivial (fun _ _ _ _ h=>h) trivial ?_ ?_
   ·refine⟨fun u w' d c b m l i=>?_,fun u w' d c b m l i=>?_,fun u w' d c b m l i=>?_,fun u w' d c b m l i=>?_,fun u w' d c b m l i=>?_,fun u w' d c b m l i=>?_,fun u w' d c b m l i=>?_,fun u w' d c b m l i=>?_,trivial⟩;all_goals simp only[List.take_succ_cons,List.take_zero,List.map_cons,List.map_nil,an,Act.put,List.setIfInBounds_toArray,List.set_cons_zero,List.set_cons_succ,Nat.reduceAdd,Nat.zero_add]
    ·clear b m l i;refine .inl ⟨by kernel_rfl,?_⟩;go_simp;exact⟨_,rfl,Fr.refl _ _,rfl,trivial⟩
    ·have N:u 0=_:=b 0 (by kernel_rfl);clear b m l i;simp only[N];refine .inl ⟨by kernel_rfl,?_⟩;go_simp;exact⟨_,rfl,Fr.refl _ _,rfl,trivial⟩
    ·have O:u 1=_:=b 1 (by kernel_rfl);clear b m l i;simp only[O];refine .inl ⟨by kernel_rfl,?_⟩;go_simp;exact⟨_,rfl,Fr.refl _ _,rfl,trivial⟩
    ·have P:u 2=_:=b 2 (by kernel_rfl);clear b m l i;simp only[P];refine .inl ⟨by kernel_rfl,?_⟩;have q:=c.aj (r.out.aj E.out (fun x=>x)) (fun x=>x);go_simp;exact⟨_,rfl,Fr.refl _ _,rfl,trivial⟩
    ·clear b m l i;refine .inl ⟨by kernel_rfl,?_⟩;exact ar _ _ rfl ⟨M,0,none⟩ rfl n.cells _ (fun j x H=>by rw[Addr.add_mid,Nat.zero_add];exact(D.out.fr c (fun x=>x)).cell j|>.trans (by rw[List.getElem?_toArray];exact H)) Tryz.underlying106 rfl aX ⟨_,rfl,Fr.refl _ _,rfl,trivial⟩
    ·have Q:u 3=_:=b 3 (by kernel_rfl);have R:u 4=_:=b 4 (by kernel_rfl);clear b m l i;simp only[Q,R];refine .inl ⟨by kernel_rfl,?_⟩;go_simp;refine(aq.out _ (r.out.trans c)).mono ?_;rintro e aF⟨p,rfl,f4,⟨g,y,rfl,B,hm⟩|⟨rfl,B⟩⟩;·rw[T.out]at B;cases B;exact⟨_,rfl,f4.bA,⟨g,rfl,hm⟩,trivial⟩
     ·rw[T.out]at B;cases B
    ·obtain⟨g5,aK,m5⟩:=b 5 (by kernel_rfl);clear b m l i;simp only[aK];refine .inl ⟨by kernel_rfl,?_⟩;go_simp;exact⟨_,rfl,Fr.refl _ _,rfl,trivial⟩
    ·have ah:u 6=_:=b 6 (by kernel_rfl);clear b m l i;simp only[ah];refine .inl ⟨by kernel_rfl,?_⟩;go_simp;exact⟨_,rfl,Fr.refl _ _,rfl,trivial⟩
   ·intro u w' c b i;have S:u 7=_:=b 7 (by omega);clear b i;simp only[List.take_succ_cons,List.take_zero,List.map_cons,List.map_nil,an,Act.put,List.setIfInBounds_toArray,List.set_cons_zero,List.set_cons_succ,List.drop_succ_cons,List.drop_zero,Nat.reduceAdd,Nat.zero_add,S];have I:=Lib.hid c;have ae:=Lib.hid (D.out.fr c (fun x=>x));clear c S;go_upto_region 7 with fail;refine aA 6 af [Is (.pointer (some ⟨s,0,none⟩)),Is (.pointer (some ⟨s,0,none⟩)),Is (.pointer (some ⟨s,0,none⟩)),Is (.pointer a),Is (.agg n.cells.toArray),(fun ap am=>ju am ap (cT n t.aW))] [] (fun _=>True) (fun _ _=>false) (by kernel_rfl) (by kernel_rfl) (by kernel_rfl) (by kernel_rfl) ⟨Is.ag _,Is.ag _,Is.ag _,Is.ag _,Is.ag _,fun v w1 w2 _ f h=>by obtain⟨a,t,e,G,J⟩:=h;exact⟨a,t,e,G.al f,J⟩,trivial⟩ trivial (fun _ _ _ _ h=>h) trivial ?_ ?_
    ·refine⟨fun u w' d c b m l i=>?_,fun u w' d c b m l i=>?_,fun u w' d c b m l i=>?_,fun u w' d c b m l i=>?_,fun u w' d c b m l i=>?_,fun u w' d c b m l i=>?_,trivial⟩;all_goals simp only[List.take_succ_cons,List.take_zero,List.map_cons,List.map_nil,an,Act.put,List.setIfInBounds_toArray,List.set_cons_zero,List.set_cons_succ,Nat.reduceAdd,Nat.zero_add]
     ·clear b m l i;refine .inl ⟨by kernel_rfl,?_⟩;go_simp;exact⟨_,rfl,Fr.refl _ _,rfl,trivial⟩
     ·have N:u 0=_:=b 0 (by kernel_rfl);clear b m l i;simp only[N];refine .inl ⟨by kernel_rfl,?_⟩;go_simp;exact⟨_,rfl,Fr.refl _ _,rfl,trivial⟩
     ·have O:u 1=_:=b 1 (by kernel_rfl);clear b m l i;simp only[O];refine .inl ⟨by kernel_rfl,?_⟩;go_simp;exact⟨_,rfl,Fr.refl _ _,rfl,trivial⟩
     ·have P:u 2=_:=b 2 (by kernel_rfl);clear b m l i;simp only[P];refine .inl ⟨by kernel_rfl,?_⟩;have q:=c.aj ((r.out.trans I.out).aj E.out (fun x=>x)) (fun x=>x);go_simp;exact⟨_,rfl,Fr.refl _ _,rfl,trivial⟩
     ·clear b m l i;refine .inl ⟨by kernel_rfl,?_⟩;exact ar _ _ rfl ⟨M,0,none⟩ rfl n.cells _ (fun j x H=>by rw[Addr.add_mid,Nat.zero_add];exact(ae.out.fr c (fun x=>x)).cell j|>.trans (by rw[List.getElem?_toArray];exact H)) Tryz.underlying106 rfl aX ⟨_,rfl,Fr.refl _ _,rfl,trivial⟩
     ·have Q:u 3=_:=b 3 (by kernel_rfl);have R:u 4=_:=b 4 (by kernel_rfl);clear b m l i;simp only[Q,R];refine .inl ⟨by kernel_rfl,?_⟩;go_simp;refine(aI.out _ Z.out (r.out.trans (I.out.trans c))).mono ?_;rintro e aF⟨W,ao,rfl,G,J,f4⟩;exact⟨_,rfl,f4.bA,⟨W,ao,rfl,G,J⟩,trivial⟩
    ·intro u w' c b i;obtain⟨W,ao,aC,C,J⟩:=b 5 (by omega);clear b i;simp only[List.take_succ_cons,List.take_zero,List.map_cons,List.map_nil,an,Act.put,List.setIfInBounds_toArray,List.set_cons_zero,List.set_cons_succ,List.drop_succ_cons,List.drop_zero,Nat.reduceAdd,Nat.zero_add,aC];have aJ:=Lib.hid (r.out.trans (I.out.trans c));have aa:=Lib.hid C;have Y:=Lib.hid J;clear c aC C J;go_wp2_with(refine au rfl 174 (.tmp 28) rfl #[.pointer W] rfl ?_);intro aM aE;have ac:=Lib.hid aE;clear aE;go_wp2;go_ret2;exact⟨_,0,rfl,aJ.out.trans ac.out.fr, .inl ⟨z.out,rfl,_,rfl,ao,⟨W,ac.out.az,aa.out.al ac.out.fr⟩,Y.out⟩⟩
end Go.Proofs.YtphjagkehiklkaaGreatDoor
namespace Go.Proofs.YtphjagkehiklkaaGreatDoor
open Go.RowKit Go.Shelf
def km(x:Ent):List Value:=x.1.cells++[.string x.2]
theorem fE(x:Ent):(km x).length=6:=rfl
theorem ET:∀(xs:List Ent)(k:Nat)(c:Ent),xs[k]? =some c→∀j x,(km c)[j]? =some x→(xs.flatMap km)[k*6+j]? =some x
 |[],_,_,h,_,_,_=>by simp at h
 |y::b,0,c,h,j,x,a=>by
  simp only[List.getElem?_cons_zero,Option.some.injEq]at h;subst h;have d:j<6:=(List.getElem?_eq_some_iff.1 a).1;rw[List.flatMap_cons,Nat.zero_mul,Nat.zero_add,List.getElem?_append_left d];exact a
 |y::b,k+1,c,h,j,x,a=>by
  simp only[List.getElem?_cons_succ]at h;rw[List.flatMap_cons,List.getElem?_append_right (by rw[fE];omega),fE,show(k+1)*6+j-6=k*6+j by omega];exact ET b k c h j x a
structure EL(w:World)(S:Nat→Prop)(A:Option Addr)(n:Nat)(xs:List Ent):Prop where
 rd:Rd w S 6 A n (xs.flatMap km)
 len:xs.length=n
theorem EL.al{w w':World}{S:Nat→Prop}{A:Option Addr}{n:Nat}{xs:List Ent}(h:EL w S A n xs)(a:Fr af w w'):EL w' S A n xs:=⟨h.rd.al a,h.len⟩
theorem EL.at_{w:World}{S:Nat→Prop}{A:Option Addr}{n k:Nat}{xs:List Ent}(h:EL w S A n xs)(f:k<n):∃b c,A=some b∧xs[k]? =some c∧∀j x,(km c)[j]? =some x→w.cell? ((b.add (k*6)).add j)=some x:=by
 obtain⟨b,e,i,d⟩:=h.rd.2 (by omega);have a:k<xs.length:=by rw[h.len];exact f
 refine⟨b,xs[k],e,List.getElem?_eq_getElem a,fun j x g=>?_⟩;rw[Addr.add_add];exact d _ _ (ET xs k _ (List.getElem?_eq_getElem a) j x g)
theorem ji{P:Program}{op:Oper}{a:Act}{w:World}{K:Act→World→Prop}{Q:Exit→Act→World→Prop}(i:BinOp)(t:TypeId)(x y:Operand)(ty:TypeId)(d:op.op= .binOp i t x y ty)
  (xs b:Array Value)(f:a.eval x= .agg xs)(g:a.eval y= .agg b)(c:P.eqGuardType P.depth t=false)
  (v:Value)(e:(binOp i t (.agg xs) (.agg b)).run P w= .ok v w)(h:K (a.put op.dst v) w):op.wp P a w K Q:=by
 have he:=run_eqGuard_agg (P:=P) (w:=w) i t x y xs b c;unfold Oper.wp execOp;simp only[d,f,g,Sem.run_bind,he,e,Result.andThen_ok];exact h
end Go.Proofs.YtphjagkehiklkaaGreatDoor
namespace Go.Proofs.YtphjagkehiklkaaGreatDoor
open Go.RowKit Go.Shelf
theorem qJ{P:Program}(w:World)(t e:TypeId)(c:TypeInfo)(hu:P.underlying t=some (.slice e))(a:P.info? e=some c):
  (Instr.buildSlice t 0 #[]).run P w= .ok (.slice (some ⟨w.heap.size,0,none⟩) 0 0) (w.alloc (.cells #[] e)):=by
 have b:∀cs:Array Value,(newRow e cs).run P w= .ok ⟨w.heap.size,0,none⟩ (w.alloc (.cells cs e)):=fun cs=>rfl;simp[Instr.buildSlice,run_underlying hu,sizeOf,typeInfo,a,Result.andThen,Instr.fill,b];rw[show(Array.range 0).map (fun _=>(default:Value))=#[]from Array.eq_empty_of_size_eq_zero (by simp)]
theorem mK{P:Program}{f:Oper}{a:Act}{w:World}{K:Act→World→Prop}{Q:Exit→Act→World→Prop}(t e:TypeId)(d:f.op= .buildSlice t 0 #[])(c:TypeInfo)
  (hu:P.underlying t=some (.slice e))(b:P.info? e=some c)(h:∀w',dd w w' e #[]→K (a.put f.dst (.slice (some ⟨w.heap.size,0,none⟩) 0 0)) w'):f.wp P a w K Q:=by
 unfold Oper.wp;simp[execOp,d,qJ w t e c hu b,Result.andThen];exact h _ (dd.alloc w e #[])
theorem qS{P:Program}{ops:Array Oper}{rest:List Oper}{j:Oper}{a:Act}{w:World}{Q:Exit→Act→World→Prop}(f:j.guard=none)(t e:TypeId)(i:j.op= .buildSlice t 0 #[])(c:TypeInfo)
  (hu:P.underlying t=some (.slice e))(b:P.info? e=some c)(h:∀w',dd w w' e #[]→wpList P ops Q rest (a.put j.dst (.slice (some ⟨w.heap.size,0,none⟩) 0 0)) w'):wpList P ops Q (j::rest) a w:=
 wpList_plain f fun _ d=>mK t e i c hu b fun w' g=>d _ _ (h w' g)
theorem dd.Ft{w w':World}{e:TypeId}{size:Nat}(h:dd w w' e #[]):w'.ownsRow 0 e size (.slice (some ⟨w.heap.size,0,none⟩) 0 0) 0 []:=
 ⟨by simp, .inr ⟨w.heap.size,0,#[],rfl,Nat.zero_le _,h.az,Nat.le_refl _,Nat.zero_le _,by simp,by simp⟩⟩
theorem kW(L:List Ent):(L.flatMap km).length=L.length*6:=by
 induction L with
 |nil=>rfl
 |cons x L a=>rw[List.flatMap_cons,List.length_append,a,fE,List.length_cons];omega
theorem ui(L:List Ent)(k:Nat):(L.take k).flatMap km=(L.flatMap km).take (k*6):=by
 induction L generalizing k with
 |nil=>simp
 |cons x L a=>
  cases k with
  |zero=>simp
  |succ k=>
   rw[List.take_succ_cons,List.flatMap_cons,List.flatMap_cons,a,List.take_append,fE,show(km x).take ((k+1)*6)=km x from List.take_of_length_le (by rw[fE];omega),show(k+1)*6-6=k*6 by omega]
theorem uh(L:List Ent)(k:Nat):(L.drop k).flatMap km=(L.flatMap km).drop (k*6):=by
 induction L generalizing k with
 |nil=>simp
 |cons x L a=>
  cases k with
  |zero=>simp
  |succ k=>
   rw[List.drop_succ_cons,List.flatMap_cons,a,List.drop_append,fE,show(km x).drop ((k+1)*6)=[]from List.drop_of_length_le (by rw[fE];omega),List.nil_append,show(k+1)*6-6=k*6 by omega]
theorem EL.take{w:World}{S:Nat→Prop}{A:Option Addr}{n k:Nat}{L:List Ent}(h:EL w S A n L)(g:k≤n):Rd w S 6 A k ((L.take k).flatMap km):=by
 refine⟨by rw[kW,List.length_take,h.len];omega,fun f=>?_⟩;obtain⟨a,e,d,b⟩:=h.rd.2 (by omega);refine⟨a,e,d,fun j u hu=>b j u ?_⟩;rw[ui]at hu;have c:=(List.getElem?_eq_some_iff.1 hu).1;rw[List.getElem?_take_of_lt (by rw[List.length_take]at c;omega)]at hu;exact hu
theorem EL.drop{w:World}{S:Nat→Prop}{a:Addr}{n k:Nat}{L:List Ent}(h:EL w S (some a) n L)(g:k≤n):Rd w S 6 (some (a.add (k*6))) (n-k) ((L.drop k).flatMap km):=by
 refine⟨by rw[kW,List.length_drop,h.len],fun f=>?_⟩;obtain⟨b,e,d,c⟩:=h.rd.2 (by omega);cases e;refine⟨_,rfl,by unfold Addr.add;split<;>exact d,fun j u hu=>?_⟩;rw[Addr.add_add];refine c _ u ?_;rw[uh,List.getElem?_drop]at hu;exact hu
end Go.Proofs.YtphjagkehiklkaaGreatDoor
