/- Texts. -/
import Derived.Test.YtphjagkehiklkaaGreatDoorYK07
import Derived.Test.YtphjagkehiklkaaGreatDoorYK08
set_option linter.unusedVariables false
set_option linter.unusedSimpArgs false
set_option maxRecDepth 100000
set_option maxHeartbeats 8000000
namespace Go.Proofs.YtphjagkehiklkaaGreatDoor
open Go.RowKit Go.Shelf
def j9(w:World)(v:Value)(L:List Ent):Prop:=∃a b,v= .pointer a∧cq w a b∧b.bA=L
theorem nF{nm:aI}{v:ByteArray}:∀(L:List Ent),(dC nm v L).length≤L.length+1∧dm (dC nm v L)≤v.size+dm L
 |[]=>by simp[dC,dm]
 |y::L=>by
  have h:=nF (nm:=nm) (v:=v) L;rw[dC];split;·simp[dm]
  ·split;·simp[dm]
   ·simp only[dm,List.map_cons,List.sum_cons,List.length_cons]at h⊢;omega
theorem lz{nm:aI}:∀(L:List Ent),(di nm L).length≤L.length∧dm (di nm L)≤dm L
 |[]=>by simp[di]
 |y::L=>by
  have h:=lz (nm:=nm) L;rw[di];split;·simp[dm]
  ·simp only[dm,List.map_cons,List.sum_cons,List.length_cons]at h⊢;omega
theorem jG.parts{L b:List Ent}{x:Ent}(h:jG (L++x::b)):jG L∧jG b∧x.1.owner.size≤1099511627776:=
 ⟨fun y a=>h y (by simp[a]),fun y a=>h y (by simp[a]),h x (by simp)⟩
theorem ke{w:World}{a b:Option Addr}{l r:Tr}{g:Nat}{nm:aI}{v:ByteArray}{X Y:List Ent}(f:cq w a l)(h:cq w b r)(hm:Mid w g nm v)(el:l.bA=X)(d:r.bA=Y)
  (c:X.length+Y.length+1≤1048576)(e:v.size+dm X+dm Y≤1099511627776):Calls Tryz.prog 177 #[.pointer a, .pointer (some ⟨g,0,none⟩), .pointer b] w (Balanced w (X++(nm,v)::Y)):=by
 subst el d;refine yc a b l r g nm v w f h hm ?_ ?_;·rw[Tr.cJ,Tr.cJ]at c;exact c
 ·rw[Tr.dz,Tr.dz];exact e
theorem Hd(nm:aI)(v:ByteArray)(g:Nat)(aP:nm.owner.size≤1099511627776)(t:Tr):∀(a:Option Addr)(w:World),cq w a t→Mid w g nm v→cQ t.bA→jG t.bA→t.size+1≤1048576→v.size+t.bytes≤1099511627776→
  Calls Tryz.prog 163 #[.pointer a, .pointer (some ⟨g,0,none⟩)] w (Balanced w (dC nm v t.bA)):=by
 induction t with
 |leaf=>
  intro a w aN ax _ _ _ ay;obtain rfl:a=none:=aN;refine(DT nm v g w ax (by simp only[Tr.bytes]at ay;omega)).mono ?_;rintro e w'⟨a,rfl,o,p⟩;exact⟨a,_,rfl,o,rfl,p⟩
 |node l n Q r ao ap=>
  intro a w aN ax aW aV aY ay;have aQ:l.size+r.size+2≤1048576:=by simp only[Tr.size]at aY;omega
  have aO:v.size+Q.size+l.bytes+r.bytes≤1099511627776:=by simp only[Tr.bytes]at ay;omega
  have K:=af (cQ.parts aW);have T:=af (jG.parts aV);obtain⟨s,N,P,rfl,z,aX,M⟩:=aN;have aD:=af z;have aG:=af aX;have aw:=af ax;have aF:Hid (Mid w s n Q):=Mid.of M;have aB:Hid (w.cell? ⟨s,0,none⟩=some (.pointer N)):=M.cell 0;have aC:Hid (w.cell? ⟨s,1,none⟩=some (.pointer P)):=M.cell 1;have aT:Hid (∀w',Calls Tryz.prog 128 #[.agg nm.cells.toArray, .agg n.cells.toArray] w' (aK w' (.int .i64 (bX nm n)))):=fun w'=>gT nm n w' aP T.out.2.2;have a4:Hid (∀w',Fr ag w w'→Calls Tryz.prog 163 #[.pointer N, .pointer (some ⟨g,0,none⟩)] w' (Balanced w' (dC nm v l.bA))):=fun w' f=>ao N w' (aD.out.aq f) (aw.out.aq f) K.out.1 T.out.1 (by omega) (by omega);have a6:Hid (∀w',Fr ag w w'→Calls Tryz.prog 163 #[.pointer P, .pointer (some ⟨g,0,none⟩)] w' (Balanced w' (dC nm v r.bA))):=fun w' f=>ap P w' (aG.out.aq f) (aw.out.aq f) K.out.2.1 T.out.2.1 (by omega) (by omega);have a0:Hid (∀w' b u,Fr ag w w'→cq w' b u→u.bA=dC nm v l.bA→Calls Tryz.prog 177 #[.pointer b, .pointer (some ⟨s,0,none⟩), .pointer P] w' (Balanced w' (dC nm v l.bA++(n,Q)::r.bA))):=fun w' b u f o e=>by
   have A:=nF (nm:=nm) (v:=v) l.bA;rw[Tr.cJ,←Tr.dz]at A;exact ke o (aG.out.aq f) (aF.out.aq f) e rfl (by rw[Tr.cJ];omega) (by rw[←Tr.dz];omega)
  have a1:Hid (∀w' b u,Fr ag w w'→cq w' b u→u.bA=dC nm v r.bA→Calls Tryz.prog 177 #[.pointer N, .pointer (some ⟨s,0,none⟩), .pointer b] w' (Balanced w' (l.bA++(n,Q)::dC nm v r.bA))):=fun w' b u f o e=>by
   have A:=nF (nm:=nm) (v:=v) r.bA;rw[Tr.cJ,←Tr.dz]at A;exact ke (aD.out.aq f) o (aF.out.aq f) rfl e (by rw[Tr.cJ];omega) (by rw[←Tr.dz];omega)
  have a3:Hid (∀w',Fr ag w w'→Calls Tryz.prog 178 #[.pointer N, .pointer (some ⟨g,0,none⟩), .pointer P] w' (fun e ar=>∃a,e= .returned (.pointer a)∧cq ar a (.node l nm v r)∧Fr ag w' ar)):=fun w' f=>fw w' N P l r g nm v (aD.out.aq f) (aG.out.aq f) (aw.out.aq f) (by omega) (by omega);obtain⟨J,ab⟩:∃J,J=bX nm n:=⟨_,rfl⟩;rw[←ab]at aT;have R:=af ab;clear z aX ax M aW aV aY ay aQ aO ab ao ap;go_enter Tryz.func163,Tryz.ntmps163;go_upto_region 3 with fail;refine aE 10 ag [Is (.pointer (some ⟨g,0,none⟩)),Is (.pointer (some ⟨g,0,none⟩)),Is (.pointer (some ⟨g,2,none⟩)),Is (.agg nm.cells.toArray),Is (.pointer (some ⟨s,0,none⟩)),Is (.pointer (some ⟨s,0,none⟩)),Is (.pointer (some ⟨s,2,none⟩)),Is (.agg n.cells.toArray),Is (.int .i64 J),Is (.int .i64 J)] [] (fun _=>True) (fun _ _=>false) (by kernel_rfl) (by kernel_rfl) (by kernel_rfl) (by kernel_rfl) ⟨Is.ah _,Is.ah _,Is.ah _,Is.ah _,Is.ah _,Is.ah _,Is.ah _,Is.ah _,Is.ah _,Is.ah _,trivial⟩ trivial (fun _ _ _ _ h=>h) trivial ?_ ?_
  ·refine⟨?_,?_,?_,?_,?_,?_,?_,?_,?_,?_,trivial⟩;all_goals intro u w' d p c m k i
   all_goals simp only[bJ,bK,bL,bM,au,Act.put,bN,bO,bP,Nat.reduceAdd,Nat.zero_add]
   ·clear c m k i;refine aj ?_;go_simp;exact⟨_,rfl,al⟩
   ·have V:u 0=_:=c 0;clear c m k i;simp only[V];refine aj ?_;go_simp;exact⟨_,rfl,al⟩
   ·have A:u 1=_:=c 1;clear c m k i;simp only[A];refine aj ?_;go_simp;exact⟨_,rfl,al⟩
   ·have E:u 2=_:=c 2;clear c m k i;simp only[E];refine aj ?_;exact az _ _ rfl ⟨g,2,none⟩ rfl nm.cells _ (fun j x aR=>by rw[Addr.add_mid];exact p.an (aw.out.name j x aR) (fun x=>x)) Tryz.underlying106 rfl bB ⟨_,rfl,al⟩
   ·clear c m k i;refine aj ?_;go_simp;exact⟨_,rfl,al⟩
   ·have X:u 4=_:=c 4;clear c m k i;simp only[X];refine aj ?_;go_simp;exact⟨_,rfl,al⟩
   ·have am:u 5=_:=c 5;clear c m k i;simp only[am];refine aj ?_;go_simp;exact⟨_,rfl,al⟩
   ·have Y:u 6=_:=c 6;clear c m k i;simp only[Y];refine aj ?_;exact az _ _ rfl ⟨s,2,none⟩ rfl n.cells _ (fun j x aR=>by rw[Addr.add_mid];exact p.an (aF.out.name j x aR) (fun x=>x)) Tryz.underlying106 rfl bB ⟨_,rfl,al⟩
   ·have W:u 3=_:=c 3;have Z:u 7=_:=c 7;clear c m k i;simp only[W,Z];refine aj ?_;go_simp;refine(aT.out _).mono ?_;rintro e av⟨rfl,f4⟩;exact⟨_,rfl,f4.bI,rfl,trivial⟩
   ·have aa:u 8=_:=c 8;clear c m k i;simp only[aa];refine aj ?_;go_simp;exact⟨_,rfl,al⟩
  ·intro u w' p c i;have aZ:u 9=_:=c 9 (by omega);clear c i;simp only[bJ,bK,bL,bM,au,Act.put,bN,bO,bP,dL,dM,Nat.reduceAdd,Nat.zero_add,aZ];have D:=af p;clear p aZ;by_cases A:J<0
   ·have t1:decide (J<0)=true:=decide_eq_true A;have H1:=af A;clear A;go_upto_region 5 with fail;refine aE 13 ag [Is (.pointer (some ⟨s,0,none⟩)),Is (.pointer (some ⟨s,0,none⟩)),Is (.pointer (some ⟨s,0,none⟩)),Is (.pointer N),Is (.pointer (some ⟨g,0,none⟩)),(fun C B=>j9 B C (dC nm v l.bA)),Is (.pointer (some ⟨s,0,none⟩)),Is (.pointer (some ⟨s,0,none⟩)),Is (.pointer (some ⟨s,0,none⟩)),Is (.pointer (some ⟨s,1,none⟩)),Is (.pointer P),(fun C B=>j9 B C ((dC nm v l.bA++(n,Q)::r.bA))),(fun C B=>j9 B C ((dC nm v l.bA++(n,Q)::r.bA)))] [] (fun _=>True) (fun _ _=>false) (by kernel_rfl) (by kernel_rfl) (by kernel_rfl) (by kernel_rfl) ⟨Is.ah _,Is.ah _,Is.ah _,Is.ah _,Is.ah _,fun v w1 w2 _ f h=>by obtain⟨a,t,e,o,z⟩:=h;exact⟨a,t,e,o.aq f,z⟩,Is.ah _,Is.ah _,Is.ah _,Is.ah _,Is.ah _,fun v w1 w2 _ f h=>by obtain⟨a,t,e,o,z⟩:=h;exact⟨a,t,e,o.aq f,z⟩,fun v w1 w2 _ f h=>by obtain⟨a,t,e,o,z⟩:=h;exact⟨a,t,e,o.aq f,z⟩,trivial⟩ trivial (fun _ _ _ _ h=>h) trivial ?_ ?_
    ·refine⟨?_,?_,?_,?_,?_,?_,?_,?_,?_,?_,?_,?_,?_,trivial⟩;all_goals intro u w' d p c m k i
     all_goals simp only[bJ,bK,bL,bM,au,Act.put,bN,bO,bP,Nat.reduceAdd,Nat.zero_add]
     ·clear c m k i;refine aj ?_;go_simp;exact⟨_,rfl,al⟩
     ·have V:u 0=_:=c 0;clear c m k i;simp only[V];refine aj ?_;go_simp;exact⟨_,rfl,al⟩
     ·have A:u 1=_:=c 1;clear c m k i;simp only[A];refine aj ?_;go_simp;exact⟨_,rfl,al⟩
     ·have E:u 2=_:=c 2;clear c m k i;simp only[E];refine aj ?_;have q:=p.an (D.out.an aB.out (fun x=>x)) (fun x=>x);go_simp;exact⟨_,rfl,al⟩
     ·clear c m k i;refine aj ?_;go_simp;exact⟨_,rfl,al⟩
     ·have W:u 3=_:=c 3;have X:u 4=_:=c 4;clear c m k i;simp only[W,X];refine aj ?_;go_simp;refine(a4.out _ (D.out.trans p)).mono ?_;rintro e av⟨F,ae,rfl,o,z,f4⟩;exact⟨_,rfl,f4.bI,⟨F,ae,rfl,o,z⟩,trivial⟩
     ·clear c m k i;refine aj ?_;go_simp;exact⟨_,rfl,al⟩
     ·clear c m k i;refine aj ?_;go_simp;exact⟨_,rfl,al⟩
     ·have Z:u 7=_:=c 7;clear c m k i;simp only[Z];refine aj ?_;go_simp;exact⟨_,rfl,al⟩
     ·have aa:u 8=_:=c 8;clear c m k i;simp only[aa];refine aj ?_;go_simp;exact⟨_,rfl,al⟩
     ·have aM:u 9=_:=c 9;clear c m k i;simp only[aM];refine aj ?_;have q:=p.an (D.out.an aC.out (fun x=>x)) (fun x=>x);go_simp;exact⟨_,rfl,al⟩
     ·obtain⟨a5,t5,a7,n5,bb⟩:=c 5;have Y:u 6=_:=c 6;have aL:u 10=_:=c 10;clear c m k i;simp only[a7,Y,aL];refine aj ?_;go_simp;refine(a0.out _ _ _ (D.out.trans p) n5 bb).mono ?_;rintro e av⟨F,ae,rfl,o,z,f4⟩;exact⟨_,rfl,f4.bI,⟨F,ae,rfl,o,z⟩,trivial⟩
     ·obtain⟨aJ,t11,U,ad,ac⟩:=c 11;clear c m k i;simp only[U];refine aj ?_;go_simp;exact⟨_,rfl,aA,⟨_,_,rfl,ad,ac⟩,trivial⟩
    ·intro u w' p c i;obtain⟨a12,t12,G,I,H⟩:=c 12 (by omega);clear c i;simp only[bJ,bK,bL,bM,au,Act.put,bN,bO,bP,dL,dM,Nat.reduceAdd,Nat.zero_add,G];have ai:=af (D.out.trans p);have ak:=af I;have S:=af H;clear p I G H;go_wp2;go_ret;refine⟨_,_,rfl,ak.out,?_,ai.out⟩;rw[S.out,Tr.bA,zZ (by have h:=H1.out;rw[R.out]at h;exact h)]
   ·have t1:decide (J<0)=false:=decide_eq_false A;by_cases E:0<J
    ·have t2:decide (0<J)=true:=decide_eq_true E;have a2:=af E;clear A E;go_upto_region 7 with fail;refine aE 13 ag [Is (.pointer (some ⟨s,0,none⟩)),Is (.pointer (some ⟨s,0,none⟩)),Is (.pointer (some ⟨s,0,none⟩)),Is (.pointer N),Is (.pointer (some ⟨s,0,none⟩)),Is (.pointer (some ⟨s,0,none⟩)),Is (.pointer (some ⟨s,0,none⟩)),Is (.pointer (some ⟨s,1,none⟩)),Is (.pointer P),Is (.pointer (some ⟨g,0,none⟩)),(fun C B=>j9 B C (dC nm v r.bA)),(fun C B=>j9 B C ((l.bA++(n,Q)::dC nm v r.bA))),(fun C B=>j9 B C ((l.bA++(n,Q)::dC nm v r.bA)))] [] (fun _=>True) (fun _ _=>false) (by kernel_rfl) (by kernel_rfl) (by kernel_rfl) (by kernel_rfl) ⟨Is.ah _,Is.ah _,Is.ah _,Is.ah _,Is.ah _,Is.ah _,Is.ah _,Is.ah _,Is.ah _,Is.ah _,fun v w1 w2 _ f h=>by obtain⟨a,t,e,o,z⟩:=h;exact⟨a,t,e,o.aq f,z⟩,fun v w1 w2 _ f h=>by obtain⟨a,t,e,o,z⟩:=h;exact⟨a,t,e,o.aq f,z⟩,fun v w1 w2 _ f h=>by obtain⟨a,t,e,o,z⟩:=h;exact⟨a,t,e,o.aq f,z⟩,trivial⟩ trivial (fun _ _ _ _ h=>h) trivial ?_ ?_
     ·refine⟨?_,?_,?_,?_,?_,?_,?_,?_,?_,?_,?_,?_,?_,trivial⟩;all_goals intro u w' d p c m k i
      all_goals simp only[bJ,bK,bL,bM,au,Act.put,bN,bO,bP,Nat.reduceAdd,Nat.zero_add]
      ·clear c m k i;refine aj ?_;go_simp;exact⟨_,rfl,al⟩
      ·have V:u 0=_:=c 0;clear c m k i;simp only[V];refine aj ?_;go_simp;exact⟨_,rfl,al⟩
      ·have A:u 1=_:=c 1;clear c m k i;simp only[A];refine aj ?_;go_simp;exact⟨_,rfl,al⟩
      ·have E:u 2=_:=c 2;clear c m k i;simp only[E];refine aj ?_;have q:=p.an (D.out.an aB.out (fun x=>x)) (fun x=>x);go_simp;exact⟨_,rfl,al⟩
      ·clear c m k i;refine aj ?_;go_simp;exact⟨_,rfl,al⟩
      ·clear c m k i;refine aj ?_;go_simp;exact⟨_,rfl,al⟩
      ·have am:u 5=_:=c 5;clear c m k i;simp only[am];refine aj ?_;go_simp;exact⟨_,rfl,al⟩
      ·have Y:u 6=_:=c 6;clear c m k i;simp only[Y];refine aj ?_;go_simp;exact⟨_,rfl,al⟩
      ·have Z:u 7=_:=c 7;clear c m k i;simp only[Z];refine aj ?_;have q:=p.an (D.out.an aC.out (fun x=>x)) (fun x=>x);go_simp;exact⟨_,rfl,al⟩
      ·clear c m k i;refine aj ?_;go_simp;exact⟨_,rfl,al⟩
      ·have aa:u 8=_:=c 8;have aM:u 9=_:=c 9;clear c m k i;simp only[aa,aM];refine aj ?_;go_simp;refine(a6.out _ (D.out.trans p)).mono ?_;rintro e av⟨F,ae,rfl,o,z,f4⟩;exact⟨_,rfl,f4.bI,⟨F,ae,rfl,o,z⟩,trivial⟩
      ·have W:u 3=_:=c 3;have X:u 4=_:=c 4;obtain⟨aH,t10,L,O,l10⟩:=c 10;clear c m k i;simp only[W,X,L];refine aj ?_;go_simp;refine(a1.out _ _ _ (D.out.trans p) O l10).mono ?_;rintro e av⟨F,ae,rfl,o,z,f4⟩;exact⟨_,rfl,f4.bI,⟨F,ae,rfl,o,z⟩,trivial⟩
      ·obtain⟨aJ,t11,U,ad,ac⟩:=c 11;clear c m k i;simp only[U];refine aj ?_;go_simp;exact⟨_,rfl,aA,⟨_,_,rfl,ad,ac⟩,trivial⟩
     ·intro u w' p c i;obtain⟨a12,t12,G,I,H⟩:=c 12 (by omega);clear c i;simp only[bJ,bK,bL,bM,au,Act.put,bN,bO,bP,dL,dM,Nat.reduceAdd,Nat.zero_add,G];have ai:=af (D.out.trans p);have ak:=af I;have S:=af H;clear p I G H;go_wp2;go_ret;refine⟨_,_,rfl,ak.out,?_,ai.out⟩;have ba:0<bX nm n:=by have h:=a2.out;rw[R.out]at h;exact h
      rw[S.out,Tr.bA,lG _ _ (fun y aS=>gv (cm.trans _ _ _ (K.out.2.2.1 y aS) (kX ba))),dC,if_neg (by simp only;omega),if_neg (by simp only;omega)]
    ·have t2:decide (0<J)=false:=decide_eq_false E;have aU:Hid (nm=n):=cm.eq nm n (by have h:=R.out;omega);clear A E;go_upto_region 8 with fail;refine aE 11 ag [Is (.pointer (some ⟨s,0,none⟩)),Is (.pointer (some ⟨s,0,none⟩)),Is (.pointer (some ⟨s,0,none⟩)),Is (.pointer N),Is (.pointer (some ⟨g,0,none⟩)),Is (.pointer (some ⟨s,0,none⟩)),Is (.pointer (some ⟨s,0,none⟩)),Is (.pointer (some ⟨s,1,none⟩)),Is (.pointer P),(fun C B=>∃F,C= .pointer F∧cq B F (.node l nm v r)),(fun C B=>∃F,C= .pointer F∧cq B F (.node l nm v r))] [] (fun _=>True) (fun _ _=>false) (by kernel_rfl) (by kernel_rfl) (by kernel_rfl) (by kernel_rfl) ⟨Is.ah _,Is.ah _,Is.ah _,Is.ah _,Is.ah _,Is.ah _,Is.ah _,Is.ah _,Is.ah _,fun v w1 w2 _ f h=>by obtain⟨a,e,o⟩:=h;exact⟨a,e,o.aq f⟩,fun v w1 w2 _ f h=>by obtain⟨a,e,o⟩:=h;exact⟨a,e,o.aq f⟩,trivial⟩ trivial (fun _ _ _ _ h=>h) trivial ?_ ?_
     ·refine⟨?_,?_,?_,?_,?_,?_,?_,?_,?_,?_,?_,trivial⟩;all_goals intro u w' d p c m k i
      all_goals simp only[bJ,bK,bL,bM,au,Act.put,bN,bO,bP,Nat.reduceAdd,Nat.zero_add]
      ·clear c m k i;refine aj ?_;go_simp;exact⟨_,rfl,al⟩
      ·have V:u 0=_:=c 0;clear c m k i;simp only[V];refine aj ?_;go_simp;exact⟨_,rfl,al⟩
      ·have A:u 1=_:=c 1;clear c m k i;simp only[A];refine aj ?_;go_simp;exact⟨_,rfl,al⟩
      ·have E:u 2=_:=c 2;clear c m k i;simp only[E];refine aj ?_;have q:=p.an (D.out.an aB.out (fun x=>x)) (fun x=>x);go_simp;exact⟨_,rfl,al⟩
      ·clear c m k i;refine aj ?_;go_simp;exact⟨_,rfl,al⟩
      ·clear c m k i;refine aj ?_;go_simp;exact⟨_,rfl,al⟩
      ·have am:u 5=_:=c 5;clear c m k i;simp only[am];refine aj ?_;go_simp;exact⟨_,rfl,al⟩
      ·have Y:u 6=_:=c 6;clear c m k i;simp only[Y];refine aj ?_;go_simp;exact⟨_,rfl,al⟩
      ·have Z:u 7=_:=c 7;clear c m k i;simp only[Z];refine aj ?_;have q:=p.an (D.out.an aC.out (fun x=>x)) (fun x=>x);go_simp;exact⟨_,rfl,al⟩
      ·have W:u 3=_:=c 3;have X:u 4=_:=c 4;have aa:u 8=_:=c 8;clear c m k i;simp only[W,X,aa];refine aj ?_;go_simp;refine(a3.out _ (D.out.trans p)).mono ?_;rintro e av⟨a,rfl,o,f4⟩;exact⟨_,rfl,f4.bI,⟨a,rfl,o⟩,trivial⟩
      ·obtain⟨a9,a8,bc⟩:=c 9;clear c m k i;simp only[a8];refine aj ?_;go_simp;exact⟨_,rfl,aA,⟨_,rfl,bc⟩,trivial⟩
     ·intro u w' p c i;obtain⟨aH,L,O⟩:=c 10 (by omega);clear c i;simp only[bJ,bK,bL,bM,au,Act.put,bN,bO,bP,dL,dM,Nat.reduceAdd,Nat.zero_add,L];have ai:=af (D.out.trans p);have ak:=af O;clear p O L;go_wp2;go_ret;refine⟨_,_,rfl,ak.out,?_,ai.out⟩;rw[Tr.bA,Tr.bA,lG _ _ (fun y aS=>by rw[aU.out];exact gv (K.out.2.2.1 y aS)),dC,aU.out];simp only[cm.refl];rfl
theorem yZ(t:Tr):∀(nm:aI)(a:Option Addr)(w:World),nm.owner.size≤1099511627776→(∃v,(nm,v)∈t.bA)→cq w a t→cQ t.bA→jG t.bA→t.size≤1048575→t.bytes≤1099511627776→
  Calls Tryz.prog 162 #[.pointer a, .agg nm.cells.toArray] w (Balanced w (di nm t.bA)):=by
 induction t with
 |leaf=>
  intro nm a w _ h;obtain⟨v,h⟩:=h;cases h
 |node l s N r a7 a8=>
  intro nm a w ac ak bg b3 b2 b6 b4;have a4:l.size+r.size+1≤1048575:=by simp only[Tr.size]at b6;omega
  have a2:N.size+l.bytes+r.bytes≤1099511627776:=by simp only[Tr.bytes]at b4;omega
  have K:=af (cQ.parts b3);have Z:=af (jG.parts b2);have aP:=af ak;obtain⟨C,am,aH,rfl,B,b5,ab⟩:=bg;have be:=af B;have aS:=af b5;have bk:Hid (Mid w C s N):=Mid.of ab;have bd:Hid (w.cell? ⟨C,0,none⟩=some (.pointer am)):=ab.cell 0;have aM:Hid (w.cell? ⟨C,1,none⟩=some (.pointer aH)):=ab.cell 1;have bR:Hid (∀w',Calls Tryz.prog 128 #[.agg nm.cells.toArray, .agg s.cells.toArray] w' (aK w' (.int .i64 (bX nm s)))):=fun w'=>gT nm s w' ac Z.out.2.2;obtain⟨L,aB⟩:∃L,L=bX nm s:=⟨_,rfl⟩;rw[←aB]at bR;have O:=af aB;have a9:Hid (L<0→∃v,(nm,v)∈l.bA):=fun h=>by
   obtain⟨v,F⟩:=aP.out;rw[O.out]at h;simp only[Tr.bA,List.mem_append,List.mem_cons]at F;rcases F with F|F|F;·exact⟨v,F⟩
   ·simp only[Prod.mk.injEq]at F;rw[F.1,cm.refl]at h;omega
   ·have H:=K.out.2.2.2 _ F;have ai:=cm.lg nm s;simp only at H;omega
  have bz:Hid (0<L→∃v,(nm,v)∈r.bA):=fun h=>by
   obtain⟨v,F⟩:=aP.out;rw[O.out]at h;simp only[Tr.bA,List.mem_append,List.mem_cons]at F;rcases F with F|F|F;·have H:=K.out.2.2.1 _ F;simp only at H;omega
   ·simp only[Prod.mk.injEq]at F;rw[F.1,cm.refl]at h;omega
   ·exact⟨v,F⟩
  have ca:Hid (∀w',L<0→Fr ag w w'→Calls Tryz.prog 162 #[.pointer am, .agg nm.cells.toArray] w' (Balanced w' (di nm l.bA))):=fun w' ch f=>a7 nm am w' ac (a9.out ch) (be.out.aq f) K.out.1 Z.out.1 (by omega) (by omega);have bZ:Hid (∀w' n,n.owner.size≤1099511627776→(∃v,(n,v)∈r.bA)→Fr ag w w'→Calls Tryz.prog 162 #[.pointer aH, .agg n.cells.toArray] w' (Balanced w' (di n r.bA))):=fun w' n p hm f=>a8 n aH w' p hm (aS.out.aq f) K.out.2.1 Z.out.2.1 (by omega) (by omega);have b8:Hid (∀w' b u,Fr ag w w'→cq w' b u→u.bA=di nm l.bA→Calls Tryz.prog 177 #[.pointer b, .pointer (some ⟨C,0,none⟩), .pointer aH] w' (Balanced w' (di nm l.bA++(s,N)::r.bA))):=fun w' b u f p e=>by
   have E:=lz (nm:=nm) l.bA;rw[Tr.cJ,←Tr.dz]at E;exact ke p (aS.out.aq f) (bk.out.aq f) e rfl (by rw[Tr.cJ];omega) (by rw[←Tr.dz];omega)
  have b9:Hid (∀w' b u n m v,Fr ag w w'→Mid w' m n v→v.size≤N.size+r.bytes→dm (di n r.bA)+v.size≤N.size+r.bytes→cq w' b u→u.bA=di n r.bA→Calls Tryz.prog 177 #[.pointer am, .pointer (some ⟨m,0,none⟩), .pointer b] w' (Balanced w' (l.bA++(n,v)::di n r.bA))):=fun w' b u n m v f hm _ F p e=>by
   have E:=lz (nm:=n) r.bA;rw[Tr.cJ,←Tr.dz]at E;exact ke (be.out.aq f) p hm rfl e (by rw[Tr.cJ];omega) (by rw[←Tr.dz];omega)
  have bl:=af ac;have bm:=af a4;have bi:=af a2;clear B b5 ab b3 b2 b6 b4 a4 a2 aB a7 a8 ak ac;go_enter Tryz.func162,Tryz.ntmps162;go_wp2_with(refine ay rfl 106 (.tmp 1) rfl nm.cells.toArray rfl ?_);intro w1 n1;have bT:=af n1.fr;have aU:=af n1.aF;clear n1;generalize w.heap.size=bf at*;have bY:Hid (ao w1 bf 106 nm.cells.toArray):=aU.out;clear aU;go_upto_region 1 with fail;refine aE 7 ag [Is (.agg nm.cells.toArray),Is (.pointer (some ⟨C,0,none⟩)),Is (.pointer (some ⟨C,0,none⟩)),Is (.pointer (some ⟨C,2,none⟩)),Is (.agg s.cells.toArray),Is (.int .i64 L),Is (.int .i64 L)] [] (fun _=>True) (fun _ _=>false) (by kernel_rfl) (by kernel_rfl) (by kernel_rfl) (by kernel_rfl) ⟨Is.ah _,Is.ah _,Is.ah _,Is.ah _,Is.ah _,Is.ah _,Is.ah _,trivial⟩ trivial (fun _ _ _ _ h=>h) trivial ?_ ?_
  ·refine⟨?_,?_,?_,?_,?_,?_,?_,trivial⟩;all_goals intro u w' d A c o k g
   all_goals simp only[bJ,bK,bL,bM,au,Act.put,bN,bO,bP,Nat.reduceAdd,Nat.zero_add]
   ·clear c o k g;refine aj ?_;exact az _ _ rfl ⟨bf,0,none⟩ rfl nm.cells _ (fun j x ad=>by rw[Addr.add_mid,Nat.zero_add];exact(bY.out.fr A (fun x=>x)).cell j|>.trans (by rw[bD];exact ad)) Tryz.underlying106 rfl bB ⟨_,rfl,al⟩
   ·clear c o k g;refine aj ?_;go_simp;exact⟨_,rfl,al⟩
   ·have E:u 1=_:=c 1;clear c o k g;simp only[E];refine aj ?_;go_simp;exact⟨_,rfl,al⟩
   ·have H:u 2=_:=c 2;clear c o k g;simp only[H];refine aj ?_;go_simp;exact⟨_,rfl,al⟩
   ·have ai:u 3=_:=c 3;clear c o k g;simp only[ai];refine aj ?_;exact az _ _ rfl ⟨C,2,none⟩ rfl s.cells _ (fun j x ad=>by rw[Addr.add_mid];exact(bT.out.trans A).an (bk.out.name j x ad) (fun x=>x)) Tryz.underlying106 rfl bB ⟨_,rfl,al⟩
   ·have ar:u 0=_:=c 0;have aw:u 4=_:=c 4;clear c o k g;simp only[ar,aw];refine aj ?_;go_simp;refine(bR.out _).mono ?_;rintro e aL⟨rfl,f4⟩;exact⟨_,rfl,f4.bI,rfl,trivial⟩
   ·have aX:u 5=_:=c 5;clear c o k g;simp only[aX];refine aj ?_;go_simp;exact⟨_,rfl,al⟩
  ·intro u w' A c g;have k6:u 6=_:=c 6 (by omega);clear c g;simp only[bJ,bK,bL,bM,au,Act.put,bN,bO,bP,dL,dM,Nat.reduceAdd,Nat.zero_add,k6];have G:=af (bT.out.trans A);have aV:=af (bY.out.fr A (fun x=>x));clear A k6;by_cases E:L<0
   ·have t1:decide (L<0)=true:=decide_eq_true E;have H1:=af E;clear E;go_upto_region 3 with fail;refine aE 13 ag [Is (.pointer (some ⟨C,0,none⟩)),Is (.pointer (some ⟨C,0,none⟩)),Is (.pointer (some ⟨C,0,none⟩)),Is (.pointer am),Is (.agg nm.cells.toArray),(fun J I=>j9 I J (di nm l.bA)),Is (.pointer (some ⟨C,0,none⟩)),Is (.pointer (some ⟨C,0,none⟩)),Is (.pointer (some ⟨C,0,none⟩)),Is (.pointer (some ⟨C,1,none⟩)),Is (.pointer aH),(fun J I=>j9 I J ((di nm l.bA++(s,N)::r.bA))),(fun J I=>j9 I J ((di nm l.bA++(s,N)::r.bA)))] [] (fun _=>True) (fun _ _=>false) (by kernel_rfl) (by kernel_rfl) (by kernel_rfl) (by kernel_rfl) ⟨Is.ah _,Is.ah _,Is.ah _,Is.ah _,Is.ah _,fun v w1 w2 _ f h=>by obtain⟨a,t,e,p,B⟩:=h;exact⟨a,t,e,p.aq f,B⟩,Is.ah _,Is.ah _,Is.ah _,Is.ah _,Is.ah _,fun v w1 w2 _ f h=>by obtain⟨a,t,e,p,B⟩:=h;exact⟨a,t,e,p.aq f,B⟩,fun v w1 w2 _ f h=>by obtain⟨a,t,e,p,B⟩:=h;exact⟨a,t,e,p.aq f,B⟩,trivial⟩ trivial (fun _ _ _ _ h=>h) trivial ?_ ?_
    ·refine⟨?_,?_,?_,?_,?_,?_,?_,?_,?_,?_,?_,?_,?_,trivial⟩;all_goals intro u w' d A c o k g
     all_goals simp only[bJ,bK,bL,bM,au,Act.put,bN,bO,bP,Nat.reduceAdd,Nat.zero_add]
     ·clear c o k g;refine aj ?_;go_simp;exact⟨_,rfl,al⟩
     ·have ar:u 0=_:=c 0;clear c o k g;simp only[ar];refine aj ?_;go_simp;exact⟨_,rfl,al⟩
     ·have E:u 1=_:=c 1;clear c o k g;simp only[E];refine aj ?_;go_simp;exact⟨_,rfl,al⟩
     ·have H:u 2=_:=c 2;clear c o k g;simp only[H];refine aj ?_;have q:=A.an (G.out.an bd.out (fun x=>x)) (fun x=>x);go_simp;exact⟨_,rfl,al⟩
     ·clear c o k g;refine aj ?_;exact az _ _ rfl ⟨bf,0,none⟩ rfl nm.cells _ (fun j x ad=>by rw[Addr.add_mid,Nat.zero_add];exact(aV.out.fr A (fun x=>x)).cell j|>.trans (by rw[bD];exact ad)) Tryz.underlying106 rfl bB ⟨_,rfl,al⟩
     ·have ai:u 3=_:=c 3;have aw:u 4=_:=c 4;clear c o k g;simp only[ai,aw];refine aj ?_;go_simp;refine(ca.out _ H1.out (G.out.trans A)).mono ?_;rintro e aL⟨V,W,rfl,p,B,f4⟩;exact⟨_,rfl,f4.bI,⟨V,W,rfl,p,B⟩,trivial⟩
     ·clear c o k g;refine aj ?_;go_simp;exact⟨_,rfl,al⟩
     ·clear c o k g;refine aj ?_;go_simp;exact⟨_,rfl,al⟩
     ·have aZ:u 7=_:=c 7;clear c o k g;simp only[aZ];refine aj ?_;go_simp;exact⟨_,rfl,al⟩
     ·have a0:u 8=_:=c 8;clear c o k g;simp only[a0];refine aj ?_;go_simp;exact⟨_,rfl,al⟩
     ·have a1:u 9=_:=c 9;clear c o k g;simp only[a1];refine aj ?_;have q:=A.an (G.out.an aM.out (fun x=>x)) (fun x=>x);go_simp;exact⟨_,rfl,al⟩
     ·obtain⟨a5,t5,cf,n5,cj⟩:=c 5;have aY:u 6=_:=c 6;have av:u 10=_:=c 10;clear c o k g;simp only[cf,aY,av];refine aj ?_;go_simp;refine(b8.out _ _ _ (G.out.trans A) n5 cj).mono ?_;rintro e aL⟨V,W,rfl,p,B,f4⟩;exact⟨_,rfl,f4.bI,⟨V,W,rfl,p,B⟩,trivial⟩
     ·obtain⟨bp,t11,ap,aG,aD⟩:=c 11;clear c o k g;simp only[ap];refine aj ?_;go_simp;exact⟨_,rfl,aA,⟨_,_,rfl,aG,aD⟩,trivial⟩
    ·intro u w' A c g;obtain⟨a12,t12,R,T,S⟩:=c 12 (by omega);clear c g;simp only[bJ,bK,bL,bM,au,Act.put,bN,bO,bP,dL,dM,Nat.reduceAdd,Nat.zero_add,R];have aO:=af (G.out.trans A);have aR:=af T;have Q:=af S;clear A T R S;go_wp2;go_ret;refine⟨_,_,rfl,aR.out,?_,aO.out⟩;have p:bX nm s<0:=by have h:=H1.out;rw[O.out]at h;exact h
     rw[Q.out,Tr.bA,zL _ _ (fun y aC=>?_) (a9.out H1.out)];rcases List.mem_cons.1 aC with rfl|aC;·exact p
     ·exact cm.trans _ _ _ p (K.out.2.2.2 y aC)
   ·have t1:decide (L<0)=false:=decide_eq_false E;by_cases H:0<L
    ·have t2:decide (0<L)=true:=decide_eq_true H;have bU:=af H;have bh:Hid (∀w' b u,Fr ag w w'→cq w' b u→u.bA=di nm r.bA→Calls Tryz.prog 177 #[.pointer am, .pointer (some ⟨C,0,none⟩), .pointer b] w' (Balanced w' (l.bA++(s,N)::di nm r.bA))):=fun w' b u f p e=>by
      have E:=lz (nm:=nm) r.bA;rw[Tr.cJ,←Tr.dz]at E;exact ke (be.out.aq f) p (bk.out.aq f) rfl e (by have h:=bm.out;rw[Tr.cJ];omega) (by have h:=bi.out;rw[←Tr.dz];omega)
     clear E H;go_upto_region 5 with fail;refine aE 13 ag [Is (.pointer (some ⟨C,0,none⟩)),Is (.pointer (some ⟨C,0,none⟩)),Is (.pointer (some ⟨C,0,none⟩)),Is (.pointer am),Is (.pointer (some ⟨C,0,none⟩)),Is (.pointer (some ⟨C,0,none⟩)),Is (.pointer (some ⟨C,0,none⟩)),Is (.pointer (some ⟨C,1,none⟩)),Is (.pointer aH),Is (.agg nm.cells.toArray),(fun J I=>j9 I J (di nm r.bA)),(fun J I=>j9 I J ((l.bA++(s,N)::di nm r.bA))),(fun J I=>j9 I J ((l.bA++(s,N)::di nm r.bA)))] [] (fun _=>True) (fun _ _=>false) (by kernel_rfl) (by kernel_rfl) (by kernel_rfl) (by kernel_rfl) ⟨Is.ah _,Is.ah _,Is.ah _,Is.ah _,Is.ah _,Is.ah _,Is.ah _,Is.ah _,Is.ah _,Is.ah _,fun v w1 w2 _ f h=>by obtain⟨a,t,e,p,B⟩:=h;exact⟨a,t,e,p.aq f,B⟩,fun v w1 w2 _ f h=>by obtain⟨a,t,e,p,B⟩:=h;exact⟨a,t,e,p.aq f,B⟩,fun v w1 w2 _ f h=>by obtain⟨a,t,e,p,B⟩:=h;exact⟨a,t,e,p.aq f,B⟩,trivial⟩ trivial (fun _ _ _ _ h=>h) trivial ?_ ?_
     ·refine⟨?_,?_,?_,?_,?_,?_,?_,?_,?_,?_,?_,?_,?_,trivial⟩;all_goals intro u w' d A c o k g
      all_goals simp only[bJ,bK,bL,bM,au,Act.put,bN,bO,bP,Nat.reduceAdd,Nat.zero_add]
      ·clear c o k g;refine aj ?_;go_simp;exact⟨_,rfl,al⟩
      ·have ar:u 0=_:=c 0;clear c o k g;simp only[ar];refine aj ?_;go_simp;exact⟨_,rfl,al⟩
      ·have E:u 1=_:=c 1;clear c o k g;simp only[E];refine aj ?_;go_simp;exact⟨_,rfl,al⟩
      ·have H:u 2=_:=c 2;clear c o k g;simp only[H];refine aj ?_;have q:=A.an (G.out.an bd.out (fun x=>x)) (fun x=>x);go_simp;exact⟨_,rfl,al⟩
      ·clear c o k g;refine aj ?_;go_simp;exact⟨_,rfl,al⟩
      ·clear c o k g;refine aj ?_;go_simp;exact⟨_,rfl,al⟩
      ·have aX:u 5=_:=c 5;clear c o k g;simp only[aX];refine aj ?_;go_simp;exact⟨_,rfl,al⟩
      ·have aY:u 6=_:=c 6;clear c o k g;simp only[aY];refine aj ?_;go_simp;exact⟨_,rfl,al⟩
      ·have aZ:u 7=_:=c 7;clear c o k g;simp only[aZ];refine aj ?_;have q:=A.an (G.out.an aM.out (fun x=>x)) (fun x=>x);go_simp;exact⟨_,rfl,al⟩
      ·clear c o k g;refine aj ?_;exact az _ _ rfl ⟨bf,0,none⟩ rfl nm.cells _ (fun j x ad=>by rw[Addr.add_mid,Nat.zero_add];exact(aV.out.fr A (fun x=>x)).cell j|>.trans (by rw[bD];exact ad)) Tryz.underlying106 rfl bB ⟨_,rfl,al⟩
      ·have a0:u 8=_:=c 8;have a1:u 9=_:=c 9;clear c o k g;simp only[a0,a1];refine aj ?_;go_simp;refine(bZ.out _ nm bl.out (bz.out bU.out) (G.out.trans A)).mono ?_;rintro e aL⟨V,W,rfl,p,B,f4⟩;exact⟨_,rfl,f4.bI,⟨V,W,rfl,p,B⟩,trivial⟩
      ·have ai:u 3=_:=c 3;have aw:u 4=_:=c 4;obtain⟨cb,t10,bq,bF,l10⟩:=c 10;clear c o k g;simp only[ai,aw,bq];refine aj ?_;go_simp;refine(bh.out _ _ _ (G.out.trans A) bF l10).mono ?_;rintro e aL⟨V,W,rfl,p,B,f4⟩;exact⟨_,rfl,f4.bI,⟨V,W,rfl,p,B⟩,trivial⟩
      ·obtain⟨bp,t11,ap,aG,aD⟩:=c 11;clear c o k g;simp only[ap];refine aj ?_;go_simp;exact⟨_,rfl,aA,⟨_,_,rfl,aG,aD⟩,trivial⟩
     ·intro u w' A c g;obtain⟨a12,t12,R,T,S⟩:=c 12 (by omega);clear c g;simp only[bJ,bK,bL,bM,au,Act.put,bN,bO,bP,dL,dM,Nat.reduceAdd,Nat.zero_add,R];have aO:=af (G.out.trans A);have aR:=af T;have Q:=af S;clear A T R S;go_wp2;go_ret;refine⟨_,_,rfl,aR.out,?_,aO.out⟩;have ci:0<bX nm s:=by have h:=bU.out;rw[O.out]at h;exact h
      rw[Q.out,Tr.bA,qX _ _ (fun y aC=>gv (cm.trans _ _ _ (K.out.2.2.1 y aC) (kX ci))),di,if_neg (by simp only;omega)]
    ·have t2:decide (0<L)=false:=decide_eq_false H;have bV:Hid (nm=s):=cm.eq nm s (by have h:=O.out;omega);have bS:Hid (di nm (Tr.node l s N r).bA=l.bA++r.bA):=by
      simp only[Hid];rw[Tr.bA,qX _ _ (fun y aC=>by rw[bV.out];exact gv (K.out.2.2.1 y aC)),di,bV.out];simp only[cm.refl];rfl
     clear E H;cases r with
     |leaf=>
      obtain rfl:aH=none:=aS.out;have ct:=G.out.an bd.out (fun x=>x);have b0:=G.out.an aM.out (fun x=>x);go_wp2;go_ret;refine⟨_,l,rfl,be.out.aq G.out,?_,G.out⟩;rw[bS.out,Tr.bA,List.append_nil]
     |node X D Y rr=>
      have b0:=G.out.an aM.out (fun x=>x);obtain⟨cg,ck,cl,bv,_,_,_⟩:=aS.out;subst bv;go_wp2;clear b0;go_loopw[6](fun i wr=>∃(b:Option Addr)(u ul bc:Tr)(z:aI)(U:ByteArray)(M:List Ent),i= .pointer b∧u= .node ul z U bc∧cq wr b u∧(Tr.node X D Y rr).bA=u.bA++M∧Fr ag w wr)(fun i wr=>Ge wr i);case atStart=>exact⟨_,_,X,rr,D,Y,[],rfl,rfl,aS.out.aq G.out,by simp,G.out⟩
      case round=>
       obtain⟨b,u,ul,bc,z,U,M,rfl,rfl,bg,b1,a3⟩:=hrel;have bj:=af (re bg);obtain⟨ae,b7,cw,rfl,a6,bx,ax⟩:=bg;have aa:=af a6;have bW:Hid (Mid wr ae z U):=Mid.of ax;have cv:wr.cell? ⟨ae,0,none⟩=some (.pointer b7):=ax.cell 0;have aQ:=af b1;have aJ:=af a3;clear a6 bx ax b1 a3;cases ul with
       |leaf=>
        obtain rfl:b7=none:=aa.out;have P:Hid ((Tr.node X D Y rr).bA=(z,U)::(bc.bA++M)):=by simp only[Hid];rw[aQ.out];simp[Tr.bA]
        have aN:Hid (di z (Tr.node X D Y rr).bA=bc.bA++M):=by simp only[Hid];rw[P.out,di,if_pos (cm.refl _)]
        have bo:Hid (z.owner.size≤1099511627776):=Z.out.2.1 (z,U) (by rw[P.out];simp);have bn:Hid (∃v,(z,v)∈(Tr.node X D Y rr).bA):=⟨U,by rw[P.out];simp⟩;have aT:Hid (dm (di z (Tr.node X D Y rr).bA)+U.size≤N.size+(Tr.node X D Y rr).bytes):=by
         simp only[Hid];rw[aN.out,Tr.dz,P.out];simp only[dm,List.map_cons,List.sum_cons];omega
        go_upto_region 11 with fail;refine aE 16 ag [Is (.pointer (some ⟨C,0,none⟩)),Is (.pointer (some ⟨C,0,none⟩)),Is (.pointer (some ⟨C,0,none⟩)),Is (.pointer am),Is (.pointer (some ⟨ae,0,none⟩)),Is (.pointer (some ⟨C,0,none⟩)),Is (.pointer (some ⟨C,0,none⟩)),Is (.pointer (some ⟨C,1,none⟩)),Is (.pointer (some ⟨cg,0,none⟩)),Is (.pointer (some ⟨ae,0,none⟩)),Is (.pointer (some ⟨ae,0,none⟩)),Is (.pointer (some ⟨ae,2,none⟩)),Is (.agg z.cells.toArray),(fun J I=>j9 I J (di z (Tr.node X D Y rr).bA)),(fun J I=>j9 I J ((l.bA++(z,U)::di z (Tr.node X D Y rr).bA))),(fun J I=>j9 I J ((l.bA++(z,U)::di z (Tr.node X D Y rr).bA)))] [] (fun _=>True) (fun _ _=>false) (by kernel_rfl) (by kernel_rfl) (by kernel_rfl) (by kernel_rfl) ⟨Is.ah _,Is.ah _,Is.ah _,Is.ah _,Is.ah _,Is.ah _,Is.ah _,Is.ah _,Is.ah _,Is.ah _,Is.ah _,Is.ah _,Is.ah _,fun v w1 w2 _ f h=>by obtain⟨a,t,e,p,B⟩:=h;exact⟨a,t,e,p.aq f,B⟩,fun v w1 w2 _ f h=>by obtain⟨a,t,e,p,B⟩:=h;exact⟨a,t,e,p.aq f,B⟩,fun v w1 w2 _ f h=>by obtain⟨a,t,e,p,B⟩:=h;exact⟨a,t,e,p.aq f,B⟩,trivial⟩ trivial (fun _ _ _ _ h=>h) trivial ?_ ?_
        ·refine⟨?_,?_,?_,?_,?_,?_,?_,?_,?_,?_,?_,?_,?_,?_,?_,?_,trivial⟩;all_goals intro u w' d A c o k g
         all_goals simp only[bJ,bK,bL,bM,au,Act.put,bN,bO,bP,Nat.reduceAdd,Nat.zero_add]
         ·clear c o k g;refine aj ?_;go_simp;exact⟨_,rfl,al⟩
         ·have ar:u 0=_:=c 0;clear c o k g;simp only[ar];refine aj ?_;go_simp;exact⟨_,rfl,al⟩
         ·have E:u 1=_:=c 1;clear c o k g;simp only[E];refine aj ?_;go_simp;exact⟨_,rfl,al⟩
         ·have H:u 2=_:=c 2;clear c o k g;simp only[H];refine aj ?_;have q:=A.an (aJ.out.an bd.out (fun x=>x)) (fun x=>x);go_simp;exact⟨_,rfl,al⟩
         ·clear c o k g;refine aj ?_;go_simp;exact⟨_,rfl,al⟩
         ·clear c o k g;refine aj ?_;go_simp;exact⟨_,rfl,al⟩
         ·have aX:u 5=_:=c 5;clear c o k g;simp only[aX];refine aj ?_;go_simp;exact⟨_,rfl,al⟩
         ·have aY:u 6=_:=c 6;clear c o k g;simp only[aY];refine aj ?_;go_simp;exact⟨_,rfl,al⟩
         ·have aZ:u 7=_:=c 7;clear c o k g;simp only[aZ];refine aj ?_;have q:=A.an (aJ.out.an aM.out (fun x=>x)) (fun x=>x);go_simp;exact⟨_,rfl,al⟩
         ·clear c o k g;refine aj ?_;go_simp;exact⟨_,rfl,al⟩
         ·have a1:u 9=_:=c 9;clear c o k g;simp only[a1];refine aj ?_;go_simp;exact⟨_,rfl,al⟩
         ·have av:u 10=_:=c 10;clear c o k g;simp only[av];refine aj ?_;go_simp;exact⟨_,rfl,al⟩
         ·have bt:u 11=_:=c 11;clear c o k g;simp only[bt];refine aj ?_;exact az _ _ rfl ⟨ae,2,none⟩ rfl z.cells _ (fun j x ad=>by rw[Addr.add_mid];exact A.an (bW.out.name j x ad) (fun x=>x)) Tryz.underlying106 rfl bB ⟨_,rfl,al⟩
         ·have a0:u 8=_:=c 8;have bu:u 12=_:=c 12;clear c o k g;simp only[a0,bu];refine aj ?_;go_simp;refine(bZ.out _ z bo.out bn.out (aJ.out.trans A)).mono ?_;rintro e aL⟨V,W,rfl,p,B,f4⟩;exact⟨_,rfl,f4.bI,⟨V,W,rfl,p,B⟩,trivial⟩
         ·have ai:u 3=_:=c 3;have aw:u 4=_:=c 4;obtain⟨cc,t13,br,bG,bC⟩:=c 13;clear c o k g;simp only[ai,aw,br];refine aj ?_;go_simp;refine(b9.out _ _ _ z ae U (aJ.out.trans A) (bW.out.aq A) (by have:=aT.out;omega) aT.out bG bC).mono ?_;rintro e aL⟨V,W,rfl,p,B,f4⟩;exact⟨_,rfl,f4.bI,⟨V,W,rfl,p,B⟩,trivial⟩
         ·obtain⟨cd,t14,bs,bH,bE⟩:=c 14;clear c o k g;simp only[bs];refine aj ?_;go_simp;exact⟨_,rfl,aA,⟨_,_,rfl,bH,bE⟩,trivial⟩
        ·intro u w' A c g;obtain⟨ce,t15,aW,bb,ba⟩:=c 15 (by omega);clear c g;simp only[bJ,bK,bL,bM,au,Act.put,bN,bO,bP,dL,dM,Nat.reduceAdd,Nat.zero_add,aW];have aO:=af (aJ.out.trans A);have aR:=af bb;have Q:=af ba;clear A bb aW ba;go_wp2;go_ret;refine⟨_,_,rfl,aR.out,?_,aO.out⟩;rw[Q.out,bS.out,aN.out,P.out]
       |node cn bQ cp co=>
        obtain⟨cu,cr,cs,bw,_,_,_⟩:=aa.out;subst bw;go_wp2;go_roundw;case rel=>
         exact⟨_,_,cn,co,bQ,cp,(z,U)::bc.bA++M,rfl,rfl,aa.out,by rw[aQ.out];simp[Tr.bA],aJ.out⟩
        case measure=>
         rw[re aa.out,bj.out];simp only[Tr.cD];omega
def fD(w:World)(s:Nat)(L:List Ent):Prop:=∃t,EX w s t∧t.bA=L
theorem fD.aq{w w':World}{s:Nat}{L:List Ent}(h:fD w s L)(c:Fr ag w w'):fD w' s L:=by
 obtain⟨t,a,b⟩:=h;exact⟨t,a.aq c,b⟩
structure rH(L:List Ent):Prop where
 sort:cQ L
 short:jG L
 len:L.length≤60000
 bytes:dm L≤1099511500000
 ok:∀x∈L,dD x.1=true
structure tY(n:aI):Prop where
 owner:n.owner.size≤1099511627776
 text:n.text.size≤1099511627776
theorem uE{nm:aI}:∀{L:List Ent},eW nm L=none→di nm L=L
 |[],_=>rfl
 |y::L,h=>by
  rw[eW]at h;split at h;·cases h
  ·rename_i e;rw[di,if_neg e,uE h]
def C7(n:aI)(v:ByteArray):Array Value:=([Value.pointer none,Value.pointer none]++n.cells++[Value.string v,Value.int .i64 0,Value.int .i64 0,Value.int .i64 0]).toArray
theorem yd(n:aI)(v:ByteArray):Tryz.prog.built 177 [(2, .agg n.cells.toArray),(3, .string v)]=some (C7 n v):=by kernel_rfl
def Ef(w:World)(L:List Ent)(n:aI)(v:ByteArray)(e:Ending)(w':World):Prop:=∃p k,e= .returned (.tuple #[.pointer p, .int .i64 k])∧Fr ag w w'∧
 ((dD n=true∧v.size≤65536∧k=0∧∃a,p=some ⟨a,0,none⟩∧fD w' a (dC n v L))∨(dD n=false∧k=12∧p=none)∨(dD n=true∧65536<v.size∧k=5∧p=none))
def uj(w:World)(L:List Ent)(n:aI)(e:Ending)(w':World):Prop:=∃p k,e= .returned (.tuple #[.pointer p, .int .i64 k])∧Fr ag w w'∧
 ((dD n=true∧k=0∧∃a,p=some ⟨a,0,none⟩∧fD w' a (di n L))∨(dD n=false∧k=12∧p=none))
def Kt(a:Option ByteArray):Value:=match a with
 |some v=> .tuple #[.string v, .bool true]
 |none=> .tuple #[.string ByteArray.empty, .bool false]
theorem EY(L:List Ent)(n:aI)(v:ByteArray)(s:Nat)(w:World)(J:fD w s L)(aw:eG w)(av:rH L)(B:tY n):
  Calls Tryz.prog 130 #[.pointer (some ⟨s,0,none⟩), .agg n.cells.toArray, .string v] w (Ef w L n v):=by
 obtain⟨t,J,H⟩:=J;have aN:=af J;have p:=af H;have aJ:Hid (∀w',Fr ag w w'→Calls Tryz.prog 115 #[.agg n.cells.toArray] w' (Checked w' n)):=fun w' m=>kY n w' (aw.aq m) B.owner B.text;have aH:=af (yd n v);obtain⟨a,K,E⟩:=J;have W:Hid (w.cell? ⟨s,0,none⟩=some (.pointer a)):=K.cell 0;have P:=af E;have F:=af av;have aM:=af B;clear K E aw av B H;go_enter Tryz.func130,Tryz.ntmps130;go_wp2_with(refine ay rfl 106 (.tmp 1) rfl n.cells.toArray rfl ?_);intro w1 n1;have ap:=af n1.fr;have G:=af n1.aF;clear n1;generalize w.heap.size=X at*;have T:Hid (ao w1 X 106 n.cells.toArray):=G.out;clear G;go_wp2_with(refine aB rfl 106 (.tmp 4) rfl ⟨X,0,none⟩ rfl n.cells _ ?zA Tryz.underlying106 rfl bB (bh.go ?hold));case zA=>exact fun j x ae=>by rw[Addr.add_mid,Nat.zero_add];exact T.out.cell j|>.trans (by rw[bD];exact ae)
 unfold bh;go_wp2_with fail;refine(aJ.out _ ap.out).mono ?_;rintro e w2⟨k,rfl,ax,f2⟩;have C:=af (ap.out.trans f2);have U:=af (T.out.fr f2 (fun x=>x));have ar:=af ax;clear f2 T ax;cases r:dD n
 ·have A:k≠0:=by
   have h:=ar.out;rw[r]at h;intro e;subst e;simp at h
  have t0:=sH A;have y:=af r;clear r A;go_wp2;go_ret2;exact⟨none,12,rfl,C.out, .inr (.inl ⟨y.out,rfl,rfl⟩)⟩
 ·have A:k=0:=by
   have h:=ar.out;rw[r]at h;simpa using h
  subst A;have y:=af r;clear r;by_cases ad:v.size≤65536
  ·have aS:decide ((65536:Int)<(v.size:Int))=false:=cN (by omega);have R:=af ad;obtain⟨z,aC⟩:∃z:Int,z=(t.size:Nat):=⟨_,rfl⟩;have aU:decide ((65536:Int)≤z)=false:=cN (by have h:=F.out.len;rw[←p.out,Tr.cJ]at h;omega);have CL:Hid (∀w',Fr ag w2 w'→Calls Tryz.prog 94 #[.pointer (some ⟨s,0,none⟩)] w' (bG w' (.int .i64 z))):=fun w' m=>by
    rw[aC];exact zf w' s t (aN.out.aq (C.out.trans m))
   have aK:Hid (∀w' g,Fr ag w2 w'→Mid w' g n v→Calls Tryz.prog 163 #[.pointer a, .pointer (some ⟨g,0,none⟩)] w' (Balanced w' (dC n v t.bA))):=fun w' g m hm=>
    Hd n v g aM.out.owner t a w' (P.out.aq (C.out.trans m)) hm (by rw[p.out];exact F.out.sort) (by rw[p.out];exact F.out.short) (by have h:=F.out.len;rw[←p.out,Tr.cJ]at h;omega) (by have h:=F.out.bytes;rw[←p.out,←Tr.dz]at h;omega);clear ad aC;go_upto_region 7 with fail;refine aE 13 ag [Is (.pointer (some ⟨s,0,none⟩)),Is (.int .i64 z),Is (.bool false),Is (.bool false),Is (undef),Is (undef),Is (undef),Is (undef),Is (undef),Is (undef),Is (undef),Is (.bool false),Is (.bool false)] [] (fun _=>True) (fun _ _=>false) (by kernel_rfl) (by kernel_rfl) (by kernel_rfl) (by kernel_rfl) ⟨Is.ah _,Is.ah _,Is.ah _,Is.ah _,Is.ah _,Is.ah _,Is.ah _,Is.ah _,Is.ah _,Is.ah _,Is.ah _,Is.ah _,Is.ah _,trivial⟩ trivial (fun _ _ _ _ h=>h) trivial ?_ ?_
   ·refine⟨?_,?_,?_,?_,?_,?_,?_,?_,?_,?_,?_,?_,?_,trivial⟩;all_goals intro u w' d m b l i c
    all_goals simp only[bJ,bK,bL,bM,au,Act.put,bN,bO,bP,Nat.reduceAdd,Nat.zero_add]
    ·clear b l i c;refine aj ?_;go_simp;exact⟨_,rfl,al⟩
    ·have Y:u 0=_:=b 0;clear b l i c;simp only[Y];refine aj ?_;go_simp;refine(CL.out _ m).mono ?_;rintro e aT⟨rfl,rfl⟩;exact⟨_,rfl,al⟩
    ·have Z:u 1=_:=b 1;clear b l i c;simp only[Z];refine aj ?_;go_simp;exact⟨_,rfl,al⟩
    ·have ac:u 2=_:=b 2;clear b l i c;simp only[ac];refine aj ?_;go_simp;exact⟨_,rfl,al⟩
    ·have o:u 3=_:=b 3;clear b l i c;simp only[o];exact .inr ⟨by kernel_rfl,_,rfl,aA,rfl,trivial⟩
    ·have o:u 3=_:=b 3;clear b l i c;simp only[o];exact .inr ⟨by kernel_rfl,_,rfl,aA,rfl,trivial⟩
    ·have o:u 3=_:=b 3;clear b l i c;simp only[o];exact .inr ⟨by kernel_rfl,_,rfl,aA,rfl,trivial⟩
    ·have o:u 3=_:=b 3;clear b l i c;simp only[o];exact .inr ⟨by kernel_rfl,_,rfl,aA,rfl,trivial⟩
    ·have o:u 3=_:=b 3;clear b l i c;simp only[o];exact .inr ⟨by kernel_rfl,_,rfl,aA,rfl,trivial⟩
    ·have o:u 3=_:=b 3;clear b l i c;simp only[o];exact .inr ⟨by kernel_rfl,_,rfl,aA,rfl,trivial⟩
    ·have o:u 3=_:=b 3;clear b l i c;simp only[o];exact .inr ⟨by kernel_rfl,_,rfl,aA,rfl,trivial⟩
    ·have o:u 3=_:=b 3;have aa:u 10=_:=b 10;clear b l i c;simp only[o,aa];refine aj ?_;go_simp;exact⟨_,rfl,al⟩
    ·have ab:u 11=_:=b 11;clear b l i c;simp only[ab];refine aj ?_;go_simp;exact⟨_,rfl,al⟩
   ·intro u w' m b c;have I:u 12=_:=b 12 (by omega);clear b c;simp only[bJ,bK,bL,bM,au,Act.put,bN,bO,bP,dL,dM,Nat.reduceAdd,Nat.zero_add,I];have N:=af m;have V:=af (U.out.fr m (fun x=>x));clear m I;go_upto_region 9 with fail;refine aE 9 ag [Is (.pointer (some ⟨s,0,none⟩)),Is (.pointer (some ⟨s,0,none⟩)),Is (.pointer (some ⟨s,0,none⟩)),Is (.pointer a),Is (.agg n.cells.toArray),Is (.string v),Is (.agg (C7 n v)),(fun am ai=>∃aG,am= .pointer (some ⟨aG,0,none⟩)∧Mid ai aG n v),(fun am ai=>j9 ai am (dC n v t.bA))] [] (fun _=>True) (fun _ _=>false) (by kernel_rfl) (by kernel_rfl) (by kernel_rfl) (by kernel_rfl) ⟨Is.ah _,Is.ah _,Is.ah _,Is.ah _,Is.ah _,Is.ah _,Is.ah _,fun _ _ _ _ m h=>by obtain⟨g,h,K⟩:=h;exact⟨g,h,K.aq m⟩,fun v w1 w2 _ f h=>by obtain⟨a,t,e,E,D⟩:=h;exact⟨a,t,e,E.aq f,D⟩,trivial⟩ trivial (fun _ _ _ _ h=>h) trivial ?_ ?_
    ·refine⟨?_,?_,?_,?_,?_,?_,?_,?_,?_,trivial⟩;all_goals intro u w' d m b l i c
     all_goals simp only[bJ,bK,bL,bM,au,Act.put,bN,bO,bP,Nat.reduceAdd,Nat.zero_add]
     ·clear b l i c;refine aj ?_;go_simp;exact⟨_,rfl,al⟩
     ·have Y:u 0=_:=b 0;clear b l i c;simp only[Y];refine aj ?_;go_simp;exact⟨_,rfl,al⟩
     ·have Z:u 1=_:=b 1;clear b l i c;simp only[Z];refine aj ?_;go_simp;exact⟨_,rfl,al⟩
     ·have ac:u 2=_:=b 2;clear b l i c;simp only[ac];refine aj ?_;have q:=m.an ((C.out.trans N.out).an W.out (fun x=>x)) (fun x=>x);go_simp;exact⟨_,rfl,al⟩
     ·clear b l i c;refine aj ?_;exact az _ _ rfl ⟨X,0,none⟩ rfl n.cells _ (fun j x ae=>by rw[Addr.add_mid,Nat.zero_add];exact(V.out.fr m (fun x=>x)).cell j|>.trans (by rw[bD];exact ae)) Tryz.underlying106 rfl bB ⟨_,rfl,al⟩
     ·clear b l i c;refine aj ?_;go_simp;exact⟨_,rfl,al⟩
     ·have aP:u 4=_:=b 4;have aQ:u 5=_:=b 5;clear b l i c;simp only[aP,aQ];refine aj ?_;exact jY 177 _ rfl (C7 n v) _ (by simp only[List.map_toArray,List.map_cons,List.map_nil];rfl) (aH.out) ⟨_,rfl,al⟩
     ·have aR:u 6=_:=b 6;clear b l i c;simp only[aR];refine aj ?_;go_simp;exact⟨_,rfl,aA.alloc _,⟨_,rfl,Mid.of (ao.new _ _ _)⟩,trivial⟩
     ·have o:u 3=_:=b 3;obtain⟨g7,aO,b7⟩:=b 7;clear b l i c;simp only[o,aO];refine aj ?_;go_simp;refine(aK.out _ g7 (N.out.trans m) b7).mono ?_;rintro e aT⟨M,ak,rfl,E,D,f4⟩;exact⟨_,rfl,f4.bI,⟨M,ak,rfl,E,D⟩,trivial⟩
    ·intro u w' m b c;obtain⟨M,ak,aD,B,D⟩:=b 8 (by omega);clear b c;simp only[bJ,bK,bL,bM,au,Act.put,bN,bO,bP,dL,dM,Nat.reduceAdd,Nat.zero_add,aD];have aL:=af (C.out.trans (N.out.trans m));have Q:=af B;have O:=af D;clear m aD B D;go_wp2_with(refine ay rfl 174 (.tmp 41) rfl #[.pointer M] rfl ?_);intro aV n5;have S:=af n5;clear n5;go_wp2;go_ret2;exact⟨_,0,rfl,aL.out.trans S.out.fr, .inl ⟨y.out,R.out,rfl,_,rfl,ak,⟨M,S.out.aF,Q.out.aq S.out.fr⟩,by rw[O.out,p.out]⟩⟩
  ·have aS:decide ((65536:Int)<(v.size:Int))=true:=dJ (by omega);have R:Hid (65536<v.size):=by simp only[Hid];omega
   clear ad;go_wp2;go_ret2;exact⟨none,5,rfl,C.out, .inr (.inr ⟨y.out,R.out,rfl,rfl⟩)⟩
theorem Hk(L:List Ent)(n:aI)(s:Nat)(w:World)(K:fD w s L)(J:rH L)(S:tY n):
  Calls Tryz.prog 53 #[.pointer (some ⟨s,0,none⟩), .agg n.cells.toArray] w (aK w (Kt (eW n L))):=by
 obtain⟨t,K,M⟩:=K;subst M;obtain⟨a,r,T⟩:=K;have Q:Hid (∀w',Fr ag w w'→Calls Tryz.prog 108 #[.pointer a, .agg n.cells.toArray] w' (Found w' n t.bA)):=fun w' c=>xn n a t w' (T.aq c) J.sort S.owner J.short;have v:Hid (w.cell? ⟨s,0,none⟩=some (.pointer a)):=r.cell 0;clear r T J S;cases c:eW n t.bA with
 |none=>
  have B:=af c;clear c;go_enter Tryz.func53,Tryz.ntmps53;go_wp2_with(refine ay rfl 106 (.tmp 1) rfl n.cells.toArray rfl ?_);intro w1 n1;have o:=af n1.fr;have l:=af n1.aF;clear n1;generalize w.heap.size=z at*;have D:Hid (ao w1 z 106 n.cells.toArray):=l.out;clear l;go_upto_region 3 with fail;refine aE 7 ag [Is (.pointer (some ⟨s,0,none⟩)),Is (.pointer (some ⟨s,0,none⟩)),Is (.pointer (some ⟨s,0,none⟩)),Is (.pointer a),Is (.agg n.cells.toArray),Is (.pointer none),Is (.pointer none)] [] (fun _=>True) (fun _ _=>false) (by kernel_rfl) (by kernel_rfl) (by kernel_rfl) (by kernel_rfl) ⟨Is.ah _,Is.ah _,Is.ah _,Is.ah _,Is.ah _,Is.ah _,Is.ah _,trivial⟩ trivial (fun _ _ _ _ h=>h) trivial ?_ ?_
  ·refine⟨?_,?_,?_,?_,?_,?_,?_,trivial⟩;all_goals intro u w' d c b k i f
   all_goals simp only[bJ,bK,bL,bM,au,Act.put,bN,bO,bP,Nat.reduceAdd,Nat.zero_add]
   ·clear b k i f;refine aj ?_;go_simp;exact⟨_,rfl,al⟩
   ·have E:u 0=_:=b 0;clear b k i f;simp only[E];refine aj ?_;go_simp;exact⟨_,rfl,al⟩
   ·have F:u 1=_:=b 1;clear b k i f;simp only[F];refine aj ?_;go_simp;exact⟨_,rfl,al⟩
   ·have G:u 2=_:=b 2;clear b k i f;simp only[G];refine aj ?_;have q:=c.an (o.out.an v.out (fun x=>x)) (fun x=>x);go_simp;exact⟨_,rfl,al⟩
   ·clear b k i f;refine aj ?_;exact az _ _ rfl ⟨z,0,none⟩ rfl n.cells _ (fun j x N=>by rw[Addr.add_mid,Nat.zero_add];exact(D.out.fr c (fun x=>x)).cell j|>.trans (by rw[bD];exact N)) Tryz.underlying106 rfl bB ⟨_,rfl,al⟩
   ·have H:u 3=_:=b 3;have I:u 4=_:=b 4;clear b k i f;simp only[H,I];refine aj ?_;go_simp;refine(Q.out _ (o.out.trans c)).mono ?_;rintro e W⟨p,rfl,f4,⟨g,y,rfl,m,hm⟩|⟨rfl,m⟩⟩;·rw[B.out]at m;cases m
    ·exact⟨_,rfl,f4.bI,rfl,trivial⟩
   ·have V:u 5=_:=b 5;clear b k i f;simp only[V];refine aj ?_;go_simp;exact⟨_,rfl,al⟩
  ·intro u w' c b f;have k6:u 6=_:=b 6 (by omega);clear b f;simp only[bJ,bK,bL,bM,au,Act.put,bN,bO,bP,dL,dM,Nat.reduceAdd,Nat.zero_add,k6];have C:=af (o.out.trans c);clear c k6;go_wp2;go_ret2;exact⟨rfl,C.out⟩
 |some x=>
  have B:=af c;clear c;go_enter Tryz.func53,Tryz.ntmps53;go_wp2_with(refine ay rfl 106 (.tmp 1) rfl n.cells.toArray rfl ?_);intro w1 n1;have o:=af n1.fr;have l:=af n1.aF;clear n1;generalize w.heap.size=z at*;have D:Hid (ao w1 z 106 n.cells.toArray):=l.out;clear l;go_upto_region 3 with fail;refine aE 7 ag [Is (.pointer (some ⟨s,0,none⟩)),Is (.pointer (some ⟨s,0,none⟩)),Is (.pointer (some ⟨s,0,none⟩)),Is (.pointer a),Is (.agg n.cells.toArray),(fun P O=>∃A,P= .pointer (some ⟨A,0,none⟩)∧Mid O A n x),(fun P O=>∃A,P= .pointer (some ⟨A,0,none⟩)∧Mid O A n x)] [] (fun _=>True) (fun _ _=>false) (by kernel_rfl) (by kernel_rfl) (by kernel_rfl) (by kernel_rfl) ⟨Is.ah _,Is.ah _,Is.ah _,Is.ah _,Is.ah _,fun _ _ _ _ c h=>by obtain⟨g,h,r⟩:=h;exact⟨g,h,r.aq c⟩,fun _ _ _ _ c h=>by obtain⟨g,h,r⟩:=h;exact⟨g,h,r.aq c⟩,trivial⟩ trivial (fun _ _ _ _ h=>h) trivial ?_ ?_
  ·refine⟨?_,?_,?_,?_,?_,?_,?_,trivial⟩;all_goals intro u w' d c b k i f
   all_goals simp only[bJ,bK,bL,bM,au,Act.put,bN,bO,bP,Nat.reduceAdd,Nat.zero_add]
   ·clear b k i f;refine aj ?_;go_simp;exact⟨_,rfl,al⟩
   ·have E:u 0=_:=b 0;clear b k i f;simp only[E];refine aj ?_;go_simp;exact⟨_,rfl,al⟩
   ·have F:u 1=_:=b 1;clear b k i f;simp only[F];refine aj ?_;go_simp;exact⟨_,rfl,al⟩
   ·have G:u 2=_:=b 2;clear b k i f;simp only[G];refine aj ?_;have q:=c.an (o.out.an v.out (fun x=>x)) (fun x=>x);go_simp;exact⟨_,rfl,al⟩
   ·clear b k i f;refine aj ?_;exact az _ _ rfl ⟨z,0,none⟩ rfl n.cells _ (fun j x N=>by rw[Addr.add_mid,Nat.zero_add];exact(D.out.fr c (fun x=>x)).cell j|>.trans (by rw[bD];exact N)) Tryz.underlying106 rfl bB ⟨_,rfl,al⟩
   ·have H:u 3=_:=b 3;have I:u 4=_:=b 4;clear b k i f;simp only[H,I];refine aj ?_;go_simp;refine(Q.out _ (o.out.trans c)).mono ?_;rintro e W⟨p,rfl,f4,⟨g,y,rfl,m,hm⟩|⟨rfl,m⟩⟩;·rw[B.out]at m;cases m;exact⟨_,rfl,f4.bI,⟨g,rfl,hm⟩,trivial⟩
    ·rw[B.out]at m;cases m
   ·obtain⟨g5,U,m5⟩:=b 5;clear b k i f;simp only[U];refine aj ?_;go_simp;exact⟨_,rfl,aA,⟨_,rfl,m5⟩,trivial⟩
  ·intro u w' c b f;obtain⟨g6,R,m6⟩:=b 6 (by omega);clear b f;simp only[bJ,bK,bL,bM,au,Act.put,bN,bO,bP,dL,dM,Nat.reduceAdd,Nat.zero_add,R];have C:=af (o.out.trans c);have cv:=m6.val;clear c R m6;go_wp2;go_ret2;exact⟨rfl,C.out⟩
theorem xZ(L:List Ent)(n:aI)(s:Nat)(w:World)(U:fD w s L)(aA:eG w)(F:rH L)(C:tY n):
  Calls Tryz.prog 129 #[.pointer (some ⟨s,0,none⟩), .agg n.cells.toArray] w (uj w L n):=by
 have ab:=af U;obtain⟨t,U,ak⟩:=U;subst ak;obtain⟨a,V,G⟩:=U;have av:Hid (∀w',Fr ag w w'→Calls Tryz.prog 108 #[.pointer a, .agg n.cells.toArray] w' (Found w' n t.bA)):=fun w' c=>xn n a t w' (G.aq c) F.sort C.owner F.short;have E:Hid (w.cell? ⟨s,0,none⟩=some (.pointer a)):=V.cell 0;have aJ:Hid (∀w',Fr ag w w'→Calls Tryz.prog 115 #[.agg n.cells.toArray] w' (Checked w' n)):=fun w' c=>kY n w' (aA.aq c) C.owner C.text;have aK:Hid (∀w',(∃v,(n,v)∈t.bA)→Fr ag w w'→Calls Tryz.prog 162 #[.pointer a, .agg n.cells.toArray] w' (Balanced w' (di n t.bA))):=fun w' hm c=>
  yZ t n a w' C.owner hm (G.aq c) F.sort F.short (by have h:=F.len;rw[Tr.cJ]at h;omega) (by have h:=F.bytes;rw[←Tr.dz]at h;omega);clear V G F C aA;go_enter Tryz.func129,Tryz.ntmps129;go_wp2_with(refine ay rfl 106 (.tmp 1) rfl n.cells.toArray rfl ?_);intro w1 n1;have aw:=af n1.fr;have K:=af n1.aF;clear n1;generalize w.heap.size=M at*;have ad:Hid (ao w1 M 106 n.cells.toArray):=K.out;clear K;go_wp2_with(refine aB rfl 106 (.tmp 3) rfl ⟨M,0,none⟩ rfl n.cells _ ?zA Tryz.underlying106 rfl bB (bh.go ?hold));case zA=>exact fun j x H=>by rw[Addr.add_mid,Nat.zero_add];exact ad.out.cell j|>.trans (by rw[bD];exact H)
 unfold bh;go_wp2_with fail;refine(aJ.out _ aw.out).mono ?_;rintro e w2⟨k,rfl,aC,f2⟩;have r:=af (aw.out.trans f2);have D:=af (ad.out.fr f2 (fun x=>x));have ax:=af aC;clear f2 ad aC;cases o:dD n
 ·have A:k≠0:=by
   have h:=ax.out;rw[o]at h;intro e;subst e;simp at h
  have t0:=sH A;have z:=af o;clear o A;go_wp2;go_ret2;exact⟨none,12,rfl,r.out, .inr ⟨z.out,rfl,rfl⟩⟩
 ·have A:k=0:=by
   have h:=ax.out;rw[o]at h;simpa using h
  subst A;have z:=af o;clear o;cases c:eW n t.bA with
  |none=>
   have T:=af c;have X:=af (uE c);clear c;go_upto_region 5 with fail;refine aE 8 ag [Is (.pointer (some ⟨s,0,none⟩)),Is (.pointer (some ⟨s,0,none⟩)),Is (.pointer (some ⟨s,0,none⟩)),Is (.pointer a),Is (.agg n.cells.toArray),Is (.pointer none),Is (.bool true),Is (.bool true)] [] (fun _=>True) (fun _ _=>false) (by kernel_rfl) (by kernel_rfl) (by kernel_rfl) (by kernel_rfl) ⟨Is.ah _,Is.ah _,Is.ah _,Is.ah _,Is.ah _,Is.ah _,Is.ah _,Is.ah _,trivial⟩ trivial (fun _ _ _ _ h=>h) trivial ?_ ?_
   ·refine⟨?_,?_,?_,?_,?_,?_,?_,?_,trivial⟩;all_goals intro u w' d c b m l i
    all_goals simp only[bJ,bK,bL,bM,au,Act.put,bN,bO,bP,Nat.reduceAdd,Nat.zero_add]
    ·clear b m l i;refine aj ?_;go_simp;exact⟨_,rfl,al⟩
    ·have N:u 0=_:=b 0;clear b m l i;simp only[N];refine aj ?_;go_simp;exact⟨_,rfl,al⟩
    ·have O:u 1=_:=b 1;clear b m l i;simp only[O];refine aj ?_;go_simp;exact⟨_,rfl,al⟩
    ·have P:u 2=_:=b 2;clear b m l i;simp only[P];refine aj ?_;have q:=c.an (r.out.an E.out (fun x=>x)) (fun x=>x);go_simp;exact⟨_,rfl,al⟩
    ·clear b m l i;refine aj ?_;exact az _ _ rfl ⟨M,0,none⟩ rfl n.cells _ (fun j x H=>by rw[Addr.add_mid,Nat.zero_add];exact(D.out.fr c (fun x=>x)).cell j|>.trans (by rw[bD];exact H)) Tryz.underlying106 rfl bB ⟨_,rfl,al⟩
    ·have Q:u 3=_:=b 3;have R:u 4=_:=b 4;clear b m l i;simp only[Q,R];refine aj ?_;go_simp;refine(av.out _ (r.out.trans c)).mono ?_;rintro e aG⟨p,rfl,f4,⟨g,y,rfl,B,hm⟩|⟨rfl,B⟩⟩;·rw[T.out]at B;cases B
     ·exact⟨_,rfl,f4.bI,rfl,trivial⟩
    ·have aN:u 5=_:=b 5;clear b m l i;simp only[aN];refine aj ?_;go_simp;exact⟨_,rfl,al⟩
    ·have ai:u 6=_:=b 6;clear b m l i;simp only[ai];refine aj ?_;go_simp;exact⟨_,rfl,al⟩
   ·intro u w' c b i;have S:u 7=_:=b 7 (by omega);clear b i;simp only[bJ,bK,bL,bM,au,Act.put,bN,bO,bP,dL,dM,Nat.reduceAdd,Nat.zero_add,S];have I:=af (r.out.trans c);clear c S;go_wp2;go_ret2;exact⟨_,0,rfl,I.out, .inl ⟨z.out,rfl,s,rfl,by rw[X.out];exact ab.out.aq I.out⟩⟩
  |some x=>
   have T:=af c;have Z:Hid (∃v,(n,v)∈t.bA):=⟨x,uO c⟩;clear c;go_upto_region 5 with fail;refine aE 8 ag [Is (.pointer (some ⟨s,0,none⟩)),Is (.pointer (some ⟨s,0,none⟩)),Is (.pointer (some ⟨s,0,none⟩)),Is (.pointer a),Is (.agg n.cells.toArray),(fun ar am=>∃aH,ar= .pointer (some ⟨aH,0,none⟩)∧Mid am aH n x),Is (.bool false),Is (.bool false)] [] (fun _=>True) (fun _ _=>false) (by kernel_rfl) (by kernel_rfl) (by kernel_rfl) (by kernel_rfl) ⟨Is.ah _,Is.ah _,Is.ah _,Is.ah _,Is.ah _,fun _ _ _ _ c h=>by obtain⟨g,h,V⟩:=h;exact⟨g,h,V.aq c⟩,Is.ah _,Is.ah _,trivial⟩ trivial (fun _ _ _ _ h=>h) trivial ?_ ?_
   ·refine⟨?_,?_,?_,?_,?_,?_,?_,?_,trivial⟩;all_goals intro u w' d c b m l i
    all_goals simp only[bJ,bK,bL,bM,au,Act.put,bN,bO,bP,Nat.reduceAdd,Nat.zero_add]
    ·clear b m l i;refine aj ?_;go_simp;exact⟨_,rfl,al⟩
    ·have N:u 0=_:=b 0;clear b m l i;simp only[N];refine aj ?_;go_simp;exact⟨_,rfl,al⟩
    ·have O:u 1=_:=b 1;clear b m l i;simp only[O];refine aj ?_;go_simp;exact⟨_,rfl,al⟩
    ·have P:u 2=_:=b 2;clear b m l i;simp only[P];refine aj ?_;have q:=c.an (r.out.an E.out (fun x=>x)) (fun x=>x);go_simp;exact⟨_,rfl,al⟩
    ·clear b m l i;refine aj ?_;exact az _ _ rfl ⟨M,0,none⟩ rfl n.cells _ (fun j x H=>by rw[Addr.add_mid,Nat.zero_add];exact(D.out.fr c (fun x=>x)).cell j|>.trans (by rw[bD];exact H)) Tryz.underlying106 rfl bB ⟨_,rfl,al⟩
    ·have Q:u 3=_:=b 3;have R:u 4=_:=b 4;clear b m l i;simp only[Q,R];refine aj ?_;go_simp;refine(av.out _ (r.out.trans c)).mono ?_;rintro e aG⟨p,rfl,f4,⟨g,y,rfl,B,hm⟩|⟨rfl,B⟩⟩;·rw[T.out]at B;cases B;exact⟨_,rfl,f4.bI,⟨g,rfl,hm⟩,trivial⟩
     ·rw[T.out]at B;cases B
    ·obtain⟨g5,aM,m5⟩:=b 5;clear b m l i;simp only[aM];refine aj ?_;go_simp;exact⟨_,rfl,al⟩
    ·have ai:u 6=_:=b 6;clear b m l i;simp only[ai];refine aj ?_;go_simp;exact⟨_,rfl,al⟩
   ·intro u w' c b i;have S:u 7=_:=b 7 (by omega);clear b i;simp only[bJ,bK,bL,bM,au,Act.put,bN,bO,bP,dL,dM,Nat.reduceAdd,Nat.zero_add,S];have I:=af c;have ae:=af (D.out.fr c (fun x=>x));clear c S;go_upto_region 7 with fail;refine aE 6 ag [Is (.pointer (some ⟨s,0,none⟩)),Is (.pointer (some ⟨s,0,none⟩)),Is (.pointer (some ⟨s,0,none⟩)),Is (.pointer a),Is (.agg n.cells.toArray),(fun ar am=>j9 am ar (di n t.bA))] [] (fun _=>True) (fun _ _=>false) (by kernel_rfl) (by kernel_rfl) (by kernel_rfl) (by kernel_rfl) ⟨Is.ah _,Is.ah _,Is.ah _,Is.ah _,Is.ah _,fun v w1 w2 _ f h=>by obtain⟨a,t,e,G,J⟩:=h;exact⟨a,t,e,G.aq f,J⟩,trivial⟩ trivial (fun _ _ _ _ h=>h) trivial ?_ ?_
    ·refine⟨?_,?_,?_,?_,?_,?_,trivial⟩;all_goals intro u w' d c b m l i
     all_goals simp only[bJ,bK,bL,bM,au,Act.put,bN,bO,bP,Nat.reduceAdd,Nat.zero_add]
     ·clear b m l i;refine aj ?_;go_simp;exact⟨_,rfl,al⟩
     ·have N:u 0=_:=b 0;clear b m l i;simp only[N];refine aj ?_;go_simp;exact⟨_,rfl,al⟩
     ·have O:u 1=_:=b 1;clear b m l i;simp only[O];refine aj ?_;go_simp;exact⟨_,rfl,al⟩
     ·have P:u 2=_:=b 2;clear b m l i;simp only[P];refine aj ?_;have q:=c.an ((r.out.trans I.out).an E.out (fun x=>x)) (fun x=>x);go_simp;exact⟨_,rfl,al⟩
     ·clear b m l i;refine aj ?_;exact az _ _ rfl ⟨M,0,none⟩ rfl n.cells _ (fun j x H=>by rw[Addr.add_mid,Nat.zero_add];exact(ae.out.fr c (fun x=>x)).cell j|>.trans (by rw[bD];exact H)) Tryz.underlying106 rfl bB ⟨_,rfl,al⟩
     ·have Q:u 3=_:=b 3;have R:u 4=_:=b 4;clear b m l i;simp only[Q,R];refine aj ?_;go_simp;refine(aK.out _ Z.out (r.out.trans (I.out.trans c))).mono ?_;rintro e aG⟨W,ap,rfl,G,J,f4⟩;exact⟨_,rfl,f4.bI,⟨W,ap,rfl,G,J⟩,trivial⟩
    ·intro u w' c b i;obtain⟨W,ap,aD,C,J⟩:=b 5 (by omega);clear b i;simp only[bJ,bK,bL,bM,au,Act.put,bN,bO,bP,dL,dM,Nat.reduceAdd,Nat.zero_add,aD];have aL:=af (r.out.trans (I.out.trans c));have aa:=af C;have Y:=af J;clear c aD C J;go_wp2_with(refine ay rfl 174 (.tmp 28) rfl #[.pointer W] rfl ?_);intro aO n5;have ac:=af n5;clear n5;go_wp2;go_ret2;exact⟨_,0,rfl,aL.out.trans ac.out.fr, .inl ⟨z.out,rfl,_,rfl,ap,⟨W,ac.out.aF,aa.out.aq ac.out.fr⟩,Y.out⟩⟩
def lC(x:Ent):List Value:=x.1.cells++[.string x.2]
theorem gM(x:Ent):(lC x).length=6:=rfl
theorem Iu:∀(xs:List Ent)(k:Nat)(c:Ent),xs[k]? =some c→∀j x,(lC c)[j]? =some x→(xs.flatMap lC)[k*6+j]? =some x
 |[],_,_,h,_,_,_=>by simp at h
 |y::b,0,c,h,j,x,a=>by
  simp only[List.getElem?_cons_zero,Option.some.injEq]at h;subst h;have d:j<6:=(List.getElem?_eq_some_iff.1 a).1;rw[List.flatMap_cons,Nat.zero_mul,Nat.zero_add,List.getElem?_append_left d];exact a
 |y::b,k+1,c,h,j,x,a=>by
  simp only[List.getElem?_cons_succ]at h;rw[List.flatMap_cons,List.getElem?_append_right (by rw[gM];omega),gM,show(k+1)*6+j-6=k*6+j by omega];exact Iu b k c h j x a
structure EL(w:World)(S:Nat→Prop)(A:Option Addr)(n:Nat)(xs:List Ent):Prop where
 rd:Rd w S 6 A n (xs.flatMap lC)
 len:xs.length=n
theorem EL.aq{w w':World}{S:Nat→Prop}{A:Option Addr}{n:Nat}{xs:List Ent}(h:EL w S A n xs)(a:Fr ag w w'):EL w' S A n xs:=⟨h.rd.aq a,h.len⟩
theorem EL.at_{w:World}{S:Nat→Prop}{A:Option Addr}{n k:Nat}{xs:List Ent}(h:EL w S A n xs)(f:k<n):∃b c,A=some b∧xs[k]? =some c∧∀j x,(lC c)[j]? =some x→w.cell? ((b.add (k*6)).add j)=some x:=by
 obtain⟨b,e,i,d⟩:=h.rd.2 (by omega);have a:k<xs.length:=by rw[h.len];exact f
 refine⟨b,xs[k],e,List.getElem?_eq_getElem a,fun j x g=>?_⟩;rw[Addr.add_add];exact d _ _ (Iu xs k _ (List.getElem?_eq_getElem a) j x g)
theorem eS{P:Program}{op:Oper}{a:Act}{w:World}{K:Act→World→Prop}{Q:Exit→Act→World→Prop}(i:BinOp)(t:TypeId)(x y:Operand)(ty:TypeId)(d:op.op= .binOp i t x y ty)
  (xs b:Array Value)(f:a.eval x= .agg xs)(g:a.eval y= .agg b)(c:P.eqGuardType P.depth t=false)
  (v:Value)(e:(binOp i t (.agg xs) (.agg b)).run P w= .ok v w)(h:K (a.put op.dst v) w):op.wp P a w K Q:=by
 have he:=run_eqGuard_agg (P:=P) (w:=w) i t x y xs b c;unfold Oper.wp execOp;simp only[d,f,g,Sem.run_bind,he,e,Result.andThen_ok];exact h
def tL(P:Program)(ops:Array Oper)(Q:Exit→Act→World→Prop)(T:Nat→Prop)(w:World)(F:(Nat→Value)→Act)(c:Nat→Value→World→Prop)(ws:List (Nat×(World→Prop)))(a:World→Prop)(B:Nat→Nat→Bool)(n:Nat)(b:List (Nat×Value)):Nat→List Oper→Prop
 |_,[]=>True
 |i,e::r=>(∀u w' d,Fr T w w'→(∀j,(_:Region.waitsFor .any ops i j=true:=by kernel_rfl)→c j (u j) w')→(∀p,p<n→B p i=true→d p=true)→(∀p,(p==i||B i p)=true→d p=false)→dn ws a d w'→(∀x∈b,d x.1=false→u x.1=x.2)→
   mY P ops Q e (F u) w' (ue (F u) e.dst (gU ws T i) w' (c i) (kL ws i)))∧tL P ops Q T w F c ws a B n b (i+1) r
theorem tL.at_{P:Program}{ops:Array Oper}{Q:Exit→Act→World→Prop}{T:Nat→Prop}{w:World}{F:(Nat→Value)→Act}{f:Nat→Value→World→Prop}{ws:List (Nat×(World→Prop))}{b:World→Prop}{B:Nat→Nat→Bool}{n:Nat}{e:List (Nat×Value)}:
  ∀{l:List Oper}{k:Nat},tL P ops Q T w F f ws b B n e k l→∀i g,l[i]? =some g→∀u w' d,Fr T w w'→(∀j,Region.waitsFor .any ops (k+i) j=true→f j (u j) w')→(∀p,p<n→B p (k+i)=true→d p=true)→(∀p,(p==k+i||B (k+i) p)=true→d p=false)→dn ws b d w'→(∀x∈e,d x.1=false→u x.1=x.2)→
   mY P ops Q g (F u) w' (ue (F u) g.dst (gU ws T (k+i)) w' (f (k+i)) (kL ws (k+i)))
 |[],_,_,_,_,h=>by simp at h
 |c::r,k,h,0,g,a=>by
  have:c=g:=by simpa using a
  subst this;exact h.1
 |c::r,k,h,i+1,g,a=>by
  have:=tL.at_ h.2 i g (by simpa using a);rw[show k+1+i=k+(i+1)by omega]at this;exact this
theorem nZ.aq{w w':World}{x:Nd}(h:nZ w x)(g:Fr ag w w'):nZ w' x:=by
 obtain⟨a,b,c,d,e,f⟩:=h;exact⟨a,b,c,d,e,f.fr g (fun x=>x)⟩
def Lj(x:Nd):Ent:=(x.nm,x.v)
structure PL(w:World)(A:Option Addr)(n c:Nat)(L:List Nd):Prop where
 rd:Rd w (fun _=>True) 1 A n (L.map Ku)
 len:L.length=n
 cap:n≤c
 aO:c≤maxLen
 at_:∀x∈L,nZ w x
 own:∀x∈L,x.nm.owner.size≤1099511627776
theorem PL.aq{w w':World}{A:Option Addr}{n c:Nat}{L:List Nd}(h:PL w A n c L)(a:Fr ag w w'):PL w' A n c L:=⟨h.rd.aq a,h.len,h.cap,h.aO,fun x b=>(h.at_ x b).aq a,h.own⟩
theorem PL.tail{w:World}{a:Addr}{n c:Nat}{x:Nd}{L:List Nd}(h:PL w (some a) n c (x::L)):PL w (if c=1 then some a else some (a.add 1)) (n-1) (c-1) L:=by
 have k:=h.len;simp only[List.length_cons]at k;refine⟨⟨by rw[List.length_map];omega,fun l=>?_⟩,by omega,by have:=h.cap;omega,by have:=h.aO;omega,fun y d=>h.at_ y (by simp[d]),fun y d=>h.own y (by simp[d])⟩;have b:¬c=1:=by have:=h.cap;omega
 obtain⟨f,e,_,g⟩:=h.rd.2 (by omega);cases e;rw[if_neg b];refine⟨_,rfl,trivial,fun j u i=>?_⟩;have q:=g (1+j) u (by rw[List.map_cons,Nat.add_comm,List.getElem?_cons_succ];exact i);rw[gD];exact q
def Bz(w:World)(a:Option Addr):Prop:=a=none∨∃g cs,a=some ⟨g,0,none⟩∧ao w g 177 cs
theorem Bz.aq{w w':World}{a:Option Addr}(h:Bz w a)(c:Fr ag w w'):Bz w' a:=by
 rcases h with h|⟨g,cs,h,b⟩;·exact .inl h
 ·exact .inr ⟨g,cs,h,b.fr c (fun x=>x)⟩
theorem IU{w:World}{base:Nat}{e:TypeId}{size n m c:Nat}{A:Option Addr}{xs:List Value}(h:w.ownsRow base e size (.slice A m c) n xs):c≤maxLen:=by
 rcases h.2 with⟨a,_⟩|⟨g,cap,cur,a,_,_,_,b,_⟩;·cases a;exact Nat.zero_le _
 ·cases a;exact b
theorem PL.of{w:World}{A:Option Addr}{m c n:Nat}{L:List Nd}{M:List Ent}(h:w.ownsRow 0 172 1 (.slice A m c) n (L.map Ku))(hm:m=n)(b:m≤c)(a:∀x∈L,nZ w x)(he:L.map Lj=M)(d:jG M):PL w A m c L:=by
 subst hm;refine⟨(Rd.gO h).any,?_,b,IU h,a,fun x e=>d (Lj x) ?_⟩;·have:=h.1;rw[List.length_map]at this;omega
 ·rw[←he];exact List.mem_map_of_mem e
end Go.Proofs.YtphjagkehiklkaaGreatDoor
