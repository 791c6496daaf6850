/- Texts. -/
import Derived.Test.YtphjagkehiklkaaGreatDoorEK07
set_option linter.unusedVariables false
set_option linter.unusedSimpArgs false
set_option maxRecDepth 100000
set_option maxHeartbeats 8000000
namespace Go.Proofs.YtphjagkehiklkaaGreatDoor
open Proofs.Tryz Go.RowKit Go.Shelf
def kX(w:World)(v:Value)(L:List Ent):Prop:=∃a b,v= .pointer a/\ck w a b/\b.bM=L
theorem mz{nm:aG}{v:ByteArray}:∀(L:List Ent),(dC nm v L).length<=L.length+1/\cE (dC nm v L)<=v.size+cE L
 |[]=>by simp[dC,cE]
 |y::L=>by
  have h:=mz (nm:=nm) (v:=v) L;rw[dC];split;·simp[cE]
  ·split;·simp[cE]
   ·simp only[cE,List.map_cons,List.sum_cons,List.length_cons]at h⊢;omega
theorem ky{nm:aG}:∀(L:List Ent),(dm nm L).length<=L.length/\cE (dm nm L)<=cE L
 |[]=>by simp[dm]
 |y::L=>by
  have h:=ky (nm:=nm) L;rw[dm];split;·simp[cE]
  ·simp only[cE,List.map_cons,List.sum_cons,List.length_cons]at h⊢;omega
theorem jL.parts{L b:List Ent}{x:Ent}(h:jL (L++x::b)):jL L/\jL b/\x.1.owner.size<=1099511627776:=
 ⟨λy a=>h y (by simp[a]),λy a=>h y (by simp[a]),h x (by simp)⟩
theorem kZ{w:World}{a ra:Option Addr}{l r:Tr}{g:Nat}{nm:aG}{v:ByteArray}{X Y:List Ent}(e:ck w a l)(f:ck w ra r)(hm:Mid w g nm v)(el:l.bM=X)(c:r.bM=Y)
  (b:X.length+Y.length+1<=1048576)(d:v.size+cE X+cE Y<=1099511627776):Calls prog 177 #[.pointer a, .pointer (some ⟨g,0,none⟩), .pointer ra] w (Balanced w (X++(nm,v)::Y)):=by
 subst el c;refine zh a ra l r g nm v w e f hm ?_ ?_;·rw[Tr.cj,Tr.cj]at b;exact b
 ·rw[Tr.de,Tr.de];exact d
theorem I3(nm:aG)(v:ByteArray)(g:Nat)(aL:nm.owner.size<=1099511627776)(t:Tr):∀(a:Option Addr)(w:World),ck w a t->Mid w g nm v->cu t.bM->jL t.bM->t.size+1<=1048576->v.size+t.bytes<=1099511627776->
  Calls prog 163 #[.pointer a, .pointer (some ⟨g,0,none⟩)] w (Balanced w (dC nm v t.bM)):=by
 induction t with
 |leaf=>
  intro a w hN aw _ _ _ ax;obtain rfl:a=none:=hN;refine(Fz nm v g w aw (by simp only[Tr.bytes]at ax;omega)).mono ?_;rintro e w'⟨a,rfl,o,p⟩;exact⟨a,_,rfl,o,rfl,p⟩
 |node l n P r am an=>
  intro a w hN aw aT aS aV ax;have aN:l.size+r.size+2<=1048576:=by simp only[Tr.size]at aV;omega
  have aK:v.size+P.size+l.bytes+r.bytes<=1099511627776:=by simp only[Tr.bytes]at ax;omega
  have K:=af (cu.parts aT);have S:=af (jL.parts aS);obtain⟨s,N,ra,rfl,z,aU,M⟩:=hN;have aC:=af z;have aE:=af aU;have av:=af aw;have aD:Hid (Mid w s n P):=Mid.of M;have az:Hid (w.cell? ⟨s,0,none⟩=some (.pointer N)):=M.cell 0;have aB:Hid (w.cell? ⟨s,1,none⟩=some (.pointer ra)):=M.cell 1;have aQ:Hid (∀w',Calls prog 128 #[.agg nm.cells.toArray, .agg n.cells.toArray] w' (aM w' (.int .i64 (bL nm n)))):=λw'=>fi nm n w' aL S.out.2.2;have a2:Hid (∀w',Fr Nothing w w'->Calls prog 163 #[.pointer N, .pointer (some ⟨g,0,none⟩)] w' (Balanced w' (dC nm v l.bM))):=λw' f=>am N w' (aC.out.ao f) (av.out.ao f) K.out.1 S.out.1 (by omega) (by omega);have a3:Hid (∀w',Fr Nothing w w'->Calls prog 163 #[.pointer ra, .pointer (some ⟨g,0,none⟩)] w' (Balanced w' (dC nm v r.bM))):=λw' f=>an ra w' (aE.out.ao f) (av.out.ao f) K.out.2.1 S.out.2.1 (by omega) (by omega);have aY:Hid (∀w' b u,Fr Nothing w w'->ck w' b u->u.bM=dC nm v l.bM->Calls prog 177 #[.pointer b, .pointer (some ⟨s,0,none⟩), .pointer ra] w' (Balanced w' (dC nm v l.bM++(n,P)::r.bM))):=λw' b u f o e=>by
   have A:=mz (nm:=nm) (v:=v) l.bM;rw[Tr.cj,<-Tr.de]at A;exact kZ o (aE.out.ao f) (aD.out.ao f) e rfl (by rw[Tr.cj];omega) (by rw[<-Tr.de];omega)
  have aZ:Hid (∀w' b u,Fr Nothing w w'->ck w' b u->u.bM=dC nm v r.bM->Calls prog 177 #[.pointer N, .pointer (some ⟨s,0,none⟩), .pointer b] w' (Balanced w' (l.bM++(n,P)::dC nm v r.bM))):=λw' b u f o e=>by
   have A:=mz (nm:=nm) (v:=v) r.bM;rw[Tr.cj,<-Tr.de]at A;exact kZ (aC.out.ao f) o (aD.out.ao f) rfl e (by rw[Tr.cj];omega) (by rw[<-Tr.de];omega)
  have a1:Hid (∀w',Fr Nothing w w'->Calls prog 178 #[.pointer N, .pointer (some ⟨g,0,none⟩), .pointer ra] w' (λe ap=>∃a,e= .returned (.pointer a)/\ck ap a (.node l nm v r)/\Fr Nothing w' ap)):=λw' f=>fK w' N ra l r g nm v (aC.out.ao f) (aE.out.ao f) (av.out.ao f) (by omega) (by omega);obtain⟨J,aa⟩:∃J,J=bL nm n:=⟨_,rfl⟩;rw[<-aa]at aQ;have Q:=af aa;clear z aU aw M aT aS aV ax aN aK aa am an;go_enter func163,ntmps163;go_upto_region 3 with fail;refine ay 10 Nothing [Is (.pointer (some ⟨g,0,none⟩)),Is (.pointer (some ⟨g,0,none⟩)),Is (.pointer (some ⟨g,2,none⟩)),Is (.agg nm.cells.toArray),Is (.pointer (some ⟨s,0,none⟩)),Is (.pointer (some ⟨s,0,none⟩)),Is (.pointer (some ⟨s,2,none⟩)),Is (.agg n.cells.toArray),Is (.int .i64 J),Is (.int .i64 J)] [] (λ_=>True) (λ_ _=>false) (by kernel_rfl) (by kernel_rfl) (by kernel_rfl) (by kernel_rfl) ⟨Is.ag _,Is.ag _,Is.ag _,Is.ag _,Is.ag _,Is.ag _,Is.ag _,Is.ag _,Is.ag _,Is.ag _,trivial⟩ trivial (λ_ _ _ _ h=>h) trivial ?_ ?_
  ·refine⟨?_,?_,?_,?_,?_,?_,?_,?_,?_,?_,trivial⟩;all_goals intro u w' d p c m k i
   all_goals simp only[bC,bD,bE,bF,ar,Act.put,bG,bH,bI,Nat.reduceAdd,Nat.zero_add]
   ·clear c m k i;refine aj ?_;go_simp;exact⟨_,rfl,al⟩
   ·have U:u 0=_:=c 0;clear c m k i;simp only[U];refine aj ?_;go_simp;exact⟨_,rfl,al⟩
   ·have A:u 1=_:=c 1;clear c m k i;simp only[A];refine aj ?_;go_simp;exact⟨_,rfl,al⟩
   ·have E:u 2=_:=c 2;clear c m k i;simp only[E];refine aj ?_;exact au _ _ rfl ⟨g,2,none⟩ rfl nm.cells _ (λj x aO=>by rw[Addr.add_mid];exact p.ak (av.out.name j x aO) id) underlying106 rfl aW ⟨_,rfl,al⟩
   ·clear c m k i;refine aj ?_;go_simp;exact⟨_,rfl,al⟩
   ·have W:u 4=_:=c 4;clear c m k i;simp only[W];refine aj ?_;go_simp;exact⟨_,rfl,al⟩
   ·have ai:u 5=_:=c 5;clear c m k i;simp only[ai];refine aj ?_;go_simp;exact⟨_,rfl,al⟩
   ·have X:u 6=_:=c 6;clear c m k i;simp only[X];refine aj ?_;exact au _ _ rfl ⟨s,2,none⟩ rfl n.cells _ (λj x aO=>by rw[Addr.add_mid];exact p.ak (aD.out.name j x aO) id) underlying106 rfl aW ⟨_,rfl,al⟩
   ·have V:u 3=_:=c 3;have Y:u 7=_:=c 7;clear c m k i;simp only[V,Y];refine aj ?_;go_simp;refine(aQ.out _).mono ?_;rintro e aq⟨rfl,f4⟩;exact⟨_,rfl,f4.bR,rfl,trivial⟩
   ·have Z:u 8=_:=c 8;clear c m k i;simp only[Z];refine aj ?_;go_simp;exact⟨_,rfl,al⟩
  ·intro u w' p c i;have aX:u 9=_:=c 9 (by omega);clear c i;simp only[bC,bD,bE,bF,ar,Act.put,bG,bH,bI,dt,du,Nat.reduceAdd,Nat.zero_add,aX];have D:=af p;clear p aX;by_cases A:J<0
   ·have t1:decide (J<0)=true:=decide_eq_true A;have H1:=af A;clear A;go_upto_region 5 with fail;refine ay 13 Nothing [Is (.pointer (some ⟨s,0,none⟩)),Is (.pointer (some ⟨s,0,none⟩)),Is (.pointer (some ⟨s,0,none⟩)),Is (.pointer N),Is (.pointer (some ⟨g,0,none⟩)),(λC B=>kX B C (dC nm v l.bM)),Is (.pointer (some ⟨s,0,none⟩)),Is (.pointer (some ⟨s,0,none⟩)),Is (.pointer (some ⟨s,0,none⟩)),Is (.pointer (some ⟨s,1,none⟩)),Is (.pointer ra),(λC B=>kX B C ((dC nm v l.bM++(n,P)::r.bM))),(λC B=>kX B C ((dC nm v l.bM++(n,P)::r.bM)))] [] (λ_=>True) (λ_ _=>false) (by kernel_rfl) (by kernel_rfl) (by kernel_rfl) (by kernel_rfl) ⟨Is.ag _,Is.ag _,Is.ag _,Is.ag _,Is.ag _,λv w1 w2 _ f h=>by obtain⟨a,t,e,o,z⟩:=h;exact⟨a,t,e,o.ao f,z⟩,Is.ag _,Is.ag _,Is.ag _,Is.ag _,Is.ag _,λv w1 w2 _ f h=>by obtain⟨a,t,e,o,z⟩:=h;exact⟨a,t,e,o.ao f,z⟩,λv w1 w2 _ f h=>by obtain⟨a,t,e,o,z⟩:=h;exact⟨a,t,e,o.ao f,z⟩,trivial⟩ trivial (λ_ _ _ _ h=>h) trivial ?_ ?_
    ·refine⟨?_,?_,?_,?_,?_,?_,?_,?_,?_,?_,?_,?_,?_,trivial⟩;all_goals intro u w' d p c m k i
     all_goals simp only[bC,bD,bE,bF,ar,Act.put,bG,bH,bI,Nat.reduceAdd,Nat.zero_add]
     ·clear c m k i;refine aj ?_;go_simp;exact⟨_,rfl,al⟩
     ·have U:u 0=_:=c 0;clear c m k i;simp only[U];refine aj ?_;go_simp;exact⟨_,rfl,al⟩
     ·have A:u 1=_:=c 1;clear c m k i;simp only[A];refine aj ?_;go_simp;exact⟨_,rfl,al⟩
     ·have E:u 2=_:=c 2;clear c m k i;simp only[E];refine aj ?_;have q:=p.ak (D.out.ak az.out id) id;go_simp;exact⟨_,rfl,al⟩
     ·clear c m k i;refine aj ?_;go_simp;exact⟨_,rfl,al⟩
     ·have V:u 3=_:=c 3;have W:u 4=_:=c 4;clear c m k i;simp only[V,W];refine aj ?_;go_simp;refine(a2.out _ (D.out.trans p)).mono ?_;rintro e aq⟨F,ad,rfl,o,z,f4⟩;exact⟨_,rfl,f4.bR,⟨F,ad,rfl,o,z⟩,trivial⟩
     ·clear c m k i;refine aj ?_;go_simp;exact⟨_,rfl,al⟩
     ·clear c m k i;refine aj ?_;go_simp;exact⟨_,rfl,al⟩
     ·have Y:u 7=_:=c 7;clear c m k i;simp only[Y];refine aj ?_;go_simp;exact⟨_,rfl,al⟩
     ·have Z:u 8=_:=c 8;clear c m k i;simp only[Z];refine aj ?_;go_simp;exact⟨_,rfl,al⟩
     ·have aJ:u 9=_:=c 9;clear c m k i;simp only[aJ];refine aj ?_;have q:=p.ak (D.out.ak aB.out id) id;go_simp;exact⟨_,rfl,al⟩
     ·obtain⟨a5,t5,a4,n5,a8⟩:=c 5;have X:u 6=_:=c 6;have aI:u 10=_:=c 10;clear c m k i;simp only[a4,X,aI];refine aj ?_;go_simp;refine(aY.out _ _ _ (D.out.trans p) n5 a8).mono ?_;rintro e aq⟨F,ad,rfl,o,z,f4⟩;exact⟨_,rfl,f4.bR,⟨F,ad,rfl,o,z⟩,trivial⟩
     ·obtain⟨aH,t11,T,ac,ab⟩:=c 11;clear c m k i;simp only[T];refine aj ?_;go_simp;exact⟨_,rfl,aA,⟨_,_,rfl,ac,ab⟩,trivial⟩
    ·intro u w' p c i;obtain⟨a12,t12,G,I,H⟩:=c 12 (by omega);clear c i;simp only[bC,bD,bE,bF,ar,Act.put,bG,bH,bI,dt,du,Nat.reduceAdd,Nat.zero_add,G];have ae:=af (D.out.trans p);have ah:=af I;have R:=af H;clear p I G H;go_wp2;go_ret;refine⟨_,_,rfl,ah.out,?_,ae.out⟩;rw[R.out,Tr.bM,Bt (by have h:=H1.out;rw[Q.out]at h;exact h)]
   ·have t1:decide (J<0)=false:=decide_eq_false A;by_cases E:0<J
    ·have t2:decide (0<J)=true:=decide_eq_true E;have a0:=af E;clear A E;go_upto_region 7 with fail;refine ay 13 Nothing [Is (.pointer (some ⟨s,0,none⟩)),Is (.pointer (some ⟨s,0,none⟩)),Is (.pointer (some ⟨s,0,none⟩)),Is (.pointer N),Is (.pointer (some ⟨s,0,none⟩)),Is (.pointer (some ⟨s,0,none⟩)),Is (.pointer (some ⟨s,0,none⟩)),Is (.pointer (some ⟨s,1,none⟩)),Is (.pointer ra),Is (.pointer (some ⟨g,0,none⟩)),(λC B=>kX B C (dC nm v r.bM)),(λC B=>kX B C ((l.bM++(n,P)::dC nm v r.bM))),(λC B=>kX B C ((l.bM++(n,P)::dC nm v r.bM)))] [] (λ_=>True) (λ_ _=>false) (by kernel_rfl) (by kernel_rfl) (by kernel_rfl) (by kernel_rfl) ⟨Is.ag _,Is.ag _,Is.ag _,Is.ag _,Is.ag _,Is.ag _,Is.ag _,Is.ag _,Is.ag _,Is.ag _,λv w1 w2 _ f h=>by obtain⟨a,t,e,o,z⟩:=h;exact⟨a,t,e,o.ao f,z⟩,λv w1 w2 _ f h=>by obtain⟨a,t,e,o,z⟩:=h;exact⟨a,t,e,o.ao f,z⟩,λv w1 w2 _ f h=>by obtain⟨a,t,e,o,z⟩:=h;exact⟨a,t,e,o.ao f,z⟩,trivial⟩ trivial (λ_ _ _ _ h=>h) trivial ?_ ?_
     ·refine⟨?_,?_,?_,?_,?_,?_,?_,?_,?_,?_,?_,?_,?_,trivial⟩;all_goals intro u w' d p c m k i
      all_goals simp only[bC,bD,bE,bF,ar,Act.put,bG,bH,bI,Nat.reduceAdd,Nat.zero_add]
      ·clear c m k i;refine aj ?_;go_simp;exact⟨_,rfl,al⟩
      ·have U:u 0=_:=c 0;clear c m k i;simp only[U];refine aj ?_;go_simp;exact⟨_,rfl,al⟩
      ·have A:u 1=_:=c 1;clear c m k i;simp only[A];refine aj ?_;go_simp;exact⟨_,rfl,al⟩
      ·have E:u 2=_:=c 2;clear c m k i;simp only[E];refine aj ?_;have q:=p.ak (D.out.ak az.out id) id;go_simp;exact⟨_,rfl,al⟩
      ·clear c m k i;refine aj ?_;go_simp;exact⟨_,rfl,al⟩
      ·clear c m k i;refine aj ?_;go_simp;exact⟨_,rfl,al⟩
      ·have ai:u 5=_:=c 5;clear c m k i;simp only[ai];refine aj ?_;go_simp;exact⟨_,rfl,al⟩
      ·have X:u 6=_:=c 6;clear c m k i;simp only[X];refine aj ?_;go_simp;exact⟨_,rfl,al⟩
      ·have Y:u 7=_:=c 7;clear c m k i;simp only[Y];refine aj ?_;have q:=p.ak (D.out.ak aB.out id) id;go_simp;exact⟨_,rfl,al⟩
      ·clear c m k i;refine aj ?_;go_simp;exact⟨_,rfl,al⟩
      ·have Z:u 8=_:=c 8;have aJ:u 9=_:=c 9;clear c m k i;simp only[Z,aJ];refine aj ?_;go_simp;refine(a3.out _ (D.out.trans p)).mono ?_;rintro e aq⟨F,ad,rfl,o,z,f4⟩;exact⟨_,rfl,f4.bR,⟨F,ad,rfl,o,z⟩,trivial⟩
      ·have V:u 3=_:=c 3;have W:u 4=_:=c 4;obtain⟨aF,t10,L,O,l10⟩:=c 10;clear c m k i;simp only[V,W,L];refine aj ?_;go_simp;refine(aZ.out _ _ _ (D.out.trans p) O l10).mono ?_;rintro e aq⟨F,ad,rfl,o,z,f4⟩;exact⟨_,rfl,f4.bR,⟨F,ad,rfl,o,z⟩,trivial⟩
      ·obtain⟨aH,t11,T,ac,ab⟩:=c 11;clear c m k i;simp only[T];refine aj ?_;go_simp;exact⟨_,rfl,aA,⟨_,_,rfl,ac,ab⟩,trivial⟩
     ·intro u w' p c i;obtain⟨a12,t12,G,I,H⟩:=c 12 (by omega);clear c i;simp only[bC,bD,bE,bF,ar,Act.put,bG,bH,bI,dt,du,Nat.reduceAdd,Nat.zero_add,G];have ae:=af (D.out.trans p);have ah:=af I;have R:=af H;clear p I G H;go_wp2;go_ret;refine⟨_,_,rfl,ah.out,?_,ae.out⟩;have a7:0<bL nm n:=by have h:=a0.out;rw[Q.out]at h;exact h
      rw[R.out,Tr.bM,my _ _ (λy aP=>fT (cp.trans _ _ _ (K.out.2.2.1 y aP) (ma a7))),dC,if_neg (by simp only;omega),if_neg (by simp only;omega)]
    ·have t2:decide (0<J)=false:=decide_eq_false E;have aR:Hid (nm=n):=cp.eq nm n (by have h:=Q.out;omega);clear A E;go_upto_region 8 with fail;refine ay 11 Nothing [Is (.pointer (some ⟨s,0,none⟩)),Is (.pointer (some ⟨s,0,none⟩)),Is (.pointer (some ⟨s,0,none⟩)),Is (.pointer N),Is (.pointer (some ⟨g,0,none⟩)),Is (.pointer (some ⟨s,0,none⟩)),Is (.pointer (some ⟨s,0,none⟩)),Is (.pointer (some ⟨s,1,none⟩)),Is (.pointer ra),(λC B=>∃F,C= .pointer F/\ck B F (.node l nm v r)),(λC B=>∃F,C= .pointer F/\ck B F (.node l nm v r))] [] (λ_=>True) (λ_ _=>false) (by kernel_rfl) (by kernel_rfl) (by kernel_rfl) (by kernel_rfl) ⟨Is.ag _,Is.ag _,Is.ag _,Is.ag _,Is.ag _,Is.ag _,Is.ag _,Is.ag _,Is.ag _,λv w1 w2 _ f h=>by obtain⟨a,e,o⟩:=h;exact⟨a,e,o.ao f⟩,λv w1 w2 _ f h=>by obtain⟨a,e,o⟩:=h;exact⟨a,e,o.ao f⟩,trivial⟩ trivial (λ_ _ _ _ h=>h) trivial ?_ ?_
     ·refine⟨?_,?_,?_,?_,?_,?_,?_,?_,?_,?_,?_,trivial⟩;all_goals intro u w' d p c m k i
      all_goals simp only[bC,bD,bE,bF,ar,Act.put,bG,bH,bI,Nat.reduceAdd,Nat.zero_add]
      ·clear c m k i;refine aj ?_;go_simp;exact⟨_,rfl,al⟩
      ·have U:u 0=_:=c 0;clear c m k i;simp only[U];refine aj ?_;go_simp;exact⟨_,rfl,al⟩
      ·have A:u 1=_:=c 1;clear c m k i;simp only[A];refine aj ?_;go_simp;exact⟨_,rfl,al⟩
      ·have E:u 2=_:=c 2;clear c m k i;simp only[E];refine aj ?_;have q:=p.ak (D.out.ak az.out id) id;go_simp;exact⟨_,rfl,al⟩
      ·clear c m k i;refine aj ?_;go_simp;exact⟨_,rfl,al⟩
      ·clear c m k i;refine aj ?_;go_simp;exact⟨_,rfl,al⟩
      ·have ai:u 5=_:=c 5;clear c m k i;simp only[ai];refine aj ?_;go_simp;exact⟨_,rfl,al⟩
      ·have X:u 6=_:=c 6;clear c m k i;simp only[X];refine aj ?_;go_simp;exact⟨_,rfl,al⟩
      ·have Y:u 7=_:=c 7;clear c m k i;simp only[Y];refine aj ?_;have q:=p.ak (D.out.ak aB.out id) id;go_simp;exact⟨_,rfl,al⟩
      ·have V:u 3=_:=c 3;have W:u 4=_:=c 4;have Z:u 8=_:=c 8;clear c m k i;simp only[V,W,Z];refine aj ?_;go_simp;refine(a1.out _ (D.out.trans p)).mono ?_;rintro e aq⟨a,rfl,o,f4⟩;exact⟨_,rfl,f4.bR,⟨a,rfl,o⟩,trivial⟩
      ·obtain⟨a9,a6,ba⟩:=c 9;clear c m k i;simp only[a6];refine aj ?_;go_simp;exact⟨_,rfl,aA,⟨_,rfl,ba⟩,trivial⟩
     ·intro u w' p c i;obtain⟨aF,L,O⟩:=c 10 (by omega);clear c i;simp only[bC,bD,bE,bF,ar,Act.put,bG,bH,bI,dt,du,Nat.reduceAdd,Nat.zero_add,L];have ae:=af (D.out.trans p);have ah:=af O;clear p O L;go_wp2;go_ret;refine⟨_,_,rfl,ah.out,?_,ae.out⟩;rw[Tr.bM,Tr.bM,my _ _ (λy aP=>by rw[aR.out];exact fT (K.out.2.2.1 y aP)),dC,aR.out];simp only[cp.refl];rfl
theorem Ad(t:Tr):∀(nm:aG)(a:Option Addr)(w:World),nm.owner.size<=1099511627776->(∃v,(nm,v)∈t.bM)->ck w a t->cu t.bM->jL t.bM->t.size<=1048575->t.bytes<=1099511627776->
  Calls prog 162 #[.pointer a, .agg nm.cells.toArray] w (Balanced w (dm nm t.bM)):=by
 induction t with
 |leaf=>
  intro nm a w _ h;obtain⟨v,h⟩:=h;cases h
 |node l s N r a6 a7=>
  intro nm a w ac ai hN bZ bY b2 b0;have a3:l.size+r.size+1<=1048575:=by simp only[Tr.size]at b2;omega
  have a1:N.size+l.bytes+r.bytes<=1099511627776:=by simp only[Tr.bytes]at b0;omega
  have K:=af (cu.parts bZ);have Z:=af (jL.parts bY);have aN:=af ai;obtain⟨C,am,ra,rfl,B,b1,ab⟩:=hN;have bd:=af B;have aQ:=af b1;have bi:Hid (Mid w C s N):=Mid.of ab;have bc:Hid (w.cell? ⟨C,0,none⟩=some (.pointer am)):=ab.cell 0;have aJ:Hid (w.cell? ⟨C,1,none⟩=some (.pointer ra)):=ab.cell 1;have bN:Hid (∀w',Calls prog 128 #[.agg nm.cells.toArray, .agg s.cells.toArray] w' (aM w' (.int .i64 (bL nm s)))):=λw'=>fi nm s w' ac Z.out.2.2;obtain⟨L,az⟩:∃L,L=bL nm s:=⟨_,rfl⟩;rw[<-az]at bN;have O:=af az;have a8:Hid (L<0->∃v,(nm,v)∈l.bM):=λh=>by
   obtain⟨v,F⟩:=aN.out;rw[O.out]at h;simp only[Tr.bM,List.mem_append,List.mem_cons]at F;rcases F with F|F|F;·exact⟨v,F⟩
   ·simp only[Prod.mk.injEq]at F;rw[F.1,cp.refl]at h;omega
   ·have H:=K.out.2.2.2 _ F;have ah:=cp.lG nm s;simp only at H;omega
  have bw:Hid (0<L->∃v,(nm,v)∈r.bM):=λh=>by
   obtain⟨v,F⟩:=aN.out;rw[O.out]at h;simp only[Tr.bM,List.mem_append,List.mem_cons]at F;rcases F with F|F|F;·have H:=K.out.2.2.1 _ F;simp only at H;omega
   ·simp only[Prod.mk.injEq]at F;rw[F.1,cp.refl]at h;omega
   ·exact⟨v,F⟩
  have b6:Hid (∀w',L<0->Fr Nothing w w'->Calls prog 162 #[.pointer am, .agg nm.cells.toArray] w' (Balanced w' (dm nm l.bM))):=λw' cd f=>a6 nm am w' ac (a8.out cd) (bd.out.ao f) K.out.1 Z.out.1 (by omega) (by omega);have bV:Hid (∀w' n,n.owner.size<=1099511627776->(∃v,(n,v)∈r.bM)->Fr Nothing w w'->Calls prog 162 #[.pointer ra, .agg n.cells.toArray] w' (Balanced w' (dm n r.bM))):=λw' n p hm f=>a7 n ra w' p hm (aQ.out.ao f) K.out.2.1 Z.out.2.1 (by omega) (by omega);have b4:Hid (∀w' b u,Fr Nothing w w'->ck w' b u->u.bM=dm nm l.bM->Calls prog 177 #[.pointer b, .pointer (some ⟨C,0,none⟩), .pointer ra] w' (Balanced w' (dm nm l.bM++(s,N)::r.bM))):=λw' b u f p e=>by
   have E:=ky (nm:=nm) l.bM;rw[Tr.cj,<-Tr.de]at E;exact kZ p (aQ.out.ao f) (bi.out.ao f) e rfl (by rw[Tr.cj];omega) (by rw[<-Tr.de];omega)
  have b5:Hid (∀w' b u n m v,Fr Nothing w w'->Mid w' m n v->v.size<=N.size+r.bytes->cE (dm n r.bM)+v.size<=N.size+r.bytes->ck w' b u->u.bM=dm n r.bM->Calls prog 177 #[.pointer am, .pointer (some ⟨m,0,none⟩), .pointer b] w' (Balanced w' (l.bM++(n,v)::dm n r.bM))):=λw' b u n m v f hm _ F p e=>by
   have E:=ky (nm:=n) r.bM;rw[Tr.cj,<-Tr.de]at E;exact kZ (bd.out.ao f) p hm rfl e (by rw[Tr.cj];omega) (by rw[<-Tr.de];omega)
  have bj:=af ac;have bk:=af a3;have bg:=af a1;clear B b1 ab bZ bY b2 b0 a3 a1 az a6 a7 ai ac;go_enter func162,ntmps162;go_wp2_with(refine aD rfl 106 (.tmp 1) rfl nm.cells.toArray rfl ?_);intro w1 n1;have bO:=af n1.fr;have aS:=af n1.aF;clear n1;generalize w.heap.size=be at*;have bU:Hid (aq w1 be 106 nm.cells.toArray):=aS.out;clear aS;go_upto_region 1 with fail;refine ay 7 Nothing [Is (.agg nm.cells.toArray),Is (.pointer (some ⟨C,0,none⟩)),Is (.pointer (some ⟨C,0,none⟩)),Is (.pointer (some ⟨C,2,none⟩)),Is (.agg s.cells.toArray),Is (.int .i64 L),Is (.int .i64 L)] [] (λ_=>True) (λ_ _=>false) (by kernel_rfl) (by kernel_rfl) (by kernel_rfl) (by kernel_rfl) ⟨Is.ag _,Is.ag _,Is.ag _,Is.ag _,Is.ag _,Is.ag _,Is.ag _,trivial⟩ trivial (λ_ _ _ _ h=>h) trivial ?_ ?_
  ·refine⟨?_,?_,?_,?_,?_,?_,?_,trivial⟩;all_goals intro u w' d A c o k g
   all_goals simp only[bC,bD,bE,bF,ar,Act.put,bG,bH,bI,Nat.reduceAdd,Nat.zero_add]
   ·clear c o k g;refine aj ?_;exact au _ _ rfl ⟨be,0,none⟩ rfl nm.cells _ (λj x ad=>by rw[Addr.add_mid,Nat.zero_add];exact(bU.out.fr A id).cell j|>.trans (by rw[bP];exact ad)) underlying106 rfl aW ⟨_,rfl,al⟩
   ·clear c o k g;refine aj ?_;go_simp;exact⟨_,rfl,al⟩
   ·have E:u 1=_:=c 1;clear c o k g;simp only[E];refine aj ?_;go_simp;exact⟨_,rfl,al⟩
   ·have H:u 2=_:=c 2;clear c o k g;simp only[H];refine aj ?_;go_simp;exact⟨_,rfl,al⟩
   ·have ah:u 3=_:=c 3;clear c o k g;simp only[ah];refine aj ?_;exact au _ _ rfl ⟨C,2,none⟩ rfl s.cells _ (λj x ad=>by rw[Addr.add_mid];exact(bO.out.trans A).ak (bi.out.name j x ad) id) underlying106 rfl aW ⟨_,rfl,al⟩
   ·have ap:u 0=_:=c 0;have aw:u 4=_:=c 4;clear c o k g;simp only[ap,aw];refine aj ?_;go_simp;refine(bN.out _).mono ?_;rintro e aI⟨rfl,f4⟩;exact⟨_,rfl,f4.bR,rfl,trivial⟩
   ·have aV:u 5=_:=c 5;clear c o k g;simp only[aV];refine aj ?_;go_simp;exact⟨_,rfl,al⟩
  ·intro u w' A c g;have k6:u 6=_:=c 6 (by omega);clear c g;simp only[bC,bD,bE,bF,ar,Act.put,bG,bH,bI,dt,du,Nat.reduceAdd,Nat.zero_add,k6];have G:=af (bO.out.trans A);have aT:=af (bU.out.fr A id);clear A k6;by_cases E:L<0
   ·have t1:decide (L<0)=true:=decide_eq_true E;have H1:=af E;clear E;go_upto_region 3 with fail;refine ay 13 Nothing [Is (.pointer (some ⟨C,0,none⟩)),Is (.pointer (some ⟨C,0,none⟩)),Is (.pointer (some ⟨C,0,none⟩)),Is (.pointer am),Is (.agg nm.cells.toArray),(λJ I=>kX I J (dm nm l.bM)),Is (.pointer (some ⟨C,0,none⟩)),Is (.pointer (some ⟨C,0,none⟩)),Is (.pointer (some ⟨C,0,none⟩)),Is (.pointer (some ⟨C,1,none⟩)),Is (.pointer ra),(λJ I=>kX I J ((dm nm l.bM++(s,N)::r.bM))),(λJ I=>kX I J ((dm nm l.bM++(s,N)::r.bM)))] [] (λ_=>True) (λ_ _=>false) (by kernel_rfl) (by kernel_rfl) (by kernel_rfl) (by kernel_rfl) ⟨Is.ag _,Is.ag _,Is.ag _,Is.ag _,Is.ag _,λv w1 w2 _ f h=>by obtain⟨a,t,e,p,B⟩:=h;exact⟨a,t,e,p.ao f,B⟩,Is.ag _,Is.ag _,Is.ag _,Is.ag _,Is.ag _,λv w1 w2 _ f h=>by obtain⟨a,t,e,p,B⟩:=h;exact⟨a,t,e,p.ao f,B⟩,λv w1 w2 _ f h=>by obtain⟨a,t,e,p,B⟩:=h;exact⟨a,t,e,p.ao f,B⟩,trivial⟩ trivial (λ_ _ _ _ h=>h) trivial ?_ ?_
    ·refine⟨?_,?_,?_,?_,?_,?_,?_,?_,?_,?_,?_,?_,?_,trivial⟩;all_goals intro u w' d A c o k g
     all_goals simp only[bC,bD,bE,bF,ar,Act.put,bG,bH,bI,Nat.reduceAdd,Nat.zero_add]
     ·clear c o k g;refine aj ?_;go_simp;exact⟨_,rfl,al⟩
     ·have ap:u 0=_:=c 0;clear c o k g;simp only[ap];refine aj ?_;go_simp;exact⟨_,rfl,al⟩
     ·have E:u 1=_:=c 1;clear c o k g;simp only[E];refine aj ?_;go_simp;exact⟨_,rfl,al⟩
     ·have H:u 2=_:=c 2;clear c o k g;simp only[H];refine aj ?_;have q:=A.ak (G.out.ak bc.out id) id;go_simp;exact⟨_,rfl,al⟩
     ·clear c o k g;refine aj ?_;exact au _ _ rfl ⟨be,0,none⟩ rfl nm.cells _ (λj x ad=>by rw[Addr.add_mid,Nat.zero_add];exact(aT.out.fr A id).cell j|>.trans (by rw[bP];exact ad)) underlying106 rfl aW ⟨_,rfl,al⟩
     ·have ah:u 3=_:=c 3;have aw:u 4=_:=c 4;clear c o k g;simp only[ah,aw];refine aj ?_;go_simp;refine(b6.out _ H1.out (G.out.trans A)).mono ?_;rintro e aI⟨V,W,rfl,p,B,f4⟩;exact⟨_,rfl,f4.bR,⟨V,W,rfl,p,B⟩,trivial⟩
     ·clear c o k g;refine aj ?_;go_simp;exact⟨_,rfl,al⟩
     ·clear c o k g;refine aj ?_;go_simp;exact⟨_,rfl,al⟩
     ·have aY:u 7=_:=c 7;clear c o k g;simp only[aY];refine aj ?_;go_simp;exact⟨_,rfl,al⟩
     ·have aZ:u 8=_:=c 8;clear c o k g;simp only[aZ];refine aj ?_;go_simp;exact⟨_,rfl,al⟩
     ·have a0:u 9=_:=c 9;clear c o k g;simp only[a0];refine aj ?_;have q:=A.ak (G.out.ak aJ.out id) id;go_simp;exact⟨_,rfl,al⟩
     ·obtain⟨a5,t5,cb,n5,cf⟩:=c 5;have aX:u 6=_:=c 6;have av:u 10=_:=c 10;clear c o k g;simp only[cb,aX,av];refine aj ?_;go_simp;refine(b4.out _ _ _ (G.out.trans A) n5 cf).mono ?_;rintro e aI⟨V,W,rfl,p,B,f4⟩;exact⟨_,rfl,f4.bR,⟨V,W,rfl,p,B⟩,trivial⟩
     ·obtain⟨bn,t11,an,aE,aC⟩:=c 11;clear c o k g;simp only[an];refine aj ?_;go_simp;exact⟨_,rfl,aA,⟨_,_,rfl,aE,aC⟩,trivial⟩
    ·intro u w' A c g;obtain⟨a12,t12,R,T,S⟩:=c 12 (by omega);clear c g;simp only[bC,bD,bE,bF,ar,Act.put,bG,bH,bI,dt,du,Nat.reduceAdd,Nat.zero_add,R];have aL:=af (G.out.trans A);have aP:=af T;have Q:=af S;clear A T R S;go_wp2;go_ret;refine⟨_,_,rfl,aP.out,?_,aL.out⟩;have p:bL nm s<0:=by have h:=H1.out;rw[O.out]at h;exact h
     rw[Q.out,Tr.bM,AY _ _ (λy aB=>?_) (a8.out H1.out)];rcases List.mem_cons.1 aB with rfl|aB;·exact p
     ·exact cp.trans _ _ _ p (K.out.2.2.2 y aB)
   ·have t1:decide (L<0)=false:=decide_eq_false E;by_cases H:0<L
    ·have t2:decide (0<L)=true:=decide_eq_true H;have bQ:=af H;have bf:Hid (∀w' b u,Fr Nothing w w'->ck w' b u->u.bM=dm nm r.bM->Calls prog 177 #[.pointer am, .pointer (some ⟨C,0,none⟩), .pointer b] w' (Balanced w' (l.bM++(s,N)::dm nm r.bM))):=λw' b u f p e=>by
      have E:=ky (nm:=nm) r.bM;rw[Tr.cj,<-Tr.de]at E;exact kZ (bd.out.ao f) p (bi.out.ao f) rfl e (by have h:=bk.out;rw[Tr.cj];omega) (by have h:=bg.out;rw[<-Tr.de];omega)
     clear E H;go_upto_region 5 with fail;refine ay 13 Nothing [Is (.pointer (some ⟨C,0,none⟩)),Is (.pointer (some ⟨C,0,none⟩)),Is (.pointer (some ⟨C,0,none⟩)),Is (.pointer am),Is (.pointer (some ⟨C,0,none⟩)),Is (.pointer (some ⟨C,0,none⟩)),Is (.pointer (some ⟨C,0,none⟩)),Is (.pointer (some ⟨C,1,none⟩)),Is (.pointer ra),Is (.agg nm.cells.toArray),(λJ I=>kX I J (dm nm r.bM)),(λJ I=>kX I J ((l.bM++(s,N)::dm nm r.bM))),(λJ I=>kX I J ((l.bM++(s,N)::dm nm r.bM)))] [] (λ_=>True) (λ_ _=>false) (by kernel_rfl) (by kernel_rfl) (by kernel_rfl) (by kernel_rfl) ⟨Is.ag _,Is.ag _,Is.ag _,Is.ag _,Is.ag _,Is.ag _,Is.ag _,Is.ag _,Is.ag _,Is.ag _,λv w1 w2 _ f h=>by obtain⟨a,t,e,p,B⟩:=h;exact⟨a,t,e,p.ao f,B⟩,λv w1 w2 _ f h=>by obtain⟨a,t,e,p,B⟩:=h;exact⟨a,t,e,p.ao f,B⟩,λv w1 w2 _ f h=>by obtain⟨a,t,e,p,B⟩:=h;exact⟨a,t,e,p.ao f,B⟩,trivial⟩ trivial (λ_ _ _ _ h=>h) trivial ?_ ?_
     ·refine⟨?_,?_,?_,?_,?_,?_,?_,?_,?_,?_,?_,?_,?_,trivial⟩;all_goals intro u w' d A c o k g
      all_goals simp only[bC,bD,bE,bF,ar,Act.put,bG,bH,bI,Nat.reduceAdd,Nat.zero_add]
      ·clear c o k g;refine aj ?_;go_simp;exact⟨_,rfl,al⟩
      ·have ap:u 0=_:=c 0;clear c o k g;simp only[ap];refine aj ?_;go_simp;exact⟨_,rfl,al⟩
      ·have E:u 1=_:=c 1;clear c o k g;simp only[E];refine aj ?_;go_simp;exact⟨_,rfl,al⟩
      ·have H:u 2=_:=c 2;clear c o k g;simp only[H];refine aj ?_;have q:=A.ak (G.out.ak bc.out id) id;go_simp;exact⟨_,rfl,al⟩
      ·clear c o k g;refine aj ?_;go_simp;exact⟨_,rfl,al⟩
      ·clear c o k g;refine aj ?_;go_simp;exact⟨_,rfl,al⟩
      ·have aV:u 5=_:=c 5;clear c o k g;simp only[aV];refine aj ?_;go_simp;exact⟨_,rfl,al⟩
      ·have aX:u 6=_:=c 6;clear c o k g;simp only[aX];refine aj ?_;go_simp;exact⟨_,rfl,al⟩
      ·have aY:u 7=_:=c 7;clear c o k g;simp only[aY];refine aj ?_;have q:=A.ak (G.out.ak aJ.out id) id;go_simp;exact⟨_,rfl,al⟩
      ·clear c o k g;refine aj ?_;exact au _ _ rfl ⟨be,0,none⟩ rfl nm.cells _ (λj x ad=>by rw[Addr.add_mid,Nat.zero_add];exact(aT.out.fr A id).cell j|>.trans (by rw[bP];exact ad)) underlying106 rfl aW ⟨_,rfl,al⟩
      ·have aZ:u 8=_:=c 8;have a0:u 9=_:=c 9;clear c o k g;simp only[aZ,a0];refine aj ?_;go_simp;refine(bV.out _ nm bj.out (bw.out bQ.out) (G.out.trans A)).mono ?_;rintro e aI⟨V,W,rfl,p,B,f4⟩;exact⟨_,rfl,f4.bR,⟨V,W,rfl,p,B⟩,trivial⟩
      ·have ah:u 3=_:=c 3;have aw:u 4=_:=c 4;obtain⟨b7,t10,bo,bA,l10⟩:=c 10;clear c o k g;simp only[ah,aw,bo];refine aj ?_;go_simp;refine(bf.out _ _ _ (G.out.trans A) bA l10).mono ?_;rintro e aI⟨V,W,rfl,p,B,f4⟩;exact⟨_,rfl,f4.bR,⟨V,W,rfl,p,B⟩,trivial⟩
      ·obtain⟨bn,t11,an,aE,aC⟩:=c 11;clear c o k g;simp only[an];refine aj ?_;go_simp;exact⟨_,rfl,aA,⟨_,_,rfl,aE,aC⟩,trivial⟩
     ·intro u w' A c g;obtain⟨a12,t12,R,T,S⟩:=c 12 (by omega);clear c g;simp only[bC,bD,bE,bF,ar,Act.put,bG,bH,bI,dt,du,Nat.reduceAdd,Nat.zero_add,R];have aL:=af (G.out.trans A);have aP:=af T;have Q:=af S;clear A T R S;go_wp2;go_ret;refine⟨_,_,rfl,aP.out,?_,aL.out⟩;have ce:0<bL nm s:=by have h:=bQ.out;rw[O.out]at h;exact h
      rw[Q.out,Tr.bM,rO _ _ (λy aB=>fT (cp.trans _ _ _ (K.out.2.2.1 y aB) (ma ce))),dm,if_neg (by simp only;omega)]
    ·have t2:decide (0<L)=false:=decide_eq_false H;have bS:Hid (nm=s):=cp.eq nm s (by have h:=O.out;omega);have DL:Hid (dm nm (Tr.node l s N r).bM=l.bM++r.bM):=by
      simp only[Hid];rw[Tr.bM,rO _ _ (λy aB=>by rw[bS.out];exact fT (K.out.2.2.1 y aB)),dm,bS.out];simp only[cp.refl];rfl
     clear E H;cases r with
     |leaf=>
      obtain rfl:ra=none:=aQ.out;have cq:=G.out.ak bc.out id;have bW:=G.out.ak aJ.out id;go_wp2;go_ret;refine⟨_,l,rfl,bd.out.ao G.out,?_,G.out⟩;rw[DL.out,Tr.bM,List.append_nil]
     |node X D Y rr=>
      have bW:=G.out.ak aJ.out id;obtain⟨cc,cg,ch,bt,_,_,_⟩:=aQ.out;subst bt;go_wp2;clear bW;go_loopw[6](λi wr=>∃(b:Option Addr)(u ul bb:Tr)(z:aG)(U:ByteArray)(M:List Ent),i= .pointer b/\u= .node ul z U bb/\ck wr b u/\(Tr.node X D Y rr).bM=u.bM++M/\Fr Nothing w wr)(λi wr=>Ih wr i);case atStart=>exact⟨_,_,X,rr,D,Y,[],rfl,rfl,aQ.out.ao G.out,by simp,G.out⟩
      case round=>
       obtain⟨b,u,ul,bb,z,U,M,rfl,rfl,hN,bX,a2⟩:=hrel;have bh:=af (rT hN);obtain⟨ae,b3,ct,rfl,a4,bv,ax⟩:=hN;have aa:=af a4;have bT:Hid (Mid wr ae z U):=Mid.of ax;have cs:wr.cell? ⟨ae,0,none⟩=some (.pointer b3):=ax.cell 0;have aO:=af bX;have aH:=af a2;clear a4 bv ax bX a2;cases ul with
       |leaf=>
        obtain rfl:b3=none:=aa.out;have P:Hid ((Tr.node X D Y rr).bM=(z,U)::(bb.bM++M)):=by simp only[Hid];rw[aO.out];simp[Tr.bM]
        have aK:Hid (dm z (Tr.node X D Y rr).bM=bb.bM++M):=by simp only[Hid];rw[P.out,dm,if_pos (cp.refl _)]
        have bm:Hid (z.owner.size<=1099511627776):=Z.out.2.1 (z,U) (by rw[P.out];simp);have bl:Hid (∃v,(z,v)∈(Tr.node X D Y rr).bM):=⟨U,by rw[P.out];simp⟩;have aR:Hid (cE (dm z (Tr.node X D Y rr).bM)+U.size<=N.size+(Tr.node X D Y rr).bytes):=by
         simp only[Hid];rw[aK.out,Tr.de,P.out];simp only[cE,List.map_cons,List.sum_cons];omega
        go_upto_region 11 with fail;refine ay 16 Nothing [Is (.pointer (some ⟨C,0,none⟩)),Is (.pointer (some ⟨C,0,none⟩)),Is (.pointer (some ⟨C,0,none⟩)),Is (.pointer am),Is (.pointer (some ⟨ae,0,none⟩)),Is (.pointer (some ⟨C,0,none⟩)),Is (.pointer (some ⟨C,0,none⟩)),Is (.pointer (some ⟨C,1,none⟩)),Is (.pointer (some ⟨cc,0,none⟩)),Is (.pointer (some ⟨ae,0,none⟩)),Is (.pointer (some ⟨ae,0,none⟩)),Is (.pointer (some ⟨ae,2,none⟩)),Is (.agg z.cells.toArray),(λJ I=>kX I J (dm z (Tr.node X D Y rr).bM)),(λJ I=>kX I J ((l.bM++(z,U)::dm z (Tr.node X D Y rr).bM))),(λJ I=>kX I J ((l.bM++(z,U)::dm z (Tr.node X D Y rr).bM)))] [] (λ_=>True) (λ_ _=>false) (by kernel_rfl) (by kernel_rfl) (by kernel_rfl) (by kernel_rfl) ⟨Is.ag _,Is.ag _,Is.ag _,Is.ag _,Is.ag _,Is.ag _,Is.ag _,Is.ag _,Is.ag _,Is.ag _,Is.ag _,Is.ag _,Is.ag _,λv w1 w2 _ f h=>by obtain⟨a,t,e,p,B⟩:=h;exact⟨a,t,e,p.ao f,B⟩,λv w1 w2 _ f h=>by obtain⟨a,t,e,p,B⟩:=h;exact⟨a,t,e,p.ao f,B⟩,λv w1 w2 _ f h=>by obtain⟨a,t,e,p,B⟩:=h;exact⟨a,t,e,p.ao f,B⟩,trivial⟩ trivial (λ_ _ _ _ h=>h) trivial ?_ ?_
        ·refine⟨?_,?_,?_,?_,?_,?_,?_,?_,?_,?_,?_,?_,?_,?_,?_,?_,trivial⟩;all_goals intro u w' d A c o k g
         all_goals simp only[bC,bD,bE,bF,ar,Act.put,bG,bH,bI,Nat.reduceAdd,Nat.zero_add]
         ·clear c o k g;refine aj ?_;go_simp;exact⟨_,rfl,al⟩
         ·have ap:u 0=_:=c 0;clear c o k g;simp only[ap];refine aj ?_;go_simp;exact⟨_,rfl,al⟩
         ·have E:u 1=_:=c 1;clear c o k g;simp only[E];refine aj ?_;go_simp;exact⟨_,rfl,al⟩
         ·have H:u 2=_:=c 2;clear c o k g;simp only[H];refine aj ?_;have q:=A.ak (aH.out.ak bc.out id) id;go_simp;exact⟨_,rfl,al⟩
         ·clear c o k g;refine aj ?_;go_simp;exact⟨_,rfl,al⟩
         ·clear c o k g;refine aj ?_;go_simp;exact⟨_,rfl,al⟩
         ·have aV:u 5=_:=c 5;clear c o k g;simp only[aV];refine aj ?_;go_simp;exact⟨_,rfl,al⟩
         ·have aX:u 6=_:=c 6;clear c o k g;simp only[aX];refine aj ?_;go_simp;exact⟨_,rfl,al⟩
         ·have aY:u 7=_:=c 7;clear c o k g;simp only[aY];refine aj ?_;have q:=A.ak (aH.out.ak aJ.out id) id;go_simp;exact⟨_,rfl,al⟩
         ·clear c o k g;refine aj ?_;go_simp;exact⟨_,rfl,al⟩
         ·have a0:u 9=_:=c 9;clear c o k g;simp only[a0];refine aj ?_;go_simp;exact⟨_,rfl,al⟩
         ·have av:u 10=_:=c 10;clear c o k g;simp only[av];refine aj ?_;go_simp;exact⟨_,rfl,al⟩
         ·have br:u 11=_:=c 11;clear c o k g;simp only[br];refine aj ?_;exact au _ _ rfl ⟨ae,2,none⟩ rfl z.cells _ (λj x ad=>by rw[Addr.add_mid];exact A.ak (bT.out.name j x ad) id) underlying106 rfl aW ⟨_,rfl,al⟩
         ·have aZ:u 8=_:=c 8;have bs:u 12=_:=c 12;clear c o k g;simp only[aZ,bs];refine aj ?_;go_simp;refine(bV.out _ z bm.out bl.out (aH.out.trans A)).mono ?_;rintro e aI⟨V,W,rfl,p,B,f4⟩;exact⟨_,rfl,f4.bR,⟨V,W,rfl,p,B⟩,trivial⟩
         ·have ah:u 3=_:=c 3;have aw:u 4=_:=c 4;obtain⟨b8,t13,bp,bB,bx⟩:=c 13;clear c o k g;simp only[ah,aw,bp];refine aj ?_;go_simp;refine(b5.out _ _ _ z ae U (aH.out.trans A) (bT.out.ao A) (by have:=aR.out;omega) aR.out bB bx).mono ?_;rintro e aI⟨V,W,rfl,p,B,f4⟩;exact⟨_,rfl,f4.bR,⟨V,W,rfl,p,B⟩,trivial⟩
         ·obtain⟨b9,t14,bq,bJ,bz⟩:=c 14;clear c o k g;simp only[bq];refine aj ?_;go_simp;exact⟨_,rfl,aA,⟨_,_,rfl,bJ,bz⟩,trivial⟩
        ·intro u w' A c g;obtain⟨ca,t15,aU,ba,a9⟩:=c 15 (by omega);clear c g;simp only[bC,bD,bE,bF,ar,Act.put,bG,bH,bI,dt,du,Nat.reduceAdd,Nat.zero_add,aU];have aL:=af (aH.out.trans A);have aP:=af ba;have Q:=af a9;clear A ba aU a9;go_wp2;go_ret;refine⟨_,_,rfl,aP.out,?_,aL.out⟩;rw[Q.out,DL.out,aK.out,P.out]
       |node ci bK cm cl=>
        obtain⟨cr,cn,co,bu,_,_,_⟩:=aa.out;subst bu;go_wp2;go_roundw;case rel=>
         exact⟨_,_,ci,cl,bK,cm,(z,U)::bb.bM++M,rfl,rfl,aa.out,by rw[aO.out];simp[Tr.bM],aH.out⟩
        case measure=>
         rw[rT aa.out,bh.out];simp only[Tr.cO];omega
def dQ(w:World)(s:Nat)(L:List Ent):Prop:=∃t,xo w s t/\t.bM=L
theorem dQ.ao{w w':World}{s:Nat}{L:List Ent}(h:dQ w s L)(c:Fr Nothing w w'):dQ w' s L:=by
 obtain⟨t,a,b⟩:=h;exact⟨t,a.ao c,b⟩
structure lz(L:List Ent):Prop where
 sort:cu L
 short:jL L
 len:L.length<=60000
 bytes:cE L<=1099511500000
 ok:∀x∈L,da x.1=true
structure su(n:aG):Prop where
 owner:n.owner.size<=1099511627776
 text:n.text.size<=1099511627776
theorem vI{nm:aG}:∀{L:List Ent},fB nm L=none->dm nm L=L
 |[],_=>rfl
 |y::L,h=>by
  rw[fB]at h;split at h;·cases h
  ·rename_i e;rw[dm,if_neg e,vI h]
def EI(n:aG)(v:ByteArray):Array Value:=([Value.pointer none,Value.pointer none]++n.cells++[Value.string v,Value.int .i64 0,Value.int .i64 0,Value.int .i64 0]).toArray
theorem zi(n:aG)(v:ByteArray):prog.built 177 [(2, .agg n.cells.toArray),(3, .string v)]=some (EI n v):=by kernel_rfl
def y8(w:World)(L:List Ent)(n:aG)(v:ByteArray)(e:Ending)(w':World):Prop:=∃p k,e= .returned (.tuple #[.pointer p, .int .i64 k])/\Fr Nothing w w'/\
 ((da n=true/\v.size<=65536/\k=0/\∃a,p=some ⟨a,0,none⟩/\dQ w' a (dC n v L))\/(da n=false/\k=12/\p=none)\/(da n=true/\65536<v.size/\k=5/\p=none))
def uY(w:World)(L:List Ent)(n:aG)(e:Ending)(w':World):Prop:=∃p k,e= .returned (.tuple #[.pointer p, .int .i64 k])/\Fr Nothing w w'/\
 ((da n=true/\k=0/\∃a,p=some ⟨a,0,none⟩/\dQ w' a (dm n L))\/(da n=false/\k=12/\p=none))
def My(a:Option ByteArray):Value:=match a with
 |some v=> .tuple #[.string v, .bool true]
 |none=> .tuple #[.string ByteArray.empty, .bool false]
theorem xQ(L:List Ent)(n:aG)(v:ByteArray)(s:Nat)(w:World)(I:dQ w s L)(av:dO w)(ap:lz L)(hN:su n):
  Calls prog 130 #[.pointer (some ⟨s,0,none⟩), .agg n.cells.toArray, .string v] w (y8 w L n v):=by
 obtain⟨t,I,G⟩:=I;have aL:=af I;have p:=af G;have aH:Hid (∀w',Fr Nothing w w'->Calls prog 115 #[.agg n.cells.toArray] w' (Checked w' n)):=λw' m=>mg n w' (av.ao m) hN.owner hN.text;have aE:=af (zi n v);obtain⟨a,J,D⟩:=I;have V:Hid (w.cell? ⟨s,0,none⟩=some (.pointer a)):=J.cell 0;have O:=af D;have E:=af ap;have aK:=af hN;clear J D av ap hN G;go_enter func130,ntmps130;go_wp2_with(refine aD rfl 106 (.tmp 1) rfl n.cells.toArray rfl ?_);intro w1 n1;have am:=af n1.fr;have F:=af n1.aF;clear n1;generalize w.heap.size=W at*;have S:Hid (aq w1 W 106 n.cells.toArray):=F.out;clear F;go_wp2_with(refine aB rfl 106 (.tmp 4) rfl ⟨W,0,none⟩ rfl n.cells _ ?zA underlying106 rfl aW (aX.go ?hold));case zA=>exactλj x ad=>by rw[Addr.add_mid,Nat.zero_add];exact S.out.cell j|>.trans (by rw[bP];exact ad)
 unfold aX;go_wp2_with fail;refine(aH.out _ am.out).mono ?_;rintro e w2⟨k,rfl,aw,f2⟩;have B:=af (am.out.trans f2);have T:=af (S.out.fr f2 id);have an:=af aw;clear f2 S aw;cases r:da n
 ·have A:k≠0:=by
   have h:=an.out;rw[r]at h;intro e;subst e;simp at h
  have t0:=tJ A;have y:=af r;clear r A;go_wp2;go_ret2;exact⟨none,12,rfl,B.out, .inr (.inl ⟨y.out,rfl,rfl⟩)⟩
 ·have A:k=0:=by
   have h:=an.out;rw[r]at h;simpa using h
  subst A;have y:=af r;clear r;by_cases ac:v.size<=65536
  ·have aQ:decide ((65536:Int)<(v.size:Int))=false:=ct (by omega);have Q:=af ac;obtain⟨z,ax⟩:∃z:Int,z=(t.size:Nat):=⟨_,rfl⟩;have aS:decide ((65536:Int)<=z)=false:=ct (by have h:=E.out.len;rw[<-p.out,Tr.cj]at h;omega);have CL:Hid (∀w',Fr Nothing w2 w'->Calls prog 94 #[.pointer (some ⟨s,0,none⟩)] w' (bJ w' (.int .i64 z))):=λw' m=>by
    rw[ax];exact oZ w' s t (aL.out.ao (B.out.trans m))
   have aI:Hid (∀w' g,Fr Nothing w2 w'->Mid w' g n v->Calls prog 163 #[.pointer a, .pointer (some ⟨g,0,none⟩)] w' (Balanced w' (dC n v t.bM))):=λw' g m hm=>
    I3 n v g aK.out.owner t a w' (O.out.ao (B.out.trans m)) hm (by rw[p.out];exact E.out.sort) (by rw[p.out];exact E.out.short) (by have h:=E.out.len;rw[<-p.out,Tr.cj]at h;omega) (by have h:=E.out.bytes;rw[<-p.out,<-Tr.de]at h;omega);clear ac ax;go_upto_region 7 with fail;refine ay 13 Nothing [Is (.pointer (some ⟨s,0,none⟩)),Is (.int .i64 z),Is (.bool false),Is (.bool false),Is (undef),Is (undef),Is (undef),Is (undef),Is (undef),Is (undef),Is (undef),Is (.bool false),Is (.bool false)] [] (λ_=>True) (λ_ _=>false) (by kernel_rfl) (by kernel_rfl) (by kernel_rfl) (by kernel_rfl) ⟨Is.ag _,Is.ag _,Is.ag _,Is.ag _,Is.ag _,Is.ag _,Is.ag _,Is.ag _,Is.ag _,Is.ag _,Is.ag _,Is.ag _,Is.ag _,trivial⟩ trivial (λ_ _ _ _ h=>h) trivial ?_ ?_
   ·refine⟨?_,?_,?_,?_,?_,?_,?_,?_,?_,?_,?_,?_,?_,trivial⟩;all_goals intro u w' d m b l i c
    all_goals simp only[bC,bD,bE,bF,ar,Act.put,bG,bH,bI,Nat.reduceAdd,Nat.zero_add]
    ·clear b l i c;refine aj ?_;go_simp;exact⟨_,rfl,al⟩
    ·have X:u 0=_:=b 0;clear b l i c;simp only[X];refine aj ?_;go_simp;refine(CL.out _ m).mono ?_;rintro e aR⟨rfl,rfl⟩;exact⟨_,rfl,al⟩
    ·have Y:u 1=_:=b 1;clear b l i c;simp only[Y];refine aj ?_;go_simp;exact⟨_,rfl,al⟩
    ·have ab:u 2=_:=b 2;clear b l i c;simp only[ab];refine aj ?_;go_simp;exact⟨_,rfl,al⟩
    ·have o:u 3=_:=b 3;clear b l i c;simp only[o];exact .inr ⟨by kernel_rfl,_,rfl,aA,rfl,trivial⟩
    ·have o:u 3=_:=b 3;clear b l i c;simp only[o];exact .inr ⟨by kernel_rfl,_,rfl,aA,rfl,trivial⟩
    ·have o:u 3=_:=b 3;clear b l i c;simp only[o];exact .inr ⟨by kernel_rfl,_,rfl,aA,rfl,trivial⟩
    ·have o:u 3=_:=b 3;clear b l i c;simp only[o];exact .inr ⟨by kernel_rfl,_,rfl,aA,rfl,trivial⟩
    ·have o:u 3=_:=b 3;clear b l i c;simp only[o];exact .inr ⟨by kernel_rfl,_,rfl,aA,rfl,trivial⟩
    ·have o:u 3=_:=b 3;clear b l i c;simp only[o];exact .inr ⟨by kernel_rfl,_,rfl,aA,rfl,trivial⟩
    ·have o:u 3=_:=b 3;clear b l i c;simp only[o];exact .inr ⟨by kernel_rfl,_,rfl,aA,rfl,trivial⟩
    ·have o:u 3=_:=b 3;have Z:u 10=_:=b 10;clear b l i c;simp only[o,Z];refine aj ?_;go_simp;exact⟨_,rfl,al⟩
    ·have aa:u 11=_:=b 11;clear b l i c;simp only[aa];refine aj ?_;go_simp;exact⟨_,rfl,al⟩
   ·intro u w' m b c;have H:u 12=_:=b 12 (by omega);clear b c;simp only[bC,bD,bE,bF,ar,Act.put,bG,bH,bI,dt,du,Nat.reduceAdd,Nat.zero_add,H];have M:=af m;have U:=af (T.out.fr m id);clear m H;go_upto_region 9 with fail;refine ay 9 Nothing [Is (.pointer (some ⟨s,0,none⟩)),Is (.pointer (some ⟨s,0,none⟩)),Is (.pointer (some ⟨s,0,none⟩)),Is (.pointer a),Is (.agg n.cells.toArray),Is (.string v),Is (.agg (EI n v)),(λai ae=>∃aC,ai= .pointer (some ⟨aC,0,none⟩)/\Mid ae aC n v),(λai ae=>kX ae ai (dC n v t.bM))] [] (λ_=>True) (λ_ _=>false) (by kernel_rfl) (by kernel_rfl) (by kernel_rfl) (by kernel_rfl) ⟨Is.ag _,Is.ag _,Is.ag _,Is.ag _,Is.ag _,Is.ag _,Is.ag _,λ_ _ _ _ m h=>by obtain⟨g,h,J⟩:=h;exact⟨g,h,J.ao m⟩,λv w1 w2 _ f h=>by obtain⟨a,t,e,D,C⟩:=h;exact⟨a,t,e,D.ao f,C⟩,trivial⟩ trivial (λ_ _ _ _ h=>h) trivial ?_ ?_
    ·refine⟨?_,?_,?_,?_,?_,?_,?_,?_,?_,trivial⟩;all_goals intro u w' d m b l i c
     all_goals simp only[bC,bD,bE,bF,ar,Act.put,bG,bH,bI,Nat.reduceAdd,Nat.zero_add]
     ·clear b l i c;refine aj ?_;go_simp;exact⟨_,rfl,al⟩
     ·have X:u 0=_:=b 0;clear b l i c;simp only[X];refine aj ?_;go_simp;exact⟨_,rfl,al⟩
     ·have Y:u 1=_:=b 1;clear b l i c;simp only[Y];refine aj ?_;go_simp;exact⟨_,rfl,al⟩
     ·have ab:u 2=_:=b 2;clear b l i c;simp only[ab];refine aj ?_;have q:=m.ak ((B.out.trans M.out).ak V.out id) id;go_simp;exact⟨_,rfl,al⟩
     ·clear b l i c;refine aj ?_;exact au _ _ rfl ⟨W,0,none⟩ rfl n.cells _ (λj x ad=>by rw[Addr.add_mid,Nat.zero_add];exact(U.out.fr m id).cell j|>.trans (by rw[bP];exact ad)) underlying106 rfl aW ⟨_,rfl,al⟩
     ·clear b l i c;refine aj ?_;go_simp;exact⟨_,rfl,al⟩
     ·have aN:u 4=_:=b 4;have aO:u 5=_:=b 5;clear b l i c;simp only[aN,aO];refine aj ?_;exact iw 177 _ rfl (EI n v) _ (by simp only[List.map_toArray,List.map_cons,List.map_nil];rfl) (aE.out) ⟨_,rfl,al⟩
     ·have aP:u 6=_:=b 6;clear b l i c;simp only[aP];refine aj ?_;go_simp;exact⟨_,rfl,aA.alloc _,⟨_,rfl,Mid.of (aq.new _ _ _)⟩,trivial⟩
     ·have o:u 3=_:=b 3;obtain⟨g7,aM,b7⟩:=b 7;clear b l i c;simp only[o,aM];refine aj ?_;go_simp;refine(aI.out _ g7 (M.out.trans m) b7).mono ?_;rintro e aR⟨K,ah,rfl,D,C,f4⟩;exact⟨_,rfl,f4.bR,⟨K,ah,rfl,D,C⟩,trivial⟩
    ·intro u w' m b c;obtain⟨K,ah,az,hN,C⟩:=b 8 (by omega);clear b c;simp only[bC,bD,bE,bF,ar,Act.put,bG,bH,bI,dt,du,Nat.reduceAdd,Nat.zero_add,az];have aJ:=af (B.out.trans (M.out.trans m));have P:=af hN;have N:=af C;clear m az hN C;go_wp2_with(refine aD rfl 174 (.tmp 41) rfl #[.pointer K] rfl ?_);intro aT n5;have R:=af n5;clear n5;go_wp2;go_ret2;exact⟨_,0,rfl,aJ.out.trans R.out.fr, .inl ⟨y.out,Q.out,rfl,_,rfl,ah,⟨K,R.out.aF,P.out.ao R.out.fr⟩,by rw[N.out,p.out]⟩⟩
  ·have aQ:decide ((65536:Int)<(v.size:Int))=true:=cX (by omega);have Q:Hid (65536<v.size):=by simp only[Hid];omega
   clear ac;go_wp2;go_ret2;exact⟨none,5,rfl,B.out, .inr (.inr ⟨y.out,Q.out,rfl,rfl⟩)⟩
theorem Jg(L:List Ent)(n:aG)(s:Nat)(w:World)(K:dQ w s L)(J:lz L)(hN:su n):
  Calls prog 53 #[.pointer (some ⟨s,0,none⟩), .agg n.cells.toArray] w (aM w (My (fB n L))):=by
 obtain⟨t,K,M⟩:=K;subst M;obtain⟨a,r,S⟩:=K;have Q:Hid (∀w',Fr Nothing w w'->Calls prog 108 #[.pointer a, .agg n.cells.toArray] w' (Found w' n t.bM)):=λw' c=>yl n a t w' (S.ao c) J.sort hN.owner J.short;have v:Hid (w.cell? ⟨s,0,none⟩=some (.pointer a)):=r.cell 0;clear r S J hN;cases c:fB n t.bM with
 |none=>
  have B:=af c;clear c;go_enter func53,ntmps53;go_wp2_with(refine aD rfl 106 (.tmp 1) rfl n.cells.toArray rfl ?_);intro w1 n1;have o:=af n1.fr;have l:=af n1.aF;clear n1;generalize w.heap.size=z at*;have D:Hid (aq w1 z 106 n.cells.toArray):=l.out;clear l;go_upto_region 3 with fail;refine ay 7 Nothing [Is (.pointer (some ⟨s,0,none⟩)),Is (.pointer (some ⟨s,0,none⟩)),Is (.pointer (some ⟨s,0,none⟩)),Is (.pointer a),Is (.agg n.cells.toArray),Is (.pointer none),Is (.pointer none)] [] (λ_=>True) (λ_ _=>false) (by kernel_rfl) (by kernel_rfl) (by kernel_rfl) (by kernel_rfl) ⟨Is.ag _,Is.ag _,Is.ag _,Is.ag _,Is.ag _,Is.ag _,Is.ag _,trivial⟩ trivial (λ_ _ _ _ h=>h) trivial ?_ ?_
  ·refine⟨?_,?_,?_,?_,?_,?_,?_,trivial⟩;all_goals intro u w' d c b k i f
   all_goals simp only[bC,bD,bE,bF,ar,Act.put,bG,bH,bI,Nat.reduceAdd,Nat.zero_add]
   ·clear b k i f;refine aj ?_;go_simp;exact⟨_,rfl,al⟩
   ·have E:u 0=_:=b 0;clear b k i f;simp only[E];refine aj ?_;go_simp;exact⟨_,rfl,al⟩
   ·have F:u 1=_:=b 1;clear b k i f;simp only[F];refine aj ?_;go_simp;exact⟨_,rfl,al⟩
   ·have G:u 2=_:=b 2;clear b k i f;simp only[G];refine aj ?_;have q:=c.ak (o.out.ak v.out id) id;go_simp;exact⟨_,rfl,al⟩
   ·clear b k i f;refine aj ?_;exact au _ _ rfl ⟨z,0,none⟩ rfl n.cells _ (λj x N=>by rw[Addr.add_mid,Nat.zero_add];exact(D.out.fr c id).cell j|>.trans (by rw[bP];exact N)) underlying106 rfl aW ⟨_,rfl,al⟩
   ·have H:u 3=_:=b 3;have I:u 4=_:=b 4;clear b k i f;simp only[H,I];refine aj ?_;go_simp;refine(Q.out _ (o.out.trans c)).mono ?_;rintro e V⟨p,rfl,f4,⟨g,y,rfl,m,hm⟩|⟨rfl,m⟩⟩;·rw[B.out]at m;cases m
    ·exact⟨_,rfl,f4.bR,rfl,trivial⟩
   ·have U:u 5=_:=b 5;clear b k i f;simp only[U];refine aj ?_;go_simp;exact⟨_,rfl,al⟩
  ·intro u w' c b f;have k6:u 6=_:=b 6 (by omega);clear b f;simp only[bC,bD,bE,bF,ar,Act.put,bG,bH,bI,dt,du,Nat.reduceAdd,Nat.zero_add,k6];have C:=af (o.out.trans c);clear c k6;go_wp2;go_ret2;exact⟨rfl,C.out⟩
 |some x=>
  have B:=af c;clear c;go_enter func53,ntmps53;go_wp2_with(refine aD rfl 106 (.tmp 1) rfl n.cells.toArray rfl ?_);intro w1 n1;have o:=af n1.fr;have l:=af n1.aF;clear n1;generalize w.heap.size=z at*;have D:Hid (aq w1 z 106 n.cells.toArray):=l.out;clear l;go_upto_region 3 with fail;refine ay 7 Nothing [Is (.pointer (some ⟨s,0,none⟩)),Is (.pointer (some ⟨s,0,none⟩)),Is (.pointer (some ⟨s,0,none⟩)),Is (.pointer a),Is (.agg n.cells.toArray),(λP O=>∃A,P= .pointer (some ⟨A,0,none⟩)/\Mid O A n x),(λP O=>∃A,P= .pointer (some ⟨A,0,none⟩)/\Mid O A n x)] [] (λ_=>True) (λ_ _=>false) (by kernel_rfl) (by kernel_rfl) (by kernel_rfl) (by kernel_rfl) ⟨Is.ag _,Is.ag _,Is.ag _,Is.ag _,Is.ag _,λ_ _ _ _ c h=>by obtain⟨g,h,r⟩:=h;exact⟨g,h,r.ao c⟩,λ_ _ _ _ c h=>by obtain⟨g,h,r⟩:=h;exact⟨g,h,r.ao c⟩,trivial⟩ trivial (λ_ _ _ _ h=>h) trivial ?_ ?_
  ·refine⟨?_,?_,?_,?_,?_,?_,?_,trivial⟩;all_goals intro u w' d c b k i f
   all_goals simp only[bC,bD,bE,bF,ar,Act.put,bG,bH,bI,Nat.reduceAdd,Nat.zero_add]
   ·clear b k i f;refine aj ?_;go_simp;exact⟨_,rfl,al⟩
   ·have E:u 0=_:=b 0;clear b k i f;simp only[E];refine aj ?_;go_simp;exact⟨_,rfl,al⟩
   ·have F:u 1=_:=b 1;clear b k i f;simp only[F];refine aj ?_;go_simp;exact⟨_,rfl,al⟩
   ·have G:u 2=_:=b 2;clear b k i f;simp only[G];refine aj ?_;have q:=c.ak (o.out.ak v.out id) id;go_simp;exact⟨_,rfl,al⟩
   ·clear b k i f;refine aj ?_;exact au _ _ rfl ⟨z,0,none⟩ rfl n.cells _ (λj x N=>by rw[Addr.add_mid,Nat.zero_add];exact(D.out.fr c id).cell j|>.trans (by rw[bP];exact N)) underlying106 rfl aW ⟨_,rfl,al⟩
   ·have H:u 3=_:=b 3;have I:u 4=_:=b 4;clear b k i f;simp only[H,I];refine aj ?_;go_simp;refine(Q.out _ (o.out.trans c)).mono ?_;rintro e V⟨p,rfl,f4,⟨g,y,rfl,m,hm⟩|⟨rfl,m⟩⟩;·rw[B.out]at m;cases m;exact⟨_,rfl,f4.bR,⟨g,rfl,hm⟩,trivial⟩
    ·rw[B.out]at m;cases m
   ·obtain⟨g5,T,m5⟩:=b 5;clear b k i f;simp only[T];refine aj ?_;go_simp;exact⟨_,rfl,aA,⟨_,rfl,m5⟩,trivial⟩
  ·intro u w' c b f;obtain⟨g6,R,m6⟩:=b 6 (by omega);clear b f;simp only[bC,bD,bE,bF,ar,Act.put,bG,bH,bI,dt,du,Nat.reduceAdd,Nat.zero_add,R];have C:=af (o.out.trans c);have cv:=m6.val;clear c R m6;go_wp2;go_ret2;exact⟨rfl,C.out⟩
theorem y9(L:List Ent)(n:aG)(s:Nat)(w:World)(T:dQ w s L)(ax:dO w)(E:lz L)(hN:su n):
  Calls prog 129 #[.pointer (some ⟨s,0,none⟩), .agg n.cells.toArray] w (uY w L n):=by
 have aa:=af T;obtain⟨t,T,ah⟩:=T;subst ah;obtain⟨a,U,F⟩:=T;have ap:Hid (∀w',Fr Nothing w w'->Calls prog 108 #[.pointer a, .agg n.cells.toArray] w' (Found w' n t.bM)):=λw' c=>yl n a t w' (F.ao c) E.sort hN.owner E.short;have D:Hid (w.cell? ⟨s,0,none⟩=some (.pointer a)):=U.cell 0;have aH:Hid (∀w',Fr Nothing w w'->Calls prog 115 #[.agg n.cells.toArray] w' (Checked w' n)):=λw' c=>mg n w' (ax.ao c) hN.owner hN.text;have aI:Hid (∀w',(∃v,(n,v)∈t.bM)->Fr Nothing w w'->Calls prog 162 #[.pointer a, .agg n.cells.toArray] w' (Balanced w' (dm n t.bM))):=λw' hm c=>
  Ad t n a w' hN.owner hm (F.ao c) E.sort E.short (by have h:=E.len;rw[Tr.cj]at h;omega) (by have h:=E.bytes;rw[<-Tr.de]at h;omega);clear U F E hN ax;go_enter func129,ntmps129;go_wp2_with(refine aD rfl 106 (.tmp 1) rfl n.cells.toArray rfl ?_);intro w1 n1;have av:=af n1.fr;have J:=af n1.aF;clear n1;generalize w.heap.size=K at*;have ac:Hid (aq w1 K 106 n.cells.toArray):=J.out;clear J;go_wp2_with(refine aB rfl 106 (.tmp 3) rfl ⟨K,0,none⟩ rfl n.cells _ ?zA underlying106 rfl aW (aX.go ?hold));case zA=>exactλj x G=>by rw[Addr.add_mid,Nat.zero_add];exact ac.out.cell j|>.trans (by rw[bP];exact G)
 unfold aX;go_wp2_with fail;refine(aH.out _ av.out).mono ?_;rintro e w2⟨k,rfl,az,f2⟩;have r:=af (av.out.trans f2);have C:=af (ac.out.fr f2 id);have aw:=af az;clear f2 ac az;cases o:da n
 ·have A:k≠0:=by
   have h:=aw.out;rw[o]at h;intro e;subst e;simp at h
  have t0:=tJ A;have z:=af o;clear o A;go_wp2;go_ret2;exact⟨none,12,rfl,r.out, .inr ⟨z.out,rfl,rfl⟩⟩
 ·have A:k=0:=by
   have h:=aw.out;rw[o]at h;simpa using h
  subst A;have z:=af o;clear o;cases c:fB n t.bM with
  |none=>
   have S:=af c;have W:=af (vI c);clear c;go_upto_region 5 with fail;refine ay 8 Nothing [Is (.pointer (some ⟨s,0,none⟩)),Is (.pointer (some ⟨s,0,none⟩)),Is (.pointer (some ⟨s,0,none⟩)),Is (.pointer a),Is (.agg n.cells.toArray),Is (.pointer none),Is (.bool true),Is (.bool true)] [] (λ_=>True) (λ_ _=>false) (by kernel_rfl) (by kernel_rfl) (by kernel_rfl) (by kernel_rfl) ⟨Is.ag _,Is.ag _,Is.ag _,Is.ag _,Is.ag _,Is.ag _,Is.ag _,Is.ag _,trivial⟩ trivial (λ_ _ _ _ h=>h) trivial ?_ ?_
   ·refine⟨?_,?_,?_,?_,?_,?_,?_,?_,trivial⟩;all_goals intro u w' d c b m l i
    all_goals simp only[bC,bD,bE,bF,ar,Act.put,bG,bH,bI,Nat.reduceAdd,Nat.zero_add]
    ·clear b m l i;refine aj ?_;go_simp;exact⟨_,rfl,al⟩
    ·have M:u 0=_:=b 0;clear b m l i;simp only[M];refine aj ?_;go_simp;exact⟨_,rfl,al⟩
    ·have N:u 1=_:=b 1;clear b m l i;simp only[N];refine aj ?_;go_simp;exact⟨_,rfl,al⟩
    ·have O:u 2=_:=b 2;clear b m l i;simp only[O];refine aj ?_;have q:=c.ak (r.out.ak D.out id) id;go_simp;exact⟨_,rfl,al⟩
    ·clear b m l i;refine aj ?_;exact au _ _ rfl ⟨K,0,none⟩ rfl n.cells _ (λj x G=>by rw[Addr.add_mid,Nat.zero_add];exact(C.out.fr c id).cell j|>.trans (by rw[bP];exact G)) underlying106 rfl aW ⟨_,rfl,al⟩
    ·have P:u 3=_:=b 3;have Q:u 4=_:=b 4;clear b m l i;simp only[P,Q];refine aj ?_;go_simp;refine(ap.out _ (r.out.trans c)).mono ?_;rintro e aC⟨p,rfl,f4,⟨g,y,rfl,B,hm⟩|⟨rfl,B⟩⟩;·rw[S.out]at B;cases B
     ·exact⟨_,rfl,f4.bR,rfl,trivial⟩
    ·have aL:u 5=_:=b 5;clear b m l i;simp only[aL];refine aj ?_;go_simp;exact⟨_,rfl,al⟩
    ·have ae:u 6=_:=b 6;clear b m l i;simp only[ae];refine aj ?_;go_simp;exact⟨_,rfl,al⟩
   ·intro u w' c b i;have R:u 7=_:=b 7 (by omega);clear b i;simp only[bC,bD,bE,bF,ar,Act.put,bG,bH,bI,dt,du,Nat.reduceAdd,Nat.zero_add,R];have H:=af (r.out.trans c);clear c R;go_wp2;go_ret2;exact⟨_,0,rfl,H.out, .inl ⟨z.out,rfl,s,rfl,by rw[W.out];exact aa.out.ao H.out⟩⟩
  |some x=>
   have S:=af c;have Y:Hid (∃v,(n,v)∈t.bM):=⟨x,vT c⟩;clear c;go_upto_region 5 with fail;refine ay 8 Nothing [Is (.pointer (some ⟨s,0,none⟩)),Is (.pointer (some ⟨s,0,none⟩)),Is (.pointer (some ⟨s,0,none⟩)),Is (.pointer a),Is (.agg n.cells.toArray),(λan ai=>∃aE,an= .pointer (some ⟨aE,0,none⟩)/\Mid ai aE n x),Is (.bool false),Is (.bool false)] [] (λ_=>True) (λ_ _=>false) (by kernel_rfl) (by kernel_rfl) (by kernel_rfl) (by kernel_rfl) ⟨Is.ag _,Is.ag _,Is.ag _,Is.ag _,Is.ag _,λ_ _ _ _ c h=>by obtain⟨g,h,U⟩:=h;exact⟨g,h,U.ao c⟩,Is.ag _,Is.ag _,trivial⟩ trivial (λ_ _ _ _ h=>h) trivial ?_ ?_
   ·refine⟨?_,?_,?_,?_,?_,?_,?_,?_,trivial⟩;all_goals intro u w' d c b m l i
    all_goals simp only[bC,bD,bE,bF,ar,Act.put,bG,bH,bI,Nat.reduceAdd,Nat.zero_add]
    ·clear b m l i;refine aj ?_;go_simp;exact⟨_,rfl,al⟩
    ·have M:u 0=_:=b 0;clear b m l i;simp only[M];refine aj ?_;go_simp;exact⟨_,rfl,al⟩
    ·have N:u 1=_:=b 1;clear b m l i;simp only[N];refine aj ?_;go_simp;exact⟨_,rfl,al⟩
    ·have O:u 2=_:=b 2;clear b m l i;simp only[O];refine aj ?_;have q:=c.ak (r.out.ak D.out id) id;go_simp;exact⟨_,rfl,al⟩
    ·clear b m l i;refine aj ?_;exact au _ _ rfl ⟨K,0,none⟩ rfl n.cells _ (λj x G=>by rw[Addr.add_mid,Nat.zero_add];exact(C.out.fr c id).cell j|>.trans (by rw[bP];exact G)) underlying106 rfl aW ⟨_,rfl,al⟩
    ·have P:u 3=_:=b 3;have Q:u 4=_:=b 4;clear b m l i;simp only[P,Q];refine aj ?_;go_simp;refine(ap.out _ (r.out.trans c)).mono ?_;rintro e aC⟨p,rfl,f4,⟨g,y,rfl,B,hm⟩|⟨rfl,B⟩⟩;·rw[S.out]at B;cases B;exact⟨_,rfl,f4.bR,⟨g,rfl,hm⟩,trivial⟩
     ·rw[S.out]at B;cases B
    ·obtain⟨g5,aK,m5⟩:=b 5;clear b m l i;simp only[aK];refine aj ?_;go_simp;exact⟨_,rfl,al⟩
    ·have ae:u 6=_:=b 6;clear b m l i;simp only[ae];refine aj ?_;go_simp;exact⟨_,rfl,al⟩
   ·intro u w' c b i;have R:u 7=_:=b 7 (by omega);clear b i;simp only[bC,bD,bE,bF,ar,Act.put,bG,bH,bI,dt,du,Nat.reduceAdd,Nat.zero_add,R];have H:=af c;have ad:=af (C.out.fr c id);clear c R;go_upto_region 7 with fail;refine ay 6 Nothing [Is (.pointer (some ⟨s,0,none⟩)),Is (.pointer (some ⟨s,0,none⟩)),Is (.pointer (some ⟨s,0,none⟩)),Is (.pointer a),Is (.agg n.cells.toArray),(λan ai=>kX ai an (dm n t.bM))] [] (λ_=>True) (λ_ _=>false) (by kernel_rfl) (by kernel_rfl) (by kernel_rfl) (by kernel_rfl) ⟨Is.ag _,Is.ag _,Is.ag _,Is.ag _,Is.ag _,λv w1 w2 _ f h=>by obtain⟨a,t,e,F,I⟩:=h;exact⟨a,t,e,F.ao f,I⟩,trivial⟩ trivial (λ_ _ _ _ h=>h) trivial ?_ ?_
    ·refine⟨?_,?_,?_,?_,?_,?_,trivial⟩;all_goals intro u w' d c b m l i
     all_goals simp only[bC,bD,bE,bF,ar,Act.put,bG,bH,bI,Nat.reduceAdd,Nat.zero_add]
     ·clear b m l i;refine aj ?_;go_simp;exact⟨_,rfl,al⟩
     ·have M:u 0=_:=b 0;clear b m l i;simp only[M];refine aj ?_;go_simp;exact⟨_,rfl,al⟩
     ·have N:u 1=_:=b 1;clear b m l i;simp only[N];refine aj ?_;go_simp;exact⟨_,rfl,al⟩
     ·have O:u 2=_:=b 2;clear b m l i;simp only[O];refine aj ?_;have q:=c.ak ((r.out.trans H.out).ak D.out id) id;go_simp;exact⟨_,rfl,al⟩
     ·clear b m l i;refine aj ?_;exact au _ _ rfl ⟨K,0,none⟩ rfl n.cells _ (λj x G=>by rw[Addr.add_mid,Nat.zero_add];exact(ad.out.fr c id).cell j|>.trans (by rw[bP];exact G)) underlying106 rfl aW ⟨_,rfl,al⟩
     ·have P:u 3=_:=b 3;have Q:u 4=_:=b 4;clear b m l i;simp only[P,Q];refine aj ?_;go_simp;refine(aI.out _ Y.out (r.out.trans (H.out.trans c))).mono ?_;rintro e aC⟨V,am,rfl,F,I,f4⟩;exact⟨_,rfl,f4.bR,⟨V,am,rfl,F,I⟩,trivial⟩
    ·intro u w' c b i;obtain⟨V,am,aA,hN,I⟩:=b 5 (by omega);clear b i;simp only[bC,bD,bE,bF,ar,Act.put,bG,bH,bI,dt,du,Nat.reduceAdd,Nat.zero_add,aA];have aJ:=af (r.out.trans (H.out.trans c));have Z:=af hN;have X:=af I;clear c aA hN I;go_wp2_with(refine aD rfl 174 (.tmp 28) rfl #[.pointer V] rfl ?_);intro aM n5;have ab:=af n5;clear n5;go_wp2;go_ret2;exact⟨_,0,rfl,aJ.out.trans ab.out.fr, .inl ⟨z.out,rfl,_,rfl,am,⟨V,ab.out.aF,Z.out.ao ab.out.fr⟩,X.out⟩⟩
def mw(x:Ent):List Value:=x.1.cells++[.string x.2]
theorem gY(x:Ent):(mw x).length=6:=rfl
theorem JP:∀(xs:List Ent)(k:Nat)(c:Ent),xs[k]? =some c->∀j x,(mw c)[j]? =some x->(xs.flatMap mw)[k*6+j]? =some x
 |[],_,_,h,_,_,_=>by simp at h
 |y::b,0,c,h,j,x,a=>by
  simp only[List.getElem?_cons_zero,Option.some.injEq]at h;subst h;have d:j<6:=(List.getElem?_eq_some_iff.1 a).1;rw[List.flatMap_cons,Nat.zero_mul,Nat.zero_add,List.getElem?_append_left d];exact a
 |y::b,k+1,c,h,j,x,a=>by
  simp only[List.getElem?_cons_succ]at h;rw[List.flatMap_cons,List.getElem?_append_right (by rw[gY];omega),gY,show(k+1)*6+j-6=k*6+j by omega];exact JP b k c h j x a
structure EL(w:World)(S:Nat->Prop)(A:Option Addr)(n:Nat)(xs:List Ent):Prop where
 rd:Rd w S 6 A n (xs.flatMap mw)
 len:xs.length=n
theorem EL.ao{w w':World}{S:Nat->Prop}{A:Option Addr}{n:Nat}{xs:List Ent}(h:EL w S A n xs)(a:Fr Nothing w w'):EL w' S A n xs:=⟨h.rd.ao a,h.len⟩
theorem EL.at_{w:World}{S:Nat->Prop}{A:Option Addr}{n k:Nat}{xs:List Ent}(h:EL w S A n xs)(f:k<n):∃b c,A=some b/\xs[k]? =some c/\∀j x,(mw c)[j]? =some x->w.cell? ((b.add (k*6)).add j)=some x:=by
 obtain⟨b,e,i,d⟩:=h.rd.2 (by omega);have a:k<xs.length:=by rw[h.len];exact f
 refine⟨b,xs[k],e,List.getElem?_eq_getElem a,λj x g=>?_⟩;rw[Addr.add_add];exact d _ _ (JP xs k _ (List.getElem?_eq_getElem a) j x g)
theorem mJ{P:Program}{op:Oper}{a:Act}{w:World}{K:Act->World->Prop}{Q:Exit->Act->World->Prop}(i:BinOp)(t:TypeId)(x y:Operand)(ty:TypeId)(d:op.op= .binOp i t x y ty)
  (xs b:Array Value)(f:a.eval x= .agg xs)(g:a.eval y= .agg b)(c:P.eqGuardType P.depth t=false)
  (v:Value)(e:(binOp i t (.agg xs) (.agg b)).run P w= .ok v w)(h:K (a.put op.dst v) w):op.wp P a w K Q:=by
 have he:=run_eqGuard_agg (P:=P) (w:=w) i t x y xs b c;unfold Oper.wp execOp;simp only[d,f,g,Sem.run_bind,he,e,Result.andThen_ok];exact h
def uI(P:Program)(ops:Array Oper)(Q:Exit->Act->World->Prop)(T:Nat->Prop)(w:World)(F:(Nat->Value)->Act)(c:Nat->Value->World->Prop)(ws:List (Nat×(World->Prop)))(a:World->Prop)(B:Nat->Nat->Bool)(n:Nat)(b:List (Nat×Value)):Nat->List Oper->Prop
 |_,[]=>True
 |i,e::r=>(∀u w' d,Fr T w w'->(∀j,(_:Region.waitsFor .any ops i j=true:=by kernel_rfl)->c j (u j) w')->(∀p,p<n->B p i=true->d p=true)->(∀p,(p==i||B i p)=true->d p=false)->dx ws a d w'->(∀x∈b,d x.1=false->u x.1=x.2)->
   nU P ops Q e (F u) w' (uV (F u) e.dst (iB ws T i) w' (c i) (lL ws i)))/\uI P ops Q T w F c ws a B n b (i+1) r
theorem uI.at_{P:Program}{ops:Array Oper}{Q:Exit->Act->World->Prop}{T:Nat->Prop}{w:World}{F:(Nat->Value)->Act}{f:Nat->Value->World->Prop}{ws:List (Nat×(World->Prop))}{b:World->Prop}{B:Nat->Nat->Bool}{n:Nat}{e:List (Nat×Value)}:
  ∀{l:List Oper}{k:Nat},uI P ops Q T w F f ws b B n e k l->∀i g,l[i]? =some g->∀u w' d,Fr T w w'->(∀j,Region.waitsFor .any ops (k+i) j=true->f j (u j) w')->(∀p,p<n->B p (k+i)=true->d p=true)->(∀p,(p==k+i||B (k+i) p)=true->d p=false)->dx ws b d w'->(∀x∈e,d x.1=false->u x.1=x.2)->
   nU P ops Q g (F u) w' (uV (F u) g.dst (iB ws T (k+i)) w' (f (k+i)) (lL ws (k+i)))
 |[],_,_,_,_,h=>by simp at h
 |c::r,k,h,0,g,a=>by
  have:c=g:=by simpa using a
  subst this;exact h.1
 |c::r,k,h,i+1,g,a=>by
  have:=uI.at_ h.2 i g (by simpa using a);rw[show k+1+i=k+(i+1)by omega]at this;exact this
end Go.Proofs.YtphjagkehiklkaaGreatDoor
