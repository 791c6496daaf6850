/- Texts. -/
import Derived.Test.YtphjagkehiklkaaGreatDoorWK12
import Derived.Test.YtphjagkehiklkaaGreatDoorWK13
set_option linter.unusedVariables false
set_option linter.unusedSimpArgs false
set_option maxRecDepth 100000
set_option maxHeartbeats 8000000
namespace Go.Proofs.YtphjagkehiklkaaGreatDoor
open Go.RowKit Go.Shelf
def jY(w:World)(v:Value)(L:List Ent):Prop:=∃a b,v= .pointer a∧cE w a b∧b.bC=L
theorem nG{nm:aK}{v:ByteArray}:∀(L:List Ent),(dY nm v L).length≤L.length+1∧dm (dY nm v L)≤v.size+dm L
 |[]=>by simp[dY,dm]
 |y::L=>by
  have h:=nG (nm:=nm) (v:=v) L;rw[dY];split;·simp[dm]
  ·split;·simp[dm]
   ·simp only[dm,List.map_cons,List.sum_cons,List.length_cons]at h⊢;omega
theorem lg{nm:aK}:∀(L:List Ent),(dz nm L).length≤L.length∧dm (dz nm L)≤dm L
 |[]=>by simp[dz]
 |y::L=>by
  have h:=lg (nm:=nm) L;rw[dz];split;·simp[dm]
  ·simp only[dm,List.map_cons,List.sum_cons,List.length_cons]at h⊢;omega
theorem jA.parts{L b:List Ent}{x:Ent}(h:jA (L++x::b)):jA L∧jA b∧x.1.owner.size≤1099511627776:=
 ⟨fun y a=>h y (by simp[a]),fun y a=>h y (by simp[a]),h x (by simp)⟩
theorem j4{w:World}{a ra:Option Addr}{l r:Tr}{g:Nat}{nm:aK}{v:ByteArray}{X Y:List Ent}(e:cE w a l)(f:cE w ra r)(hm:Mid w g nm v)(el:l.bC=X)(c:r.bC=Y)
  (b:X.length+Y.length+1≤1048576)(d:v.size+dm X+dm Y≤1099511627776):Calls Tryz.prog 177 #[.pointer a, .pointer (some ⟨g,0,none⟩), .pointer ra] w (Balanced w (X++(nm,v)::Y)):=by
 subst el c;refine xC a ra l r g nm v w e f hm ?_ ?_;·rw[Tr.cM,Tr.cM]at b;exact b
 ·rw[Tr.dx,Tr.dx];exact d
theorem Gb(nm:aK)(v:ByteArray)(g:Nat)(aO:nm.owner.size≤1099511627776)(t:Tr):∀(a:Option Addr)(w:World),cE w a t→Mid w g nm v→fF t.bC→jA t.bC→t.size+1≤1048576→v.size+t.bytes≤1099511627776→
  Calls Tryz.prog 163 #[.pointer a, .pointer (some ⟨g,0,none⟩)] w (Balanced w (dY nm v t.bC)):=by
 induction t with
 |leaf=>
  intro a w aM av _ _ _ aw;obtain rfl:a=none:=aM;refine(Dd nm v g w av (by simp only[Tr.bytes]at aw;omega)).mono ?_;rintro e w'⟨a,rfl,o,p⟩;exact⟨a,_,rfl,o,rfl,p⟩
 |node l n P r am ao=>
  intro a w aM av aV aU aX aw;have aP:l.size+r.size+2≤1048576:=by simp only[Tr.size]at aX;omega
  have aN:v.size+P.size+l.bytes+r.bytes≤1099511627776:=by simp only[Tr.bytes]at aw;omega
  have K:=af (fF.parts aV);have S:=af (jA.parts aU);obtain⟨s,N,ra,rfl,z,aW,M⟩:=aM;have aB:=af z;have aF:=af aW;have au:=af av;have aE:Hid (Mid w s n P):=Mid.of M;have ax:Hid (w.cell? ⟨s,0,none⟩=some (.pointer N)):=M.cell 0;have aA:Hid (w.cell? ⟨s,1,none⟩=some (.pointer ra)):=M.cell 1;have aS:Hid (∀w',Calls Tryz.prog 128 #[.agg nm.cells.toArray, .agg n.cells.toArray] w' (aJ w' (.int .i64 (cT nm n)))):=fun w'=>gN nm n w' aO S.out.2.2;have a3:Hid (∀w',Fr ag w w'→Calls Tryz.prog 163 #[.pointer N, .pointer (some ⟨g,0,none⟩)] w' (Balanced w' (dY nm v l.bC))):=fun w' f=>am N w' (aB.out.ar f) (au.out.ar f) K.out.1 S.out.1 (by omega) (by omega);have a4:Hid (∀w',Fr ag w w'→Calls Tryz.prog 163 #[.pointer ra, .pointer (some ⟨g,0,none⟩)] w' (Balanced w' (dY nm v r.bC))):=fun w' f=>ao ra w' (aF.out.ar f) (au.out.ar f) K.out.2.1 S.out.2.1 (by omega) (by omega);have aZ:Hid (∀w' b u,Fr ag w w'→cE w' b u→u.bC=dY nm v l.bC→Calls Tryz.prog 177 #[.pointer b, .pointer (some ⟨s,0,none⟩), .pointer ra] w' (Balanced w' (dY nm v l.bC++(n,P)::r.bC))):=fun w' b u f o e=>by
   have A:=nG (nm:=nm) (v:=v) l.bC;rw[Tr.cM,←Tr.dx]at A;exact j4 o (aF.out.ar f) (aE.out.ar f) e rfl (by rw[Tr.cM];omega) (by rw[←Tr.dx];omega)
  have a0:Hid (∀w' b u,Fr ag w w'→cE w' b u→u.bC=dY nm v r.bC→Calls Tryz.prog 177 #[.pointer N, .pointer (some ⟨s,0,none⟩), .pointer b] w' (Balanced w' (l.bC++(n,P)::dY nm v r.bC))):=fun w' b u f o e=>by
   have A:=nG (nm:=nm) (v:=v) r.bC;rw[Tr.cM,←Tr.dx]at A;exact j4 (aB.out.ar f) o (aE.out.ar f) rfl e (by rw[Tr.cM];omega) (by rw[←Tr.dx];omega)
  have a2:Hid (∀w',Fr ag w w'→Calls Tryz.prog 178 #[.pointer N, .pointer (some ⟨g,0,none⟩), .pointer ra] w' (fun e ap=>∃a,e= .returned (.pointer a)∧cE ap a (.node l nm v r)∧Fr ag w' ap)):=fun w' f=>fm w' N ra l r g nm v (aB.out.ar f) (aF.out.ar f) (au.out.ar f) (by omega) (by omega);obtain⟨J,aa⟩:∃J,J=cT nm n:=⟨_,rfl⟩;rw[←aa]at aS;have Q:=af aa;clear z aW av M aV aU aX aw aP aN aa am ao;go_enter Tryz.func163,Tryz.ntmps163;go_upto_region 3 with fail;refine aC 10 ag [Is (.pointer (some ⟨g,0,none⟩)),Is (.pointer (some ⟨g,0,none⟩)),Is (.pointer (some ⟨g,2,none⟩)),Is (.agg nm.cells.toArray),Is (.pointer (some ⟨s,0,none⟩)),Is (.pointer (some ⟨s,0,none⟩)),Is (.pointer (some ⟨s,2,none⟩)),Is (.agg n.cells.toArray),Is (.int .i64 J),Is (.int .i64 J)] [] (fun _=>True) (fun _ _=>false) (by kernel_rfl) (by kernel_rfl) (by kernel_rfl) (by kernel_rfl) ⟨Is.ah _,Is.ah _,Is.ah _,Is.ah _,Is.ah _,Is.ah _,Is.ah _,Is.ah _,Is.ah _,Is.ah _,trivial⟩ trivial (fun _ _ _ _ h=>h) trivial ?_ ?_
  ·refine⟨?_,?_,?_,?_,?_,?_,?_,?_,?_,?_,trivial⟩;all_goals intro u w' d p c m k i
   all_goals simp only[bH,bI,bJ,bK,ay,Act.put,bL,bM,bN,Nat.reduceAdd,Nat.zero_add]
   ·clear c m k i;refine aj ?_;go_simp;exact⟨_,rfl,al⟩
   ·have U:u 0=_:=c 0;clear c m k i;simp only[U];refine aj ?_;go_simp;exact⟨_,rfl,al⟩
   ·have A:u 1=_:=c 1;clear c m k i;simp only[A];refine aj ?_;go_simp;exact⟨_,rfl,al⟩
   ·have E:u 2=_:=c 2;clear c m k i;simp only[E];refine aj ?_;exact az _ _ rfl ⟨g,2,none⟩ rfl nm.cells _ (fun j x aQ=>by rw[Addr.add_mid];exact p.an (au.out.name j x aQ) (fun x=>x)) Tryz.underlying106 rfl bD ⟨_,rfl,al⟩
   ·clear c m k i;refine aj ?_;go_simp;exact⟨_,rfl,al⟩
   ·have W:u 4=_:=c 4;clear c m k i;simp only[W];refine aj ?_;go_simp;exact⟨_,rfl,al⟩
   ·have ak:u 5=_:=c 5;clear c m k i;simp only[ak];refine aj ?_;go_simp;exact⟨_,rfl,al⟩
   ·have X:u 6=_:=c 6;clear c m k i;simp only[X];refine aj ?_;exact az _ _ rfl ⟨s,2,none⟩ rfl n.cells _ (fun j x aQ=>by rw[Addr.add_mid];exact p.an (aE.out.name j x aQ) (fun x=>x)) Tryz.underlying106 rfl bD ⟨_,rfl,al⟩
   ·have V:u 3=_:=c 3;have Y:u 7=_:=c 7;clear c m k i;simp only[V,Y];refine aj ?_;go_simp;refine(aS.out _).mono ?_;rintro e aq⟨rfl,f4⟩;exact⟨_,rfl,f4.bP,rfl,trivial⟩
   ·have Z:u 8=_:=c 8;clear c m k i;simp only[Z];refine aj ?_;go_simp;exact⟨_,rfl,al⟩
  ·intro u w' p c i;have aY:u 9=_:=c 9 (by omega);clear c i;simp only[bH,bI,bJ,bK,ay,Act.put,bL,bM,bN,dD,dE,Nat.reduceAdd,Nat.zero_add,aY];have D:=af p;clear p aY;by_cases A:J<0
   ·have t1:decide (J<0)=true:=decide_eq_true A;have H1:=af A;clear A;go_upto_region 5 with fail;refine aC 13 ag [Is (.pointer (some ⟨s,0,none⟩)),Is (.pointer (some ⟨s,0,none⟩)),Is (.pointer (some ⟨s,0,none⟩)),Is (.pointer N),Is (.pointer (some ⟨g,0,none⟩)),(fun C B=>jY B C (dY nm v l.bC)),Is (.pointer (some ⟨s,0,none⟩)),Is (.pointer (some ⟨s,0,none⟩)),Is (.pointer (some ⟨s,0,none⟩)),Is (.pointer (some ⟨s,1,none⟩)),Is (.pointer ra),(fun C B=>jY B C ((dY nm v l.bC++(n,P)::r.bC))),(fun C B=>jY B C ((dY nm v l.bC++(n,P)::r.bC)))] [] (fun _=>True) (fun _ _=>false) (by kernel_rfl) (by kernel_rfl) (by kernel_rfl) (by kernel_rfl) ⟨Is.ah _,Is.ah _,Is.ah _,Is.ah _,Is.ah _,fun v w1 w2 _ f h=>by obtain⟨a,t,e,o,z⟩:=h;exact⟨a,t,e,o.ar f,z⟩,Is.ah _,Is.ah _,Is.ah _,Is.ah _,Is.ah _,fun v w1 w2 _ f h=>by obtain⟨a,t,e,o,z⟩:=h;exact⟨a,t,e,o.ar f,z⟩,fun v w1 w2 _ f h=>by obtain⟨a,t,e,o,z⟩:=h;exact⟨a,t,e,o.ar f,z⟩,trivial⟩ trivial (fun _ _ _ _ h=>h) trivial ?_ ?_
    ·refine⟨?_,?_,?_,?_,?_,?_,?_,?_,?_,?_,?_,?_,?_,trivial⟩;all_goals intro u w' d p c m k i
     all_goals simp only[bH,bI,bJ,bK,ay,Act.put,bL,bM,bN,Nat.reduceAdd,Nat.zero_add]
     ·clear c m k i;refine aj ?_;go_simp;exact⟨_,rfl,al⟩
     ·have U:u 0=_:=c 0;clear c m k i;simp only[U];refine aj ?_;go_simp;exact⟨_,rfl,al⟩
     ·have A:u 1=_:=c 1;clear c m k i;simp only[A];refine aj ?_;go_simp;exact⟨_,rfl,al⟩
     ·have E:u 2=_:=c 2;clear c m k i;simp only[E];refine aj ?_;have q:=p.an (D.out.an ax.out (fun x=>x)) (fun x=>x);go_simp;exact⟨_,rfl,al⟩
     ·clear c m k i;refine aj ?_;go_simp;exact⟨_,rfl,al⟩
     ·have V:u 3=_:=c 3;have W:u 4=_:=c 4;clear c m k i;simp only[V,W];refine aj ?_;go_simp;refine(a3.out _ (D.out.trans p)).mono ?_;rintro e aq⟨F,ad,rfl,o,z,f4⟩;exact⟨_,rfl,f4.bP,⟨F,ad,rfl,o,z⟩,trivial⟩
     ·clear c m k i;refine aj ?_;go_simp;exact⟨_,rfl,al⟩
     ·clear c m k i;refine aj ?_;go_simp;exact⟨_,rfl,al⟩
     ·have Y:u 7=_:=c 7;clear c m k i;simp only[Y];refine aj ?_;go_simp;exact⟨_,rfl,al⟩
     ·have Z:u 8=_:=c 8;clear c m k i;simp only[Z];refine aj ?_;go_simp;exact⟨_,rfl,al⟩
     ·have aL:u 9=_:=c 9;clear c m k i;simp only[aL];refine aj ?_;have q:=p.an (D.out.an aA.out (fun x=>x)) (fun x=>x);go_simp;exact⟨_,rfl,al⟩
     ·obtain⟨a5,t5,a6,bb,ba⟩:=c 5;have X:u 6=_:=c 6;have aI:u 10=_:=c 10;clear c m k i;simp only[a6,X,aI];refine aj ?_;go_simp;refine(aZ.out _ _ _ (D.out.trans p) bb ba).mono ?_;rintro e aq⟨F,ad,rfl,o,z,f4⟩;exact⟨_,rfl,f4.bP,⟨F,ad,rfl,o,z⟩,trivial⟩
     ·obtain⟨aH,t11,T,ac,ab⟩:=c 11;clear c m k i;simp only[T];refine aj ?_;go_simp;exact⟨_,rfl,aD,⟨_,_,rfl,ac,ab⟩,trivial⟩
    ·intro u w' p c i;obtain⟨a12,t12,G,I,H⟩:=c 12 (by omega);clear c i;simp only[bH,bI,bJ,bK,ay,Act.put,bL,bM,bN,dD,dE,Nat.reduceAdd,Nat.zero_add,G];have ae:=af (D.out.trans p);have ai:=af I;have R:=af H;clear p I G H;go_wp2;go_ret;refine⟨_,_,rfl,ai.out,?_,ae.out⟩;rw[R.out,Tr.bC,zy (by have h:=H1.out;rw[Q.out]at h;exact h)]
   ·have t1:decide (J<0)=false:=decide_eq_false A;by_cases E:0<J
    ·have t2:decide (0<J)=true:=decide_eq_true E;have a1:=af E;clear A E;go_upto_region 7 with fail;refine aC 13 ag [Is (.pointer (some ⟨s,0,none⟩)),Is (.pointer (some ⟨s,0,none⟩)),Is (.pointer (some ⟨s,0,none⟩)),Is (.pointer N),Is (.pointer (some ⟨s,0,none⟩)),Is (.pointer (some ⟨s,0,none⟩)),Is (.pointer (some ⟨s,0,none⟩)),Is (.pointer (some ⟨s,1,none⟩)),Is (.pointer ra),Is (.pointer (some ⟨g,0,none⟩)),(fun C B=>jY B C (dY nm v r.bC)),(fun C B=>jY B C ((l.bC++(n,P)::dY nm v r.bC))),(fun C B=>jY B C ((l.bC++(n,P)::dY nm v r.bC)))] [] (fun _=>True) (fun _ _=>false) (by kernel_rfl) (by kernel_rfl) (by kernel_rfl) (by kernel_rfl) ⟨Is.ah _,Is.ah _,Is.ah _,Is.ah _,Is.ah _,Is.ah _,Is.ah _,Is.ah _,Is.ah _,Is.ah _,fun v w1 w2 _ f h=>by obtain⟨a,t,e,o,z⟩:=h;exact⟨a,t,e,o.ar f,z⟩,fun v w1 w2 _ f h=>by obtain⟨a,t,e,o,z⟩:=h;exact⟨a,t,e,o.ar f,z⟩,fun v w1 w2 _ f h=>by obtain⟨a,t,e,o,z⟩:=h;exact⟨a,t,e,o.ar f,z⟩,trivial⟩ trivial (fun _ _ _ _ h=>h) trivial ?_ ?_
     ·refine⟨?_,?_,?_,?_,?_,?_,?_,?_,?_,?_,?_,?_,?_,trivial⟩;all_goals intro u w' d p c m k i
      all_goals simp only[bH,bI,bJ,bK,ay,Act.put,bL,bM,bN,Nat.reduceAdd,Nat.zero_add]
      ·clear c m k i;refine aj ?_;go_simp;exact⟨_,rfl,al⟩
      ·have U:u 0=_:=c 0;clear c m k i;simp only[U];refine aj ?_;go_simp;exact⟨_,rfl,al⟩
      ·have A:u 1=_:=c 1;clear c m k i;simp only[A];refine aj ?_;go_simp;exact⟨_,rfl,al⟩
      ·have E:u 2=_:=c 2;clear c m k i;simp only[E];refine aj ?_;have q:=p.an (D.out.an ax.out (fun x=>x)) (fun x=>x);go_simp;exact⟨_,rfl,al⟩
      ·clear c m k i;refine aj ?_;go_simp;exact⟨_,rfl,al⟩
      ·clear c m k i;refine aj ?_;go_simp;exact⟨_,rfl,al⟩
      ·have ak:u 5=_:=c 5;clear c m k i;simp only[ak];refine aj ?_;go_simp;exact⟨_,rfl,al⟩
      ·have X:u 6=_:=c 6;clear c m k i;simp only[X];refine aj ?_;go_simp;exact⟨_,rfl,al⟩
      ·have Y:u 7=_:=c 7;clear c m k i;simp only[Y];refine aj ?_;have q:=p.an (D.out.an aA.out (fun x=>x)) (fun x=>x);go_simp;exact⟨_,rfl,al⟩
      ·clear c m k i;refine aj ?_;go_simp;exact⟨_,rfl,al⟩
      ·have Z:u 8=_:=c 8;have aL:u 9=_:=c 9;clear c m k i;simp only[Z,aL];refine aj ?_;go_simp;refine(a4.out _ (D.out.trans p)).mono ?_;rintro e aq⟨F,ad,rfl,o,z,f4⟩;exact⟨_,rfl,f4.bP,⟨F,ad,rfl,o,z⟩,trivial⟩
      ·have V:u 3=_:=c 3;have W:u 4=_:=c 4;obtain⟨aG,t10,L,O,l10⟩:=c 10;clear c m k i;simp only[V,W,L];refine aj ?_;go_simp;refine(a0.out _ _ _ (D.out.trans p) O l10).mono ?_;rintro e aq⟨F,ad,rfl,o,z,f4⟩;exact⟨_,rfl,f4.bP,⟨F,ad,rfl,o,z⟩,trivial⟩
      ·obtain⟨aH,t11,T,ac,ab⟩:=c 11;clear c m k i;simp only[T];refine aj ?_;go_simp;exact⟨_,rfl,aD,⟨_,_,rfl,ac,ab⟩,trivial⟩
     ·intro u w' p c i;obtain⟨a12,t12,G,I,H⟩:=c 12 (by omega);clear c i;simp only[bH,bI,bJ,bK,ay,Act.put,bL,bM,bN,dD,dE,Nat.reduceAdd,Nat.zero_add,G];have ae:=af (D.out.trans p);have ai:=af I;have R:=af H;clear p I G H;go_wp2;go_ret;refine⟨_,_,rfl,ai.out,?_,ae.out⟩;have a8:0<cT nm n:=by have h:=a1.out;rw[Q.out]at h;exact h
      rw[R.out,Tr.bC,qV _ _ (fun y aR=>jG (cU.trans _ _ _ (K.out.2.2.1 y aR) (mI a8))),dY,if_neg (by simp only;omega),if_neg (by simp only;omega)]
    ·have t2:decide (0<J)=false:=decide_eq_false E;have aT:Hid (nm=n):=cU.eq nm n (by have h:=Q.out;omega);clear A E;go_upto_region 8 with fail;refine aC 11 ag [Is (.pointer (some ⟨s,0,none⟩)),Is (.pointer (some ⟨s,0,none⟩)),Is (.pointer (some ⟨s,0,none⟩)),Is (.pointer N),Is (.pointer (some ⟨g,0,none⟩)),Is (.pointer (some ⟨s,0,none⟩)),Is (.pointer (some ⟨s,0,none⟩)),Is (.pointer (some ⟨s,1,none⟩)),Is (.pointer ra),(fun C B=>∃F,C= .pointer F∧cE B F (.node l nm v r)),(fun C B=>∃F,C= .pointer F∧cE B F (.node l nm v r))] [] (fun _=>True) (fun _ _=>false) (by kernel_rfl) (by kernel_rfl) (by kernel_rfl) (by kernel_rfl) ⟨Is.ah _,Is.ah _,Is.ah _,Is.ah _,Is.ah _,Is.ah _,Is.ah _,Is.ah _,Is.ah _,fun v w1 w2 _ f h=>by obtain⟨a,e,o⟩:=h;exact⟨a,e,o.ar f⟩,fun v w1 w2 _ f h=>by obtain⟨a,e,o⟩:=h;exact⟨a,e,o.ar f⟩,trivial⟩ trivial (fun _ _ _ _ h=>h) trivial ?_ ?_
     ·refine⟨?_,?_,?_,?_,?_,?_,?_,?_,?_,?_,?_,trivial⟩;all_goals intro u w' d p c m k i
      all_goals simp only[bH,bI,bJ,bK,ay,Act.put,bL,bM,bN,Nat.reduceAdd,Nat.zero_add]
      ·clear c m k i;refine aj ?_;go_simp;exact⟨_,rfl,al⟩
      ·have U:u 0=_:=c 0;clear c m k i;simp only[U];refine aj ?_;go_simp;exact⟨_,rfl,al⟩
      ·have A:u 1=_:=c 1;clear c m k i;simp only[A];refine aj ?_;go_simp;exact⟨_,rfl,al⟩
      ·have E:u 2=_:=c 2;clear c m k i;simp only[E];refine aj ?_;have q:=p.an (D.out.an ax.out (fun x=>x)) (fun x=>x);go_simp;exact⟨_,rfl,al⟩
      ·clear c m k i;refine aj ?_;go_simp;exact⟨_,rfl,al⟩
      ·clear c m k i;refine aj ?_;go_simp;exact⟨_,rfl,al⟩
      ·have ak:u 5=_:=c 5;clear c m k i;simp only[ak];refine aj ?_;go_simp;exact⟨_,rfl,al⟩
      ·have X:u 6=_:=c 6;clear c m k i;simp only[X];refine aj ?_;go_simp;exact⟨_,rfl,al⟩
      ·have Y:u 7=_:=c 7;clear c m k i;simp only[Y];refine aj ?_;have q:=p.an (D.out.an aA.out (fun x=>x)) (fun x=>x);go_simp;exact⟨_,rfl,al⟩
      ·have V:u 3=_:=c 3;have W:u 4=_:=c 4;have Z:u 8=_:=c 8;clear c m k i;simp only[V,W,Z];refine aj ?_;go_simp;refine(a2.out _ (D.out.trans p)).mono ?_;rintro e aq⟨a,rfl,o,f4⟩;exact⟨_,rfl,f4.bP,⟨a,rfl,o⟩,trivial⟩
      ·obtain⟨a9,a7,bc⟩:=c 9;clear c m k i;simp only[a7];refine aj ?_;go_simp;exact⟨_,rfl,aD,⟨_,rfl,bc⟩,trivial⟩
     ·intro u w' p c i;obtain⟨aG,L,O⟩:=c 10 (by omega);clear c i;simp only[bH,bI,bJ,bK,ay,Act.put,bL,bM,bN,dD,dE,Nat.reduceAdd,Nat.zero_add,L];have ae:=af (D.out.trans p);have ai:=af O;clear p O L;go_wp2;go_ret;refine⟨_,_,rfl,ai.out,?_,ae.out⟩;rw[Tr.bC,Tr.bC,qV _ _ (fun y aR=>by rw[aT.out];exact jG (K.out.2.2.1 y aR)),dY,aT.out];simp only[cU.refl];rfl
end Go.Proofs.YtphjagkehiklkaaGreatDoor
