/- Texts. -/
import Derived.Test.YtphjagkehiklkaaGreatDoorZK07
set_option linter.unusedVariables false
set_option linter.unusedSimpArgs false
set_option maxRecDepth 100000
set_option maxHeartbeats 8000000
namespace Go.Proofs.YtphjagkehiklkaaGreatDoor
open Go.RowKit Go.Shelf
def kK(w:World)(v:Value)(L:List Ent):Prop:=∃a b,v= .pointer a∧cm w a b∧b.bJ=L
theorem oD{nm:aJ}{v:ByteArray}:∀(L:List Ent),(dE nm v L).length≤L.length+1∧cJ (dE nm v L)≤v.size+cJ L
 |[]=>by simp[dE,cJ]
 |y::L=>by
  have h:=oD (nm:=nm) (v:=v) L;rw[dE];split;·simp[cJ]
  ·split;·simp[cJ]
   ·simp only[cJ,List.map_cons,List.sum_cons,List.length_cons]at h⊢;omega
theorem mf{nm:aJ}:∀(L:List Ent),(di nm L).length≤L.length∧cJ (di nm L)≤cJ L
 |[]=>by simp[di]
 |y::L=>by
  have h:=mf (nm:=nm) L;rw[di];split;·simp[cJ]
  ·simp only[cJ,List.map_cons,List.sum_cons,List.length_cons]at h⊢;omega
theorem jH.parts{L b:List Ent}{x:Ent}(h:jH (L++x::b)):jH L∧jH b∧x.1.owner.size≤1099511627776:=
 ⟨fun y a=>h y (by simp[a]),fun y a=>h y (by simp[a]),h x (by simp)⟩
theorem kN{w:World}{a ra:Option Addr}{l r:Tr}{g:Nat}{nm:aJ}{v:ByteArray}{X Y:List Ent}(e:cm w a l)(f:cm w ra r)(hm:Mid w g nm v)(el:l.bJ=X)(c:r.bJ=Y)
  (b:X.length+Y.length+1≤1048576)(d:v.size+cJ X+cJ Y≤1099511627776):Calls Tryz.prog 177 #[.pointer a, .pointer (some ⟨g,0,none⟩), .pointer ra] w (Balanced w (X++(nm,v)::Y)):=by
 subst el c;refine zr a ra l r g nm v w e f hm ?_ ?_;·rw[Tr.bW,Tr.bW]at b;exact b
 ·rw[Tr.cY,Tr.cY];exact d
theorem Jq(nm:aJ)(v:ByteArray)(g:Nat)(aO:nm.owner.size≤1099511627776)(t:Tr):∀(a:Option Addr)(w:World),cm w a t→Mid w g nm v→cG t.bJ→jH t.bJ→t.size+1≤1048576→v.size+t.bytes≤1099511627776→
  Calls Tryz.prog 163 #[.pointer a, .pointer (some ⟨g,0,none⟩)] w (Balanced w (dE nm v t.bJ)):=by
 induction t with
 |leaf=>
  intro a w aM ax _ _ _ aA;obtain rfl:a=none:=aM;refine(Gb nm v g w ax (by simp only[Tr.bytes]at aA;omega)).mono ?_;rintro e w'⟨a,rfl,o,p⟩;exact⟨a,_,rfl,o,rfl,p⟩
 |node l n P r an ap=>
  intro a w aM ax aW aV aY aA;have aP:l.size+r.size+2≤1048576:=by simp only[Tr.size]at aY;omega
  have aN:v.size+P.size+l.bytes+r.bytes≤1099511627776:=by simp only[Tr.bytes]at aA;omega
  have K:=af (cG.parts aW);have S:=af (jH.parts aV);obtain⟨s,N,ra,rfl,z,aX,M⟩:=aM;have aD:=af z;have aF:=af aX;have aw:=af ax;have aE:Hid (Mid w s n P):=Mid.of M;have aB:Hid (w.cell? ⟨s,0,none⟩=some (.pointer N)):=M.cell 0;have aC:Hid (w.cell? ⟨s,1,none⟩=some (.pointer ra)):=M.cell 1;have aS:Hid (∀w',Calls Tryz.prog 128 #[.agg nm.cells.toArray, .agg n.cells.toArray] w' (aH w' (.int .i64 (bQ nm n)))):=fun w'=>gh nm n w' aO S.out.2.2;have a4:Hid (∀w',Fr ag w w'→Calls Tryz.prog 163 #[.pointer N, .pointer (some ⟨g,0,none⟩)] w' (Balanced w' (dE nm v l.bJ))):=fun w' f=>an N w' (aD.out.ao f) (aw.out.ao f) K.out.1 S.out.1 (by omega) (by omega);have a6:Hid (∀w',Fr ag w w'→Calls Tryz.prog 163 #[.pointer ra, .pointer (some ⟨g,0,none⟩)] w' (Balanced w' (dE nm v r.bJ))):=fun w' f=>ap ra w' (aF.out.ao f) (aw.out.ao f) K.out.2.1 S.out.2.1 (by omega) (by omega);have a0:Hid (∀w' b u,Fr ag w w'→cm w' b u→u.bJ=dE nm v l.bJ→Calls Tryz.prog 177 #[.pointer b, .pointer (some ⟨s,0,none⟩), .pointer ra] w' (Balanced w' (dE nm v l.bJ++(n,P)::r.bJ))):=fun w' b u f o e=>by
   have A:=oD (nm:=nm) (v:=v) l.bJ;rw[Tr.bW,←Tr.cY]at A;exact kN o (aF.out.ao f) (aE.out.ao f) e rfl (by rw[Tr.bW];omega) (by rw[←Tr.cY];omega)
  have a1:Hid (∀w' b u,Fr ag w w'→cm w' b u→u.bJ=dE nm v r.bJ→Calls Tryz.prog 177 #[.pointer N, .pointer (some ⟨s,0,none⟩), .pointer b] w' (Balanced w' (l.bJ++(n,P)::dE nm v r.bJ))):=fun w' b u f o e=>by
   have A:=oD (nm:=nm) (v:=v) r.bJ;rw[Tr.bW,←Tr.cY]at A;exact kN (aD.out.ao f) o (aE.out.ao f) rfl e (by rw[Tr.bW];omega) (by rw[←Tr.cY];omega)
  have a3:Hid (∀w',Fr ag w w'→Calls Tryz.prog 178 #[.pointer N, .pointer (some ⟨g,0,none⟩), .pointer ra] w' (fun e aq=>∃a,e= .returned (.pointer a)∧cm aq a (.node l nm v r)∧Fr ag w' aq)):=fun w' f=>fU w' N ra l r g nm v (aD.out.ao f) (aF.out.ao f) (aw.out.ao f) (by omega) (by omega);obtain⟨J,aa⟩:∃J,J=bQ nm n:=⟨_,rfl⟩;rw[←aa]at aS;have Q:=af aa;clear z aX ax M aW aV aY aA aP aN aa an ap;go_enter Tryz.func163,Tryz.ntmps163;go_upto_region 3 with fail;refine ay 10 ag [Is (.pointer (some ⟨g,0,none⟩)),Is (.pointer (some ⟨g,0,none⟩)),Is (.pointer (some ⟨g,2,none⟩)),Is (.agg nm.cells.toArray),Is (.pointer (some ⟨s,0,none⟩)),Is (.pointer (some ⟨s,0,none⟩)),Is (.pointer (some ⟨s,2,none⟩)),Is (.agg n.cells.toArray),Is (.int .i64 J),Is (.int .i64 J)] [] (fun _=>True) (fun _ _=>false) (by kernel_rfl) (by kernel_rfl) (by kernel_rfl) (by kernel_rfl) ⟨Is.ah _,Is.ah _,Is.ah _,Is.ah _,Is.ah _,Is.ah _,Is.ah _,Is.ah _,Is.ah _,Is.ah _,trivial⟩ trivial (fun _ _ _ _ h=>h) trivial ?_ ?_
  ·refine⟨?_,?_,?_,?_,?_,?_,?_,?_,?_,?_,trivial⟩;all_goals intro u w' d p c m k i
   all_goals simp only[bw,bC,bD,bE,ar,Act.put,bF,bG,bH,Nat.reduceAdd,Nat.zero_add]
   ·clear c m k i;refine aj ?_;go_simp;exact⟨_,rfl,al⟩
   ·have U:u 0=_:=c 0;clear c m k i;simp only[U];refine aj ?_;go_simp;exact⟨_,rfl,al⟩
   ·have A:u 1=_:=c 1;clear c m k i;simp only[A];refine aj ?_;go_simp;exact⟨_,rfl,al⟩
   ·have E:u 2=_:=c 2;clear c m k i;simp only[E];refine aj ?_;exact au _ _ rfl ⟨g,2,none⟩ rfl nm.cells _ (fun j x aQ=>by rw[Addr.add_mid];exact p.ak (aw.out.name j x aQ) (fun x=>x)) Tryz.underlying106 rfl aT ⟨_,rfl,al⟩
   ·clear c m k i;refine aj ?_;go_simp;exact⟨_,rfl,al⟩
   ·have W:u 4=_:=c 4;clear c m k i;simp only[W];refine aj ?_;go_simp;exact⟨_,rfl,al⟩
   ·have am:u 5=_:=c 5;clear c m k i;simp only[am];refine aj ?_;go_simp;exact⟨_,rfl,al⟩
   ·have X:u 6=_:=c 6;clear c m k i;simp only[X];refine aj ?_;exact au _ _ rfl ⟨s,2,none⟩ rfl n.cells _ (fun j x aQ=>by rw[Addr.add_mid];exact p.ak (aE.out.name j x aQ) (fun x=>x)) Tryz.underlying106 rfl aT ⟨_,rfl,al⟩
   ·have V:u 3=_:=c 3;have Y:u 7=_:=c 7;clear c m k i;simp only[V,Y];refine aj ?_;go_simp;refine(aS.out _).mono ?_;rintro e av⟨rfl,f4⟩;exact⟨_,rfl,f4.bO,rfl,trivial⟩
   ·have Z:u 8=_:=c 8;clear c m k i;simp only[Z];refine aj ?_;go_simp;exact⟨_,rfl,al⟩
  ·intro u w' p c i;have aZ:u 9=_:=c 9 (by omega);clear c i;simp only[bw,bC,bD,bE,ar,Act.put,bF,bG,bH,dj,dk,Nat.reduceAdd,Nat.zero_add,aZ];have D:=af p;clear p aZ;by_cases A:J<0
   ·have t1:decide (J<0)=true:=decide_eq_true A;have H1:=af A;clear A;go_upto_region 5 with fail;refine ay 13 ag [Is (.pointer (some ⟨s,0,none⟩)),Is (.pointer (some ⟨s,0,none⟩)),Is (.pointer (some ⟨s,0,none⟩)),Is (.pointer N),Is (.pointer (some ⟨g,0,none⟩)),(fun C B=>kK B C (dE nm v l.bJ)),Is (.pointer (some ⟨s,0,none⟩)),Is (.pointer (some ⟨s,0,none⟩)),Is (.pointer (some ⟨s,0,none⟩)),Is (.pointer (some ⟨s,1,none⟩)),Is (.pointer ra),(fun C B=>kK B C ((dE nm v l.bJ++(n,P)::r.bJ))),(fun C B=>kK B C ((dE nm v l.bJ++(n,P)::r.bJ)))] [] (fun _=>True) (fun _ _=>false) (by kernel_rfl) (by kernel_rfl) (by kernel_rfl) (by kernel_rfl) ⟨Is.ah _,Is.ah _,Is.ah _,Is.ah _,Is.ah _,fun v w1 w2 _ f h=>by obtain⟨a,t,e,o,z⟩:=h;exact⟨a,t,e,o.ao f,z⟩,Is.ah _,Is.ah _,Is.ah _,Is.ah _,Is.ah _,fun v w1 w2 _ f h=>by obtain⟨a,t,e,o,z⟩:=h;exact⟨a,t,e,o.ao f,z⟩,fun v w1 w2 _ f h=>by obtain⟨a,t,e,o,z⟩:=h;exact⟨a,t,e,o.ao f,z⟩,trivial⟩ trivial (fun _ _ _ _ h=>h) trivial ?_ ?_
    ·refine⟨?_,?_,?_,?_,?_,?_,?_,?_,?_,?_,?_,?_,?_,trivial⟩;all_goals intro u w' d p c m k i
     all_goals simp only[bw,bC,bD,bE,ar,Act.put,bF,bG,bH,Nat.reduceAdd,Nat.zero_add]
     ·clear c m k i;refine aj ?_;go_simp;exact⟨_,rfl,al⟩
     ·have U:u 0=_:=c 0;clear c m k i;simp only[U];refine aj ?_;go_simp;exact⟨_,rfl,al⟩
     ·have A:u 1=_:=c 1;clear c m k i;simp only[A];refine aj ?_;go_simp;exact⟨_,rfl,al⟩
     ·have E:u 2=_:=c 2;clear c m k i;simp only[E];refine aj ?_;have q:=p.ak (D.out.ak aB.out (fun x=>x)) (fun x=>x);go_simp;exact⟨_,rfl,al⟩
     ·clear c m k i;refine aj ?_;go_simp;exact⟨_,rfl,al⟩
     ·have V:u 3=_:=c 3;have W:u 4=_:=c 4;clear c m k i;simp only[V,W];refine aj ?_;go_simp;refine(a4.out _ (D.out.trans p)).mono ?_;rintro e av⟨F,ad,rfl,o,z,f4⟩;exact⟨_,rfl,f4.bO,⟨F,ad,rfl,o,z⟩,trivial⟩
     ·clear c m k i;refine aj ?_;go_simp;exact⟨_,rfl,al⟩
     ·clear c m k i;refine aj ?_;go_simp;exact⟨_,rfl,al⟩
     ·have Y:u 7=_:=c 7;clear c m k i;simp only[Y];refine aj ?_;go_simp;exact⟨_,rfl,al⟩
     ·have Z:u 8=_:=c 8;clear c m k i;simp only[Z];refine aj ?_;go_simp;exact⟨_,rfl,al⟩
     ·have aL:u 9=_:=c 9;clear c m k i;simp only[aL];refine aj ?_;have q:=p.ak (D.out.ak aC.out (fun x=>x)) (fun x=>x);go_simp;exact⟨_,rfl,al⟩
     ·obtain⟨a5,t5,a7,n5,bb⟩:=c 5;have X:u 6=_:=c 6;have aK:u 10=_:=c 10;clear c m k i;simp only[a7,X,aK];refine aj ?_;go_simp;refine(a0.out _ _ _ (D.out.trans p) n5 bb).mono ?_;rintro e av⟨F,ad,rfl,o,z,f4⟩;exact⟨_,rfl,f4.bO,⟨F,ad,rfl,o,z⟩,trivial⟩
     ·obtain⟨aI,t11,T,ac,ab⟩:=c 11;clear c m k i;simp only[T];refine aj ?_;go_simp;exact⟨_,rfl,az,⟨_,_,rfl,ac,ab⟩,trivial⟩
    ·intro u w' p c i;obtain⟨a12,t12,G,I,H⟩:=c 12 (by omega);clear c i;simp only[bw,bC,bD,bE,ar,Act.put,bF,bG,bH,dj,dk,Nat.reduceAdd,Nat.zero_add,G];have ae:=af (D.out.trans p);have ai:=af I;have R:=af H;clear p I G H;go_wp2;go_ret;refine⟨_,_,rfl,ai.out,?_,ae.out⟩;rw[R.out,Tr.bJ,BV (by have h:=H1.out;rw[Q.out]at h;exact h)]
   ·have t1:decide (J<0)=false:=decide_eq_false A;by_cases E:0<J
    ·have t2:decide (0<J)=true:=decide_eq_true E;have a2:=af E;clear A E;go_upto_region 7 with fail;refine ay 13 ag [Is (.pointer (some ⟨s,0,none⟩)),Is (.pointer (some ⟨s,0,none⟩)),Is (.pointer (some ⟨s,0,none⟩)),Is (.pointer N),Is (.pointer (some ⟨s,0,none⟩)),Is (.pointer (some ⟨s,0,none⟩)),Is (.pointer (some ⟨s,0,none⟩)),Is (.pointer (some ⟨s,1,none⟩)),Is (.pointer ra),Is (.pointer (some ⟨g,0,none⟩)),(fun C B=>kK B C (dE nm v r.bJ)),(fun C B=>kK B C ((l.bJ++(n,P)::dE nm v r.bJ))),(fun C B=>kK B C ((l.bJ++(n,P)::dE nm v r.bJ)))] [] (fun _=>True) (fun _ _=>false) (by kernel_rfl) (by kernel_rfl) (by kernel_rfl) (by kernel_rfl) ⟨Is.ah _,Is.ah _,Is.ah _,Is.ah _,Is.ah _,Is.ah _,Is.ah _,Is.ah _,Is.ah _,Is.ah _,fun v w1 w2 _ f h=>by obtain⟨a,t,e,o,z⟩:=h;exact⟨a,t,e,o.ao f,z⟩,fun v w1 w2 _ f h=>by obtain⟨a,t,e,o,z⟩:=h;exact⟨a,t,e,o.ao f,z⟩,fun v w1 w2 _ f h=>by obtain⟨a,t,e,o,z⟩:=h;exact⟨a,t,e,o.ao f,z⟩,trivial⟩ trivial (fun _ _ _ _ h=>h) trivial ?_ ?_
     ·refine⟨?_,?_,?_,?_,?_,?_,?_,?_,?_,?_,?_,?_,?_,trivial⟩;all_goals intro u w' d p c m k i
      all_goals simp only[bw,bC,bD,bE,ar,Act.put,bF,bG,bH,Nat.reduceAdd,Nat.zero_add]
      ·clear c m k i;refine aj ?_;go_simp;exact⟨_,rfl,al⟩
      ·have U:u 0=_:=c 0;clear c m k i;simp only[U];refine aj ?_;go_simp;exact⟨_,rfl,al⟩
      ·have A:u 1=_:=c 1;clear c m k i;simp only[A];refine aj ?_;go_simp;exact⟨_,rfl,al⟩
      ·have E:u 2=_:=c 2;clear c m k i;simp only[E];refine aj ?_;have q:=p.ak (D.out.ak aB.out (fun x=>x)) (fun x=>x);go_simp;exact⟨_,rfl,al⟩
      ·clear c m k i;refine aj ?_;go_simp;exact⟨_,rfl,al⟩
      ·clear c m k i;refine aj ?_;go_simp;exact⟨_,rfl,al⟩
      ·have am:u 5=_:=c 5;clear c m k i;simp only[am];refine aj ?_;go_simp;exact⟨_,rfl,al⟩
      ·have X:u 6=_:=c 6;clear c m k i;simp only[X];refine aj ?_;go_simp;exact⟨_,rfl,al⟩
      ·have Y:u 7=_:=c 7;clear c m k i;simp only[Y];refine aj ?_;have q:=p.ak (D.out.ak aC.out (fun x=>x)) (fun x=>x);go_simp;exact⟨_,rfl,al⟩
      ·clear c m k i;refine aj ?_;go_simp;exact⟨_,rfl,al⟩
      ·have Z:u 8=_:=c 8;have aL:u 9=_:=c 9;clear c m k i;simp only[Z,aL];refine aj ?_;go_simp;refine(a6.out _ (D.out.trans p)).mono ?_;rintro e av⟨F,ad,rfl,o,z,f4⟩;exact⟨_,rfl,f4.bO,⟨F,ad,rfl,o,z⟩,trivial⟩
      ·have V:u 3=_:=c 3;have W:u 4=_:=c 4;obtain⟨aG,t10,L,O,l10⟩:=c 10;clear c m k i;simp only[V,W,L];refine aj ?_;go_simp;refine(a1.out _ _ _ (D.out.trans p) O l10).mono ?_;rintro e av⟨F,ad,rfl,o,z,f4⟩;exact⟨_,rfl,f4.bO,⟨F,ad,rfl,o,z⟩,trivial⟩
      ·obtain⟨aI,t11,T,ac,ab⟩:=c 11;clear c m k i;simp only[T];refine aj ?_;go_simp;exact⟨_,rfl,az,⟨_,_,rfl,ac,ab⟩,trivial⟩
     ·intro u w' p c i;obtain⟨a12,t12,G,I,H⟩:=c 12 (by omega);clear c i;simp only[bw,bC,bD,bE,ar,Act.put,bF,bG,bH,dj,dk,Nat.reduceAdd,Nat.zero_add,G];have ae:=af (D.out.trans p);have ai:=af I;have R:=af H;clear p I G H;go_wp2;go_ret;refine⟨_,_,rfl,ai.out,?_,ae.out⟩;have ba:0<bQ nm n:=by have h:=a2.out;rw[Q.out]at h;exact h
      rw[R.out,Tr.bJ,mn _ _ (fun y aR=>gT (bZ.trans _ _ _ (K.out.2.2.1 y aR) (lS ba))),dE,if_neg (by simp only;omega),if_neg (by simp only;omega)]
    ·have t2:decide (0<J)=false:=decide_eq_false E;have aU:Hid (nm=n):=bZ.eq nm n (by have h:=Q.out;omega);clear A E;go_upto_region 8 with fail;refine ay 11 ag [Is (.pointer (some ⟨s,0,none⟩)),Is (.pointer (some ⟨s,0,none⟩)),Is (.pointer (some ⟨s,0,none⟩)),Is (.pointer N),Is (.pointer (some ⟨g,0,none⟩)),Is (.pointer (some ⟨s,0,none⟩)),Is (.pointer (some ⟨s,0,none⟩)),Is (.pointer (some ⟨s,1,none⟩)),Is (.pointer ra),(fun C B=>∃F,C= .pointer F∧cm B F (.node l nm v r)),(fun C B=>∃F,C= .pointer F∧cm B F (.node l nm v r))] [] (fun _=>True) (fun _ _=>false) (by kernel_rfl) (by kernel_rfl) (by kernel_rfl) (by kernel_rfl) ⟨Is.ah _,Is.ah _,Is.ah _,Is.ah _,Is.ah _,Is.ah _,Is.ah _,Is.ah _,Is.ah _,fun v w1 w2 _ f h=>by obtain⟨a,e,o⟩:=h;exact⟨a,e,o.ao f⟩,fun v w1 w2 _ f h=>by obtain⟨a,e,o⟩:=h;exact⟨a,e,o.ao f⟩,trivial⟩ trivial (fun _ _ _ _ h=>h) trivial ?_ ?_
     ·refine⟨?_,?_,?_,?_,?_,?_,?_,?_,?_,?_,?_,trivial⟩;all_goals intro u w' d p c m k i
      all_goals simp only[bw,bC,bD,bE,ar,Act.put,bF,bG,bH,Nat.reduceAdd,Nat.zero_add]
      ·clear c m k i;refine aj ?_;go_simp;exact⟨_,rfl,al⟩
      ·have U:u 0=_:=c 0;clear c m k i;simp only[U];refine aj ?_;go_simp;exact⟨_,rfl,al⟩
      ·have A:u 1=_:=c 1;clear c m k i;simp only[A];refine aj ?_;go_simp;exact⟨_,rfl,al⟩
      ·have E:u 2=_:=c 2;clear c m k i;simp only[E];refine aj ?_;have q:=p.ak (D.out.ak aB.out (fun x=>x)) (fun x=>x);go_simp;exact⟨_,rfl,al⟩
      ·clear c m k i;refine aj ?_;go_simp;exact⟨_,rfl,al⟩
      ·clear c m k i;refine aj ?_;go_simp;exact⟨_,rfl,al⟩
      ·have am:u 5=_:=c 5;clear c m k i;simp only[am];refine aj ?_;go_simp;exact⟨_,rfl,al⟩
      ·have X:u 6=_:=c 6;clear c m k i;simp only[X];refine aj ?_;go_simp;exact⟨_,rfl,al⟩
      ·have Y:u 7=_:=c 7;clear c m k i;simp only[Y];refine aj ?_;have q:=p.ak (D.out.ak aC.out (fun x=>x)) (fun x=>x);go_simp;exact⟨_,rfl,al⟩
      ·have V:u 3=_:=c 3;have W:u 4=_:=c 4;have Z:u 8=_:=c 8;clear c m k i;simp only[V,W,Z];refine aj ?_;go_simp;refine(a3.out _ (D.out.trans p)).mono ?_;rintro e av⟨a,rfl,o,f4⟩;exact⟨_,rfl,f4.bO,⟨a,rfl,o⟩,trivial⟩
      ·obtain⟨a9,a8,bc⟩:=c 9;clear c m k i;simp only[a8];refine aj ?_;go_simp;exact⟨_,rfl,az,⟨_,rfl,bc⟩,trivial⟩
     ·intro u w' p c i;obtain⟨aG,L,O⟩:=c 10 (by omega);clear c i;simp only[bw,bC,bD,bE,ar,Act.put,bF,bG,bH,dj,dk,Nat.reduceAdd,Nat.zero_add,L];have ae:=af (D.out.trans p);have ai:=af O;clear p O L;go_wp2;go_ret;refine⟨_,_,rfl,ai.out,?_,ae.out⟩;rw[Tr.bJ,Tr.bJ,mn _ _ (fun y aR=>by rw[aU.out];exact gT (K.out.2.2.1 y aR)),dE,aU.out];simp only[bZ.refl];rfl
theorem As(t:Tr):∀(nm:aJ)(a:Option Addr)(w:World),nm.owner.size≤1099511627776→(∃v,(nm,v)∈t.bJ)→cm w a t→cG t.bJ→jH t.bJ→t.size≤1048575→t.bytes≤1099511627776→
  Calls Tryz.prog 162 #[.pointer a, .agg nm.cells.toArray] w (Balanced w (di nm t.bJ)):=by
 induction t with
 |leaf=>
  intro nm a w _ h;obtain⟨v,h⟩:=h;cases h
 |node l s N r a7 a8=>
  intro nm a w ac am bg b4 b3 b7 b5;have a4:l.size+r.size+1≤1048575:=by simp only[Tr.size]at b7;omega
  have a2:N.size+l.bytes+r.bytes≤1099511627776:=by simp only[Tr.bytes]at b5;omega
  have K:=af (cG.parts b4);have Z:=af (jH.parts b3);have aO:=af am;obtain⟨C,an,ra,rfl,B,b6,ab⟩:=bg;have be:=af B;have aR:=af b6;have bk:Hid (Mid w C s N):=Mid.of ab;have bd:Hid (w.cell? ⟨C,0,none⟩=some (.pointer an)):=ab.cell 0;have aL:Hid (w.cell? ⟨C,1,none⟩=some (.pointer ra)):=ab.cell 1;have bR:Hid (∀w',Calls Tryz.prog 128 #[.agg nm.cells.toArray, .agg s.cells.toArray] w' (aH w' (.int .i64 (bQ nm s)))):=fun w'=>gh nm s w' ac Z.out.2.2;obtain⟨L,aC⟩:∃L,L=bQ nm s:=⟨_,rfl⟩;rw[←aC]at bR;have O:=af aC;have a9:Hid (L<0→∃v,(nm,v)∈l.bJ):=fun h=>by
   obtain⟨v,F⟩:=aO.out;rw[O.out]at h;simp only[Tr.bJ,List.mem_append,List.mem_cons]at F;rcases F with F|F|F;·exact⟨v,F⟩
   ·simp only[Prod.mk.injEq]at F;rw[F.1,bZ.refl]at h;omega
   ·have H:=K.out.2.2.2 _ F;have ai:=bZ.lY nm s;simp only at H;omega
  have bA:Hid (0<L→∃v,(nm,v)∈r.bJ):=fun h=>by
   obtain⟨v,F⟩:=aO.out;rw[O.out]at h;simp only[Tr.bJ,List.mem_append,List.mem_cons]at F;rcases F with F|F|F;·have H:=K.out.2.2.1 _ F;simp only at H;omega
   ·simp only[Prod.mk.injEq]at F;rw[F.1,bZ.refl]at h;omega
   ·exact⟨v,F⟩
  have cb:Hid (∀w',L<0→Fr ag w w'→Calls Tryz.prog 162 #[.pointer an, .agg nm.cells.toArray] w' (Balanced w' (di nm l.bJ))):=fun w' ci f=>a7 nm an w' ac (a9.out ci) (be.out.ao f) K.out.1 Z.out.1 (by omega) (by omega);have b0:Hid (∀w' n,n.owner.size≤1099511627776→(∃v,(n,v)∈r.bJ)→Fr ag w w'→Calls Tryz.prog 162 #[.pointer ra, .agg n.cells.toArray] w' (Balanced w' (di n r.bJ))):=fun w' n p hm f=>a8 n ra w' p hm (aR.out.ao f) K.out.2.1 Z.out.2.1 (by omega) (by omega);have b9:Hid (∀w' b u,Fr ag w w'→cm w' b u→u.bJ=di nm l.bJ→Calls Tryz.prog 177 #[.pointer b, .pointer (some ⟨C,0,none⟩), .pointer ra] w' (Balanced w' (di nm l.bJ++(s,N)::r.bJ))):=fun w' b u f p e=>by
   have E:=mf (nm:=nm) l.bJ;rw[Tr.bW,←Tr.cY]at E;exact kN p (aR.out.ao f) (bk.out.ao f) e rfl (by rw[Tr.bW];omega) (by rw[←Tr.cY];omega)
  have ca:Hid (∀w' b u n m v,Fr ag w w'→Mid w' m n v→v.size≤N.size+r.bytes→cJ (di n r.bJ)+v.size≤N.size+r.bytes→cm w' b u→u.bJ=di n r.bJ→Calls Tryz.prog 177 #[.pointer an, .pointer (some ⟨m,0,none⟩), .pointer b] w' (Balanced w' (l.bJ++(n,v)::di n r.bJ))):=fun w' b u n m v f hm _ F p e=>by
   have E:=mf (nm:=n) r.bJ;rw[Tr.bW,←Tr.cY]at E;exact kN (be.out.ao f) p hm rfl e (by rw[Tr.bW];omega) (by rw[←Tr.cY];omega)
  have bl:=af ac;have bm:=af a4;have bi:=af a2;clear B b6 ab b4 b3 b7 b5 a4 a2 aC a7 a8 am ac;go_enter Tryz.func162,Tryz.ntmps162;go_wp2_with(refine aB rfl 106 (.tmp 1) rfl nm.cells.toArray rfl ?_);intro w1 n1;have bT:=af n1.fr;have aU:=af n1.aE;clear n1;generalize w.heap.size=bf at*;have bY:Hid (aq w1 bf 106 nm.cells.toArray):=aU.out;clear aU;go_upto_region 1 with fail;refine ay 7 ag [Is (.agg nm.cells.toArray),Is (.pointer (some ⟨C,0,none⟩)),Is (.pointer (some ⟨C,0,none⟩)),Is (.pointer (some ⟨C,2,none⟩)),Is (.agg s.cells.toArray),Is (.int .i64 L),Is (.int .i64 L)] [] (fun _=>True) (fun _ _=>false) (by kernel_rfl) (by kernel_rfl) (by kernel_rfl) (by kernel_rfl) ⟨Is.ah _,Is.ah _,Is.ah _,Is.ah _,Is.ah _,Is.ah _,Is.ah _,trivial⟩ trivial (fun _ _ _ _ h=>h) trivial ?_ ?_
  ·refine⟨?_,?_,?_,?_,?_,?_,?_,trivial⟩;all_goals intro u w' d A c o k g
   all_goals simp only[bw,bC,bD,bE,ar,Act.put,bF,bG,bH,Nat.reduceAdd,Nat.zero_add]
   ·clear c o k g;refine aj ?_;exact au _ _ rfl ⟨bf,0,none⟩ rfl nm.cells _ (fun j x ad=>by rw[Addr.add_mid,Nat.zero_add];exact(bY.out.fr A (fun x=>x)).cell j|>.trans (by rw[bP];exact ad)) Tryz.underlying106 rfl aT ⟨_,rfl,al⟩
   ·clear c o k g;refine aj ?_;go_simp;exact⟨_,rfl,al⟩
   ·have E:u 1=_:=c 1;clear c o k g;simp only[E];refine aj ?_;go_simp;exact⟨_,rfl,al⟩
   ·have H:u 2=_:=c 2;clear c o k g;simp only[H];refine aj ?_;go_simp;exact⟨_,rfl,al⟩
   ·have ai:u 3=_:=c 3;clear c o k g;simp only[ai];refine aj ?_;exact au _ _ rfl ⟨C,2,none⟩ rfl s.cells _ (fun j x ad=>by rw[Addr.add_mid];exact(bT.out.trans A).ak (bk.out.name j x ad) (fun x=>x)) Tryz.underlying106 rfl aT ⟨_,rfl,al⟩
   ·have av:u 0=_:=c 0;have ax:u 4=_:=c 4;clear c o k g;simp only[av,ax];refine aj ?_;go_simp;refine(bR.out _).mono ?_;rintro e aK⟨rfl,f4⟩;exact⟨_,rfl,f4.bO,rfl,trivial⟩
   ·have aX:u 5=_:=c 5;clear c o k g;simp only[aX];refine aj ?_;go_simp;exact⟨_,rfl,al⟩
  ·intro u w' A c g;have k6:u 6=_:=c 6 (by omega);clear c g;simp only[bw,bC,bD,bE,ar,Act.put,bF,bG,bH,dj,dk,Nat.reduceAdd,Nat.zero_add,k6];have G:=af (bT.out.trans A);have aV:=af (bY.out.fr A (fun x=>x));clear A k6;by_cases E:L<0
   ·have t1:decide (L<0)=true:=decide_eq_true E;have H1:=af E;clear E;go_upto_region 3 with fail;refine ay 13 ag [Is (.pointer (some ⟨C,0,none⟩)),Is (.pointer (some ⟨C,0,none⟩)),Is (.pointer (some ⟨C,0,none⟩)),Is (.pointer an),Is (.agg nm.cells.toArray),(fun J I=>kK I J (di nm l.bJ)),Is (.pointer (some ⟨C,0,none⟩)),Is (.pointer (some ⟨C,0,none⟩)),Is (.pointer (some ⟨C,0,none⟩)),Is (.pointer (some ⟨C,1,none⟩)),Is (.pointer ra),(fun J I=>kK I J ((di nm l.bJ++(s,N)::r.bJ))),(fun J I=>kK I J ((di nm l.bJ++(s,N)::r.bJ)))] [] (fun _=>True) (fun _ _=>false) (by kernel_rfl) (by kernel_rfl) (by kernel_rfl) (by kernel_rfl) ⟨Is.ah _,Is.ah _,Is.ah _,Is.ah _,Is.ah _,fun v w1 w2 _ f h=>by obtain⟨a,t,e,p,B⟩:=h;exact⟨a,t,e,p.ao f,B⟩,Is.ah _,Is.ah _,Is.ah _,Is.ah _,Is.ah _,fun v w1 w2 _ f h=>by obtain⟨a,t,e,p,B⟩:=h;exact⟨a,t,e,p.ao f,B⟩,fun v w1 w2 _ f h=>by obtain⟨a,t,e,p,B⟩:=h;exact⟨a,t,e,p.ao f,B⟩,trivial⟩ trivial (fun _ _ _ _ h=>h) trivial ?_ ?_
    ·refine⟨?_,?_,?_,?_,?_,?_,?_,?_,?_,?_,?_,?_,?_,trivial⟩;all_goals intro u w' d A c o k g
     all_goals simp only[bw,bC,bD,bE,ar,Act.put,bF,bG,bH,Nat.reduceAdd,Nat.zero_add]
     ·clear c o k g;refine aj ?_;go_simp;exact⟨_,rfl,al⟩
     ·have av:u 0=_:=c 0;clear c o k g;simp only[av];refine aj ?_;go_simp;exact⟨_,rfl,al⟩
     ·have E:u 1=_:=c 1;clear c o k g;simp only[E];refine aj ?_;go_simp;exact⟨_,rfl,al⟩
     ·have H:u 2=_:=c 2;clear c o k g;simp only[H];refine aj ?_;have q:=A.ak (G.out.ak bd.out (fun x=>x)) (fun x=>x);go_simp;exact⟨_,rfl,al⟩
     ·clear c o k g;refine aj ?_;exact au _ _ rfl ⟨bf,0,none⟩ rfl nm.cells _ (fun j x ad=>by rw[Addr.add_mid,Nat.zero_add];exact(aV.out.fr A (fun x=>x)).cell j|>.trans (by rw[bP];exact ad)) Tryz.underlying106 rfl aT ⟨_,rfl,al⟩
     ·have ai:u 3=_:=c 3;have ax:u 4=_:=c 4;clear c o k g;simp only[ai,ax];refine aj ?_;go_simp;refine(cb.out _ H1.out (G.out.trans A)).mono ?_;rintro e aK⟨V,W,rfl,p,B,f4⟩;exact⟨_,rfl,f4.bO,⟨V,W,rfl,p,B⟩,trivial⟩
     ·clear c o k g;refine aj ?_;go_simp;exact⟨_,rfl,al⟩
     ·clear c o k g;refine aj ?_;go_simp;exact⟨_,rfl,al⟩
     ·have aZ:u 7=_:=c 7;clear c o k g;simp only[aZ];refine aj ?_;go_simp;exact⟨_,rfl,al⟩
     ·have a0:u 8=_:=c 8;clear c o k g;simp only[a0];refine aj ?_;go_simp;exact⟨_,rfl,al⟩
     ·have a1:u 9=_:=c 9;clear c o k g;simp only[a1];refine aj ?_;have q:=A.ak (G.out.ak aL.out (fun x=>x)) (fun x=>x);go_simp;exact⟨_,rfl,al⟩
     ·obtain⟨a5,t5,cg,n5,ck⟩:=c 5;have aY:u 6=_:=c 6;have aw:u 10=_:=c 10;clear c o k g;simp only[cg,aY,aw];refine aj ?_;go_simp;refine(b9.out _ _ _ (G.out.trans A) n5 ck).mono ?_;rintro e aK⟨V,W,rfl,p,B,f4⟩;exact⟨_,rfl,f4.bO,⟨V,W,rfl,p,B⟩,trivial⟩
     ·obtain⟨bp,t11,ap,aG,aF⟩:=c 11;clear c o k g;simp only[ap];refine aj ?_;go_simp;exact⟨_,rfl,az,⟨_,_,rfl,aG,aF⟩,trivial⟩
    ·intro u w' A c g;obtain⟨a12,t12,R,T,S⟩:=c 12 (by omega);clear c g;simp only[bw,bC,bD,bE,ar,Act.put,bF,bG,bH,dj,dk,Nat.reduceAdd,Nat.zero_add,R];have aN:=af (G.out.trans A);have aQ:=af T;have Q:=af S;clear A T R S;go_wp2;go_ret;refine⟨_,_,rfl,aQ.out,?_,aN.out⟩;have p:bQ nm s<0:=by have h:=H1.out;rw[O.out]at h;exact h
     rw[Q.out,Tr.bJ,Bq _ _ (fun y aD=>?_) (a9.out H1.out)];rcases List.mem_cons.1 aD with rfl|aD;·exact p
     ·exact bZ.trans _ _ _ p (K.out.2.2.2 y aD)
   ·have t1:decide (L<0)=false:=decide_eq_false E;by_cases H:0<L
    ·have t2:decide (0<L)=true:=decide_eq_true H;have bU:=af H;have bh:Hid (∀w' b u,Fr ag w w'→cm w' b u→u.bJ=di nm r.bJ→Calls Tryz.prog 177 #[.pointer an, .pointer (some ⟨C,0,none⟩), .pointer b] w' (Balanced w' (l.bJ++(s,N)::di nm r.bJ))):=fun w' b u f p e=>by
      have E:=mf (nm:=nm) r.bJ;rw[Tr.bW,←Tr.cY]at E;exact kN (be.out.ao f) p (bk.out.ao f) rfl e (by have h:=bm.out;rw[Tr.bW];omega) (by have h:=bi.out;rw[←Tr.cY];omega)
     clear E H;go_upto_region 5 with fail;refine ay 13 ag [Is (.pointer (some ⟨C,0,none⟩)),Is (.pointer (some ⟨C,0,none⟩)),Is (.pointer (some ⟨C,0,none⟩)),Is (.pointer an),Is (.pointer (some ⟨C,0,none⟩)),Is (.pointer (some ⟨C,0,none⟩)),Is (.pointer (some ⟨C,0,none⟩)),Is (.pointer (some ⟨C,1,none⟩)),Is (.pointer ra),Is (.agg nm.cells.toArray),(fun J I=>kK I J (di nm r.bJ)),(fun J I=>kK I J ((l.bJ++(s,N)::di nm r.bJ))),(fun J I=>kK I J ((l.bJ++(s,N)::di nm r.bJ)))] [] (fun _=>True) (fun _ _=>false) (by kernel_rfl) (by kernel_rfl) (by kernel_rfl) (by kernel_rfl) ⟨Is.ah _,Is.ah _,Is.ah _,Is.ah _,Is.ah _,Is.ah _,Is.ah _,Is.ah _,Is.ah _,Is.ah _,fun v w1 w2 _ f h=>by obtain⟨a,t,e,p,B⟩:=h;exact⟨a,t,e,p.ao f,B⟩,fun v w1 w2 _ f h=>by obtain⟨a,t,e,p,B⟩:=h;exact⟨a,t,e,p.ao f,B⟩,fun v w1 w2 _ f h=>by obtain⟨a,t,e,p,B⟩:=h;exact⟨a,t,e,p.ao f,B⟩,trivial⟩ trivial (fun _ _ _ _ h=>h) trivial ?_ ?_
     ·refine⟨?_,?_,?_,?_,?_,?_,?_,?_,?_,?_,?_,?_,?_,trivial⟩;all_goals intro u w' d A c o k g
      all_goals simp only[bw,bC,bD,bE,ar,Act.put,bF,bG,bH,Nat.reduceAdd,Nat.zero_add]
      ·clear c o k g;refine aj ?_;go_simp;exact⟨_,rfl,al⟩
      ·have av:u 0=_:=c 0;clear c o k g;simp only[av];refine aj ?_;go_simp;exact⟨_,rfl,al⟩
      ·have E:u 1=_:=c 1;clear c o k g;simp only[E];refine aj ?_;go_simp;exact⟨_,rfl,al⟩
      ·have H:u 2=_:=c 2;clear c o k g;simp only[H];refine aj ?_;have q:=A.ak (G.out.ak bd.out (fun x=>x)) (fun x=>x);go_simp;exact⟨_,rfl,al⟩
      ·clear c o k g;refine aj ?_;go_simp;exact⟨_,rfl,al⟩
      ·clear c o k g;refine aj ?_;go_simp;exact⟨_,rfl,al⟩
      ·have aX:u 5=_:=c 5;clear c o k g;simp only[aX];refine aj ?_;go_simp;exact⟨_,rfl,al⟩
      ·have aY:u 6=_:=c 6;clear c o k g;simp only[aY];refine aj ?_;go_simp;exact⟨_,rfl,al⟩
      ·have aZ:u 7=_:=c 7;clear c o k g;simp only[aZ];refine aj ?_;have q:=A.ak (G.out.ak aL.out (fun x=>x)) (fun x=>x);go_simp;exact⟨_,rfl,al⟩
      ·clear c o k g;refine aj ?_;exact au _ _ rfl ⟨bf,0,none⟩ rfl nm.cells _ (fun j x ad=>by rw[Addr.add_mid,Nat.zero_add];exact(aV.out.fr A (fun x=>x)).cell j|>.trans (by rw[bP];exact ad)) Tryz.underlying106 rfl aT ⟨_,rfl,al⟩
      ·have a0:u 8=_:=c 8;have a1:u 9=_:=c 9;clear c o k g;simp only[a0,a1];refine aj ?_;go_simp;refine(b0.out _ nm bl.out (bA.out bU.out) (G.out.trans A)).mono ?_;rintro e aK⟨V,W,rfl,p,B,f4⟩;exact⟨_,rfl,f4.bO,⟨V,W,rfl,p,B⟩,trivial⟩
      ·have ai:u 3=_:=c 3;have ax:u 4=_:=c 4;obtain⟨cc,t10,bq,bK,l10⟩:=c 10;clear c o k g;simp only[ai,ax,bq];refine aj ?_;go_simp;refine(bh.out _ _ _ (G.out.trans A) bK l10).mono ?_;rintro e aK⟨V,W,rfl,p,B,f4⟩;exact⟨_,rfl,f4.bO,⟨V,W,rfl,p,B⟩,trivial⟩
      ·obtain⟨bp,t11,ap,aG,aF⟩:=c 11;clear c o k g;simp only[ap];refine aj ?_;go_simp;exact⟨_,rfl,az,⟨_,_,rfl,aG,aF⟩,trivial⟩
     ·intro u w' A c g;obtain⟨a12,t12,R,T,S⟩:=c 12 (by omega);clear c g;simp only[bw,bC,bD,bE,ar,Act.put,bF,bG,bH,dj,dk,Nat.reduceAdd,Nat.zero_add,R];have aN:=af (G.out.trans A);have aQ:=af T;have Q:=af S;clear A T R S;go_wp2;go_ret;refine⟨_,_,rfl,aQ.out,?_,aN.out⟩;have cj:0<bQ nm s:=by have h:=bU.out;rw[O.out]at h;exact h
      rw[Q.out,Tr.bJ,rV _ _ (fun y aD=>gT (bZ.trans _ _ _ (K.out.2.2.1 y aD) (lS cj))),di,if_neg (by simp only;omega)]
    ·have t2:decide (0<L)=false:=decide_eq_false H;have bV:Hid (nm=s):=bZ.eq nm s (by have h:=O.out;omega);have bS:Hid (di nm (Tr.node l s N r).bJ=l.bJ++r.bJ):=by
      simp only[Hid];rw[Tr.bJ,rV _ _ (fun y aD=>by rw[bV.out];exact gT (K.out.2.2.1 y aD)),di,bV.out];simp only[bZ.refl];rfl
     clear E H;cases r with
     |leaf=>
      obtain rfl:ra=none:=aR.out;have ct:=G.out.ak bd.out (fun x=>x);have b1:=G.out.ak aL.out (fun x=>x);go_wp2;go_ret;refine⟨_,l,rfl,be.out.ao G.out,?_,G.out⟩;rw[bS.out,Tr.bJ,List.append_nil]
     |node X D Y rr=>
      have b1:=G.out.ak aL.out (fun x=>x);obtain⟨ch,cl,cn,bv,_,_,_⟩:=aR.out;subst bv;go_wp2;clear b1;go_loopw[6](fun i wr=>∃(b:Option Addr)(u ul bc:Tr)(z:aJ)(U:ByteArray)(M:List Ent),i= .pointer b∧u= .node ul z U bc∧cm wr b u∧(Tr.node X D Y rr).bJ=u.bJ++M∧Fr ag w wr)(fun i wr=>Iz wr i);case atStart=>exact⟨_,_,X,rr,D,Y,[],rfl,rfl,aR.out.ao G.out,by simp,G.out⟩
      case round=>
       obtain⟨b,u,ul,bc,z,U,M,rfl,rfl,bg,b2,a3⟩:=hrel;have bj:=af (r8 bg);obtain⟨ae,b8,cw,rfl,a6,bz,aA⟩:=bg;have aa:=af a6;have bX:Hid (Mid wr ae z U):=Mid.of aA;have cv:wr.cell? ⟨ae,0,none⟩=some (.pointer b8):=aA.cell 0;have aP:=af b2;have aI:=af a3;clear a6 bz aA b2 a3;cases ul with
       |leaf=>
        obtain rfl:b8=none:=aa.out;have P:Hid ((Tr.node X D Y rr).bJ=(z,U)::(bc.bJ++M)):=by simp only[Hid];rw[aP.out];simp[Tr.bJ]
        have aM:Hid (di z (Tr.node X D Y rr).bJ=bc.bJ++M):=by simp only[Hid];rw[P.out,di,if_pos (bZ.refl _)]
        have bo:Hid (z.owner.size≤1099511627776):=Z.out.2.1 (z,U) (by rw[P.out];simp);have bn:Hid (∃v,(z,v)∈(Tr.node X D Y rr).bJ):=⟨U,by rw[P.out];simp⟩;have aS:Hid (cJ (di z (Tr.node X D Y rr).bJ)+U.size≤N.size+(Tr.node X D Y rr).bytes):=by
         simp only[Hid];rw[aM.out,Tr.cY,P.out];simp only[cJ,List.map_cons,List.sum_cons];omega
        go_upto_region 11 with fail;refine ay 16 ag [Is (.pointer (some ⟨C,0,none⟩)),Is (.pointer (some ⟨C,0,none⟩)),Is (.pointer (some ⟨C,0,none⟩)),Is (.pointer an),Is (.pointer (some ⟨ae,0,none⟩)),Is (.pointer (some ⟨C,0,none⟩)),Is (.pointer (some ⟨C,0,none⟩)),Is (.pointer (some ⟨C,1,none⟩)),Is (.pointer (some ⟨ch,0,none⟩)),Is (.pointer (some ⟨ae,0,none⟩)),Is (.pointer (some ⟨ae,0,none⟩)),Is (.pointer (some ⟨ae,2,none⟩)),Is (.agg z.cells.toArray),(fun J I=>kK I J (di z (Tr.node X D Y rr).bJ)),(fun J I=>kK I J ((l.bJ++(z,U)::di z (Tr.node X D Y rr).bJ))),(fun J I=>kK I J ((l.bJ++(z,U)::di z (Tr.node X D Y rr).bJ)))] [] (fun _=>True) (fun _ _=>false) (by kernel_rfl) (by kernel_rfl) (by kernel_rfl) (by kernel_rfl) ⟨Is.ah _,Is.ah _,Is.ah _,Is.ah _,Is.ah _,Is.ah _,Is.ah _,Is.ah _,Is.ah _,Is.ah _,Is.ah _,Is.ah _,Is.ah _,fun v w1 w2 _ f h=>by obtain⟨a,t,e,p,B⟩:=h;exact⟨a,t,e,p.ao f,B⟩,fun v w1 w2 _ f h=>by obtain⟨a,t,e,p,B⟩:=h;exact⟨a,t,e,p.ao f,B⟩,fun v w1 w2 _ f h=>by obtain⟨a,t,e,p,B⟩:=h;exact⟨a,t,e,p.ao f,B⟩,trivial⟩ trivial (fun _ _ _ _ h=>h) trivial ?_ ?_
        ·refine⟨?_,?_,?_,?_,?_,?_,?_,?_,?_,?_,?_,?_,?_,?_,?_,?_,trivial⟩;all_goals intro u w' d A c o k g
         all_goals simp only[bw,bC,bD,bE,ar,Act.put,bF,bG,bH,Nat.reduceAdd,Nat.zero_add]
         ·clear c o k g;refine aj ?_;go_simp;exact⟨_,rfl,al⟩
         ·have av:u 0=_:=c 0;clear c o k g;simp only[av];refine aj ?_;go_simp;exact⟨_,rfl,al⟩
         ·have E:u 1=_:=c 1;clear c o k g;simp only[E];refine aj ?_;go_simp;exact⟨_,rfl,al⟩
         ·have H:u 2=_:=c 2;clear c o k g;simp only[H];refine aj ?_;have q:=A.ak (aI.out.ak bd.out (fun x=>x)) (fun x=>x);go_simp;exact⟨_,rfl,al⟩
         ·clear c o k g;refine aj ?_;go_simp;exact⟨_,rfl,al⟩
         ·clear c o k g;refine aj ?_;go_simp;exact⟨_,rfl,al⟩
         ·have aX:u 5=_:=c 5;clear c o k g;simp only[aX];refine aj ?_;go_simp;exact⟨_,rfl,al⟩
         ·have aY:u 6=_:=c 6;clear c o k g;simp only[aY];refine aj ?_;go_simp;exact⟨_,rfl,al⟩
         ·have aZ:u 7=_:=c 7;clear c o k g;simp only[aZ];refine aj ?_;have q:=A.ak (aI.out.ak aL.out (fun x=>x)) (fun x=>x);go_simp;exact⟨_,rfl,al⟩
         ·clear c o k g;refine aj ?_;go_simp;exact⟨_,rfl,al⟩
         ·have a1:u 9=_:=c 9;clear c o k g;simp only[a1];refine aj ?_;go_simp;exact⟨_,rfl,al⟩
         ·have aw:u 10=_:=c 10;clear c o k g;simp only[aw];refine aj ?_;go_simp;exact⟨_,rfl,al⟩
         ·have bt:u 11=_:=c 11;clear c o k g;simp only[bt];refine aj ?_;exact au _ _ rfl ⟨ae,2,none⟩ rfl z.cells _ (fun j x ad=>by rw[Addr.add_mid];exact A.ak (bX.out.name j x ad) (fun x=>x)) Tryz.underlying106 rfl aT ⟨_,rfl,al⟩
         ·have a0:u 8=_:=c 8;have bu:u 12=_:=c 12;clear c o k g;simp only[a0,bu];refine aj ?_;go_simp;refine(b0.out _ z bo.out bn.out (aI.out.trans A)).mono ?_;rintro e aK⟨V,W,rfl,p,B,f4⟩;exact⟨_,rfl,f4.bO,⟨V,W,rfl,p,B⟩,trivial⟩
         ·have ai:u 3=_:=c 3;have ax:u 4=_:=c 4;obtain⟨cd,t13,br,bL,bB⟩:=c 13;clear c o k g;simp only[ai,ax,br];refine aj ?_;go_simp;refine(ca.out _ _ _ z ae U (aI.out.trans A) (bX.out.ao A) (by have:=aS.out;omega) aS.out bL bB).mono ?_;rintro e aK⟨V,W,rfl,p,B,f4⟩;exact⟨_,rfl,f4.bO,⟨V,W,rfl,p,B⟩,trivial⟩
         ·obtain⟨ce,t14,bs,bM,bI⟩:=c 14;clear c o k g;simp only[bs];refine aj ?_;go_simp;exact⟨_,rfl,az,⟨_,_,rfl,bM,bI⟩,trivial⟩
        ·intro u w' A c g;obtain⟨cf,t15,aW,bb,ba⟩:=c 15 (by omega);clear c g;simp only[bw,bC,bD,bE,ar,Act.put,bF,bG,bH,dj,dk,Nat.reduceAdd,Nat.zero_add,aW];have aN:=af (aI.out.trans A);have aQ:=af bb;have Q:=af ba;clear A bb aW ba;go_wp2;go_ret;refine⟨_,_,rfl,aQ.out,?_,aN.out⟩;rw[Q.out,bS.out,aM.out,P.out]
       |node co bN cq cp=>
        obtain⟨cu,cr,cs,bx,_,_,_⟩:=aa.out;subst bx;go_wp2;go_roundw;case rel=>
         exact⟨_,_,co,cp,bN,cq,(z,U)::bc.bJ++M,rfl,rfl,aa.out,by rw[aP.out];simp[Tr.bJ],aI.out⟩
        case measure=>
         rw[r8 aa.out,bj.out];simp only[Tr.cL];omega
def eJ(w:World)(s:Nat)(L:List Ent):Prop:=∃t,xP w s t∧t.bJ=L
theorem eJ.ao{w w':World}{s:Nat}{L:List Ent}(h:eJ w s L)(c:Fr ag w w'):eJ w' s L:=by
 obtain⟨t,a,b⟩:=h;exact⟨t,a.ao c,b⟩
structure kY(L:List Ent):Prop where
 sort:cG L
 short:jH L
 len:L.length≤60000
 bytes:cJ L≤1099511500000
 ok:∀x∈L,du x.1=true
structure nX(n:aJ):Prop where
 owner:n.owner.size≤1099511627776
 text:n.text.size≤1099511627776
theorem vM{nm:aJ}:∀{L:List Ent},fm nm L=none→di nm L=L
 |[],_=>rfl
 |y::L,h=>by
  rw[fm]at h;split at h;·cases h
  ·rename_i e;rw[di,if_neg e,vM h]
def ER(n:aJ)(v:ByteArray):Array Value:=([Value.pointer none,Value.pointer none]++n.cells++[Value.string v,Value.int .i64 0,Value.int .i64 0,Value.int .i64 0]).toArray
theorem zu(n:aJ)(v:ByteArray):Tryz.prog.built 177 [(2, .agg n.cells.toArray),(3, .string v)]=some (ER n v):=by kernel_rfl
def Gm(w:World)(L:List Ent)(n:aJ)(v:ByteArray)(e:Ending)(w':World):Prop:=∃p k,e= .returned (.tuple #[.pointer p, .int .i64 k])∧Fr ag w w'∧
 ((du n=true∧v.size≤65536∧k=0∧∃a,p=some ⟨a,0,none⟩∧eJ w' a (dE n v L))∨(du n=false∧k=12∧p=none)∨(du n=true∧65536<v.size∧k=5∧p=none))
def vw(w:World)(L:List Ent)(n:aJ)(e:Ending)(w':World):Prop:=∃p k,e= .returned (.tuple #[.pointer p, .int .i64 k])∧Fr ag w w'∧
 ((du n=true∧k=0∧∃a,p=some ⟨a,0,none⟩∧eJ w' a (di n L))∨(du n=false∧k=12∧p=none))
def MT(a:Option ByteArray):Value:=match a with
 |some v=> .tuple #[.string v, .bool true]
 |none=> .tuple #[.string ByteArray.empty, .bool false]
theorem Hl(L:List Ent)(n:aJ)(v:ByteArray)(s:Nat)(w:World)(J:eJ w s L)(ax:eh w)(aw:kY L)(B:nX n):
  Calls Tryz.prog 130 #[.pointer (some ⟨s,0,none⟩), .agg n.cells.toArray, .string v] w (Gm w L n v):=by
 obtain⟨t,J,H⟩:=J;have aN:=af J;have p:=af H;have aI:Hid (∀w',Fr ag w w'→Calls Tryz.prog 115 #[.agg n.cells.toArray] w' (Checked w' n)):=fun w' m=>lV n w' (ax.ao m) B.owner B.text;have aH:=af (zu n v);obtain⟨a,K,E⟩:=J;have W:Hid (w.cell? ⟨s,0,none⟩=some (.pointer a)):=K.cell 0;have P:=af E;have F:=af aw;have aM:=af B;clear K E ax aw B H;go_enter Tryz.func130,Tryz.ntmps130;go_wp2_with(refine aB rfl 106 (.tmp 1) rfl n.cells.toArray rfl ?_);intro w1 n1;have ap:=af n1.fr;have G:=af n1.aE;clear n1;generalize w.heap.size=X at*;have T:Hid (aq w1 X 106 n.cells.toArray):=G.out;clear G;go_wp2_with(refine aC rfl 106 (.tmp 4) rfl ⟨X,0,none⟩ rfl n.cells _ ?zA Tryz.underlying106 rfl aT (aR.go ?hold));case zA=>exact fun j x ae=>by rw[Addr.add_mid,Nat.zero_add];exact T.out.cell j|>.trans (by rw[bP];exact ae)
 unfold aR;go_wp2_with fail;refine(aI.out _ ap.out).mono ?_;rintro e w2⟨k,rfl,aA,f2⟩;have C:=af (ap.out.trans f2);have U:=af (T.out.fr f2 (fun x=>x));have av:=af aA;clear f2 T aA;cases r:du n
 ·have A:k≠0:=by
   have h:=av.out;rw[r]at h;intro e;subst e;simp at h
  have t0:=tK A;have y:=af r;clear r A;go_wp2;go_ret2;exact⟨none,12,rfl,C.out, .inr (.inl ⟨y.out,rfl,rfl⟩)⟩
 ·have A:k=0:=by
   have h:=av.out;rw[r]at h;simpa using h
  subst A;have y:=af r;clear r;by_cases ad:v.size≤65536
  ·have aU:decide ((65536:Int)<(v.size:Int))=false:=cD (by omega);have R:=af ad;obtain⟨z,aD⟩:∃z:Int,z=(t.size:Nat):=⟨_,rfl⟩;have aW:decide ((65536:Int)≤z)=false:=cD (by have h:=F.out.len;rw[←p.out,Tr.bW]at h;omega);have CL:Hid (∀w',Fr ag w2 w'→Calls Tryz.prog 94 #[.pointer (some ⟨s,0,none⟩)] w' (bm w' (.int .i64 z))):=fun w' m=>by
    rw[aD];exact pj w' s t (aN.out.ao (C.out.trans m))
   have aK:Hid (∀w' g,Fr ag w2 w'→Mid w' g n v→Calls Tryz.prog 163 #[.pointer a, .pointer (some ⟨g,0,none⟩)] w' (Balanced w' (dE n v t.bJ))):=fun w' g m hm=>
    Jq n v g aM.out.owner t a w' (P.out.ao (C.out.trans m)) hm (by rw[p.out];exact F.out.sort) (by rw[p.out];exact F.out.short) (by have h:=F.out.len;rw[←p.out,Tr.bW]at h;omega) (by have h:=F.out.bytes;rw[←p.out,←Tr.cY]at h;omega);clear ad aD;go_upto_region 7 with fail;refine ay 13 ag [Is (.pointer (some ⟨s,0,none⟩)),Is (.int .i64 z),Is (.bool false),Is (.bool false),Is (undef),Is (undef),Is (undef),Is (undef),Is (undef),Is (undef),Is (undef),Is (.bool false),Is (.bool false)] [] (fun _=>True) (fun _ _=>false) (by kernel_rfl) (by kernel_rfl) (by kernel_rfl) (by kernel_rfl) ⟨Is.ah _,Is.ah _,Is.ah _,Is.ah _,Is.ah _,Is.ah _,Is.ah _,Is.ah _,Is.ah _,Is.ah _,Is.ah _,Is.ah _,Is.ah _,trivial⟩ trivial (fun _ _ _ _ h=>h) trivial ?_ ?_
   ·refine⟨?_,?_,?_,?_,?_,?_,?_,?_,?_,?_,?_,?_,?_,trivial⟩;all_goals intro u w' d m b l i c
    all_goals simp only[bw,bC,bD,bE,ar,Act.put,bF,bG,bH,Nat.reduceAdd,Nat.zero_add]
    ·clear b l i c;refine aj ?_;go_simp;exact⟨_,rfl,al⟩
    ·have Y:u 0=_:=b 0;clear b l i c;simp only[Y];refine aj ?_;go_simp;refine(CL.out _ m).mono ?_;rintro e aV⟨rfl,rfl⟩;exact⟨_,rfl,al⟩
    ·have Z:u 1=_:=b 1;clear b l i c;simp only[Z];refine aj ?_;go_simp;exact⟨_,rfl,al⟩
    ·have ac:u 2=_:=b 2;clear b l i c;simp only[ac];refine aj ?_;go_simp;exact⟨_,rfl,al⟩
    ·have o:u 3=_:=b 3;clear b l i c;simp only[o];exact .inr ⟨by kernel_rfl,_,rfl,az,rfl,trivial⟩
    ·have o:u 3=_:=b 3;clear b l i c;simp only[o];exact .inr ⟨by kernel_rfl,_,rfl,az,rfl,trivial⟩
    ·have o:u 3=_:=b 3;clear b l i c;simp only[o];exact .inr ⟨by kernel_rfl,_,rfl,az,rfl,trivial⟩
    ·have o:u 3=_:=b 3;clear b l i c;simp only[o];exact .inr ⟨by kernel_rfl,_,rfl,az,rfl,trivial⟩
    ·have o:u 3=_:=b 3;clear b l i c;simp only[o];exact .inr ⟨by kernel_rfl,_,rfl,az,rfl,trivial⟩
    ·have o:u 3=_:=b 3;clear b l i c;simp only[o];exact .inr ⟨by kernel_rfl,_,rfl,az,rfl,trivial⟩
    ·have o:u 3=_:=b 3;clear b l i c;simp only[o];exact .inr ⟨by kernel_rfl,_,rfl,az,rfl,trivial⟩
    ·have o:u 3=_:=b 3;have aa:u 10=_:=b 10;clear b l i c;simp only[o,aa];refine aj ?_;go_simp;exact⟨_,rfl,al⟩
    ·have ab:u 11=_:=b 11;clear b l i c;simp only[ab];refine aj ?_;go_simp;exact⟨_,rfl,al⟩
   ·intro u w' m b c;have I:u 12=_:=b 12 (by omega);clear b c;simp only[bw,bC,bD,bE,ar,Act.put,bF,bG,bH,dj,dk,Nat.reduceAdd,Nat.zero_add,I];have N:=af m;have V:=af (U.out.fr m (fun x=>x));clear m I;go_upto_region 9 with fail;refine ay 9 ag [Is (.pointer (some ⟨s,0,none⟩)),Is (.pointer (some ⟨s,0,none⟩)),Is (.pointer (some ⟨s,0,none⟩)),Is (.pointer a),Is (.agg n.cells.toArray),Is (.string v),Is (.agg (ER n v)),(fun an ai=>∃aG,an= .pointer (some ⟨aG,0,none⟩)∧Mid ai aG n v),(fun an ai=>kK ai an (dE n v t.bJ))] [] (fun _=>True) (fun _ _=>false) (by kernel_rfl) (by kernel_rfl) (by kernel_rfl) (by kernel_rfl) ⟨Is.ah _,Is.ah _,Is.ah _,Is.ah _,Is.ah _,Is.ah _,Is.ah _,fun _ _ _ _ m h=>by obtain⟨g,h,K⟩:=h;exact⟨g,h,K.ao m⟩,fun v w1 w2 _ f h=>by obtain⟨a,t,e,E,D⟩:=h;exact⟨a,t,e,E.ao f,D⟩,trivial⟩ trivial (fun _ _ _ _ h=>h) trivial ?_ ?_
    ·refine⟨?_,?_,?_,?_,?_,?_,?_,?_,?_,trivial⟩;all_goals intro u w' d m b l i c
     all_goals simp only[bw,bC,bD,bE,ar,Act.put,bF,bG,bH,Nat.reduceAdd,Nat.zero_add]
     ·clear b l i c;refine aj ?_;go_simp;exact⟨_,rfl,al⟩
     ·have Y:u 0=_:=b 0;clear b l i c;simp only[Y];refine aj ?_;go_simp;exact⟨_,rfl,al⟩
     ·have Z:u 1=_:=b 1;clear b l i c;simp only[Z];refine aj ?_;go_simp;exact⟨_,rfl,al⟩
     ·have ac:u 2=_:=b 2;clear b l i c;simp only[ac];refine aj ?_;have q:=m.ak ((C.out.trans N.out).ak W.out (fun x=>x)) (fun x=>x);go_simp;exact⟨_,rfl,al⟩
     ·clear b l i c;refine aj ?_;exact au _ _ rfl ⟨X,0,none⟩ rfl n.cells _ (fun j x ae=>by rw[Addr.add_mid,Nat.zero_add];exact(V.out.fr m (fun x=>x)).cell j|>.trans (by rw[bP];exact ae)) Tryz.underlying106 rfl aT ⟨_,rfl,al⟩
     ·clear b l i c;refine aj ?_;go_simp;exact⟨_,rfl,al⟩
     ·have aP:u 4=_:=b 4;have aQ:u 5=_:=b 5;clear b l i c;simp only[aP,aQ];refine aj ?_;exact iA 177 _ rfl (ER n v) _ (by simp only[List.map_toArray,List.map_cons,List.map_nil];rfl) (aH.out) ⟨_,rfl,al⟩
     ·have aS:u 6=_:=b 6;clear b l i c;simp only[aS];refine aj ?_;go_simp;exact⟨_,rfl,az.alloc _,⟨_,rfl,Mid.of (aq.new _ _ _)⟩,trivial⟩
     ·have o:u 3=_:=b 3;obtain⟨g7,aO,b7⟩:=b 7;clear b l i c;simp only[o,aO];refine aj ?_;go_simp;refine(aK.out _ g7 (N.out.trans m) b7).mono ?_;rintro e aV⟨M,am,rfl,E,D,f4⟩;exact⟨_,rfl,f4.bO,⟨M,am,rfl,E,D⟩,trivial⟩
    ·intro u w' m b c;obtain⟨M,am,aF,B,D⟩:=b 8 (by omega);clear b c;simp only[bw,bC,bD,bE,ar,Act.put,bF,bG,bH,dj,dk,Nat.reduceAdd,Nat.zero_add,aF];have aL:=af (C.out.trans (N.out.trans m));have Q:=af B;have O:=af D;clear m aF B D;go_wp2_with(refine aB rfl 174 (.tmp 41) rfl #[.pointer M] rfl ?_);intro aX n5;have S:=af n5;clear n5;go_wp2;go_ret2;exact⟨_,0,rfl,aL.out.trans S.out.fr, .inl ⟨y.out,R.out,rfl,_,rfl,am,⟨M,S.out.aE,Q.out.ao S.out.fr⟩,by rw[O.out,p.out]⟩⟩
  ·have aU:decide ((65536:Int)<(v.size:Int))=true:=de (by omega);have R:Hid (65536<v.size):=by simp only[Hid];omega
   clear ad;go_wp2;go_ret2;exact⟨none,5,rfl,C.out, .inr (.inr ⟨y.out,R.out,rfl,rfl⟩)⟩
theorem JB(L:List Ent)(n:aJ)(s:Nat)(w:World)(K:eJ w s L)(J:kY L)(S:nX n):
  Calls Tryz.prog 53 #[.pointer (some ⟨s,0,none⟩), .agg n.cells.toArray] w (aH w (MT (fm n L))):=by
 obtain⟨t,K,M⟩:=K;subst M;obtain⟨a,r,T⟩:=K;have Q:Hid (∀w',Fr ag w w'→Calls Tryz.prog 108 #[.pointer a, .agg n.cells.toArray] w' (Found w' n t.bJ)):=fun w' c=>yE n a t w' (T.ao c) J.sort S.owner J.short;have v:Hid (w.cell? ⟨s,0,none⟩=some (.pointer a)):=r.cell 0;clear r T J S;cases c:fm n t.bJ with
 |none=>
  have B:=af c;clear c;go_enter Tryz.func53,Tryz.ntmps53;go_wp2_with(refine aB rfl 106 (.tmp 1) rfl n.cells.toArray rfl ?_);intro w1 n1;have o:=af n1.fr;have l:=af n1.aE;clear n1;generalize w.heap.size=z at*;have D:Hid (aq w1 z 106 n.cells.toArray):=l.out;clear l;go_upto_region 3 with fail;refine ay 7 ag [Is (.pointer (some ⟨s,0,none⟩)),Is (.pointer (some ⟨s,0,none⟩)),Is (.pointer (some ⟨s,0,none⟩)),Is (.pointer a),Is (.agg n.cells.toArray),Is (.pointer none),Is (.pointer none)] [] (fun _=>True) (fun _ _=>false) (by kernel_rfl) (by kernel_rfl) (by kernel_rfl) (by kernel_rfl) ⟨Is.ah _,Is.ah _,Is.ah _,Is.ah _,Is.ah _,Is.ah _,Is.ah _,trivial⟩ trivial (fun _ _ _ _ h=>h) trivial ?_ ?_
  ·refine⟨?_,?_,?_,?_,?_,?_,?_,trivial⟩;all_goals intro u w' d c b k i f
   all_goals simp only[bw,bC,bD,bE,ar,Act.put,bF,bG,bH,Nat.reduceAdd,Nat.zero_add]
   ·clear b k i f;refine aj ?_;go_simp;exact⟨_,rfl,al⟩
   ·have E:u 0=_:=b 0;clear b k i f;simp only[E];refine aj ?_;go_simp;exact⟨_,rfl,al⟩
   ·have F:u 1=_:=b 1;clear b k i f;simp only[F];refine aj ?_;go_simp;exact⟨_,rfl,al⟩
   ·have G:u 2=_:=b 2;clear b k i f;simp only[G];refine aj ?_;have q:=c.ak (o.out.ak v.out (fun x=>x)) (fun x=>x);go_simp;exact⟨_,rfl,al⟩
   ·clear b k i f;refine aj ?_;exact au _ _ rfl ⟨z,0,none⟩ rfl n.cells _ (fun j x N=>by rw[Addr.add_mid,Nat.zero_add];exact(D.out.fr c (fun x=>x)).cell j|>.trans (by rw[bP];exact N)) Tryz.underlying106 rfl aT ⟨_,rfl,al⟩
   ·have H:u 3=_:=b 3;have I:u 4=_:=b 4;clear b k i f;simp only[H,I];refine aj ?_;go_simp;refine(Q.out _ (o.out.trans c)).mono ?_;rintro e W⟨p,rfl,f4,⟨g,y,rfl,m,hm⟩|⟨rfl,m⟩⟩;·rw[B.out]at m;cases m
    ·exact⟨_,rfl,f4.bO,rfl,trivial⟩
   ·have V:u 5=_:=b 5;clear b k i f;simp only[V];refine aj ?_;go_simp;exact⟨_,rfl,al⟩
  ·intro u w' c b f;have k6:u 6=_:=b 6 (by omega);clear b f;simp only[bw,bC,bD,bE,ar,Act.put,bF,bG,bH,dj,dk,Nat.reduceAdd,Nat.zero_add,k6];have C:=af (o.out.trans c);clear c k6;go_wp2;go_ret2;exact⟨rfl,C.out⟩
 |some x=>
  have B:=af c;clear c;go_enter Tryz.func53,Tryz.ntmps53;go_wp2_with(refine aB rfl 106 (.tmp 1) rfl n.cells.toArray rfl ?_);intro w1 n1;have o:=af n1.fr;have l:=af n1.aE;clear n1;generalize w.heap.size=z at*;have D:Hid (aq w1 z 106 n.cells.toArray):=l.out;clear l;go_upto_region 3 with fail;refine ay 7 ag [Is (.pointer (some ⟨s,0,none⟩)),Is (.pointer (some ⟨s,0,none⟩)),Is (.pointer (some ⟨s,0,none⟩)),Is (.pointer a),Is (.agg n.cells.toArray),(fun P O=>∃A,P= .pointer (some ⟨A,0,none⟩)∧Mid O A n x),(fun P O=>∃A,P= .pointer (some ⟨A,0,none⟩)∧Mid O A n x)] [] (fun _=>True) (fun _ _=>false) (by kernel_rfl) (by kernel_rfl) (by kernel_rfl) (by kernel_rfl) ⟨Is.ah _,Is.ah _,Is.ah _,Is.ah _,Is.ah _,fun _ _ _ _ c h=>by obtain⟨g,h,r⟩:=h;exact⟨g,h,r.ao c⟩,fun _ _ _ _ c h=>by obtain⟨g,h,r⟩:=h;exact⟨g,h,r.ao c⟩,trivial⟩ trivial (fun _ _ _ _ h=>h) trivial ?_ ?_
  ·refine⟨?_,?_,?_,?_,?_,?_,?_,trivial⟩;all_goals intro u w' d c b k i f
   all_goals simp only[bw,bC,bD,bE,ar,Act.put,bF,bG,bH,Nat.reduceAdd,Nat.zero_add]
   ·clear b k i f;refine aj ?_;go_simp;exact⟨_,rfl,al⟩
   ·have E:u 0=_:=b 0;clear b k i f;simp only[E];refine aj ?_;go_simp;exact⟨_,rfl,al⟩
   ·have F:u 1=_:=b 1;clear b k i f;simp only[F];refine aj ?_;go_simp;exact⟨_,rfl,al⟩
   ·have G:u 2=_:=b 2;clear b k i f;simp only[G];refine aj ?_;have q:=c.ak (o.out.ak v.out (fun x=>x)) (fun x=>x);go_simp;exact⟨_,rfl,al⟩
   ·clear b k i f;refine aj ?_;exact au _ _ rfl ⟨z,0,none⟩ rfl n.cells _ (fun j x N=>by rw[Addr.add_mid,Nat.zero_add];exact(D.out.fr c (fun x=>x)).cell j|>.trans (by rw[bP];exact N)) Tryz.underlying106 rfl aT ⟨_,rfl,al⟩
   ·have H:u 3=_:=b 3;have I:u 4=_:=b 4;clear b k i f;simp only[H,I];refine aj ?_;go_simp;refine(Q.out _ (o.out.trans c)).mono ?_;rintro e W⟨p,rfl,f4,⟨g,y,rfl,m,hm⟩|⟨rfl,m⟩⟩;·rw[B.out]at m;cases m;exact⟨_,rfl,f4.bO,⟨g,rfl,hm⟩,trivial⟩
    ·rw[B.out]at m;cases m
   ·obtain⟨g5,U,m5⟩:=b 5;clear b k i f;simp only[U];refine aj ?_;go_simp;exact⟨_,rfl,az,⟨_,rfl,m5⟩,trivial⟩
  ·intro u w' c b f;obtain⟨g6,R,m6⟩:=b 6 (by omega);clear b f;simp only[bw,bC,bD,bE,ar,Act.put,bF,bG,bH,dj,dk,Nat.reduceAdd,Nat.zero_add,R];have C:=af (o.out.trans c);have cv:=m6.val;clear c R m6;go_wp2;go_ret2;exact⟨rfl,C.out⟩
theorem zn(L:List Ent)(n:aJ)(s:Nat)(w:World)(U:eJ w s L)(aA:eh w)(F:kY L)(C:nX n):
  Calls Tryz.prog 129 #[.pointer (some ⟨s,0,none⟩), .agg n.cells.toArray] w (vw w L n):=by
 have ab:=af U;obtain⟨t,U,am⟩:=U;subst am;obtain⟨a,V,G⟩:=U;have aw:Hid (∀w',Fr ag w w'→Calls Tryz.prog 108 #[.pointer a, .agg n.cells.toArray] w' (Found w' n t.bJ)):=fun w' c=>yE n a t w' (G.ao c) F.sort C.owner F.short;have E:Hid (w.cell? ⟨s,0,none⟩=some (.pointer a)):=V.cell 0;have aI:Hid (∀w',Fr ag w w'→Calls Tryz.prog 115 #[.agg n.cells.toArray] w' (Checked w' n)):=fun w' c=>lV n w' (aA.ao c) C.owner C.text;have aK:Hid (∀w',(∃v,(n,v)∈t.bJ)→Fr ag w w'→Calls Tryz.prog 162 #[.pointer a, .agg n.cells.toArray] w' (Balanced w' (di n t.bJ))):=fun w' hm c=>
  As t n a w' C.owner hm (G.ao c) F.sort F.short (by have h:=F.len;rw[Tr.bW]at h;omega) (by have h:=F.bytes;rw[←Tr.cY]at h;omega);clear V G F C aA;go_enter Tryz.func129,Tryz.ntmps129;go_wp2_with(refine aB rfl 106 (.tmp 1) rfl n.cells.toArray rfl ?_);intro w1 n1;have ax:=af n1.fr;have K:=af n1.aE;clear n1;generalize w.heap.size=M at*;have ad:Hid (aq w1 M 106 n.cells.toArray):=K.out;clear K;go_wp2_with(refine aC rfl 106 (.tmp 3) rfl ⟨M,0,none⟩ rfl n.cells _ ?zA Tryz.underlying106 rfl aT (aR.go ?hold));case zA=>exact fun j x H=>by rw[Addr.add_mid,Nat.zero_add];exact ad.out.cell j|>.trans (by rw[bP];exact H)
 unfold aR;go_wp2_with fail;refine(aI.out _ ax.out).mono ?_;rintro e w2⟨k,rfl,aD,f2⟩;have r:=af (ax.out.trans f2);have D:=af (ad.out.fr f2 (fun x=>x));have az:=af aD;clear f2 ad aD;cases o:du n
 ·have A:k≠0:=by
   have h:=az.out;rw[o]at h;intro e;subst e;simp at h
  have t0:=tK A;have z:=af o;clear o A;go_wp2;go_ret2;exact⟨none,12,rfl,r.out, .inr ⟨z.out,rfl,rfl⟩⟩
 ·have A:k=0:=by
   have h:=az.out;rw[o]at h;simpa using h
  subst A;have z:=af o;clear o;cases c:fm n t.bJ with
  |none=>
   have T:=af c;have X:=af (vM c);clear c;go_upto_region 5 with fail;refine ay 8 ag [Is (.pointer (some ⟨s,0,none⟩)),Is (.pointer (some ⟨s,0,none⟩)),Is (.pointer (some ⟨s,0,none⟩)),Is (.pointer a),Is (.agg n.cells.toArray),Is (.pointer none),Is (.bool true),Is (.bool true)] [] (fun _=>True) (fun _ _=>false) (by kernel_rfl) (by kernel_rfl) (by kernel_rfl) (by kernel_rfl) ⟨Is.ah _,Is.ah _,Is.ah _,Is.ah _,Is.ah _,Is.ah _,Is.ah _,Is.ah _,trivial⟩ trivial (fun _ _ _ _ h=>h) trivial ?_ ?_
   ·refine⟨?_,?_,?_,?_,?_,?_,?_,?_,trivial⟩;all_goals intro u w' d c b m l i
    all_goals simp only[bw,bC,bD,bE,ar,Act.put,bF,bG,bH,Nat.reduceAdd,Nat.zero_add]
    ·clear b m l i;refine aj ?_;go_simp;exact⟨_,rfl,al⟩
    ·have N:u 0=_:=b 0;clear b m l i;simp only[N];refine aj ?_;go_simp;exact⟨_,rfl,al⟩
    ·have O:u 1=_:=b 1;clear b m l i;simp only[O];refine aj ?_;go_simp;exact⟨_,rfl,al⟩
    ·have P:u 2=_:=b 2;clear b m l i;simp only[P];refine aj ?_;have q:=c.ak (r.out.ak E.out (fun x=>x)) (fun x=>x);go_simp;exact⟨_,rfl,al⟩
    ·clear b m l i;refine aj ?_;exact au _ _ rfl ⟨M,0,none⟩ rfl n.cells _ (fun j x H=>by rw[Addr.add_mid,Nat.zero_add];exact(D.out.fr c (fun x=>x)).cell j|>.trans (by rw[bP];exact H)) Tryz.underlying106 rfl aT ⟨_,rfl,al⟩
    ·have Q:u 3=_:=b 3;have R:u 4=_:=b 4;clear b m l i;simp only[Q,R];refine aj ?_;go_simp;refine(aw.out _ (r.out.trans c)).mono ?_;rintro e aG⟨p,rfl,f4,⟨g,y,rfl,B,hm⟩|⟨rfl,B⟩⟩;·rw[T.out]at B;cases B
     ·exact⟨_,rfl,f4.bO,rfl,trivial⟩
    ·have aN:u 5=_:=b 5;clear b m l i;simp only[aN];refine aj ?_;go_simp;exact⟨_,rfl,al⟩
    ·have ai:u 6=_:=b 6;clear b m l i;simp only[ai];refine aj ?_;go_simp;exact⟨_,rfl,al⟩
   ·intro u w' c b i;have S:u 7=_:=b 7 (by omega);clear b i;simp only[bw,bC,bD,bE,ar,Act.put,bF,bG,bH,dj,dk,Nat.reduceAdd,Nat.zero_add,S];have I:=af (r.out.trans c);clear c S;go_wp2;go_ret2;exact⟨_,0,rfl,I.out, .inl ⟨z.out,rfl,s,rfl,by rw[X.out];exact ab.out.ao I.out⟩⟩
  |some x=>
   have T:=af c;have Z:Hid (∃v,(n,v)∈t.bJ):=⟨x,vW c⟩;clear c;go_upto_region 5 with fail;refine ay 8 ag [Is (.pointer (some ⟨s,0,none⟩)),Is (.pointer (some ⟨s,0,none⟩)),Is (.pointer (some ⟨s,0,none⟩)),Is (.pointer a),Is (.agg n.cells.toArray),(fun av an=>∃aH,av= .pointer (some ⟨aH,0,none⟩)∧Mid an aH n x),Is (.bool false),Is (.bool false)] [] (fun _=>True) (fun _ _=>false) (by kernel_rfl) (by kernel_rfl) (by kernel_rfl) (by kernel_rfl) ⟨Is.ah _,Is.ah _,Is.ah _,Is.ah _,Is.ah _,fun _ _ _ _ c h=>by obtain⟨g,h,V⟩:=h;exact⟨g,h,V.ao c⟩,Is.ah _,Is.ah _,trivial⟩ trivial (fun _ _ _ _ h=>h) trivial ?_ ?_
   ·refine⟨?_,?_,?_,?_,?_,?_,?_,?_,trivial⟩;all_goals intro u w' d c b m l i
    all_goals simp only[bw,bC,bD,bE,ar,Act.put,bF,bG,bH,Nat.reduceAdd,Nat.zero_add]
    ·clear b m l i;refine aj ?_;go_simp;exact⟨_,rfl,al⟩
    ·have N:u 0=_:=b 0;clear b m l i;simp only[N];refine aj ?_;go_simp;exact⟨_,rfl,al⟩
    ·have O:u 1=_:=b 1;clear b m l i;simp only[O];refine aj ?_;go_simp;exact⟨_,rfl,al⟩
    ·have P:u 2=_:=b 2;clear b m l i;simp only[P];refine aj ?_;have q:=c.ak (r.out.ak E.out (fun x=>x)) (fun x=>x);go_simp;exact⟨_,rfl,al⟩
    ·clear b m l i;refine aj ?_;exact au _ _ rfl ⟨M,0,none⟩ rfl n.cells _ (fun j x H=>by rw[Addr.add_mid,Nat.zero_add];exact(D.out.fr c (fun x=>x)).cell j|>.trans (by rw[bP];exact H)) Tryz.underlying106 rfl aT ⟨_,rfl,al⟩
    ·have Q:u 3=_:=b 3;have R:u 4=_:=b 4;clear b m l i;simp only[Q,R];refine aj ?_;go_simp;refine(aw.out _ (r.out.trans c)).mono ?_;rintro e aG⟨p,rfl,f4,⟨g,y,rfl,B,hm⟩|⟨rfl,B⟩⟩;·rw[T.out]at B;cases B;exact⟨_,rfl,f4.bO,⟨g,rfl,hm⟩,trivial⟩
     ·rw[T.out]at B;cases B
    ·obtain⟨g5,aM,m5⟩:=b 5;clear b m l i;simp only[aM];refine aj ?_;go_simp;exact⟨_,rfl,al⟩
    ·have ai:u 6=_:=b 6;clear b m l i;simp only[ai];refine aj ?_;go_simp;exact⟨_,rfl,al⟩
   ·intro u w' c b i;have S:u 7=_:=b 7 (by omega);clear b i;simp only[bw,bC,bD,bE,ar,Act.put,bF,bG,bH,dj,dk,Nat.reduceAdd,Nat.zero_add,S];have I:=af c;have ae:=af (D.out.fr c (fun x=>x));clear c S;go_upto_region 7 with fail;refine ay 6 ag [Is (.pointer (some ⟨s,0,none⟩)),Is (.pointer (some ⟨s,0,none⟩)),Is (.pointer (some ⟨s,0,none⟩)),Is (.pointer a),Is (.agg n.cells.toArray),(fun av an=>kK an av (di n t.bJ))] [] (fun _=>True) (fun _ _=>false) (by kernel_rfl) (by kernel_rfl) (by kernel_rfl) (by kernel_rfl) ⟨Is.ah _,Is.ah _,Is.ah _,Is.ah _,Is.ah _,fun v w1 w2 _ f h=>by obtain⟨a,t,e,G,J⟩:=h;exact⟨a,t,e,G.ao f,J⟩,trivial⟩ trivial (fun _ _ _ _ h=>h) trivial ?_ ?_
    ·refine⟨?_,?_,?_,?_,?_,?_,trivial⟩;all_goals intro u w' d c b m l i
     all_goals simp only[bw,bC,bD,bE,ar,Act.put,bF,bG,bH,Nat.reduceAdd,Nat.zero_add]
     ·clear b m l i;refine aj ?_;go_simp;exact⟨_,rfl,al⟩
     ·have N:u 0=_:=b 0;clear b m l i;simp only[N];refine aj ?_;go_simp;exact⟨_,rfl,al⟩
     ·have O:u 1=_:=b 1;clear b m l i;simp only[O];refine aj ?_;go_simp;exact⟨_,rfl,al⟩
     ·have P:u 2=_:=b 2;clear b m l i;simp only[P];refine aj ?_;have q:=c.ak ((r.out.trans I.out).ak E.out (fun x=>x)) (fun x=>x);go_simp;exact⟨_,rfl,al⟩
     ·clear b m l i;refine aj ?_;exact au _ _ rfl ⟨M,0,none⟩ rfl n.cells _ (fun j x H=>by rw[Addr.add_mid,Nat.zero_add];exact(ae.out.fr c (fun x=>x)).cell j|>.trans (by rw[bP];exact H)) Tryz.underlying106 rfl aT ⟨_,rfl,al⟩
     ·have Q:u 3=_:=b 3;have R:u 4=_:=b 4;clear b m l i;simp only[Q,R];refine aj ?_;go_simp;refine(aK.out _ Z.out (r.out.trans (I.out.trans c))).mono ?_;rintro e aG⟨W,ap,rfl,G,J,f4⟩;exact⟨_,rfl,f4.bO,⟨W,ap,rfl,G,J⟩,trivial⟩
    ·intro u w' c b i;obtain⟨W,ap,aF,C,J⟩:=b 5 (by omega);clear b i;simp only[bw,bC,bD,bE,ar,Act.put,bF,bG,bH,dj,dk,Nat.reduceAdd,Nat.zero_add,aF];have aL:=af (r.out.trans (I.out.trans c));have aa:=af C;have Y:=af J;clear c aF C J;go_wp2_with(refine aB rfl 174 (.tmp 28) rfl #[.pointer W] rfl ?_);intro aO n5;have ac:=af n5;clear n5;go_wp2;go_ret2;exact⟨_,0,rfl,aL.out.trans ac.out.fr, .inl ⟨z.out,rfl,_,rfl,ap,⟨W,ac.out.aE,aa.out.ao ac.out.fr⟩,Y.out⟩⟩
def mj(x:Ent):List Value:=x.1.cells++[.string x.2]
theorem iq(x:Ent):(mj x).length=6:=rfl
theorem Kk:∀(xs:List Ent)(k:Nat)(c:Ent),xs[k]? =some c→∀j x,(mj c)[j]? =some x→(xs.flatMap mj)[k*6+j]? =some x
 |[],_,_,h,_,_,_=>by simp at h
 |y::b,0,c,h,j,x,a=>by
  simp only[List.getElem?_cons_zero,Option.some.injEq]at h;subst h;have d:j<6:=(List.getElem?_eq_some_iff.1 a).1;rw[List.flatMap_cons,Nat.zero_mul,Nat.zero_add,List.getElem?_append_left d];exact a
 |y::b,k+1,c,h,j,x,a=>by
  simp only[List.getElem?_cons_succ]at h;rw[List.flatMap_cons,List.getElem?_append_right (by rw[iq];omega),iq,show(k+1)*6+j-6=k*6+j by omega];exact Kk b k c h j x a
structure EL(w:World)(S:Nat→Prop)(A:Option Addr)(n:Nat)(xs:List Ent):Prop where
 rd:Rd w S 6 A n (xs.flatMap mj)
 len:xs.length=n
theorem EL.ao{w w':World}{S:Nat→Prop}{A:Option Addr}{n:Nat}{xs:List Ent}(h:EL w S A n xs)(a:Fr ag w w'):EL w' S A n xs:=⟨h.rd.ao a,h.len⟩
theorem EL.at_{w:World}{S:Nat→Prop}{A:Option Addr}{n k:Nat}{xs:List Ent}(h:EL w S A n xs)(f:k<n):∃b c,A=some b∧xs[k]? =some c∧∀j x,(mj c)[j]? =some x→w.cell? ((b.add (k*6)).add j)=some x:=by
 obtain⟨b,e,i,d⟩:=h.rd.2 (by omega);have a:k<xs.length:=by rw[h.len];exact f
 refine⟨b,xs[k],e,List.getElem?_eq_getElem a,fun j x g=>?_⟩;rw[Addr.add_add];exact d _ _ (Kk xs k _ (List.getElem?_eq_getElem a) j x g)
theorem mF{P:Program}{op:Oper}{a:Act}{w:World}{K:Act→World→Prop}{Q:Exit→Act→World→Prop}(i:BinOp)(t:TypeId)(x y:Operand)(ty:TypeId)(d:op.op= .binOp i t x y ty)
  (xs b:Array Value)(f:a.eval x= .agg xs)(g:a.eval y= .agg b)(c:P.eqGuardType P.depth t=false)
  (v:Value)(e:(binOp i t (.agg xs) (.agg b)).run P w= .ok v w)(h:K (a.put op.dst v) w):op.wp P a w K Q:=by
 have he:=run_eqGuard_agg (P:=P) (w:=w) i t x y xs b c;unfold Oper.wp execOp;simp only[d,f,g,Sem.run_bind,he,e,Result.andThen_ok];exact h
def uM(P:Program)(ops:Array Oper)(Q:Exit→Act→World→Prop)(T:Nat→Prop)(w:World)(F:(Nat→Value)→Act)(c:Nat→Value→World→Prop)(ws:List (Nat×(World→Prop)))(a:World→Prop)(B:Nat→Nat→Bool)(n:Nat)(b:List (Nat×Value)):Nat→List Oper→Prop
 |_,[]=>True
 |i,e::r=>(∀u w' d,Fr T w w'→(∀j,(_:Region.waitsFor .any ops i j=true:=by kernel_rfl)→c j (u j) w')→(∀p,p<n→B p i=true→d p=true)→(∀p,(p==i||B i p)=true→d p=false)→dq ws a d w'→(∀x∈b,d x.1=false→u x.1=x.2)→
   nT P ops Q e (F u) w' (vo (F u) e.dst (iE ws T i) w' (c i) (lF ws i)))∧uM P ops Q T w F c ws a B n b (i+1) r
theorem uM.at_{P:Program}{ops:Array Oper}{Q:Exit→Act→World→Prop}{T:Nat→Prop}{w:World}{F:(Nat→Value)→Act}{f:Nat→Value→World→Prop}{ws:List (Nat×(World→Prop))}{b:World→Prop}{B:Nat→Nat→Bool}{n:Nat}{e:List (Nat×Value)}:
  ∀{l:List Oper}{k:Nat},uM P ops Q T w F f ws b B n e k l→∀i g,l[i]? =some g→∀u w' d,Fr T w w'→(∀j,Region.waitsFor .any ops (k+i) j=true→f j (u j) w')→(∀p,p<n→B p (k+i)=true→d p=true)→(∀p,(p==k+i||B (k+i) p)=true→d p=false)→dq ws b d w'→(∀x∈e,d x.1=false→u x.1=x.2)→
   nT P ops Q g (F u) w' (vo (F u) g.dst (iE ws T (k+i)) w' (f (k+i)) (lF ws (k+i)))
 |[],_,_,_,_,h=>by simp at h
 |c::r,k,h,0,g,a=>by
  have:c=g:=by simpa using a
  subst this;exact h.1
 |c::r,k,h,i+1,g,a=>by
  have:=uM.at_ h.2 i g (by simpa using a);rw[show k+1+i=k+(i+1)by omega]at this;exact this
end Go.Proofs.YtphjagkehiklkaaGreatDoor
