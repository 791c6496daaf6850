/- Texts. -/
import Derived.Test.YtphjagkehiklkaaGreatDoorUK11
import Derived.Test.YtphjagkehiklkaaGreatDoorUK12
set_option linter.unusedVariables false
set_option linter.unusedSimpArgs false
set_option maxRecDepth 100000
set_option maxHeartbeats 8000000
namespace Go.Proofs.YtphjagkehiklkaaGreatDoor
open Go.RowKit Go.Shelf
def ju(w:World)(v:Value)(L:List Ent):Prop:=∃a b,v= .pointer a∧bO w a b∧b.aW=L
theorem mn{nm:aD}{v:ByteArray}:∀(L:List Ent),(dq nm v L).length≤L.length+1∧cG (dq nm v L)≤v.size+cG L
 |[]=>by simp[dq,cG]
 |y::L=>by
  have h:=mn (nm:=nm) (v:=v) L;rw[dq];split;·simp[cG]
  ·split;·simp[cG]
   ·simp only[cG,List.map_cons,List.sum_cons,List.length_cons]at h⊢;omega
theorem ki{nm:aD}:∀(L:List Ent),(cT nm L).length≤L.length∧cG (cT nm L)≤cG L
 |[]=>by simp[cT]
 |y::L=>by
  have h:=ki (nm:=nm) L;rw[cT];split;·simp[cG]
  ·simp only[cG,List.map_cons,List.sum_cons,List.length_cons]at h⊢;omega
theorem iR.parts{L b:List Ent}{x:Ent}(h:iR (L++x::b)):iR L∧iR b∧x.1.owner.size≤1099511627776:=
 ⟨fun y a=>h y (by simp[a]),fun y a=>h y (by simp[a]),h x (by simp)⟩
theorem jw{w:World}{a b:Option Addr}{l r:Tr}{g:Nat}{nm:aD}{v:ByteArray}{X Y:List Ent}(f:bO w a l)(h:bO w b r)(hm:Mid w g nm v)(el:l.aW=X)(d:r.aW=Y)
  (c:X.length+Y.length+1≤1048576)(e:v.size+cG X+cG Y≤1099511627776):Calls Tryz.prog 177 #[.pointer a, .pointer (some ⟨g,0,none⟩), .pointer b] w (Balanced w (X++(nm,v)::Y)):=by
 subst el d;refine v7 a b l r g nm v w f h hm ?_ ?_;·rw[Tr.bU,Tr.bU]at c;exact c
 ·rw[Tr.cP,Tr.cP];exact e
theorem Eb(nm:aD)(v:ByteArray)(g:Nat)(aL:nm.owner.size≤1099511627776)(t:Tr):∀(a:Option Addr)(w:World),bO w a t→Mid w g nm v→eC t.aW→iR t.aW→t.size+1≤1048576→v.size+t.bytes≤1099511627776→
  Calls Tryz.prog 163 #[.pointer a, .pointer (some ⟨g,0,none⟩)] w (Balanced w (dq nm v t.aW)):=by
 induction t with
 |leaf=>
  intro a w aJ av _ _ _ aw;obtain rfl:a=none:=aJ;refine(AW nm v g w av (by simp only[Tr.bytes]at aw;omega)).mono ?_;rintro e w'⟨a,rfl,p,n⟩;exact⟨a,_,rfl,p,rfl,n⟩
 |node l o Q r am ao=>
  intro a w aJ av aS aR aU aw;have aM:l.size+r.size+2≤1048576:=by simp only[Tr.size]at aU;omega
  have aK:v.size+Q.size+l.bytes+r.bytes≤1099511627776:=by simp only[Tr.bytes]at aw;omega
  have K:=Lib.hid (eC.parts aS);have T:=Lib.hid (iR.parts aR);obtain⟨s,N,P,rfl,z,aT,M⟩:=aJ;have az:=Lib.hid z;have aC:=Lib.hid aT;have au:=Lib.hid av;have aB:Hid (Mid w s o Q):=Mid.of M;have ax:Hid (w.cell? ⟨s,0,none⟩=some (.pointer N)):=M.cell 0;have ay:Hid (w.cell? ⟨s,1,none⟩=some (.pointer P)):=M.cell 1;have aP:Hid (∀w',Calls Tryz.prog 128 #[.agg nm.cells.toArray, .agg o.cells.toArray] w' (aH w' (.int .i64 (cp nm o)))):=fun w'=>fO nm o w' aL T.out.2.2;have a2:Hid (∀w',Fr af w w'→Calls Tryz.prog 163 #[.pointer N, .pointer (some ⟨g,0,none⟩)] w' (Balanced w' (dq nm v l.aW))):=fun w' f=>am N w' (az.out.al f) (au.out.al f) K.out.1 T.out.1 (by omega) (by omega);have a3:Hid (∀w',Fr af w w'→Calls Tryz.prog 163 #[.pointer P, .pointer (some ⟨g,0,none⟩)] w' (Balanced w' (dq nm v r.aW))):=fun w' f=>ao P w' (aC.out.al f) (au.out.al f) K.out.2.1 T.out.2.1 (by omega) (by omega);have aY:Hid (∀w' b u,Fr af w w'→bO w' b u→u.aW=dq nm v l.aW→Calls Tryz.prog 177 #[.pointer b, .pointer (some ⟨s,0,none⟩), .pointer P] w' (Balanced w' (dq nm v l.aW++(o,Q)::r.aW))):=fun w' b u f p e=>by
   have A:=mn (nm:=nm) (v:=v) l.aW;rw[Tr.bU,←Tr.cP]at A;exact jw p (aC.out.al f) (aB.out.al f) e rfl (by rw[Tr.bU];omega) (by rw[←Tr.cP];omega)
  have aZ:Hid (∀w' b u,Fr af w w'→bO w' b u→u.aW=dq nm v r.aW→Calls Tryz.prog 177 #[.pointer N, .pointer (some ⟨s,0,none⟩), .pointer b] w' (Balanced w' (l.aW++(o,Q)::dq nm v r.aW))):=fun w' b u f p e=>by
   have A:=mn (nm:=nm) (v:=v) r.aW;rw[Tr.bU,←Tr.cP]at A;exact jw (az.out.al f) p (aB.out.al f) rfl e (by rw[Tr.bU];omega) (by rw[←Tr.cP];omega)
  have a1:Hid (∀w',Fr af w w'→Calls Tryz.prog 178 #[.pointer N, .pointer (some ⟨g,0,none⟩), .pointer P] w' (fun e ap=>∃a,e= .returned (.pointer a)∧bO ap a (.node l nm v r)∧Fr af w' ap)):=fun w' f=>ep w' N P l r g nm v (az.out.al f) (aC.out.al f) (au.out.al f) (by omega) (by omega);obtain⟨J,ab⟩:∃J,J=cp nm o:=⟨_,rfl⟩;rw[←ab]at aP;have R:=Lib.hid ab;clear z aT av M aS aR aU aw aM aK ab am ao;go_enter Tryz.func163,Tryz.ntmps163;go_upto_region 3 with fail;refine aA 10 af [Is (.pointer (some ⟨g,0,none⟩)),Is (.pointer (some ⟨g,0,none⟩)),Is (.pointer (some ⟨g,2,none⟩)),Is (.agg nm.cells.toArray),Is (.pointer (some ⟨s,0,none⟩)),Is (.pointer (some ⟨s,0,none⟩)),Is (.pointer (some ⟨s,2,none⟩)),Is (.agg o.cells.toArray),Is (.int .i64 J),Is (.int .i64 J)] [] (fun _=>True) (fun _ _=>false) (by kernel_rfl) (by kernel_rfl) (by kernel_rfl) (by kernel_rfl) ⟨Is.ag _,Is.ag _,Is.ag _,Is.ag _,Is.ag _,Is.ag _,Is.ag _,Is.ag _,Is.ag _,Is.ag _,trivial⟩ trivial (fun _ _ _ _ h=>h) trivial ?_ ?_
  ·refine⟨fun u w' d n c m k i=>?_,fun u w' d n c m k i=>?_,fun u w' d n c m k i=>?_,fun u w' d n c m k i=>?_,fun u w' d n c m k i=>?_,fun u w' d n c m k i=>?_,fun u w' d n c m k i=>?_,fun u w' d n c m k i=>?_,fun u w' d n c m k i=>?_,fun u w' d n c m k i=>?_,trivial⟩;all_goals simp only[List.take_succ_cons,List.take_zero,List.map_cons,List.map_nil,an,Act.put,List.setIfInBounds_toArray,List.set_cons_zero,List.set_cons_succ,Nat.reduceAdd,Nat.zero_add]
   ·clear c m k i;refine .inl ⟨by kernel_rfl,?_⟩;go_simp;exact⟨_,rfl,Fr.refl _ _,rfl,trivial⟩
   ·have V:u 0=_:=c 0 (by kernel_rfl);clear c m k i;simp only[V];refine .inl ⟨by kernel_rfl,?_⟩;go_simp;exact⟨_,rfl,Fr.refl _ _,rfl,trivial⟩
   ·have A:u 1=_:=c 1 (by kernel_rfl);clear c m k i;simp only[A];refine .inl ⟨by kernel_rfl,?_⟩;go_simp;exact⟨_,rfl,Fr.refl _ _,rfl,trivial⟩
   ·have E:u 2=_:=c 2 (by kernel_rfl);clear c m k i;simp only[E];refine .inl ⟨by kernel_rfl,?_⟩;exact ar _ _ rfl ⟨g,2,none⟩ rfl nm.cells _ (fun j x aN=>by rw[Addr.add_mid];exact n.aj (au.out.name j x aN) (fun x=>x)) Tryz.underlying106 rfl aX ⟨_,rfl,Fr.refl _ _,rfl,trivial⟩
   ·clear c m k i;refine .inl ⟨by kernel_rfl,?_⟩;go_simp;exact⟨_,rfl,Fr.refl _ _,rfl,trivial⟩
   ·have X:u 4=_:=c 4 (by kernel_rfl);clear c m k i;simp only[X];refine .inl ⟨by kernel_rfl,?_⟩;go_simp;exact⟨_,rfl,Fr.refl _ _,rfl,trivial⟩
   ·have ak:u 5=_:=c 5 (by kernel_rfl);clear c m k i;simp only[ak];refine .inl ⟨by kernel_rfl,?_⟩;go_simp;exact⟨_,rfl,Fr.refl _ _,rfl,trivial⟩
   ·have Y:u 6=_:=c 6 (by kernel_rfl);clear c m k i;simp only[Y];refine .inl ⟨by kernel_rfl,?_⟩;exact ar _ _ rfl ⟨s,2,none⟩ rfl o.cells _ (fun j x aN=>by rw[Addr.add_mid];exact n.aj (aB.out.name j x aN) (fun x=>x)) Tryz.underlying106 rfl aX ⟨_,rfl,Fr.refl _ _,rfl,trivial⟩
   ·have W:u 3=_:=c 3 (by kernel_rfl);have Z:u 7=_:=c 7 (by kernel_rfl);clear c m k i;simp only[W,Z];refine .inl ⟨by kernel_rfl,?_⟩;go_simp;refine(aP.out _).mono ?_;rintro e aq⟨rfl,f4⟩;exact⟨_,rfl,f4.bA,rfl,trivial⟩
   ·have aa:u 8=_:=c 8 (by kernel_rfl);clear c m k i;simp only[aa];refine .inl ⟨by kernel_rfl,?_⟩;go_simp;exact⟨_,rfl,Fr.refl _ _,rfl,trivial⟩
  ·intro u w' n c i;have aV:u 9=_:=c 9 (by omega);clear c i;simp only[List.take_succ_cons,List.take_zero,List.map_cons,List.map_nil,an,Act.put,List.setIfInBounds_toArray,List.set_cons_zero,List.set_cons_succ,List.drop_succ_cons,List.drop_zero,Nat.reduceAdd,Nat.zero_add,aV];have D:=Lib.hid n;clear n aV;by_cases A:J<0
   ·have t1:decide (J<0)=true:=decide_eq_true A;have H1:=Lib.hid A;clear A;go_upto_region 5 with fail;refine aA 13 af [Is (.pointer (some ⟨s,0,none⟩)),Is (.pointer (some ⟨s,0,none⟩)),Is (.pointer (some ⟨s,0,none⟩)),Is (.pointer N),Is (.pointer (some ⟨g,0,none⟩)),(fun C B=>ju B C (dq nm v l.aW)),Is (.pointer (some ⟨s,0,none⟩)),Is (.pointer (some ⟨s,0,none⟩)),Is (.pointer (some ⟨s,0,none⟩)),Is (.pointer (some ⟨s,1,none⟩)),Is (.pointer P),(fun C B=>ju B C ((dq nm v l.aW++(o,Q)::r.aW))),(fun C B=>ju B C ((dq nm v l.aW++(o,Q)::r.aW)))] [] (fun _=>True) (fun _ _=>false) (by kernel_rfl) (by kernel_rfl) (by kernel_rfl) (by kernel_rfl) ⟨Is.ag _,Is.ag _,Is.ag _,Is.ag _,Is.ag _,fun v w1 w2 _ f h=>by obtain⟨a,t,e,p,z⟩:=h;exact⟨a,t,e,p.al f,z⟩,Is.ag _,Is.ag _,Is.ag _,Is.ag _,Is.ag _,fun v w1 w2 _ f h=>by obtain⟨a,t,e,p,z⟩:=h;exact⟨a,t,e,p.al f,z⟩,fun v w1 w2 _ f h=>by obtain⟨a,t,e,p,z⟩:=h;exact⟨a,t,e,p.al f,z⟩,trivial⟩ trivial (fun _ _ _ _ h=>h) trivial ?_ ?_
    ·refine⟨fun u w' d n c m k i=>?_,fun u w' d n c m k i=>?_,fun u w' d n c m k i=>?_,fun u w' d n c m k i=>?_,fun u w' d n c m k i=>?_,fun u w' d n c m k i=>?_,fun u w' d n c m k i=>?_,fun u w' d n c m k i=>?_,fun u w' d n c m k i=>?_,fun u w' d n c m k i=>?_,fun u w' d n c m k i=>?_,fun u w' d n c m k i=>?_,fun u w' d n c m k i=>?_,trivial⟩;all_goals simp only[List.take_succ_cons,List.take_zero,List.map_cons,List.map_nil,an,Act.put,List.setIfInBounds_toArray,List.set_cons_zero,List.set_cons_succ,Nat.reduceAdd,Nat.zero_add]
     ·clear c m k i;refine .inl ⟨by kernel_rfl,?_⟩;go_simp;exact⟨_,rfl,Fr.refl _ _,rfl,trivial⟩
     ·have V:u 0=_:=c 0 (by kernel_rfl);clear c m k i;simp only[V];refine .inl ⟨by kernel_rfl,?_⟩;go_simp;exact⟨_,rfl,Fr.refl _ _,rfl,trivial⟩
     ·have A:u 1=_:=c 1 (by kernel_rfl);clear c m k i;simp only[A];refine .inl ⟨by kernel_rfl,?_⟩;go_simp;exact⟨_,rfl,Fr.refl _ _,rfl,trivial⟩
     ·have E:u 2=_:=c 2 (by kernel_rfl);clear c m k i;simp only[E];refine .inl ⟨by kernel_rfl,?_⟩;have q:=n.aj (D.out.aj ax.out (fun x=>x)) (fun x=>x);go_simp;exact⟨_,rfl,Fr.refl _ _,rfl,trivial⟩
     ·clear c m k i;refine .inl ⟨by kernel_rfl,?_⟩;go_simp;exact⟨_,rfl,Fr.refl _ _,rfl,trivial⟩
     ·have W:u 3=_:=c 3 (by kernel_rfl);have X:u 4=_:=c 4 (by kernel_rfl);clear c m k i;simp only[W,X];refine .inl ⟨by kernel_rfl,?_⟩;go_simp;refine(a2.out _ (D.out.trans n)).mono ?_;rintro e aq⟨F,ae,rfl,p,z,f4⟩;exact⟨_,rfl,f4.bA,⟨F,ae,rfl,p,z⟩,trivial⟩
     ·clear c m k i;refine .inl ⟨by kernel_rfl,?_⟩;go_simp;exact⟨_,rfl,Fr.refl _ _,rfl,trivial⟩
     ·clear c m k i;refine .inl ⟨by kernel_rfl,?_⟩;go_simp;exact⟨_,rfl,Fr.refl _ _,rfl,trivial⟩
     ·have Z:u 7=_:=c 7 (by kernel_rfl);clear c m k i;simp only[Z];refine .inl ⟨by kernel_rfl,?_⟩;go_simp;exact⟨_,rfl,Fr.refl _ _,rfl,trivial⟩
     ·have aa:u 8=_:=c 8 (by kernel_rfl);clear c m k i;simp only[aa];refine .inl ⟨by kernel_rfl,?_⟩;go_simp;exact⟨_,rfl,Fr.refl _ _,rfl,trivial⟩
     ·have aI:u 9=_:=c 9 (by kernel_rfl);clear c m k i;simp only[aI];refine .inl ⟨by kernel_rfl,?_⟩;have q:=n.aj (D.out.aj ay.out (fun x=>x)) (fun x=>x);go_simp;exact⟨_,rfl,Fr.refl _ _,rfl,trivial⟩
     ·obtain⟨a5,t5,a4,ba,a8⟩:=c 5 (by kernel_rfl);have Y:u 6=_:=c 6 (by kernel_rfl);have aG:u 10=_:=c 10 (by kernel_rfl);clear c m k i;simp only[a4,Y,aG];refine .inl ⟨by kernel_rfl,?_⟩;go_simp;refine(aY.out _ _ _ (D.out.trans n) ba a8).mono ?_;rintro e aq⟨F,ae,rfl,p,z,f4⟩;exact⟨_,rfl,f4.bA,⟨F,ae,rfl,p,z⟩,trivial⟩
     ·obtain⟨aF,t11,U,ad,ac⟩:=c 11 (by kernel_rfl);clear c m k i;simp only[U];refine .inl ⟨by kernel_rfl,?_⟩;go_simp;exact⟨_,rfl,Fr.refl _ _,⟨_,_,rfl,ad,ac⟩,trivial⟩
    ·intro u w' n c i;obtain⟨a12,t12,G,I,H⟩:=c 12 (by omega);clear c i;simp only[List.take_succ_cons,List.take_zero,List.map_cons,List.map_nil,an,Act.put,List.setIfInBounds_toArray,List.set_cons_zero,List.set_cons_succ,List.drop_succ_cons,List.drop_zero,Nat.reduceAdd,Nat.zero_add,G];have ah:=Lib.hid (D.out.trans n);have ai:=Lib.hid I;have S:=Lib.hid H;clear n I G H;go_wp2;go_ret;refine⟨_,_,rfl,ai.out,?_,ah.out⟩;rw[S.out,Tr.aW,yh (by have h:=H1.out;rw[R.out]at h;exact h)]
   ·have t1:decide (J<0)=false:=decide_eq_false A;by_cases E:0<J
    ·have t2:decide (0<J)=true:=decide_eq_true E;have a0:=Lib.hid E;clear A E;go_upto_region 7 with fail;refine aA 13 af [Is (.pointer (some ⟨s,0,none⟩)),Is (.pointer (some ⟨s,0,none⟩)),Is (.pointer (some ⟨s,0,none⟩)),Is (.pointer N),Is (.pointer (some ⟨s,0,none⟩)),Is (.pointer (some ⟨s,0,none⟩)),Is (.pointer (some ⟨s,0,none⟩)),Is (.pointer (some ⟨s,1,none⟩)),Is (.pointer P),Is (.pointer (some ⟨g,0,none⟩)),(fun C B=>ju B C (dq nm v r.aW)),(fun C B=>ju B C ((l.aW++(o,Q)::dq nm v r.aW))),(fun C B=>ju B C ((l.aW++(o,Q)::dq nm v r.aW)))] [] (fun _=>True) (fun _ _=>false) (by kernel_rfl) (by kernel_rfl) (by kernel_rfl) (by kernel_rfl) ⟨Is.ag _,Is.ag _,Is.ag _,Is.ag _,Is.ag _,Is.ag _,Is.ag _,Is.ag _,Is.ag _,Is.ag _,fun v w1 w2 _ f h=>by obtain⟨a,t,e,p,z⟩:=h;exact⟨a,t,e,p.al f,z⟩,fun v w1 w2 _ f h=>by obtain⟨a,t,e,p,z⟩:=h;exact⟨a,t,e,p.al f,z⟩,fun v w1 w2 _ f h=>by obtain⟨a,t,e,p,z⟩:=h;exact⟨a,t,e,p.al f,z⟩,trivial⟩ trivial (fun _ _ _ _ h=>h) trivial ?_ ?_
     ·refine⟨fun u w' d n c m k i=>?_,fun u w' d n c m k i=>?_,fun u w' d n c m k i=>?_,fun u w' d n c m k i=>?_,fun u w' d n c m k i=>?_,fun u w' d n c m k i=>?_,fun u w' d n c m k i=>?_,fun u w' d n c m k i=>?_,fun u w' d n c m k i=>?_,fun u w' d n c m k i=>?_,fun u w' d n c m k i=>?_,fun u w' d n c m k i=>?_,fun u w' d n c m k i=>?_,trivial⟩;all_goals simp only[List.take_succ_cons,List.take_zero,List.map_cons,List.map_nil,an,Act.put,List.setIfInBounds_toArray,List.set_cons_zero,List.set_cons_succ,Nat.reduceAdd,Nat.zero_add]
      ·clear c m k i;refine .inl ⟨by kernel_rfl,?_⟩;go_simp;exact⟨_,rfl,Fr.refl _ _,rfl,trivial⟩
      ·have V:u 0=_:=c 0 (by kernel_rfl);clear c m k i;simp only[V];refine .inl ⟨by kernel_rfl,?_⟩;go_simp;exact⟨_,rfl,Fr.refl _ _,rfl,trivial⟩
      ·have A:u 1=_:=c 1 (by kernel_rfl);clear c m k i;simp only[A];refine .inl ⟨by kernel_rfl,?_⟩;go_simp;exact⟨_,rfl,Fr.refl _ _,rfl,trivial⟩
      ·have E:u 2=_:=c 2 (by kernel_rfl);clear c m k i;simp only[E];refine .inl ⟨by kernel_rfl,?_⟩;have q:=n.aj (D.out.aj ax.out (fun x=>x)) (fun x=>x);go_simp;exact⟨_,rfl,Fr.refl _ _,rfl,trivial⟩
      ·clear c m k i;refine .inl ⟨by kernel_rfl,?_⟩;go_simp;exact⟨_,rfl,Fr.refl _ _,rfl,trivial⟩
      ·clear c m k i;refine .inl ⟨by kernel_rfl,?_⟩;go_simp;exact⟨_,rfl,Fr.refl _ _,rfl,trivial⟩
      ·have ak:u 5=_:=c 5 (by kernel_rfl);clear c m k i;simp only[ak];refine .inl ⟨by kernel_rfl,?_⟩;go_simp;exact⟨_,rfl,Fr.refl _ _,rfl,trivial⟩
      ·have Y:u 6=_:=c 6 (by kernel_rfl);clear c m k i;simp only[Y];refine .inl ⟨by kernel_rfl,?_⟩;go_simp;exact⟨_,rfl,Fr.refl _ _,rfl,trivial⟩
      ·have Z:u 7=_:=c 7 (by kernel_rfl);clear c m k i;simp only[Z];refine .inl ⟨by kernel_rfl,?_⟩;have q:=n.aj (D.out.aj ay.out (fun x=>x)) (fun x=>x);go_simp;exact⟨_,rfl,Fr.refl _ _,rfl,trivial⟩
      ·clear c m k i;refine .inl ⟨by kernel_rfl,?_⟩;go_simp;exact⟨_,rfl,Fr.refl _ _,rfl,trivial⟩
      ·have aa:u 8=_:=c 8 (by kernel_rfl);have aI:u 9=_:=c 9 (by kernel_rfl);clear c m k i;simp only[aa,aI];refine .inl ⟨by kernel_rfl,?_⟩;go_simp;refine(a3.out _ (D.out.trans n)).mono ?_;rintro e aq⟨F,ae,rfl,p,z,f4⟩;exact⟨_,rfl,f4.bA,⟨F,ae,rfl,p,z⟩,trivial⟩
      ·have W:u 3=_:=c 3 (by kernel_rfl);have X:u 4=_:=c 4 (by kernel_rfl);obtain⟨aE,t10,L,O,l10⟩:=c 10 (by kernel_rfl);clear c m k i;simp only[W,X,L];refine .inl ⟨by kernel_rfl,?_⟩;go_simp;refine(aZ.out _ _ _ (D.out.trans n) O l10).mono ?_;rintro e aq⟨F,ae,rfl,p,z,f4⟩;exact⟨_,rfl,f4.bA,⟨F,ae,rfl,p,z⟩,trivial⟩
      ·obtain⟨aF,t11,U,ad,ac⟩:=c 11 (by kernel_rfl);clear c m k i;simp only[U];refine .inl ⟨by kernel_rfl,?_⟩;go_simp;exact⟨_,rfl,Fr.refl _ _,⟨_,_,rfl,ad,ac⟩,trivial⟩
     ·intro u w' n c i;obtain⟨a12,t12,G,I,H⟩:=c 12 (by omega);clear c i;simp only[List.take_succ_cons,List.take_zero,List.map_cons,List.map_nil,an,Act.put,List.setIfInBounds_toArray,List.set_cons_zero,List.set_cons_succ,List.drop_succ_cons,List.drop_zero,Nat.reduceAdd,Nat.zero_add,G];have ah:=Lib.hid (D.out.trans n);have ai:=Lib.hid I;have S:=Lib.hid H;clear n I G H;go_wp2;go_ret;refine⟨_,_,rfl,ai.out,?_,ah.out⟩;have a7:0<cp nm o:=by have h:=a0.out;rw[R.out]at h;exact h
      rw[S.out,Tr.aW,pU _ _ (fun y aO=>ja (cq.trans _ _ _ (K.out.2.2.1 y aO) (lL a7))),dq,if_neg (by simp only;omega),if_neg (by simp only;omega)]
    ·have t2:decide (0<J)=false:=decide_eq_false E;have aQ:Hid (nm=o):=cq.eq nm o (by have h:=R.out;omega);clear A E;go_upto_region 8 with fail;refine aA 11 af [Is (.pointer (some ⟨s,0,none⟩)),Is (.pointer (some ⟨s,0,none⟩)),Is (.pointer (some ⟨s,0,none⟩)),Is (.pointer N),Is (.pointer (some ⟨g,0,none⟩)),Is (.pointer (some ⟨s,0,none⟩)),Is (.pointer (some ⟨s,0,none⟩)),Is (.pointer (some ⟨s,1,none⟩)),Is (.pointer P),(fun C B=>∃F,C= .pointer F∧bO B F (.node l nm v r)),(fun C B=>∃F,C= .pointer F∧bO B F (.node l nm v r))] [] (fun _=>True) (fun _ _=>false) (by kernel_rfl) (by kernel_rfl) (by kernel_rfl) (by kernel_rfl) ⟨Is.ag _,Is.ag _,Is.ag _,Is.ag _,Is.ag _,Is.ag _,Is.ag _,Is.ag _,Is.ag _,fun v w1 w2 _ f h=>by obtain⟨a,e,p⟩:=h;exact⟨a,e,p.al f⟩,fun v w1 w2 _ f h=>by obtain⟨a,e,p⟩:=h;exact⟨a,e,p.al f⟩,trivial⟩ trivial (fun _ _ _ _ h=>h) trivial ?_ ?_
     ·refine⟨fun u w' d n c m k i=>?_,fun u w' d n c m k i=>?_,fun u w' d n c m k i=>?_,fun u w' d n c m k i=>?_,fun u w' d n c m k i=>?_,fun u w' d n c m k i=>?_,fun u w' d n c m k i=>?_,fun u w' d n c m k i=>?_,fun u w' d n c m k i=>?_,fun u w' d n c m k i=>?_,fun u w' d n c m k i=>?_,trivial⟩;all_goals simp only[List.take_succ_cons,List.take_zero,List.map_cons,List.map_nil,an,Act.put,List.setIfInBounds_toArray,List.set_cons_zero,List.set_cons_succ,Nat.reduceAdd,Nat.zero_add]
      ·clear c m k i;refine .inl ⟨by kernel_rfl,?_⟩;go_simp;exact⟨_,rfl,Fr.refl _ _,rfl,trivial⟩
      ·have V:u 0=_:=c 0 (by kernel_rfl);clear c m k i;simp only[V];refine .inl ⟨by kernel_rfl,?_⟩;go_simp;exact⟨_,rfl,Fr.refl _ _,rfl,trivial⟩
      ·have A:u 1=_:=c 1 (by kernel_rfl);clear c m k i;simp only[A];refine .inl ⟨by kernel_rfl,?_⟩;go_simp;exact⟨_,rfl,Fr.refl _ _,rfl,trivial⟩
      ·have E:u 2=_:=c 2 (by kernel_rfl);clear c m k i;simp only[E];refine .inl ⟨by kernel_rfl,?_⟩;have q:=n.aj (D.out.aj ax.out (fun x=>x)) (fun x=>x);go_simp;exact⟨_,rfl,Fr.refl _ _,rfl,trivial⟩
      ·clear c m k i;refine .inl ⟨by kernel_rfl,?_⟩;go_simp;exact⟨_,rfl,Fr.refl _ _,rfl,trivial⟩
      ·clear c m k i;refine .inl ⟨by kernel_rfl,?_⟩;go_simp;exact⟨_,rfl,Fr.refl _ _,rfl,trivial⟩
      ·have ak:u 5=_:=c 5 (by kernel_rfl);clear c m k i;simp only[ak];refine .inl ⟨by kernel_rfl,?_⟩;go_simp;exact⟨_,rfl,Fr.refl _ _,rfl,trivial⟩
      ·have Y:u 6=_:=c 6 (by kernel_rfl);clear c m k i;simp only[Y];refine .inl ⟨by kernel_rfl,?_⟩;go_simp;exact⟨_,rfl,Fr.refl _ _,rfl,trivial⟩
      ·have Z:u 7=_:=c 7 (by kernel_rfl);clear c m k i;simp only[Z];refine .inl ⟨by kernel_rfl,?_⟩;have q:=n.aj (D.out.aj ay.out (fun x=>x)) (fun x=>x);go_simp;exact⟨_,rfl,Fr.refl _ _,rfl,trivial⟩
      ·have W:u 3=_:=c 3 (by kernel_rfl);have X:u 4=_:=c 4 (by kernel_rfl);have aa:u 8=_:=c 8 (by kernel_rfl);clear c m k i;simp only[W,X,aa];refine .inl ⟨by kernel_rfl,?_⟩;go_simp;refine(a1.out _ (D.out.trans n)).mono ?_;rintro e aq⟨a,rfl,p,f4⟩;exact⟨_,rfl,f4.bA,⟨a,rfl,p⟩,trivial⟩
      ·obtain⟨a9,a6,bb⟩:=c 9 (by kernel_rfl);clear c m k i;simp only[a6];refine .inl ⟨by kernel_rfl,?_⟩;go_simp;exact⟨_,rfl,Fr.refl _ _,⟨_,rfl,bb⟩,trivial⟩
     ·intro u w' n c i;obtain⟨aE,L,O⟩:=c 10 (by omega);clear c i;simp only[List.take_succ_cons,List.take_zero,List.map_cons,List.map_nil,an,Act.put,List.setIfInBounds_toArray,List.set_cons_zero,List.set_cons_succ,List.drop_succ_cons,List.drop_zero,Nat.reduceAdd,Nat.zero_add,L];have ah:=Lib.hid (D.out.trans n);have ai:=Lib.hid O;clear n O L;go_wp2;go_ret;refine⟨_,_,rfl,ai.out,?_,ah.out⟩;rw[Tr.aW,Tr.aW,pU _ _ (fun y aO=>by rw[aQ.out];exact ja (K.out.2.2.1 y aO)),dq,aQ.out];simp only[cq.refl];rfl
end Go.Proofs.YtphjagkehiklkaaGreatDoor
namespace Go.Proofs.YtphjagkehiklkaaGreatDoor
open Go.RowKit
def lJ(late:Nat→Bool)(T:Nat→Prop)(w:World):Nat→List (Value→World→Prop)→Prop
 |_,[]=>True
 |i,p::r=>(∀v w' a,Fr T w w'→Fr (if late i=true then af else T) w' a→p v w'→p v a)∧lJ late T w (i+1) r
theorem lJ.at_{late:Nat→Bool}{T:Nat→Prop}{w:World}:∀{b:List (Value→World→Prop)}{i:Nat},lJ late T w i b→∀j v w' a,Fr T w w'→Fr (if late (i+j)=true then af else T) w' a→bI b j v w'→bI b j v a
 |[],_,_,_,_,_,_,_,_,_=>trivial
 |p::r,i,h,0,v,w',a,c,d,e=>h.1 v w' a c d e
 |p::r,i,h,j+1,v,w',a,c,d,e=>lJ.at_ h.2 j v w' a c (by rw[show i+1+j=i+(j+1)by omega];exact d) e
def zX(late:Nat→Bool)(ws:List (Nat×(World→Prop)))(B:Nat→Nat→Bool)(n:Nat):Bool:=(List.range n).all fun k=>!late k||(ws.map (·.1)).all fun p=>p==k||B p k
theorem Du{late:Nat→Bool}{ws:List (Nat×(World→Prop))}{B:Nat→Nat→Bool}{n k i:Nat}(h:zX late ws B n=true)(d:k<n)(e:late k=true)(hw:dz ws i=true)(a:i≠k):B i k=true:=by
 have b:=List.all_eq_true.1 h k (List.mem_range.2 d);rw[e,Bool.not_true,Bool.false_or]at b;simp only[dz,List.any_eq_true,beq_iff_eq]at hw;obtain⟨p,f,rfl⟩:=hw;have c:=List.all_eq_true.1 b p f;simp only[Bool.or_eq_true,beq_iff_eq]at c;exact c.resolve_left a
theorem Ie{P:Program}{ops:Array Oper}{Q:Exit→Act→World→Prop}{T:Nat→Prop}{w:World}{a:Act}{ab:List (Value→World→Prop)}{ws:List (Nat×(World→Prop))}{C:World→Prop}{B:Nat→Nat→Bool}{n:Nat}(ok:oO ops n)(ac:eI ops n B=true)
  (J:(fB B (ws.map (·.1))&&(ws.map (·.1)).all (fun p=>decide (p<n)))=true)
  (late:Nat→Bool)(ap:zX late ws B n=true)(av:lJ late T w 0 ab)(aw:gR T w ws)(au:∀w' l,Fr T w w'→Fr af w' l→C w'→C l)
  (aC:fZ P ops Q T w (fun u=>an ((ops.toList.take n).map (·.dst)) 0 u a) (bI ab) ws C B n 0 (ops.toList.take n))
  (aF:∀u w',Fr T w w'→(∀j,j<n→bI ab j (u j) w')→kq ws C w'→wpList P ops Q (ops.toList.drop n) (an ((ops.toList.take n).map (·.dst)) 0 u a) w'):
  ∀(f:Nat)(listed:Array Bool)(u:Nat→Value)(w':World),HeadInv .any ops n listed→bK (fun j=>!listed.getD j false) n=f→Fr T w w'→cI ws C (fun j=>listed.getD j false) w'→
   (∀j,j<n→listed.getD j false=true→bI ab j (u j) w')→wpAny P .any ops Q (f+(ops.size-n)) listed (an ((ops.toList.take n).map (·.dst)) 0 u a) w':=by
 rw[Bool.and_eq_true]at J;have X:∀x∈ws,x.1<n:=fun x I=>by simpa using List.all_eq_true.1 J.2 x.1 (List.mem_map.2 ⟨x,I,rfl⟩)
 intro f;induction f with
 |zero=>
  intro listed u w' inv az N R S;have s:∀j,j<n→listed.getD j false=true:=fun j F=>by simpa using jY _ n az j F
  have he:listed=Array.replicate n true++Array.replicate (ops.size-n) false:=by
   apply Array.ext;·rw[inv.size];have:=ok.le;simp;omega
   ·intro i ad aJ;rcases Nat.lt_or_ge i n with D|D;·have:=s i D;rw[Array.getElem_append_left (by simpa using D)];simpa[ad]using this
    ·have:=inv.tail i D (by rw[←inv.size];exact ad);rw[Array.getElem_append_right (by simpa using D)];simpa[ad]using this
  rw[mF ws C _ (fun x I=>s x.1 (X x I))]at R;subst he;have U:(ops.toList.drop n).length=ops.size-n:=by simp
  have:=wpAny_of_seq (P:=P) (md:= .any) (ops:=ops) (Q':=Q) (ops.toList.drop n) n _ (an ((ops.toList.take n).map (·.dst)) 0 u a) w' (fun j=>by simp[List.getElem?_drop]) (by rw[U];exact ok.seq) (aF u w' N (fun j F=>S j F (s j F)) R);rw[U]at this;rwa[Nat.zero_add]
 |succ f aG=>
  intro listed u w' inv az N R S;obtain⟨j,F,ax,L⟩:=kS (fun j=>!listed.getD j false) n (by omega);have K:j<ops.size:=by have:=ok.le;omega
  have H:listed.getD j true=false:=getD_in (by rw[inv.size];exact K) (by simpa using ax);have W:j∈Region.ready .any ops listed:=by
   refine mem_ready.2 ⟨H,ops[j],Array.getElem?_eq_getElem K,fun e he c=>?_⟩;have:=ok.each j _ F (Array.getElem?_eq_getElem K) e he c;simpa using L e.on this
  rw[show f+1+(ops.size-n)=(f+(ops.size-n))+1 by omega];refine⟨fun aA=>(by rw[aA]at W;cases W),fun i D=>?_⟩;obtain⟨ao,o,Y,aa⟩:=mem_ready.1 D;have am:i<ops.size:=(Array.getElem?_eq_some_iff.1 Y).1;have m:i<n:=by
   rcases ok.tail with h|⟨aE,aj⟩;·omega
   ·rcases Nat.lt_or_ge i n with h|h;·exact h
    ·exact absurd D (tail_waits aE aj (by omega) inv (n-j) j rfl F H i h)
  have E:listed.getD i false=false:=getD_both ao;have Z:(ops.toList.take n)[i]? =some o:=by rw[List.getElem?_take,if_pos m];simpa using Y
  have b:∀k,Region.waitsFor .any ops i k=true→k<i∧listed.getD k false=true:=by
   intro k t;obtain⟨aH,aq,e,he,c,ar⟩:=Region.waitsFor_spec t;have:aH=o:=Option.some.inj (aq.symm.trans Y);subst this;subst ar;exact⟨ok.each i _ m Y e he c,aa e he c⟩
  have d:∀p,p<n→B p i=true→listed.getD p false=true:=by
   intro p A c;have h:=List.all_eq_true.1 (List.all_eq_true.1 ac i (List.mem_range.2 m)) p (List.mem_range.2 A);simp only[c,Bool.not_true,Bool.false_or,Bool.or_eq_true,List.any_eq_true,Bool.and_eq_true,List.mem_range]at h;rcases h with h|⟨k,t,hw,ah⟩;·exact(b p h).2
   ·exact gE ac inv k (by omega) (b k hw).2 p A ah
  have g:∀p,(p==i||B i p)=true→listed.getD p false=false:=by
   intro p A;simp only[Bool.or_eq_true,beq_iff_eq]at A;rcases A with rfl|c;·exact E
   ·rcases Nat.lt_or_ge p n with M|M
    ·cases O:listed.getD p false;·rfl
     ·have:=gE ac inv p M O i m c;rw[E]at this;cases this
    ·rcases Nat.lt_or_ge p ops.size with ay|ay;·exact getD_both (inv.tail p M ay)
     ·have:¬p<listed.size:=by rw[inv.size];omega
      simp[this]
  have hw:=aC.at_ i o Z u w' (fun j=>listed.getD j false) N (fun k t=>by
   rw[Nat.zero_add]at t;exact S k (by have:=(b k t).1;omega) (b k t).2) (fun p A c=>by rw[Nat.zero_add]at c;exact d p A c) (fun p A=>by rw[Nat.zero_add]at A;exact g p A) R;rw[Nat.zero_add]at hw;refine mJ Y (eE (fun aI l aB=>?_) hw);obtain⟨v,rfl,hf',ag,ae⟩:=aB;have V:Fr T w' l:=by
   unfold fP at hf';split at hf';·exact hf'
   ·exact hf'.bA
  rw[ky _ 0 i u a o.dst v ok.nodup (by rw[List.getElem?_map,Z];rfl),Nat.zero_add];have G:(listed.setIfInBounds i true).getD i false=true:=by
   have al:i<listed.size:=by rw[inv.size];exact am
   simp[al]
  refine aG (listed.setIfInBounds i true) (da u i v) l (inv.set D m) ?_ (N.trans V) ?_ (fun k t O=>?_);·have:=jX (fun j=>!listed.getD j false) (fun j=>!(listed.setIfInBounds i true).getD j false) i (by simp only[E];rfl) (by simp only[G];rfl) (fun j F=>by simp only[getD_set_ne false (Ne.symm F)]) n m;omega
  ·cases r:dz ws i
   ·have ak:Fr af w' l:=by simpa[fP,r]using hf'
    have ai:=j4 ws C (fun j=>(listed.setIfInBounds i true).getD j false) (fun j=>listed.getD j false) (fun x I=>by
     have:i≠x.1:=by
      rintro rfl;have:dz ws x.1=true:=by
       simp only[dz,List.any_eq_true,beq_iff_eq];exact⟨x.1,List.mem_map.2 ⟨x,I,rfl⟩,rfl⟩
      rw[r]at this;cases this
     simp only[getD_set_ne false this]);rw[ai];exact js N ak ws C _ aw au R
   ·exact j5 B i (fun j=>listed.getD j false) _ l G (fun q aD=>by simp only[getD_set_ne false (Ne.symm aD)]) ws C J.1 r (fun x I c=>d x.1 (X x I) c) (fun x I c=>g x.1 (by rw[c,Bool.or_true])) ae
  ·by_cases e:k=i;·subst e;simp only[da,if_true];exact ag
   ·simp only[da];rw[if_neg e];rw[getD_set_ne false (fun h=>e h.symm)]at O;have z:=av.at_ k (u k) w' l N;rw[Nat.zero_add]at z;cases y:late k;·rw[y]at z;exact z V (S k t O)
    ·rw[y]at z;cases r:dz ws i;·exact z (by simpa[fP,r]using hf') (S k t O)
     ·have c:=Du ap t y r (fun h=>e h.symm);have:=gE ac inv k t O i m c;rw[E]at this;cases this
theorem uE{P:Program}{id:Nat}{Q:Exit→Act→World→Prop}{a:Act}{w:World}{l:List Oper}(n:Nat)(T:Nat→Prop)(f:List (Value→World→Prop))(ws:List (Nat×(World→Prop)))(b:World→Prop)(B:Nat→Nat→Bool)(hm:P.follows .mixedOrders=true)(A:ny l.toArray n=true)
  (y:eI l.toArray n B=true)(g:(fB B (ws.map (·.1))&&(ws.map (·.1)).all (fun p=>decide (p<n)))=true)
  (late:Nat→Bool)(i:zX late ws B n=true)(o:lJ late T w 0 f)(q:gR T w ws)(k:∀w' e,Fr T w w'→Fr af w' e→b w'→b e)(v:b w.drew)
  (C:fZ P l.toArray Q T w (fun u=>an ((l.take n).map (·.dst)) 0 u a) (bI f) ws b B n 0 (l.take n))
  (r:∀u w',Fr T w w'→(∀j,j<n→bI f j (u j) w')→kq ws b w'→wpList P l.toArray Q (l.drop n) (an ((l.take n).map (·.dst)) 0 u a) w'):(Code.region id l.toArray true).wp P Q a w:=by
 have ok:=oO.of A;obtain⟨E,s⟩:=fw ((l.take n).map (·.dst)) 0 a;refine wp_region_any hm ?_;have d:HeadInv .any l.toArray n (Array.replicate l.toArray.size false):=
  ⟨by simp,fun j G _ c=>(by rw[getD_replicate_false]at c;cases c),fun t _ r=>getD_in (by simpa using r) (getD_replicate_false _ _)⟩;have z:bK (fun j=>!(Array.replicate l.toArray.size false).getD j false) n=n:=by
  have h:∀m,bK (fun j=>!(Array.replicate l.toArray.size false).getD j false) m=m:=by
   intro m;induction m with
   |zero=>rfl
   |succ m D=>rw[bK,D,getD_replicate_false];rfl
  exact h n
 have:=Ie (P:=P) (Q:=Q) (a:=a) ok y g late i o q k (by simpa using C) (by simpa using r) n _ E w.drew d z ((Fr.refl _ _).drew) (by rw[jC ws b _ (fun x _=>getD_replicate_false _ _)];exact v) (fun j F c=>by rw[getD_replicate_false]at c;cases c);rw[show(l.toArray.toList.take n).map (·.dst)=(l.take n).map (·.dst)by simp,s,show n+(l.toArray.size-n)=l.toArray.size by have:=ok.le;omega]at this;exact this
end Go.Proofs.YtphjagkehiklkaaGreatDoor
