/- Texts. -/
import Derived.Test.YtphjagkehiklkaaGreatDoorUK13
set_option linter.unusedVariables false
set_option linter.unusedSimpArgs false
set_option maxRecDepth 100000
set_option maxHeartbeats 8000000
namespace Go.Proofs.YtphjagkehiklkaaGreatDoor
open Go.RowKit Go.Shelf
theorem xn(t:Tr):∀(nm:aD)(a:Option Addr)(w:World),nm.owner.size≤1099511627776→(∃v,(nm,v)∈t.aW)→bO w a t→eC t.aW→iR t.aW→t.size≤1048575→t.bytes≤1099511627776→
  Calls Tryz.prog 162 #[.pointer a, .agg nm.cells.toArray] w (Balanced w (cT nm t.aW)):=by
 induction t with
 |leaf=>
  intro nm a w _ h;obtain⟨v,h⟩:=h;cases h
 |node l z N r a4 a6=>
  intro nm a w ac ai be bS bR bW bT;have a2:l.size+r.size+1≤1048575:=by simp only[Tr.size]at bW;omega
  have a0:N.size+l.bytes+r.bytes≤1099511627776:=by simp only[Tr.bytes]at bT;omega
  have K:=Lib.hid (eC.parts bS);have Z:=Lib.hid (iR.parts bR);have aL:=Lib.hid ai;obtain⟨C,am,aE,rfl,B,bV,ab⟩:=be;have bc:=Lib.hid B;have aO:=Lib.hid bV;have bi:Hid (Mid w C z N):=Mid.of ab;have bb:Hid (w.cell? ⟨C,0,none⟩=some (.pointer am)):=ab.cell 0;have aI:Hid (w.cell? ⟨C,1,none⟩=some (.pointer aE)):=ab.cell 1;have bF:Hid (∀w',Calls Tryz.prog 128 #[.agg nm.cells.toArray, .agg z.cells.toArray] w' (aH w' (.int .i64 (cp nm z)))):=fun w'=>fO nm z w' ac Z.out.2.2;obtain⟨L,ax⟩:∃L,L=cp nm z:=⟨_,rfl⟩;rw[←ax]at bF;have O:=Lib.hid ax;have a7:Hid (L<0→∃v,(nm,v)∈l.aW):=fun h=>by
   obtain⟨v,F⟩:=aL.out;rw[O.out]at h;simp only[Tr.aW,List.mem_append,List.mem_cons]at F;rcases F with F|F|F;·exact⟨v,F⟩
   ·simp only[Prod.mk.injEq]at F;rw[F.1,cq.refl]at h;omega
   ·have H:=K.out.2.2.2 _ F;have ah:=cq.kN nm z;simp only at H;omega
  have bw:Hid (0<L→∃v,(nm,v)∈r.aW):=fun h=>by
   obtain⟨v,F⟩:=aL.out;rw[O.out]at h;simp only[Tr.aW,List.mem_append,List.mem_cons]at F;rcases F with F|F|F;·have H:=K.out.2.2.1 _ F;simp only at H;omega
   ·simp only[Prod.mk.injEq]at F;rw[F.1,cq.refl]at h;omega
   ·exact⟨v,F⟩
  have b0:Hid (∀w',L<0→Fr af w w'→Calls Tryz.prog 162 #[.pointer am, .agg nm.cells.toArray] w' (Balanced w' (cT nm l.aW))):=fun w' b7 f=>a4 nm am w' ac (a7.out b7) (bc.out.al f) K.out.1 Z.out.1 (by omega) (by omega);have bM:Hid (∀w' n,n.owner.size≤1099511627776→(∃v,(n,v)∈r.aW)→Fr af w w'→Calls Tryz.prog 162 #[.pointer aE, .agg n.cells.toArray] w' (Balanced w' (cT n r.aW))):=fun w' n s hm f=>a6 n aE w' s hm (aO.out.al f) K.out.2.1 Z.out.2.1 (by omega) (by omega);have bY:Hid (∀w' b u,Fr af w w'→bO w' b u→u.aW=cT nm l.aW→Calls Tryz.prog 177 #[.pointer b, .pointer (some ⟨C,0,none⟩), .pointer aE] w' (Balanced w' (cT nm l.aW++(z,N)::r.aW))):=fun w' b u f s e=>by
   have E:=ki (nm:=nm) l.aW;rw[Tr.bU,←Tr.cP]at E;exact jw s (aO.out.al f) (bi.out.al f) e rfl (by rw[Tr.bU];omega) (by rw[←Tr.cP];omega)
  have bZ:Hid (∀w' b u n m v,Fr af w w'→Mid w' m n v→v.size≤N.size+r.bytes→cG (cT n r.aW)+v.size≤N.size+r.bytes→bO w' b u→u.aW=cT n r.aW→Calls Tryz.prog 177 #[.pointer am, .pointer (some ⟨m,0,none⟩), .pointer b] w' (Balanced w' (l.aW++(n,v)::cT n r.aW))):=fun w' b u n m v f hm _ F s e=>by
   have E:=ki (nm:=n) r.aW;rw[Tr.bU,←Tr.cP]at E;exact jw (bc.out.al f) s hm rfl e (by rw[Tr.bU];omega) (by rw[←Tr.cP];omega)
  have bj:=Lib.hid ac;have bk:=Lib.hid a2;have bg:=Lib.hid a0;clear B bV ab bS bR bW bT a2 a0 ax a4 a6 ai ac;go_enter Tryz.func162,Tryz.ntmps162;go_wp2_with(refine au rfl 106 (.tmp 1) rfl nm.cells.toArray rfl ?_);intro w1 n1;have bH:=Lib.hid n1.fr;have aQ:=Lib.hid n1.az;clear n1;generalize w.heap.size=bd at*;have bL:Hid (ak w1 bd 106 nm.cells.toArray):=aQ.out;clear aQ;go_upto_region 1 with fail;refine aA 7 af [Is (.agg nm.cells.toArray),Is (.pointer (some ⟨C,0,none⟩)),Is (.pointer (some ⟨C,0,none⟩)),Is (.pointer (some ⟨C,2,none⟩)),Is (.agg z.cells.toArray),Is (.int .i64 L),Is (.int .i64 L)] [] (fun _=>True) (fun _ _=>false) (by kernel_rfl) (by kernel_rfl) (by kernel_rfl) (by kernel_rfl) ⟨Is.ag _,Is.ag _,Is.ag _,Is.ag _,Is.ag _,Is.ag _,Is.ag _,trivial⟩ trivial (fun _ _ _ _ h=>h) trivial ?_ ?_
  ·refine⟨fun u w' d p c o k g=>?_,fun u w' d p c o k g=>?_,fun u w' d p c o k g=>?_,fun u w' d p c o k g=>?_,fun u w' d p c o k g=>?_,fun u w' d p c o k g=>?_,fun u w' d p c o k g=>?_,trivial⟩;all_goals simp only[List.take_succ_cons,List.take_zero,List.map_cons,List.map_nil,an,Act.put,List.setIfInBounds_toArray,List.set_cons_zero,List.set_cons_succ,Nat.reduceAdd,Nat.zero_add]
   ·clear c o k g;refine .inl ⟨by kernel_rfl,?_⟩;exact ar _ _ rfl ⟨bd,0,none⟩ rfl nm.cells _ (fun j x ad=>by rw[Addr.add_mid,Nat.zero_add];exact(bL.out.fr p (fun x=>x)).cell j|>.trans (by rw[List.getElem?_toArray];exact ad)) Tryz.underlying106 rfl aX ⟨_,rfl,Fr.refl _ _,rfl,trivial⟩
   ·clear c o k g;refine .inl ⟨by kernel_rfl,?_⟩;go_simp;exact⟨_,rfl,Fr.refl _ _,rfl,trivial⟩
   ·have E:u 1=_:=c 1 (by kernel_rfl);clear c o k g;simp only[E];refine .inl ⟨by kernel_rfl,?_⟩;go_simp;exact⟨_,rfl,Fr.refl _ _,rfl,trivial⟩
   ·have H:u 2=_:=c 2 (by kernel_rfl);clear c o k g;simp only[H];refine .inl ⟨by kernel_rfl,?_⟩;go_simp;exact⟨_,rfl,Fr.refl _ _,rfl,trivial⟩
   ·have ah:u 3=_:=c 3 (by kernel_rfl);clear c o k g;simp only[ah];refine .inl ⟨by kernel_rfl,?_⟩;exact ar _ _ rfl ⟨C,2,none⟩ rfl z.cells _ (fun j x ad=>by rw[Addr.add_mid];exact(bH.out.trans p).aj (bi.out.name j x ad) (fun x=>x)) Tryz.underlying106 rfl aX ⟨_,rfl,Fr.refl _ _,rfl,trivial⟩
   ·have ap:u 0=_:=c 0 (by kernel_rfl);have av:u 4=_:=c 4 (by kernel_rfl);clear c o k g;simp only[ap,av];refine .inl ⟨by kernel_rfl,?_⟩;go_simp;refine(bF.out _).mono ?_;rintro e aG⟨rfl,f4⟩;exact⟨_,rfl,f4.bA,rfl,trivial⟩
   ·have aT:u 5=_:=c 5 (by kernel_rfl);clear c o k g;simp only[aT];refine .inl ⟨by kernel_rfl,?_⟩;go_simp;exact⟨_,rfl,Fr.refl _ _,rfl,trivial⟩
  ·intro u w' p c g;have k6:u 6=_:=c 6 (by omega);clear c g;simp only[List.take_succ_cons,List.take_zero,List.map_cons,List.map_nil,an,Act.put,List.setIfInBounds_toArray,List.set_cons_zero,List.set_cons_succ,List.drop_succ_cons,List.drop_zero,Nat.reduceAdd,Nat.zero_add,k6];have G:=Lib.hid (bH.out.trans p);have aR:=Lib.hid (bL.out.fr p (fun x=>x));clear p k6;by_cases E:L<0
   ·have t1:decide (L<0)=true:=decide_eq_true E;have H1:=Lib.hid E;clear E;go_upto_region 3 with fail;refine aA 13 af [Is (.pointer (some ⟨C,0,none⟩)),Is (.pointer (some ⟨C,0,none⟩)),Is (.pointer (some ⟨C,0,none⟩)),Is (.pointer am),Is (.agg nm.cells.toArray),(fun J I=>ju I J (cT nm l.aW)),Is (.pointer (some ⟨C,0,none⟩)),Is (.pointer (some ⟨C,0,none⟩)),Is (.pointer (some ⟨C,0,none⟩)),Is (.pointer (some ⟨C,1,none⟩)),Is (.pointer aE),(fun J I=>ju I J ((cT nm l.aW++(z,N)::r.aW))),(fun J I=>ju I J ((cT nm l.aW++(z,N)::r.aW)))] [] (fun _=>True) (fun _ _=>false) (by kernel_rfl) (by kernel_rfl) (by kernel_rfl) (by kernel_rfl) ⟨Is.ag _,Is.ag _,Is.ag _,Is.ag _,Is.ag _,fun v w1 w2 _ f h=>by obtain⟨a,t,e,s,B⟩:=h;exact⟨a,t,e,s.al f,B⟩,Is.ag _,Is.ag _,Is.ag _,Is.ag _,Is.ag _,fun v w1 w2 _ f h=>by obtain⟨a,t,e,s,B⟩:=h;exact⟨a,t,e,s.al f,B⟩,fun v w1 w2 _ f h=>by obtain⟨a,t,e,s,B⟩:=h;exact⟨a,t,e,s.al f,B⟩,trivial⟩ trivial (fun _ _ _ _ h=>h) trivial ?_ ?_
    ·refine⟨fun u w' d p c o k g=>?_,fun u w' d p c o k g=>?_,fun u w' d p c o k g=>?_,fun u w' d p c o k g=>?_,fun u w' d p c o k g=>?_,fun u w' d p c o k g=>?_,fun u w' d p c o k g=>?_,fun u w' d p c o k g=>?_,fun u w' d p c o k g=>?_,fun u w' d p c o k g=>?_,fun u w' d p c o k g=>?_,fun u w' d p c o k g=>?_,fun u w' d p c o k g=>?_,trivial⟩;all_goals simp only[List.take_succ_cons,List.take_zero,List.map_cons,List.map_nil,an,Act.put,List.setIfInBounds_toArray,List.set_cons_zero,List.set_cons_succ,Nat.reduceAdd,Nat.zero_add]
     ·clear c o k g;refine .inl ⟨by kernel_rfl,?_⟩;go_simp;exact⟨_,rfl,Fr.refl _ _,rfl,trivial⟩
     ·have ap:u 0=_:=c 0 (by kernel_rfl);clear c o k g;simp only[ap];refine .inl ⟨by kernel_rfl,?_⟩;go_simp;exact⟨_,rfl,Fr.refl _ _,rfl,trivial⟩
     ·have E:u 1=_:=c 1 (by kernel_rfl);clear c o k g;simp only[E];refine .inl ⟨by kernel_rfl,?_⟩;go_simp;exact⟨_,rfl,Fr.refl _ _,rfl,trivial⟩
     ·have H:u 2=_:=c 2 (by kernel_rfl);clear c o k g;simp only[H];refine .inl ⟨by kernel_rfl,?_⟩;have q:=p.aj (G.out.aj bb.out (fun x=>x)) (fun x=>x);go_simp;exact⟨_,rfl,Fr.refl _ _,rfl,trivial⟩
     ·clear c o k g;refine .inl ⟨by kernel_rfl,?_⟩;exact ar _ _ rfl ⟨bd,0,none⟩ rfl nm.cells _ (fun j x ad=>by rw[Addr.add_mid,Nat.zero_add];exact(aR.out.fr p (fun x=>x)).cell j|>.trans (by rw[List.getElem?_toArray];exact ad)) Tryz.underlying106 rfl aX ⟨_,rfl,Fr.refl _ _,rfl,trivial⟩
     ·have ah:u 3=_:=c 3 (by kernel_rfl);have av:u 4=_:=c 4 (by kernel_rfl);clear c o k g;simp only[ah,av];refine .inl ⟨by kernel_rfl,?_⟩;go_simp;refine(b0.out _ H1.out (G.out.trans p)).mono ?_;rintro e aG⟨V,W,rfl,s,B,f4⟩;exact⟨_,rfl,f4.bA,⟨V,W,rfl,s,B⟩,trivial⟩
     ·clear c o k g;refine .inl ⟨by kernel_rfl,?_⟩;go_simp;exact⟨_,rfl,Fr.refl _ _,rfl,trivial⟩
     ·clear c o k g;refine .inl ⟨by kernel_rfl,?_⟩;go_simp;exact⟨_,rfl,Fr.refl _ _,rfl,trivial⟩
     ·have aV:u 7=_:=c 7 (by kernel_rfl);clear c o k g;simp only[aV];refine .inl ⟨by kernel_rfl,?_⟩;go_simp;exact⟨_,rfl,Fr.refl _ _,rfl,trivial⟩
     ·have aY:u 8=_:=c 8 (by kernel_rfl);clear c o k g;simp only[aY];refine .inl ⟨by kernel_rfl,?_⟩;go_simp;exact⟨_,rfl,Fr.refl _ _,rfl,trivial⟩
     ·have aZ:u 9=_:=c 9 (by kernel_rfl);clear c o k g;simp only[aZ];refine .inl ⟨by kernel_rfl,?_⟩;have q:=p.aj (G.out.aj aI.out (fun x=>x)) (fun x=>x);go_simp;exact⟨_,rfl,Fr.refl _ _,rfl,trivial⟩
     ·obtain⟨a5,t5,b5,ca,b9⟩:=c 5 (by kernel_rfl);have aU:u 6=_:=c 6 (by kernel_rfl);have aq:u 10=_:=c 10 (by kernel_rfl);clear c o k g;simp only[b5,aU,aq];refine .inl ⟨by kernel_rfl,?_⟩;go_simp;refine(bY.out _ _ _ (G.out.trans p) ca b9).mono ?_;rintro e aG⟨V,W,rfl,s,B,f4⟩;exact⟨_,rfl,f4.bA,⟨V,W,rfl,s,B⟩,trivial⟩
     ·obtain⟨bn,t11,ao,aC,aB⟩:=c 11 (by kernel_rfl);clear c o k g;simp only[ao];refine .inl ⟨by kernel_rfl,?_⟩;go_simp;exact⟨_,rfl,Fr.refl _ _,⟨_,_,rfl,aC,aB⟩,trivial⟩
    ·intro u w' p c g;obtain⟨a12,t12,R,T,S⟩:=c 12 (by omega);clear c g;simp only[List.take_succ_cons,List.take_zero,List.map_cons,List.map_nil,an,Act.put,List.setIfInBounds_toArray,List.set_cons_zero,List.set_cons_succ,List.drop_succ_cons,List.drop_zero,Nat.reduceAdd,Nat.zero_add,R];have aK:=Lib.hid (G.out.trans p);have aN:=Lib.hid T;have Q:=Lib.hid S;clear p T R S;go_wp2;go_ret;refine⟨_,_,rfl,aN.out,?_,aK.out⟩;have s:cp nm z<0:=by have h:=H1.out;rw[O.out]at h;exact h
     rw[Q.out,Tr.aW,xX _ _ (fun y ay=>?_) (a7.out H1.out)];rcases List.mem_cons.1 ay with rfl|ay;·exact s
     ·exact cq.trans _ _ _ s (K.out.2.2.2 y ay)
   ·have t1:decide (L<0)=false:=decide_eq_false E;by_cases H:0<L
    ·have t2:decide (0<L)=true:=decide_eq_true H;have bI:=Lib.hid H;have bf:Hid (∀w' b u,Fr af w w'→bO w' b u→u.aW=cT nm r.aW→Calls Tryz.prog 177 #[.pointer am, .pointer (some ⟨C,0,none⟩), .pointer b] w' (Balanced w' (l.aW++(z,N)::cT nm r.aW))):=fun w' b u f s e=>by
      have E:=ki (nm:=nm) r.aW;rw[Tr.bU,←Tr.cP]at E;exact jw (bc.out.al f) s (bi.out.al f) rfl e (by have h:=bk.out;rw[Tr.bU];omega) (by have h:=bg.out;rw[←Tr.cP];omega)
     clear E H;go_upto_region 5 with fail;refine aA 13 af [Is (.pointer (some ⟨C,0,none⟩)),Is (.pointer (some ⟨C,0,none⟩)),Is (.pointer (some ⟨C,0,none⟩)),Is (.pointer am),Is (.pointer (some ⟨C,0,none⟩)),Is (.pointer (some ⟨C,0,none⟩)),Is (.pointer (some ⟨C,0,none⟩)),Is (.pointer (some ⟨C,1,none⟩)),Is (.pointer aE),Is (.agg nm.cells.toArray),(fun J I=>ju I J (cT nm r.aW)),(fun J I=>ju I J ((l.aW++(z,N)::cT nm r.aW))),(fun J I=>ju I J ((l.aW++(z,N)::cT nm r.aW)))] [] (fun _=>True) (fun _ _=>false) (by kernel_rfl) (by kernel_rfl) (by kernel_rfl) (by kernel_rfl) ⟨Is.ag _,Is.ag _,Is.ag _,Is.ag _,Is.ag _,Is.ag _,Is.ag _,Is.ag _,Is.ag _,Is.ag _,fun v w1 w2 _ f h=>by obtain⟨a,t,e,s,B⟩:=h;exact⟨a,t,e,s.al f,B⟩,fun v w1 w2 _ f h=>by obtain⟨a,t,e,s,B⟩:=h;exact⟨a,t,e,s.al f,B⟩,fun v w1 w2 _ f h=>by obtain⟨a,t,e,s,B⟩:=h;exact⟨a,t,e,s.al f,B⟩,trivial⟩ trivial (fun _ _ _ _ h=>h) trivial ?_ ?_
     ·refine⟨fun u w' d p c o k g=>?_,fun u w' d p c o k g=>?_,fun u w' d p c o k g=>?_,fun u w' d p c o k g=>?_,fun u w' d p c o k g=>?_,fun u w' d p c o k g=>?_,fun u w' d p c o k g=>?_,fun u w' d p c o k g=>?_,fun u w' d p c o k g=>?_,fun u w' d p c o k g=>?_,fun u w' d p c o k g=>?_,fun u w' d p c o k g=>?_,fun u w' d p c o k g=>?_,trivial⟩;all_goals simp only[List.take_succ_cons,List.take_zero,List.map_cons,List.map_nil,an,Act.put,List.setIfInBounds_toArray,List.set_cons_zero,List.set_cons_succ,Nat.reduceAdd,Nat.zero_add]
      ·clear c o k g;refine .inl ⟨by kernel_rfl,?_⟩;go_simp;exact⟨_,rfl,Fr.refl _ _,rfl,trivial⟩
      ·have ap:u 0=_:=c 0 (by kernel_rfl);clear c o k g;simp only[ap];refine .inl ⟨by kernel_rfl,?_⟩;go_simp;exact⟨_,rfl,Fr.refl _ _,rfl,trivial⟩
      ·have E:u 1=_:=c 1 (by kernel_rfl);clear c o k g;simp only[E];refine .inl ⟨by kernel_rfl,?_⟩;go_simp;exact⟨_,rfl,Fr.refl _ _,rfl,trivial⟩
      ·have H:u 2=_:=c 2 (by kernel_rfl);clear c o k g;simp only[H];refine .inl ⟨by kernel_rfl,?_⟩;have q:=p.aj (G.out.aj bb.out (fun x=>x)) (fun x=>x);go_simp;exact⟨_,rfl,Fr.refl _ _,rfl,trivial⟩
      ·clear c o k g;refine .inl ⟨by kernel_rfl,?_⟩;go_simp;exact⟨_,rfl,Fr.refl _ _,rfl,trivial⟩
      ·clear c o k g;refine .inl ⟨by kernel_rfl,?_⟩;go_simp;exact⟨_,rfl,Fr.refl _ _,rfl,trivial⟩
      ·have aT:u 5=_:=c 5 (by kernel_rfl);clear c o k g;simp only[aT];refine .inl ⟨by kernel_rfl,?_⟩;go_simp;exact⟨_,rfl,Fr.refl _ _,rfl,trivial⟩
      ·have aU:u 6=_:=c 6 (by kernel_rfl);clear c o k g;simp only[aU];refine .inl ⟨by kernel_rfl,?_⟩;go_simp;exact⟨_,rfl,Fr.refl _ _,rfl,trivial⟩
      ·have aV:u 7=_:=c 7 (by kernel_rfl);clear c o k g;simp only[aV];refine .inl ⟨by kernel_rfl,?_⟩;have q:=p.aj (G.out.aj aI.out (fun x=>x)) (fun x=>x);go_simp;exact⟨_,rfl,Fr.refl _ _,rfl,trivial⟩
      ·clear c o k g;refine .inl ⟨by kernel_rfl,?_⟩;exact ar _ _ rfl ⟨bd,0,none⟩ rfl nm.cells _ (fun j x ad=>by rw[Addr.add_mid,Nat.zero_add];exact(aR.out.fr p (fun x=>x)).cell j|>.trans (by rw[List.getElem?_toArray];exact ad)) Tryz.underlying106 rfl aX ⟨_,rfl,Fr.refl _ _,rfl,trivial⟩
      ·have aY:u 8=_:=c 8 (by kernel_rfl);have aZ:u 9=_:=c 9 (by kernel_rfl);clear c o k g;simp only[aY,aZ];refine .inl ⟨by kernel_rfl,?_⟩;go_simp;refine(bM.out _ nm bj.out (bw.out bI.out) (G.out.trans p)).mono ?_;rintro e aG⟨V,W,rfl,s,B,f4⟩;exact⟨_,rfl,f4.bA,⟨V,W,rfl,s,B⟩,trivial⟩
      ·have ah:u 3=_:=c 3 (by kernel_rfl);have av:u 4=_:=c 4 (by kernel_rfl);obtain⟨b1,t10,bo,bB,l10⟩:=c 10 (by kernel_rfl);clear c o k g;simp only[ah,av,bo];refine .inl ⟨by kernel_rfl,?_⟩;go_simp;refine(bf.out _ _ _ (G.out.trans p) bB l10).mono ?_;rintro e aG⟨V,W,rfl,s,B,f4⟩;exact⟨_,rfl,f4.bA,⟨V,W,rfl,s,B⟩,trivial⟩
      ·obtain⟨bn,t11,ao,aC,aB⟩:=c 11 (by kernel_rfl);clear c o k g;simp only[ao];refine .inl ⟨by kernel_rfl,?_⟩;go_simp;exact⟨_,rfl,Fr.refl _ _,⟨_,_,rfl,aC,aB⟩,trivial⟩
     ·intro u w' p c g;obtain⟨a12,t12,R,T,S⟩:=c 12 (by omega);clear c g;simp only[List.take_succ_cons,List.take_zero,List.map_cons,List.map_nil,an,Act.put,List.setIfInBounds_toArray,List.set_cons_zero,List.set_cons_succ,List.drop_succ_cons,List.drop_zero,Nat.reduceAdd,Nat.zero_add,R];have aK:=Lib.hid (G.out.trans p);have aN:=Lib.hid T;have Q:=Lib.hid S;clear p T R S;go_wp2;go_ret;refine⟨_,_,rfl,aN.out,?_,aK.out⟩;have b8:0<cp nm z:=by have h:=bI.out;rw[O.out]at h;exact h
      rw[Q.out,Tr.aW,sR _ _ (fun y ay=>ja (cq.trans _ _ _ (K.out.2.2.1 y ay) (lL b8))),cT,if_neg (by simp only;omega)]
    ·have t2:decide (0<L)=false:=decide_eq_false H;have bJ:Hid (nm=z):=cq.eq nm z (by have h:=O.out;omega);have bG:Hid (cT nm (Tr.node l z N r).aW=l.aW++r.aW):=by
      simp only[Hid];rw[Tr.aW,sR _ _ (fun y ay=>by rw[bJ.out];exact ja (K.out.2.2.1 y ay)),cT,bJ.out];simp only[cq.refl];rfl
     clear E H;cases r with
     |leaf=>
      obtain rfl:aE=none:=aO.out;have ci:=G.out.aj bb.out (fun x=>x);have bN:=G.out.aj aI.out (fun x=>x);go_wp2;go_ret;refine⟨_,l,rfl,bc.out.al G.out,?_,G.out⟩;rw[bG.out,Tr.aW,List.append_nil]
     |node X D Y rr=>
      have bN:=G.out.aj aI.out (fun x=>x);obtain⟨b6,cb,cc,bt,_,_,_⟩:=aO.out;subst bt;go_wp2;clear bN;go_loopw[6](fun i wr=>∃(b:Option Addr)(u ul ba:Tr)(A:aD)(U:ByteArray)(M:List Ent),i= .pointer b∧u= .node ul A U ba∧bO wr b u∧(Tr.node X D Y rr).aW=u.aW++M∧Fr af w wr)(fun i wr=>Dl wr i);case atStart=>exact⟨_,_,X,rr,D,Y,[],rfl,rfl,aO.out.al G.out,by simp,G.out⟩
      case round=>
       obtain⟨b,u,ul,ba,A,U,M,rfl,rfl,be,bP,a1⟩:=hrel;have bh:=Lib.hid (pR be);obtain⟨ae,bX,cl,rfl,a3,bv,aw⟩:=be;have aa:=Lib.hid a3;have bK:Hid (Mid wr ae A U):=Mid.of aw;have ck:wr.cell? ⟨ae,0,none⟩=some (.pointer bX):=aw.cell 0;have aM:=Lib.hid bP;have aF:=Lib.hid a1;clear a3 bv aw bP a1;cases ul with
       |leaf=>
        obtain rfl:bX=none:=aa.out;have P:Hid ((Tr.node X D Y rr).aW=(A,U)::(ba.aW++M)):=by simp only[Hid];rw[aM.out];simp[Tr.aW]
        have aJ:Hid (cT A (Tr.node X D Y rr).aW=ba.aW++M):=by simp only[Hid];rw[P.out,cT,if_pos (cq.refl _)]
        have bm:Hid (A.owner.size≤1099511627776):=Z.out.2.1 (A,U) (by rw[P.out];simp);have bl:Hid (∃v,(A,v)∈(Tr.node X D Y rr).aW):=⟨U,by rw[P.out];simp⟩;have aP:Hid (cG (cT A (Tr.node X D Y rr).aW)+U.size≤N.size+(Tr.node X D Y rr).bytes):=by
         simp only[Hid];rw[aJ.out,Tr.cP,P.out];simp only[cG,List.map_cons,List.sum_cons];omega
        go_upto_region 11 with fail;refine aA 16 af [Is (.pointer (some ⟨C,0,none⟩)),Is (.pointer (some ⟨C,0,none⟩)),Is (.pointer (some ⟨C,0,none⟩)),Is (.pointer am),Is (.pointer (some ⟨ae,0,none⟩)),Is (.pointer (some ⟨C,0,none⟩)),Is (.pointer (some ⟨C,0,none⟩)),Is (.pointer (some ⟨C,1,none⟩)),Is (.pointer (some ⟨b6,0,none⟩)),Is (.pointer (some ⟨ae,0,none⟩)),Is (.pointer (some ⟨ae,0,none⟩)),Is (.pointer (some ⟨ae,2,none⟩)),Is (.agg A.cells.toArray),(fun J I=>ju I J (cT A (Tr.node X D Y rr).aW)),(fun J I=>ju I J ((l.aW++(A,U)::cT A (Tr.node X D Y rr).aW))),(fun J I=>ju I J ((l.aW++(A,U)::cT A (Tr.node X D Y rr).aW)))] [] (fun _=>True) (fun _ _=>false) (by kernel_rfl) (by kernel_rfl) (by kernel_rfl) (by kernel_rfl) ⟨Is.ag _,Is.ag _,Is.ag _,Is.ag _,Is.ag _,Is.ag _,Is.ag _,Is.ag _,Is.ag _,Is.ag _,Is.ag _,Is.ag _,Is.ag _,fun v w1 w2 _ f h=>by obtain⟨a,t,e,s,B⟩:=h;exact⟨a,t,e,s.al f,B⟩,fun v w1 w2 _ f h=>by obtain⟨a,t,e,s,B⟩:=h;exact⟨a,t,e,s.al f,B⟩,fun v w1 w2 _ f h=>by obtain⟨a,t,e,s,B⟩:=h;exact⟨a,t,e,s.al f,B⟩,trivial⟩ trivial (fun _ _ _ _ h=>h) trivial ?_ ?_
        ·refine⟨fun u w' d p c o k g=>?_,fun u w' d p c o k g=>?_,fun u w' d p c o k g=>?_,fun u w' d p c o k g=>?_,fun u w' d p c o k g=>?_,fun u w' d p c o k g=>?_,fun u w' d p c o k g=>?_,fun u w' d p c o k g=>?_,fun u w' d p c o k g=>?_,fun u w' d p c o k g=>?_,fun u w' d p c o k g=>?_,fun u w' d p c o k g=>?_,fun u w' d p c o k g=>?_,fun u w' d p c o k g=>?_,fun u w' d p c o k g=>?_,fun u w' d p c o k g=>?_,trivial⟩;all_goals simp only[List.take_succ_cons,List.take_zero,List.map_cons,List.map_nil,an,Act.put,List.setIfInBounds_toArray,List.set_cons_zero,List.set_cons_succ,Nat.reduceAdd,Nat.zero_add]
         ·clear c o k g;refine .inl ⟨by kernel_rfl,?_⟩;go_simp;exact⟨_,rfl,Fr.refl _ _,rfl,trivial⟩
         ·have ap:u 0=_:=c 0 (by kernel_rfl);clear c o k g;simp only[ap];refine .inl ⟨by kernel_rfl,?_⟩;go_simp;exact⟨_,rfl,Fr.refl _ _,rfl,trivial⟩
         ·have E:u 1=_:=c 1 (by kernel_rfl);clear c o k g;simp only[E];refine .inl ⟨by kernel_rfl,?_⟩;go_simp;exact⟨_,rfl,Fr.refl _ _,rfl,trivial⟩
         ·have H:u 2=_:=c 2 (by kernel_rfl);clear c o k g;simp only[H];refine .inl ⟨by kernel_rfl,?_⟩;have q:=p.aj (aF.out.aj bb.out (fun x=>x)) (fun x=>x);go_simp;exact⟨_,rfl,Fr.refl _ _,rfl,trivial⟩
         ·clear c o k g;refine .inl ⟨by kernel_rfl,?_⟩;go_simp;exact⟨_,rfl,Fr.refl _ _,rfl,trivial⟩
         ·clear c o k g;refine .inl ⟨by kernel_rfl,?_⟩;go_simp;exact⟨_,rfl,Fr.refl _ _,rfl,trivial⟩
         ·have aT:u 5=_:=c 5 (by kernel_rfl);clear c o k g;simp only[aT];refine .inl ⟨by kernel_rfl,?_⟩;go_simp;exact⟨_,rfl,Fr.refl _ _,rfl,trivial⟩
         ·have aU:u 6=_:=c 6 (by kernel_rfl);clear c o k g;simp only[aU];refine .inl ⟨by kernel_rfl,?_⟩;go_simp;exact⟨_,rfl,Fr.refl _ _,rfl,trivial⟩
         ·have aV:u 7=_:=c 7 (by kernel_rfl);clear c o k g;simp only[aV];refine .inl ⟨by kernel_rfl,?_⟩;have q:=p.aj (aF.out.aj aI.out (fun x=>x)) (fun x=>x);go_simp;exact⟨_,rfl,Fr.refl _ _,rfl,trivial⟩
         ·clear c o k g;refine .inl ⟨by kernel_rfl,?_⟩;go_simp;exact⟨_,rfl,Fr.refl _ _,rfl,trivial⟩
         ·have aZ:u 9=_:=c 9 (by kernel_rfl);clear c o k g;simp only[aZ];refine .inl ⟨by kernel_rfl,?_⟩;go_simp;exact⟨_,rfl,Fr.refl _ _,rfl,trivial⟩
         ·have aq:u 10=_:=c 10 (by kernel_rfl);clear c o k g;simp only[aq];refine .inl ⟨by kernel_rfl,?_⟩;go_simp;exact⟨_,rfl,Fr.refl _ _,rfl,trivial⟩
         ·have br:u 11=_:=c 11 (by kernel_rfl);clear c o k g;simp only[br];refine .inl ⟨by kernel_rfl,?_⟩;exact ar _ _ rfl ⟨ae,2,none⟩ rfl A.cells _ (fun j x ad=>by rw[Addr.add_mid];exact p.aj (bK.out.name j x ad) (fun x=>x)) Tryz.underlying106 rfl aX ⟨_,rfl,Fr.refl _ _,rfl,trivial⟩
         ·have aY:u 8=_:=c 8 (by kernel_rfl);have bs:u 12=_:=c 12 (by kernel_rfl);clear c o k g;simp only[aY,bs];refine .inl ⟨by kernel_rfl,?_⟩;go_simp;refine(bM.out _ A bm.out bl.out (aF.out.trans p)).mono ?_;rintro e aG⟨V,W,rfl,s,B,f4⟩;exact⟨_,rfl,f4.bA,⟨V,W,rfl,s,B⟩,trivial⟩
         ·have ah:u 3=_:=c 3 (by kernel_rfl);have av:u 4=_:=c 4 (by kernel_rfl);obtain⟨b2,t13,bp,bC,bx⟩:=c 13 (by kernel_rfl);clear c o k g;simp only[ah,av,bp];refine .inl ⟨by kernel_rfl,?_⟩;go_simp;refine(bZ.out _ _ _ A ae U (aF.out.trans p) (bK.out.al p) (by have:=aP.out;omega) aP.out bC bx).mono ?_;rintro e aG⟨V,W,rfl,s,B,f4⟩;exact⟨_,rfl,f4.bA,⟨V,W,rfl,s,B⟩,trivial⟩
         ·obtain⟨b3,t14,bq,bD,bz⟩:=c 14 (by kernel_rfl);clear c o k g;simp only[bq];refine .inl ⟨by kernel_rfl,?_⟩;go_simp;exact⟨_,rfl,Fr.refl _ _,⟨_,_,rfl,bD,bz⟩,trivial⟩
        ·intro u w' p c g;obtain⟨b4,t15,aS,a9,a8⟩:=c 15 (by omega);clear c g;simp only[List.take_succ_cons,List.take_zero,List.map_cons,List.map_nil,an,Act.put,List.setIfInBounds_toArray,List.set_cons_zero,List.set_cons_succ,List.drop_succ_cons,List.drop_zero,Nat.reduceAdd,Nat.zero_add,aS];have aK:=Lib.hid (aF.out.trans p);have aN:=Lib.hid a9;have Q:=Lib.hid a8;clear p a9 aS a8;go_wp2;go_ret;refine⟨_,_,rfl,aN.out,?_,aK.out⟩;rw[Q.out,bG.out,aJ.out,P.out]
       |node cd bE cf ce=>
        obtain⟨cj,cg,ch,bu,_,_,_⟩:=aa.out;subst bu;go_wp2;go_roundw;case rel=>
         exact⟨_,_,cd,ce,bE,cf,(A,U)::ba.aW++M,rfl,rfl,aa.out,by rw[aM.out];simp[Tr.aW],aF.out⟩
        case measure=>
         rw[pR aa.out,bh.out];simp only[Tr.bQ];omega
end Go.Proofs.YtphjagkehiklkaaGreatDoor
namespace Go.Proofs.YtphjagkehiklkaaGreatDoor
open Go.RowKit
def Bk(ops:Array Oper)(n:Nat)(kill:Nat→Nat→Bool)(i j:Nat):Bool:=(List.range n).all fun k=>!kill k j||k==i||Region.waitsFor .any ops k i
def BF(ops:Array Oper)(n:Nat)(wr:Nat→Bool)(i:Nat):Bool:=(List.range n).all fun k=>!wr k||k==i||Region.waitsFor .any ops k i
def qO(kill:Nat→Bool)(u:Nat→Value)(w' a:World):Nat→List Fact→Prop
 |_,[]=>True
 |j,f::r=>(kill j=false→f.p (u j) w'→f.p (u j) a)∧qO kill u w' a (j+1) r
theorem qO.at_{kill:Nat→Bool}{u:Nat→Value}{w' a:World}:∀{V:List Fact}{k:Nat},qO kill u w' a k V→∀j,kill (k+j)=false→(V.getD j ke).p (u (k+j)) w'→(V.getD j ke).p (u (k+j)) a
 |[],_,_,_,_,_=>trivial
 |_::_,_,h,0,b,c=>h.1 b c
 |_::r,k,h,j+1,b,c=>by
  have e:k+(j+1)=k+1+j:=by omega
  rw[e]at b c⊢;exact qO.at_ (V:=r) h.2 j b c
def En(b:Bool)(T:Nat→Prop)(w:World)(S:World→Prop)(a:Act)(d:Option Tmp)(w':World)(p:Value→World→Prop)(e:Act)(c:World):Prop:=
 ∃v,e=a.put d v∧(match b with|true=>Fr T w c∧S c|false=>Fr af w' c)∧p v c
def pQ(P:Program)(ops:Array Oper)(Q:Exit→Act→World→Prop)(n:Nat)(T:Nat→Prop)(wr:Nat→Bool)(kill:Nat→Nat→Bool)(w:World)(F:(Nat→Value)→Act)(V:List Fact):Nat→List Oper→Prop
 |_,[]=>True
 |i,b::r=>(∀u w',Fr T w w'→(∀j,(_:Region.waitsFor .any ops i j=true:=by kernel_rfl)→(_:Bk ops n kill i j=true:=by kernel_rfl)→(V.getD j ke).p (u j) w')→((_:BF ops n wr i=true:=by kernel_rfl)→Fr af w w')→
   lT P ops Q b (F u) w' (En (wr i) T w (fun a=>qO (fun j=>kill i j||j==i||Region.waitsFor .any ops j i) u w' a 0 V) (F u) b.dst w' (V.getD i ke).p))∧pQ P ops Q n T wr kill w F V (i+1) r
theorem pQ.at_{P:Program}{ops:Array Oper}{Q:Exit→Act→World→Prop}{n:Nat}{T:Nat→Prop}{wr:Nat→Bool}{kill:Nat→Nat→Bool}{w:World}{F:(Nat→Value)→Act}{V:List Fact}:
  ∀{l:List Oper}{k:Nat},pQ P ops Q n T wr kill w F V k l→∀i d,l[i]? =some d→∀u w',Fr T w w'→(∀j,Region.waitsFor .any ops (k+i) j=true→Bk ops n kill (k+i) j=true→(V.getD j ke).p (u j) w')→(BF ops n wr (k+i)=true→Fr af w w')→
   lT P ops Q d (F u) w' (En (wr (k+i)) T w (fun b=>qO (fun j=>kill (k+i) j||j==(k+i)||Region.waitsFor .any ops j (k+i)) u w' b 0 V) (F u) d.dst w' (V.getD (k+i) ke).p)
 |[],_,_,_,_,h=>by simp at h
 |c::r,k,h,0,d,a=>by
  have:c=d:=by simpa using a
  subst this;exact h.1
 |c::r,k,h,i+1,d,a=>by
  have:=pQ.at_ h.2 i d (by simpa using a);rw[show k+1+i=k+(i+1)by omega]at this;exact this
theorem jJ{b:Bool}{p:Prop}(a:b=true:=by kernel_rfl):b=false→p:=fun h=>by rw[a]at h;cases h
structure Ig(w:World)(n:Nat)(T:Nat→Prop)(wr:Nat→Bool)(kill:Nat→Nat→Bool)(V:List Fact)(d:Nat→Bool)(u:Nat→Value)(w':World):Prop where
 fr:Fr T w w'
 quiet:(∀k,k<n→d k=true→wr k=false)→Fr af w w'
 facts:∀j,j<n→d j=true→(∀k,k<n→d k=true→kill k j=false)→(V.getD j ke).p (u j) w'
theorem xp{P:Program}{id:Nat}{Q:Exit→Act→World→Prop}{a:Act}{w:World}{l:List Oper}(n:Nat)(T:Nat→Prop)(wr:Nat→Bool)(kill:Nat→Nat→Bool)(V:List Fact)
  (aa:pQ P l.toArray Q n T wr kill w (fun u=>an ((l.take n).map (·.dst)) 0 u a) V 0 (l.take n))
  (N:∀u w',Fr T w w'→(∀j,j<n→(_:((List.range n).all fun k=>!kill k j)=true:=by kernel_rfl)→(V.getD j ke).p (u j) w')→wpList P l.toArray Q (l.drop n) (an ((l.take n).map (·.dst)) 0 u a) w')
  (hm:P.follows .mixedOrders=true:=by kernel_rfl)(Z:qw l.toArray n=true:=by kernel_rfl):(Code.region id l.toArray true).wp P Q a w:=by
 have ok:=qi.of Z;obtain⟨ae,O⟩:=fw ((l.take n).map (·.dst)) 0 a;refine wp_region_any hm ?_;have H:HeadInv .any l.toArray n (Array.replicate l.toArray.size false):=
  ⟨by simp,fun j ah _ U=>(by rw[getD_replicate_false]at U;cases U),fun t _ N=>getD_in (by simpa using N) (getD_replicate_false _ _)⟩;have X:bK (fun j=>!(Array.replicate l.toArray.size false).getD j false) n=n:=by
  have h:∀m,bK (fun j=>!(Array.replicate l.toArray.size false).getD j false) m=m:=by
   intro m;induction m with
   |zero=>rfl
   |succ m ad=>rw[bK,ad,getD_replicate_false];rfl
  exact h n
 have:=wU (P:=P) (Q:=Q) (a:=a) ok (Ig w n T wr kill V) ?_ ?_ n _ ae w.drew H X ⟨(Fr.refl _ _).drew,fun _=>(Fr.refl _ _).drew,fun j _ h=>(by rw[getD_replicate_false]at h;cases h)⟩;·rw[show(l.toArray.toList.take n).map (·.dst)=(l.take n).map (·.dst)by simp,O,show n+(l.toArray.size-n)=l.toArray.size by have:=ok.le;omega]at this;exact this
 ·intro i o A ab d u w' r c s y;have M:(l.take n)[i]? =some o:=by rw[List.getElem?_take,if_pos A];simpa using ab
  have F:=aa.at_ i o M u w' y.fr (fun j g S=>by
   rw[Nat.zero_add]at g S;refine y.facts j (s j g).2 (s j g).1 (fun k q f=>?_);have h:=List.all_eq_true.1 S k (List.mem_range.2 q);simp only[Bool.or_eq_true,Bool.not_eq_true',beq_iff_eq]at h;rcases h with(h|h)|h;·exact h
   ·subst h;rw[r]at f;cases f
   ·have:=c k i f h;rw[r]at this;cases this) (fun G=>by
   rw[Nat.zero_add]at G;refine y.quiet (fun k q f=>?_);have h:=List.all_eq_true.1 G k (List.mem_range.2 q);simp only[Bool.or_eq_true,Bool.not_eq_true',beq_iff_eq]at h;rcases h with(h|h)|h;·exact h
   ·subst h;rw[r]at f;cases f
   ·have:=c k i f h;rw[r]at this;cases this);rw[Nat.zero_add]at F;have E:(l.toArray.toList.take n).map (·.dst)=(l.take n).map (·.dst):=by simp
  rw[E];refine eE ?_ F;rintro ag af⟨v,rfl,b,W⟩;refine⟨v,rfl,?_⟩;have J:∀j,j≠i→da u i v j=u j:=fun j g=>by simp[da,g]
  have z:da u i v i=v:=by simp[da]
  have setne:∀j,j≠i→fA d i j=d j:=fun j g=>by simp[fA,g]
  have x:fA d i i=true:=by simp[fA]
  have I:∀j,j<n→j≠i→fA d i j=true→(∀k,k<n→fA d i k=true→kill k j=false)→(V.getD j ke).p (u j) w':=fun j g L f q=>
   y.facts j g (by rw[←setne j L];exact f) (fun k B K=>q k B (by
    by_cases e:k=i;·rw[e];exact x
    ·rw[setne k e];exact K));cases D:wr i
  ·rw[D]at b;refine⟨y.fr.trans (Fr.bA b),fun C=>(y.quiet (fun k q f=>C k q (by by_cases e:k=i<;>simp[fA,e,f]))).trans b,fun j g f q=>?_⟩;by_cases e:j=i;·subst e;rw[z];exact W
   ·rw[J j e];exact(V.getD j ke).st _ _ _ b (I j g e f q)
  ·rw[D]at b;obtain⟨Y,ac⟩:=b;refine⟨Y,fun C=>(by have:=C i A x;rw[D]at this;cases this),fun j g f q=>?_⟩;by_cases e:j=i;·subst e;rw[z];exact W
   ·rw[J j e];have:=ac.at_ j (by
     simp only[Nat.zero_add];rw[q i A x,Bool.false_or,Bool.or_eq_false_iff];refine⟨beq_eq_false_iff_ne.2 e,?_⟩;cases R:Region.waitsFor .any l.toArray j i;·rfl
     ·have:=c j i (by rw[←setne j e];exact f) R;rw[r]at this;cases this);rw[Nat.zero_add]at this;exact this (I j g e f q)
 ·intro d u w' f y;have:=N u w' y.fr (fun j g q=>y.facts j g (f j g) (fun k B _=>by
   have h:=List.all_eq_true.1 q k (List.mem_range.2 B);simpa using h));simpa using this
end Go.Proofs.YtphjagkehiklkaaGreatDoor
namespace Go.Proofs.YtphjagkehiklkaaGreatDoor
open Go.RowKit
def ay:Array Value:=Array.replicate 32 (.int .u8 0)
def aQ:Value:= .agg ay
theorem Hn(w:World):(zeroValue 37).run Tryz.prog w= .ok aQ w:=by kernel_rfl
theorem Bt:(Tryz.prog.info? 37).map (·.size)=some 32:=by kernel_rfl
def kT(V:cm)(k:Nat):List UInt8:=(dk V).take k++List.replicate (32-k) 0
theorem wE(V:cm)(k:Nat)(h:k≤32):(kT V k).length=32:=by
 simp[kT,gU];omega
theorem od(V:cm)(k:Nat)(x:UInt8)(h:k<32)(c:(dk V)[k]? =some x):((kT V k).map aU).set k (aU x)=(kT V (k+1)).map aU:=by
 rw[←List.map_set];congr 1;have a:((dk V).take k).length=k:=by simp[gU];omega
 unfold kT;rw[List.set_append_right _ _ (by omega),a,Nat.sub_self,show 32-k=(32-(k+1))+1 by omega,List.replicate_succ,List.set_cons_zero];have b:(dk V).take (k+1)=(dk V).take k++[x]:=by
  rw[List.take_add_one,c];rfl
 rw[b];simp
theorem EK(V:cm):kT V 32=dk V:=by
 unfold kT;rw[List.take_of_length_le (by rw[gU];exact Nat.le_refl _)];simp
theorem r7(V:cm)(q r:Nat)(b:q<8)(c:r<4):(dk V)[4*q+r]? =some (gm (ev V q/2^(24-8*r))):=by
 have a:r=0∨r=1∨r=2∨r=3:=by omega
 rcases rZ b with rfl|rfl|rfl|rfl|rfl|rfl|rfl|rfl<;>rcases a with rfl|rfl|rfl|rfl<;>simp[dk,dx,ev]
theorem zM(V:cm):((kT V 0).map aU).toArray=ay:=by
 unfold kT ay;rw[List.take_zero,List.nil_append,List.map_replicate,List.toArray_replicate];rfl
theorem kg(l:List UInt8):(l.map aU).toArray.all (·.oneCell')=true:=by
 rw[Array.all_eq_true_iff_forall_mem];intro v a;simp only[List.mem_toArray,List.mem_map]at a;obtain⟨x,_,rfl⟩:=a;rfl
theorem GY(V:cm)(h:V.ok)(q:Nat):ev V q<4294967296:=by
 unfold ev;split;·exact h.a
 ·exact h.b
 ·exact h.c
 ·exact h.d
 ·exact h.e
 ·exact h.f
 ·exact h.g
 ·exact h.h
end Go.Proofs.YtphjagkehiklkaaGreatDoor
