/- Texts. -/
import Derived.Test.YtphjagkehiklkaaGreatDoorWK14
set_option linter.unusedVariables false
set_option linter.unusedSimpArgs false
set_option maxRecDepth 100000
set_option maxHeartbeats 8000000
namespace Go.Proofs.YtphjagkehiklkaaGreatDoor
open Go.RowKit Go.Shelf
theorem yv(t:Tr):∀(nm:aK)(a:Option Addr)(w:World),nm.owner.size≤1099511627776→(∃v,(nm,v)∈t.bC)→cE w a t→fF t.bC→jA t.bC→t.size≤1048575→t.bytes≤1099511627776→
  Calls Tryz.prog 162 #[.pointer a, .agg nm.cells.toArray] w (Balanced w (dz nm t.bC)):=by
 induction t with
 |leaf=>
  intro nm a w _ h;obtain⟨v,h⟩:=h;cases h
 |node l s N r a6 a7=>
  intro nm a w ac ak bf b1 b0 b4 b2;have a3:l.size+r.size+1≤1048575:=by simp only[Tr.size]at b4;omega
  have a1:N.size+l.bytes+r.bytes≤1099511627776:=by simp only[Tr.bytes]at b2;omega
  have K:=af (fF.parts b1);have Z:=af (jA.parts b0);have aO:=af ak;obtain⟨C,am,ra,rfl,B,b3,ab⟩:=bf;have bd:=af B;have aR:=af b3;have bj:Hid (Mid w C s N):=Mid.of ab;have bc:Hid (w.cell? ⟨C,0,none⟩=some (.pointer am)):=ab.cell 0;have aL:Hid (w.cell? ⟨C,1,none⟩=some (.pointer ra)):=ab.cell 1;have bO:Hid (∀w',Calls Tryz.prog 128 #[.agg nm.cells.toArray, .agg s.cells.toArray] w' (aJ w' (.int .i64 (cT nm s)))):=fun w'=>gN nm s w' ac Z.out.2.2;obtain⟨L,ax⟩:∃L,L=cT nm s:=⟨_,rfl⟩;rw[←ax]at bO;have O:=af ax;have a8:Hid (L<0→∃v,(nm,v)∈l.bC):=fun h=>by
   obtain⟨v,F⟩:=aO.out;rw[O.out]at h;simp only[Tr.bC,List.mem_append,List.mem_cons]at F;rcases F with F|F|F;·exact⟨v,F⟩
   ·simp only[Prod.mk.injEq]at F;rw[F.1,cU.refl]at h;omega
   ·have H:=K.out.2.2.2 _ F;have ai:=cU.lS nm s;simp only at H;omega
  have bx:Hid (0<L→∃v,(nm,v)∈r.bC):=fun h=>by
   obtain⟨v,F⟩:=aO.out;rw[O.out]at h;simp only[Tr.bC,List.mem_append,List.mem_cons]at F;rcases F with F|F|F;·have H:=K.out.2.2.1 _ F;simp only at H;omega
   ·simp only[Prod.mk.injEq]at F;rw[F.1,cU.refl]at h;omega
   ·exact⟨v,F⟩
  have b8:Hid (∀w',L<0→Fr ag w w'→Calls Tryz.prog 162 #[.pointer am, .agg nm.cells.toArray] w' (Balanced w' (dz nm l.bC))):=fun w' cf f=>a6 nm am w' ac (a8.out cf) (bd.out.ar f) K.out.1 Z.out.1 (by omega) (by omega);have bX:Hid (∀w' n,n.owner.size≤1099511627776→(∃v,(n,v)∈r.bC)→Fr ag w w'→Calls Tryz.prog 162 #[.pointer ra, .agg n.cells.toArray] w' (Balanced w' (dz n r.bC))):=fun w' n p hm f=>a7 n ra w' p hm (aR.out.ar f) K.out.2.1 Z.out.2.1 (by omega) (by omega);have b6:Hid (∀w' b u,Fr ag w w'→cE w' b u→u.bC=dz nm l.bC→Calls Tryz.prog 177 #[.pointer b, .pointer (some ⟨C,0,none⟩), .pointer ra] w' (Balanced w' (dz nm l.bC++(s,N)::r.bC))):=fun w' b u f p e=>by
   have E:=lg (nm:=nm) l.bC;rw[Tr.cM,←Tr.dx]at E;exact j4 p (aR.out.ar f) (bj.out.ar f) e rfl (by rw[Tr.cM];omega) (by rw[←Tr.dx];omega)
  have b7:Hid (∀w' b u n m v,Fr ag w w'→Mid w' m n v→v.size≤N.size+r.bytes→dm (dz n r.bC)+v.size≤N.size+r.bytes→cE w' b u→u.bC=dz n r.bC→Calls Tryz.prog 177 #[.pointer am, .pointer (some ⟨m,0,none⟩), .pointer b] w' (Balanced w' (l.bC++(n,v)::dz n r.bC))):=fun w' b u n m v f hm _ F p e=>by
   have E:=lg (nm:=n) r.bC;rw[Tr.cM,←Tr.dx]at E;exact j4 (bd.out.ar f) p hm rfl e (by rw[Tr.cM];omega) (by rw[←Tr.dx];omega)
  have bk:=af ac;have bl:=af a3;have bh:=af a1;clear B b3 ab b1 b0 b4 b2 a3 a1 ax a6 a7 ak ac;go_enter Tryz.func162,Tryz.ntmps162;go_wp2_with(refine aA rfl 106 (.tmp 1) rfl nm.cells.toArray rfl ?_);intro w1 n1;have bS:=af n1.fr;have aT:=af n1.aH;clear n1;generalize w.heap.size=be at*;have bW:Hid (aq w1 be 106 nm.cells.toArray):=aT.out;clear aT;go_upto_region 1 with fail;refine aC 7 ag [Is (.agg nm.cells.toArray),Is (.pointer (some ⟨C,0,none⟩)),Is (.pointer (some ⟨C,0,none⟩)),Is (.pointer (some ⟨C,2,none⟩)),Is (.agg s.cells.toArray),Is (.int .i64 L),Is (.int .i64 L)] [] (fun _=>True) (fun _ _=>false) (by kernel_rfl) (by kernel_rfl) (by kernel_rfl) (by kernel_rfl) ⟨Is.ah _,Is.ah _,Is.ah _,Is.ah _,Is.ah _,Is.ah _,Is.ah _,trivial⟩ trivial (fun _ _ _ _ h=>h) trivial ?_ ?_
  ·refine⟨?_,?_,?_,?_,?_,?_,?_,trivial⟩;all_goals intro u w' d A c o k g
   all_goals simp only[bH,bI,bJ,bK,ay,Act.put,bL,bM,bN,Nat.reduceAdd,Nat.zero_add]
   ·clear c o k g;refine aj ?_;exact az _ _ rfl ⟨be,0,none⟩ rfl nm.cells _ (fun j x ad=>by rw[Addr.add_mid,Nat.zero_add];exact(bW.out.fr A (fun x=>x)).cell j|>.trans (by rw[bR];exact ad)) Tryz.underlying106 rfl bD ⟨_,rfl,al⟩
   ·clear c o k g;refine aj ?_;go_simp;exact⟨_,rfl,al⟩
   ·have E:u 1=_:=c 1;clear c o k g;simp only[E];refine aj ?_;go_simp;exact⟨_,rfl,al⟩
   ·have H:u 2=_:=c 2;clear c o k g;simp only[H];refine aj ?_;go_simp;exact⟨_,rfl,al⟩
   ·have ai:u 3=_:=c 3;clear c o k g;simp only[ai];refine aj ?_;exact az _ _ rfl ⟨C,2,none⟩ rfl s.cells _ (fun j x ad=>by rw[Addr.add_mid];exact(bS.out.trans A).an (bj.out.name j x ad) (fun x=>x)) Tryz.underlying106 rfl bD ⟨_,rfl,al⟩
   ·have ap:u 0=_:=c 0;have av:u 4=_:=c 4;clear c o k g;simp only[ap,av];refine aj ?_;go_simp;refine(bO.out _).mono ?_;rintro e aI⟨rfl,f4⟩;exact⟨_,rfl,f4.bP,rfl,trivial⟩
   ·have aW:u 5=_:=c 5;clear c o k g;simp only[aW];refine aj ?_;go_simp;exact⟨_,rfl,al⟩
  ·intro u w' A c g;have k6:u 6=_:=c 6 (by omega);clear c g;simp only[bH,bI,bJ,bK,ay,Act.put,bL,bM,bN,dD,dE,Nat.reduceAdd,Nat.zero_add,k6];have G:=af (bS.out.trans A);have aU:=af (bW.out.fr A (fun x=>x));clear A k6;by_cases E:L<0
   ·have t1:decide (L<0)=true:=decide_eq_true E;have H1:=af E;clear E;go_upto_region 3 with fail;refine aC 13 ag [Is (.pointer (some ⟨C,0,none⟩)),Is (.pointer (some ⟨C,0,none⟩)),Is (.pointer (some ⟨C,0,none⟩)),Is (.pointer am),Is (.agg nm.cells.toArray),(fun J I=>jY I J (dz nm l.bC)),Is (.pointer (some ⟨C,0,none⟩)),Is (.pointer (some ⟨C,0,none⟩)),Is (.pointer (some ⟨C,0,none⟩)),Is (.pointer (some ⟨C,1,none⟩)),Is (.pointer ra),(fun J I=>jY I J ((dz nm l.bC++(s,N)::r.bC))),(fun J I=>jY I J ((dz nm l.bC++(s,N)::r.bC)))] [] (fun _=>True) (fun _ _=>false) (by kernel_rfl) (by kernel_rfl) (by kernel_rfl) (by kernel_rfl) ⟨Is.ah _,Is.ah _,Is.ah _,Is.ah _,Is.ah _,fun v w1 w2 _ f h=>by obtain⟨a,t,e,p,B⟩:=h;exact⟨a,t,e,p.ar f,B⟩,Is.ah _,Is.ah _,Is.ah _,Is.ah _,Is.ah _,fun v w1 w2 _ f h=>by obtain⟨a,t,e,p,B⟩:=h;exact⟨a,t,e,p.ar f,B⟩,fun v w1 w2 _ f h=>by obtain⟨a,t,e,p,B⟩:=h;exact⟨a,t,e,p.ar f,B⟩,trivial⟩ trivial (fun _ _ _ _ h=>h) trivial ?_ ?_
    ·refine⟨?_,?_,?_,?_,?_,?_,?_,?_,?_,?_,?_,?_,?_,trivial⟩;all_goals intro u w' d A c o k g
     all_goals simp only[bH,bI,bJ,bK,ay,Act.put,bL,bM,bN,Nat.reduceAdd,Nat.zero_add]
     ·clear c o k g;refine aj ?_;go_simp;exact⟨_,rfl,al⟩
     ·have ap:u 0=_:=c 0;clear c o k g;simp only[ap];refine aj ?_;go_simp;exact⟨_,rfl,al⟩
     ·have E:u 1=_:=c 1;clear c o k g;simp only[E];refine aj ?_;go_simp;exact⟨_,rfl,al⟩
     ·have H:u 2=_:=c 2;clear c o k g;simp only[H];refine aj ?_;have q:=A.an (G.out.an bc.out (fun x=>x)) (fun x=>x);go_simp;exact⟨_,rfl,al⟩
     ·clear c o k g;refine aj ?_;exact az _ _ rfl ⟨be,0,none⟩ rfl nm.cells _ (fun j x ad=>by rw[Addr.add_mid,Nat.zero_add];exact(aU.out.fr A (fun x=>x)).cell j|>.trans (by rw[bR];exact ad)) Tryz.underlying106 rfl bD ⟨_,rfl,al⟩
     ·have ai:u 3=_:=c 3;have av:u 4=_:=c 4;clear c o k g;simp only[ai,av];refine aj ?_;go_simp;refine(b8.out _ H1.out (G.out.trans A)).mono ?_;rintro e aI⟨V,W,rfl,p,B,f4⟩;exact⟨_,rfl,f4.bP,⟨V,W,rfl,p,B⟩,trivial⟩
     ·clear c o k g;refine aj ?_;go_simp;exact⟨_,rfl,al⟩
     ·clear c o k g;refine aj ?_;go_simp;exact⟨_,rfl,al⟩
     ·have aY:u 7=_:=c 7;clear c o k g;simp only[aY];refine aj ?_;go_simp;exact⟨_,rfl,al⟩
     ·have aZ:u 8=_:=c 8;clear c o k g;simp only[aZ];refine aj ?_;go_simp;exact⟨_,rfl,al⟩
     ·have a0:u 9=_:=c 9;clear c o k g;simp only[a0];refine aj ?_;have q:=A.an (G.out.an aL.out (fun x=>x)) (fun x=>x);go_simp;exact⟨_,rfl,al⟩
     ·obtain⟨a5,t5,cd,ci,ch⟩:=c 5;have aX:u 6=_:=c 6;have au:u 10=_:=c 10;clear c o k g;simp only[cd,aX,au];refine aj ?_;go_simp;refine(b6.out _ _ _ (G.out.trans A) ci ch).mono ?_;rintro e aI⟨V,W,rfl,p,B,f4⟩;exact⟨_,rfl,f4.bP,⟨V,W,rfl,p,B⟩,trivial⟩
     ·obtain⟨bo,t11,ao,aF,aE⟩:=c 11;clear c o k g;simp only[ao];refine aj ?_;go_simp;exact⟨_,rfl,aD,⟨_,_,rfl,aF,aE⟩,trivial⟩
    ·intro u w' A c g;obtain⟨a12,t12,R,T,S⟩:=c 12 (by omega);clear c g;simp only[bH,bI,bJ,bK,ay,Act.put,bL,bM,bN,dD,dE,Nat.reduceAdd,Nat.zero_add,R];have aN:=af (G.out.trans A);have aQ:=af T;have Q:=af S;clear A T R S;go_wp2;go_ret;refine⟨_,_,rfl,aQ.out,?_,aN.out⟩;have p:cT nm s<0:=by have h:=H1.out;rw[O.out]at h;exact h
     rw[Q.out,Tr.bC,zi _ _ (fun y aB=>?_) (a8.out H1.out)];rcases List.mem_cons.1 aB with rfl|aB;·exact p
     ·exact cU.trans _ _ _ p (K.out.2.2.2 y aB)
   ·have t1:decide (L<0)=false:=decide_eq_false E;by_cases H:0<L
    ·have t2:decide (0<L)=true:=decide_eq_true H;have bT:=af H;have bg:Hid (∀w' b u,Fr ag w w'→cE w' b u→u.bC=dz nm r.bC→Calls Tryz.prog 177 #[.pointer am, .pointer (some ⟨C,0,none⟩), .pointer b] w' (Balanced w' (l.bC++(s,N)::dz nm r.bC))):=fun w' b u f p e=>by
      have E:=lg (nm:=nm) r.bC;rw[Tr.cM,←Tr.dx]at E;exact j4 (bd.out.ar f) p (bj.out.ar f) rfl e (by have h:=bl.out;rw[Tr.cM];omega) (by have h:=bh.out;rw[←Tr.dx];omega)
     clear E H;go_upto_region 5 with fail;refine aC 13 ag [Is (.pointer (some ⟨C,0,none⟩)),Is (.pointer (some ⟨C,0,none⟩)),Is (.pointer (some ⟨C,0,none⟩)),Is (.pointer am),Is (.pointer (some ⟨C,0,none⟩)),Is (.pointer (some ⟨C,0,none⟩)),Is (.pointer (some ⟨C,0,none⟩)),Is (.pointer (some ⟨C,1,none⟩)),Is (.pointer ra),Is (.agg nm.cells.toArray),(fun J I=>jY I J (dz nm r.bC)),(fun J I=>jY I J ((l.bC++(s,N)::dz nm r.bC))),(fun J I=>jY I J ((l.bC++(s,N)::dz nm r.bC)))] [] (fun _=>True) (fun _ _=>false) (by kernel_rfl) (by kernel_rfl) (by kernel_rfl) (by kernel_rfl) ⟨Is.ah _,Is.ah _,Is.ah _,Is.ah _,Is.ah _,Is.ah _,Is.ah _,Is.ah _,Is.ah _,Is.ah _,fun v w1 w2 _ f h=>by obtain⟨a,t,e,p,B⟩:=h;exact⟨a,t,e,p.ar f,B⟩,fun v w1 w2 _ f h=>by obtain⟨a,t,e,p,B⟩:=h;exact⟨a,t,e,p.ar f,B⟩,fun v w1 w2 _ f h=>by obtain⟨a,t,e,p,B⟩:=h;exact⟨a,t,e,p.ar f,B⟩,trivial⟩ trivial (fun _ _ _ _ h=>h) trivial ?_ ?_
     ·refine⟨?_,?_,?_,?_,?_,?_,?_,?_,?_,?_,?_,?_,?_,trivial⟩;all_goals intro u w' d A c o k g
      all_goals simp only[bH,bI,bJ,bK,ay,Act.put,bL,bM,bN,Nat.reduceAdd,Nat.zero_add]
      ·clear c o k g;refine aj ?_;go_simp;exact⟨_,rfl,al⟩
      ·have ap:u 0=_:=c 0;clear c o k g;simp only[ap];refine aj ?_;go_simp;exact⟨_,rfl,al⟩
      ·have E:u 1=_:=c 1;clear c o k g;simp only[E];refine aj ?_;go_simp;exact⟨_,rfl,al⟩
      ·have H:u 2=_:=c 2;clear c o k g;simp only[H];refine aj ?_;have q:=A.an (G.out.an bc.out (fun x=>x)) (fun x=>x);go_simp;exact⟨_,rfl,al⟩
      ·clear c o k g;refine aj ?_;go_simp;exact⟨_,rfl,al⟩
      ·clear c o k g;refine aj ?_;go_simp;exact⟨_,rfl,al⟩
      ·have aW:u 5=_:=c 5;clear c o k g;simp only[aW];refine aj ?_;go_simp;exact⟨_,rfl,al⟩
      ·have aX:u 6=_:=c 6;clear c o k g;simp only[aX];refine aj ?_;go_simp;exact⟨_,rfl,al⟩
      ·have aY:u 7=_:=c 7;clear c o k g;simp only[aY];refine aj ?_;have q:=A.an (G.out.an aL.out (fun x=>x)) (fun x=>x);go_simp;exact⟨_,rfl,al⟩
      ·clear c o k g;refine aj ?_;exact az _ _ rfl ⟨be,0,none⟩ rfl nm.cells _ (fun j x ad=>by rw[Addr.add_mid,Nat.zero_add];exact(aU.out.fr A (fun x=>x)).cell j|>.trans (by rw[bR];exact ad)) Tryz.underlying106 rfl bD ⟨_,rfl,al⟩
      ·have aZ:u 8=_:=c 8;have a0:u 9=_:=c 9;clear c o k g;simp only[aZ,a0];refine aj ?_;go_simp;refine(bX.out _ nm bk.out (bx.out bT.out) (G.out.trans A)).mono ?_;rintro e aI⟨V,W,rfl,p,B,f4⟩;exact⟨_,rfl,f4.bP,⟨V,W,rfl,p,B⟩,trivial⟩
      ·have ai:u 3=_:=c 3;have av:u 4=_:=c 4;obtain⟨b9,t10,bp,bB,l10⟩:=c 10;clear c o k g;simp only[ai,av,bp];refine aj ?_;go_simp;refine(bg.out _ _ _ (G.out.trans A) bB l10).mono ?_;rintro e aI⟨V,W,rfl,p,B,f4⟩;exact⟨_,rfl,f4.bP,⟨V,W,rfl,p,B⟩,trivial⟩
      ·obtain⟨bo,t11,ao,aF,aE⟩:=c 11;clear c o k g;simp only[ao];refine aj ?_;go_simp;exact⟨_,rfl,aD,⟨_,_,rfl,aF,aE⟩,trivial⟩
     ·intro u w' A c g;obtain⟨a12,t12,R,T,S⟩:=c 12 (by omega);clear c g;simp only[bH,bI,bJ,bK,ay,Act.put,bL,bM,bN,dD,dE,Nat.reduceAdd,Nat.zero_add,R];have aN:=af (G.out.trans A);have aQ:=af T;have Q:=af S;clear A T R S;go_wp2;go_ret;refine⟨_,_,rfl,aQ.out,?_,aN.out⟩;have cg:0<cT nm s:=by have h:=bT.out;rw[O.out]at h;exact h
      rw[Q.out,Tr.bC,uc _ _ (fun y aB=>jG (cU.trans _ _ _ (K.out.2.2.1 y aB) (mI cg))),dz,if_neg (by simp only;omega)]
    ·have t2:decide (0<L)=false:=decide_eq_false H;have bU:Hid (nm=s):=cU.eq nm s (by have h:=O.out;omega);have bQ:Hid (dz nm (Tr.node l s N r).bC=l.bC++r.bC):=by
      simp only[Hid];rw[Tr.bC,uc _ _ (fun y aB=>by rw[bU.out];exact jG (K.out.2.2.1 y aB)),dz,bU.out];simp only[cU.refl];rfl
     clear E H;cases r with
     |leaf=>
      obtain rfl:ra=none:=aR.out;have cq:=G.out.an bc.out (fun x=>x);have bY:=G.out.an aL.out (fun x=>x);go_wp2;go_ret;refine⟨_,l,rfl,bd.out.ar G.out,?_,G.out⟩;rw[bQ.out,Tr.bC,List.append_nil]
     |node X D Y rr=>
      have bY:=G.out.an aL.out (fun x=>x);obtain⟨ce,cj,ck,bu,_,_,_⟩:=aR.out;subst bu;go_wp2;clear bY;go_loopw[6](fun i wr=>∃(b:Option Addr)(u ul bb:Tr)(z:aK)(U:ByteArray)(M:List Ent),i= .pointer b∧u= .node ul z U bb∧cE wr b u∧(Tr.node X D Y rr).bC=u.bC++M∧Fr ag w wr)(fun i wr=>ES wr i);case atStart=>exact⟨_,_,X,rr,D,Y,[],rfl,rfl,aR.out.ar G.out,by simp,G.out⟩
      case round=>
       obtain⟨b,u,ul,bb,z,U,M,rfl,rfl,bf,bZ,a2⟩:=hrel;have bi:=af (qR bf);obtain⟨ae,b5,ct,rfl,a4,bw,aw⟩:=bf;have aa:=af a4;have bV:Hid (Mid wr ae z U):=Mid.of aw;have cs:wr.cell? ⟨ae,0,none⟩=some (.pointer b5):=aw.cell 0;have aP:=af bZ;have aG:=af a2;clear a4 bw aw bZ a2;cases ul with
       |leaf=>
        obtain rfl:b5=none:=aa.out;have P:Hid ((Tr.node X D Y rr).bC=(z,U)::(bb.bC++M)):=by simp only[Hid];rw[aP.out];simp[Tr.bC]
        have aM:Hid (dz z (Tr.node X D Y rr).bC=bb.bC++M):=by simp only[Hid];rw[P.out,dz,if_pos (cU.refl _)]
        have bn:Hid (z.owner.size≤1099511627776):=Z.out.2.1 (z,U) (by rw[P.out];simp);have bm:Hid (∃v,(z,v)∈(Tr.node X D Y rr).bC):=⟨U,by rw[P.out];simp⟩;have aS:Hid (dm (dz z (Tr.node X D Y rr).bC)+U.size≤N.size+(Tr.node X D Y rr).bytes):=by
         simp only[Hid];rw[aM.out,Tr.dx,P.out];simp only[dm,List.map_cons,List.sum_cons];omega
        go_upto_region 11 with fail;refine aC 16 ag [Is (.pointer (some ⟨C,0,none⟩)),Is (.pointer (some ⟨C,0,none⟩)),Is (.pointer (some ⟨C,0,none⟩)),Is (.pointer am),Is (.pointer (some ⟨ae,0,none⟩)),Is (.pointer (some ⟨C,0,none⟩)),Is (.pointer (some ⟨C,0,none⟩)),Is (.pointer (some ⟨C,1,none⟩)),Is (.pointer (some ⟨ce,0,none⟩)),Is (.pointer (some ⟨ae,0,none⟩)),Is (.pointer (some ⟨ae,0,none⟩)),Is (.pointer (some ⟨ae,2,none⟩)),Is (.agg z.cells.toArray),(fun J I=>jY I J (dz z (Tr.node X D Y rr).bC)),(fun J I=>jY I J ((l.bC++(z,U)::dz z (Tr.node X D Y rr).bC))),(fun J I=>jY I J ((l.bC++(z,U)::dz z (Tr.node X D Y rr).bC)))] [] (fun _=>True) (fun _ _=>false) (by kernel_rfl) (by kernel_rfl) (by kernel_rfl) (by kernel_rfl) ⟨Is.ah _,Is.ah _,Is.ah _,Is.ah _,Is.ah _,Is.ah _,Is.ah _,Is.ah _,Is.ah _,Is.ah _,Is.ah _,Is.ah _,Is.ah _,fun v w1 w2 _ f h=>by obtain⟨a,t,e,p,B⟩:=h;exact⟨a,t,e,p.ar f,B⟩,fun v w1 w2 _ f h=>by obtain⟨a,t,e,p,B⟩:=h;exact⟨a,t,e,p.ar f,B⟩,fun v w1 w2 _ f h=>by obtain⟨a,t,e,p,B⟩:=h;exact⟨a,t,e,p.ar f,B⟩,trivial⟩ trivial (fun _ _ _ _ h=>h) trivial ?_ ?_
        ·refine⟨?_,?_,?_,?_,?_,?_,?_,?_,?_,?_,?_,?_,?_,?_,?_,?_,trivial⟩;all_goals intro u w' d A c o k g
         all_goals simp only[bH,bI,bJ,bK,ay,Act.put,bL,bM,bN,Nat.reduceAdd,Nat.zero_add]
         ·clear c o k g;refine aj ?_;go_simp;exact⟨_,rfl,al⟩
         ·have ap:u 0=_:=c 0;clear c o k g;simp only[ap];refine aj ?_;go_simp;exact⟨_,rfl,al⟩
         ·have E:u 1=_:=c 1;clear c o k g;simp only[E];refine aj ?_;go_simp;exact⟨_,rfl,al⟩
         ·have H:u 2=_:=c 2;clear c o k g;simp only[H];refine aj ?_;have q:=A.an (aG.out.an bc.out (fun x=>x)) (fun x=>x);go_simp;exact⟨_,rfl,al⟩
         ·clear c o k g;refine aj ?_;go_simp;exact⟨_,rfl,al⟩
         ·clear c o k g;refine aj ?_;go_simp;exact⟨_,rfl,al⟩
         ·have aW:u 5=_:=c 5;clear c o k g;simp only[aW];refine aj ?_;go_simp;exact⟨_,rfl,al⟩
         ·have aX:u 6=_:=c 6;clear c o k g;simp only[aX];refine aj ?_;go_simp;exact⟨_,rfl,al⟩
         ·have aY:u 7=_:=c 7;clear c o k g;simp only[aY];refine aj ?_;have q:=A.an (aG.out.an aL.out (fun x=>x)) (fun x=>x);go_simp;exact⟨_,rfl,al⟩
         ·clear c o k g;refine aj ?_;go_simp;exact⟨_,rfl,al⟩
         ·have a0:u 9=_:=c 9;clear c o k g;simp only[a0];refine aj ?_;go_simp;exact⟨_,rfl,al⟩
         ·have au:u 10=_:=c 10;clear c o k g;simp only[au];refine aj ?_;go_simp;exact⟨_,rfl,al⟩
         ·have bs:u 11=_:=c 11;clear c o k g;simp only[bs];refine aj ?_;exact az _ _ rfl ⟨ae,2,none⟩ rfl z.cells _ (fun j x ad=>by rw[Addr.add_mid];exact A.an (bV.out.name j x ad) (fun x=>x)) Tryz.underlying106 rfl bD ⟨_,rfl,al⟩
         ·have aZ:u 8=_:=c 8;have bt:u 12=_:=c 12;clear c o k g;simp only[aZ,bt];refine aj ?_;go_simp;refine(bX.out _ z bn.out bm.out (aG.out.trans A)).mono ?_;rintro e aI⟨V,W,rfl,p,B,f4⟩;exact⟨_,rfl,f4.bP,⟨V,W,rfl,p,B⟩,trivial⟩
         ·have ai:u 3=_:=c 3;have av:u 4=_:=c 4;obtain⟨ca,t13,bq,bE,bz⟩:=c 13;clear c o k g;simp only[ai,av,bq];refine aj ?_;go_simp;refine(b7.out _ _ _ z ae U (aG.out.trans A) (bV.out.ar A) (by have:=aS.out;omega) aS.out bE bz).mono ?_;rintro e aI⟨V,W,rfl,p,B,f4⟩;exact⟨_,rfl,f4.bP,⟨V,W,rfl,p,B⟩,trivial⟩
         ·obtain⟨cb,t14,br,bF,bA⟩:=c 14;clear c o k g;simp only[br];refine aj ?_;go_simp;exact⟨_,rfl,aD,⟨_,_,rfl,bF,bA⟩,trivial⟩
        ·intro u w' A c g;obtain⟨cc,t15,aV,ba,a9⟩:=c 15 (by omega);clear c g;simp only[bH,bI,bJ,bK,ay,Act.put,bL,bM,bN,dD,dE,Nat.reduceAdd,Nat.zero_add,aV];have aN:=af (aG.out.trans A);have aQ:=af ba;have Q:=af a9;clear A ba aV a9;go_wp2;go_ret;refine⟨_,_,rfl,aQ.out,?_,aN.out⟩;rw[Q.out,bQ.out,aM.out,P.out]
       |node cl bG cn cm=>
        obtain⟨cr,co,cp,bv,_,_,_⟩:=aa.out;subst bv;go_wp2;go_roundw;case rel=>
         exact⟨_,_,cl,cm,bG,cn,(z,U)::bb.bC++M,rfl,rfl,aa.out,by rw[aP.out];simp[Tr.bC],aG.out⟩
        case measure=>
         rw[qR aa.out,bi.out];simp only[Tr.cG];omega
end Go.Proofs.YtphjagkehiklkaaGreatDoor
namespace Go.Proofs.YtphjagkehiklkaaGreatDoor
open Go.RowKit
def Dt(ops:Array Oper)(n:Nat)(kill:Nat→Nat→Bool)(i j:Nat):Bool:=(List.range n).all fun k=>!kill k j||k==i||Region.waitsFor .any ops k i
def DK(ops:Array Oper)(n:Nat)(wr:Nat→Bool)(i:Nat):Bool:=(List.range n).all fun k=>!wr k||k==i||Region.waitsFor .any ops k i
def rZ(kill:Nat→Bool)(u:Nat→Value)(w' a:World):Nat→List Fact→Prop
 |_,[]=>True
 |j,f::r=>(kill j=false→f.p (u j) w'→f.p (u j) a)∧rZ kill u w' a (j+1) r
theorem rZ.at_{kill:Nat→Bool}{u:Nat→Value}{w' a:World}:∀{V:List Fact}{k:Nat},rZ kill u w' a k V→∀j,kill (k+j)=false→(V.getD j kX).p (u (k+j)) w'→(V.getD j kX).p (u (k+j)) a
 |[],_,_,_,_,_=>trivial
 |_::_,_,h,0,b,c=>h.1 b c
 |_::r,k,h,j+1,b,c=>by
  have e:k+(j+1)=k+1+j:=by omega
  rw[e]at b c⊢;exact rZ.at_ (V:=r) h.2 j b c
def Gq(b:Bool)(T:Nat→Prop)(w:World)(S:World→Prop)(a:Act)(d:Option Tmp)(w':World)(p:Value→World→Prop)(e:Act)(c:World):Prop:=
 ∃v,e=a.put d v∧(match b with|true=>Fr T w c∧S c|false=>Fr ag w' c)∧p v c
def qQ(P:Program)(ops:Array Oper)(Q:Exit→Act→World→Prop)(n:Nat)(T:Nat→Prop)(wr:Nat→Bool)(kill:Nat→Nat→Bool)(w:World)(F:(Nat→Value)→Act)(V:List Fact):Nat→List Oper→Prop
 |_,[]=>True
 |i,b::r=>(∀u w',Fr T w w'→(∀j,(_:Region.waitsFor .any ops i j=true:=by kernel_rfl)→(_:Dt ops n kill i j=true:=by kernel_rfl)→(V.getD j kX).p (u j) w')→((_:DK ops n wr i=true:=by kernel_rfl)→Fr ag w w')→
   mT P ops Q b (F u) w' (Gq (wr i) T w (fun a=>rZ (fun j=>kill i j||j==i||Region.waitsFor .any ops j i) u w' a 0 V) (F u) b.dst w' (V.getD i kX).p))∧qQ P ops Q n T wr kill w F V (i+1) r
theorem qQ.at_{P:Program}{ops:Array Oper}{Q:Exit→Act→World→Prop}{n:Nat}{T:Nat→Prop}{wr:Nat→Bool}{kill:Nat→Nat→Bool}{w:World}{F:(Nat→Value)→Act}{V:List Fact}:
  ∀{l:List Oper}{k:Nat},qQ P ops Q n T wr kill w F V k l→∀i d,l[i]? =some d→∀u w',Fr T w w'→(∀j,Region.waitsFor .any ops (k+i) j=true→Dt ops n kill (k+i) j=true→(V.getD j kX).p (u j) w')→(DK ops n wr (k+i)=true→Fr ag w w')→
   mT P ops Q d (F u) w' (Gq (wr (k+i)) T w (fun b=>rZ (fun j=>kill (k+i) j||j==(k+i)||Region.waitsFor .any ops j (k+i)) u w' b 0 V) (F u) d.dst w' (V.getD (k+i) kX).p)
 |[],_,_,_,_,h=>by simp at h
 |c::r,k,h,0,d,a=>by
  have:c=d:=by simpa using a
  subst this;exact h.1
 |c::r,k,h,i+1,d,a=>by
  have:=qQ.at_ h.2 i d (by simpa using a);rw[show k+1+i=k+(i+1)by omega]at this;exact this
theorem mP{b:Bool}{p:Prop}(a:b=true:=by kernel_rfl):b=false→p:=fun h=>by rw[a]at h;cases h
structure JT(w:World)(n:Nat)(T:Nat→Prop)(wr:Nat→Bool)(kill:Nat→Nat→Bool)(V:List Fact)(d:Nat→Bool)(u:Nat→Value)(w':World):Prop where
 fr:Fr T w w'
 quiet:(∀k,k<n→d k=true→wr k=false)→Fr ag w w'
 facts:∀j,j<n→d j=true→(∀k,k<n→d k=true→kill k j=false)→(V.getD j kX).p (u j) w'
theorem Df{P:Program}{id:Nat}{Q:Exit→Act→World→Prop}{a:Act}{w:World}{l:List Oper}(n:Nat)(T:Nat→Prop)(wr:Nat→Bool)(kill:Nat→Nat→Bool)(V:List Fact)
  (aa:qQ P l.toArray Q n T wr kill w (fun u=>ay ((l.take n).map (·.dst)) 0 u a) V 0 (l.take n))
  (N:∀u w',Fr T w w'→(∀j,j<n→(_:((List.range n).all fun k=>!kill k j)=true:=by kernel_rfl)→(V.getD j kX).p (u j) w')→wpList P l.toArray Q (l.drop n) (ay ((l.take n).map (·.dst)) 0 u a) w')
  (hm:P.follows .mixedOrders=true:=by kernel_rfl)(Z:rH l.toArray n=true:=by kernel_rfl):(Code.region id l.toArray true).wp P Q a w:=by
 have ok:=ru.of Z;obtain⟨ae,O⟩:=gA ((l.take n).map (·.dst)) 0 a;refine wp_region_any hm ?_;have H:HeadInv .any l.toArray n (Array.replicate l.toArray.size false):=
  ⟨by simp,fun j ah _ U=>(by rw[getD_replicate_false]at U;cases U),fun t _ N=>getD_in (by simpa using N) (getD_replicate_false _ _)⟩;have X:cu (fun j=>!(Array.replicate l.toArray.size false).getD j false) n=n:=by
  have h:∀m,cu (fun j=>!(Array.replicate l.toArray.size false).getD j false) m=m:=by
   intro m;induction m with
   |zero=>rfl
   |succ m ad=>rw[cu,ad,getD_replicate_false];rfl
  exact h n
 have:=x8 (P:=P) (Q:=Q) (a:=a) ok (JT w n T wr kill V) ?_ ?_ n _ ae w.drew H X ⟨aD.drew,fun _=>aD.drew,fun j _ h=>(by rw[getD_replicate_false]at h;cases h)⟩;·rw[show(l.toArray.toList.take n).map (·.dst)=(l.take n).map (·.dst)by simp,O,show n+(l.toArray.size-n)=l.toArray.size by have:=ok.le;omega]at this;exact this
 ·intro i o A ab d u w' r c s y;have M:(l.take n)[i]? =some o:=by rw[List.getElem?_take,if_pos A];simpa using ab
  have F:=aa.at_ i o M u w' y.fr (fun j g S=>by
   rw[Nat.zero_add]at g S;refine y.facts j (s j g).2 (s j g).1 (fun k q f=>?_);have h:=List.all_eq_true.1 S k (List.mem_range.2 q);simp only[Bool.or_eq_true,Bool.not_eq_true',beq_iff_eq]at h;rcases h with(h|h)|h;·exact h
   ·subst h;rw[r]at f;cases f
   ·have:=c k i f h;rw[r]at this;cases this) (fun G=>by
   rw[Nat.zero_add]at G;refine y.quiet (fun k q f=>?_);have h:=List.all_eq_true.1 G k (List.mem_range.2 q);simp only[Bool.or_eq_true,Bool.not_eq_true',beq_iff_eq]at h;rcases h with(h|h)|h;·exact h
   ·subst h;rw[r]at f;cases f
   ·have:=c k i f h;rw[r]at this;cases this);rw[Nat.zero_add]at F;have E:(l.toArray.toList.take n).map (·.dst)=(l.take n).map (·.dst):=by simp
  rw[E];refine fI ?_ F;rintro ag af⟨v,rfl,b,W⟩;refine⟨v,rfl,?_⟩;have J:∀j,j≠i→dJ u i v j=u j:=fun j g=>by simp[dJ,g]
  have z:dJ u i v i=v:=by simp[dJ]
  have setne:∀j,j≠i→gB d i j=d j:=fun j g=>by simp[gB,g]
  have x:gB d i i=true:=by simp[gB]
  have I:∀j,j<n→j≠i→gB d i j=true→(∀k,k<n→gB d i k=true→kill k j=false)→(V.getD j kX).p (u j) w':=fun j g L f q=>
   y.facts j g (by rw[←setne j L];exact f) (fun k B K=>q k B (by
    by_cases e:k=i;·rw[e];exact x
    ·rw[setne k e];exact K));cases D:wr i
  ·rw[D]at b;refine⟨y.fr.trans (Fr.bP b),fun C=>(y.quiet (fun k q f=>C k q (by by_cases e:k=i<;>simp[gB,e,f]))).trans b,fun j g f q=>?_⟩;by_cases e:j=i;·subst e;rw[z];exact W
   ·rw[J j e];exact(V.getD j kX).st _ _ _ b (I j g e f q)
  ·rw[D]at b;obtain⟨Y,ac⟩:=b;refine⟨Y,fun C=>(by have:=C i A x;rw[D]at this;cases this),fun j g f q=>?_⟩;by_cases e:j=i;·subst e;rw[z];exact W
   ·rw[J j e];have:=ac.at_ j (by
     simp only[Nat.zero_add];rw[q i A x,Bool.false_or,Bool.or_eq_false_iff];refine⟨ku e,?_⟩;cases R:Region.waitsFor .any l.toArray j i;·rfl
     ·have:=c j i (by rw[←setne j e];exact f) R;rw[r]at this;cases this);rw[Nat.zero_add]at this;exact this (I j g e f q)
 ·intro d u w' f y;have:=N u w' y.fr (fun j g q=>y.facts j g (f j g) (fun k B _=>by
   have h:=List.all_eq_true.1 q k (List.mem_range.2 B);simpa using h));simpa using this
end Go.Proofs.YtphjagkehiklkaaGreatDoor
