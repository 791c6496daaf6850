/- Texts. -/
import Derived.Test.YtphjagkehiklkaaGreatDoorUK35
import Derived.Test.YtphjagkehiklkaaGreatDoorUK40
set_option linter.unusedVariables false
set_option linter.unusedSimpArgs false
set_option maxRecDepth 100000
set_option maxHeartbeats 8000000
namespace Go.Proofs.YtphjagkehiklkaaGreatDoor
open Go.RowKit Go.Shelf
theorem oP(i n:Int)(bG:Nat)(bs:Option Addr)(b0:Nat)(w:World)(cA:sB w bs bG)(bE:dy w)(bD:bp w):
  Calls Tryz.prog 3 #[.slice bs bG b0, .int .i64 i, .int .i64 n] w (pE w):=by
 have cp:=Lib.hid (tj w bE bD);have co:Hid (∀w',Fr af w w'→Calls Tryz.prog 14 #[.slice none 0 0, .slice bs bG b0] w' (pt w')):=fun w' f=>zT 0 [] none 0 (fun _=>True) bG bs b0 w' ⟨Rd.none_,rfl⟩ (by decide) (by decide) (cA.al f) (bE.al f) (bD.al f);have bz:=Lib.hid bE;have bx:=Lib.hid bD;clear cA bE bD;go_enter Tryz.func3,Tryz.ntmps3;go_wp2_with fail;refine cp.out.mono ?_;rintro e w1⟨rfl,f1⟩;have bN:=Lib.hid f1;clear f1 cp;go_wp2_with fail;refine(co.out _ bN.out).mono ?_;rintro e w2⟨h,b,ms,E,L,T,rfl,cz,cB,aS,g,_,f2⟩;obtain⟨A,nl,c,rfl,b6,cO,cN,cK,av,bk⟩:=id cB;have cq:=Lib.hid (bN.out.trans f2);have cr:=Lib.hid cz;have F:=Lib.hid g;have S:Hid (nl=L.length∧nl≤16):=by have:=g.len;exact⟨b6,by omega⟩
 have aJ:Hid (∀j,j<L.length→∃P s a,A=some P∧L[j]? =some a∧ck w2 s a∧s.length=6∧∀i x,s[i]? =some x→w2.cell? ((P.add (j*6)).add i)=some x):=fun j cP=>rY av bk b6 cP;have cI:Hid ([Value.pointer (some ⟨b,0,none⟩), .slice A nl c].toArray.all (·.oneCell')=true):=by simp[Hid,Value.oneCell']
 clear f2 cz cB aS g b6 cO cN av bk co bN;go_wp2_with(refine ai rfl 28 rfl (.agg qU.toArray) Gf #[.pointer none, .slice none 0 0] rfl ?_);intro cj bq;have aK:=Lib.hid bq;clear bq;generalize bn:w2.heap.size=g8 at*;have be:=Lib.hid bn;clear bn;have a7:Hid (ak cj g8 28 #[.pointer none, .slice none 0 0]):=by have h:=aK.out.az;rw[be.out]at h;exact h
 go_wp2_with(refine ah rfl 28 (.tmp 8) _ rfl g8 [Value.pointer (some ⟨b,0,none⟩), .slice A nl c].toArray rfl rfl _ _ a7.out ia rfl cI.out ?_);intro cD b3 f3;have bt:=Lib.hid b3;have f23:Fr af w2 cD:=aK.out.fr.ao f3 (fun i bF e=>by have bB:i=g8:=e;have:=be.out;omega);have aY:=Lib.hid (cq.out.trans f23);have aF:=Lib.hid f23;have bw:=Lib.hid (cr.out.al f23);clear b3 f3 f23 aK a7 cr cq;go_wp2_with fail;refine(qX h E L T i n _ bw.out (bz.out.al aY.out) (bx.out.al aY.out) (by have:=S.out;omega) F.out.ok (fun a b4=>(F.out.small a b4).sz)).mono ?_;rintro e O(⟨ap,rfl,f4⟩|⟨k,m,a,v,rfl,rfl,aV,aW,H,rfl,aS⟩)
 ·have ad:=Lib.hid (aY.out.trans f4);have y:=Lib.hid (bt.out.fr f4 (fun x=>x));have bd:=Lib.hid ap;clear f4 ap bw aY bt aF aJ;have aM:Hid (bS.toArray.all (·.oneCell')=true):=jD;go_wp2_with(refine ai rfl 33 rfl (.agg bS.toArray) Ca bS.toArray rfl ?_);intro cl nb;have aL:=Lib.hid nb;clear nb;generalize M:O.heap.size=g9 at*;have D:=Lib.hid M;clear M;have a8:Hid (ak cl g9 33 bS.toArray):=by have h:=aL.out.az;rw[D.out]at h;exact h
  go_wp2_with(refine ah rfl 33 (.tmp 9) _ rfl g9 bS.toArray rfl rfl _ _ a8.out gg rfl aM.out ?_);intro ax b5 f5;have B:Hid (ak ax g9 33 #[.int .i64 0, .int .i64 0, .string ByteArray.empty, .slice none 0 0]):=b5;have f45:Fr af O ax:=aL.out.fr.ao f5 (fun i bF e=>by have bB:i=g9:=e;have:=D.out;omega);have bv:=Lib.hid (ad.out.trans f45);have z:=Lib.hid (y.out.fr f45 (fun x=>x));clear b5 f5 f45 aL a8 ad y;have m1:ax.cell? ⟨g8,1,none⟩=some (.slice A nl c):=z.out.cell 1;have cW:ax.cell? ⟨g9,2,none⟩=some (.string ByteArray.empty):=B.out.cell 2;have cX:ax.cell? ⟨g9,3,none⟩=some (.slice none 0 0):=B.out.cell 3;by_cases aN:n<0;·have t1:decide (n<0)=true:=decide_eq_true aN;clear aN;go_wp2;go_ret;exact⟨rfl,bv.out⟩
  have t1:decide (n<0)=false:=decide_eq_false aN;by_cases bC:(nl:Int)<n;·have t2:decide ((nl:Int)<n)=true:=decide_eq_true bC;clear aN;go_wp2;go_ret;exact⟨rfl,bv.out⟩
  have t2:decide ((nl:Int)<n)=false:=decide_eq_false bC;by_cases cw:i<0;·have t3:decide (i<0)=true:=decide_eq_true cw;clear aN;go_wp2;go_ret;exact⟨rfl,bv.out⟩
  have t3:decide (i<0)=false:=decide_eq_false cw;have cM:n≤i:=by have:=bd.out;have:=S.out;omega
  have t4:decide (n≤i)=true:=decide_eq_true cM;go_wp2;go_ret;exact⟨rfl,bv.out⟩
 ·have p:Hid (k<m∧m≤nl∧k<nl):=by have:=S.out;exact⟨aV,by omega,by omega⟩
  have bO:=Lib.hid H;obtain⟨aX,G⟩:∃aX,cL E (L.take m)=aX:=⟨_,rfl⟩;have aP:aX.length=m+1:=by rw[←G,je,List.length_take,Nat.min_eq_left aW]
  have aO:∀d∈aX,d.length=32:=by rw[←G];exact mu _ _
  have l:=Lib.hid (BQ E L F.out aV aW H);rw[G]at l aS;obtain⟨am,Y⟩:∃am,Lt.cg aX (k+1)=am:=⟨_,rfl⟩;rw[Y]at l aS;have bi:∀d∈am,d.length=32:=by rw[←Y];exact Lt.rG (m+1) _ _ aP (by have:=S.out;omega) aO
  have b2:am.length≤5:=by rw[←Y];exact Lt.iF 5 _ _ (by have:=S.out;omega) (by have:=S.out;omega)
  obtain⟨X,Z⟩:∃X,Lt.eX aX=X:=⟨_,rfl⟩;rw[Z]at l;have I:X.length=32:=by rw[←Z];exact Lt.jr (m+1) _ aP (by have:=S.out;omega) aO
  obtain⟨N,aa⟩:∃N:ByteArray,⟨(bY a).toArray⟩=N:=⟨_,rfl⟩;have o:=List.mem_of_getElem? H;have U:Hid (aC N=bY a∧N.size≤16777216):=by
   rw[Hid,←aa];exact⟨yT _,by have:=(F.out.small a o).len;simp only[ByteArray.size,List.size_toArray];omega⟩
  obtain⟨bI,b1,rfl,cx,_,_,_⟩:=Lt.eF.ts aS rfl bi;have f4:Fr af cD O:=aS.al;have ad:=Lib.hid (aY.out.trans f4);have Q:=Lib.hid (aF.out.trans f4);have ct:=Lib.hid (bw.out.al f4);have y:=Lib.hid (bt.out.fr f4 (fun x=>x));have aE:Hid (∀w',Fr af O w'→Calls Tryz.prog 17 #[.agg (X.map aU).toArray, .agg [Value.int .i64 (k:Int), .int .i64 (m:Int), .string N, .slice bI am.length b1].toArray] w' (fun e br=>∃cs,e= .returned (.tuple #[.agg cs.toArray, .int .i64 0])∧ck br cs a∧Fr af w' br)):=fun w' f=>by
   refine(lV X I k m N am am.length bI b1 _ w' (cx.al f) (by omega) (bz.out.al (ad.out.trans f)) (bx.out.al (ad.out.trans f)) U.out.2).mono ?_;rintro e w2⟨cs,cS,cT,rfl,b4,f2,bl,aN,_⟩;rw[U.out.1,l.out]at bl;subst bl;have:=aN rfl;rw[U.out.1,(F.out.small a o).dec (F.out.ok a o)]at this;obtain rfl:=Option.some.inj this;exact⟨cs,rfl,b4,f2⟩
  have ba:Hid (∀w',Fr af O w'→Calls Tryz.prog 16 #[.pointer (some ⟨h,0,none⟩), .int .i64 (m:Int)] w' (aH w' (.tuple #[.agg (X.map aU).toArray, .int .i64 0]))):=fun w' f=>by
   have q:=sv h E L T m w' (ct.out.al f) (bx.out.al (ad.out.trans f)) (by have:=S.out;omega);have e:pw E L m= .tuple #[.agg (X.map aU).toArray, .int .i64 0]:=by
    unfold pw;rw[if_pos (by omega),Int.toNat_natCast,G,Z];rfl
   rw[e]at q;exact q
  obtain⟨P,s,cJ,rfl,bh,aT,bj,J⟩:=aJ.out k (by have:=S.out;omega);obtain rfl:a=cJ:=Option.some.inj (H.symm.trans bh);have a9:Hid (∀w',Fr af O w'→Calls Tryz.prog 18 #[.agg s.toArray] w' (aH w' (.tuple #[.string N, .int .i64 0]))):=fun w' f=>by
   have q:=nT a s w' (bz.out.al (ad.out.trans f)) (aT.al (Q.out.trans f)) (F.out.small a o).sz;unfold jA at q;rw[if_pos (F.out.ok a o),aa]at q;exact q
  have bL:Hid (∀w' ds,ck w' ds a→Fr af O w'→Calls Tryz.prog 19 #[.agg ds.toArray, .agg s.toArray] w' (aH w' (.bool true))):=fun w' ds bC f=>by
   have q:=kJ a a ds s w' bC (aT.al (Q.out.trans f)) (by have:=(F.out.small a o).nr;omega) (by have:=(F.out.small a o).nw;omega);rw[(pO a a).2 rfl]at q;exact q
  have bf:Hid ((Tryz.prog.info? 46).map (·.size)=some s.length):=by rw[Hid,bj];exact bm
  have bg:Hid (∀w',Fr af O w'→∀j x,s[j]? =some x→w'.cell? ((P.add (k*6)).add j)=some x):=fun w' f j x bo=>(Q.out.trans f).aj (J j x bo) (fun x=>x);have bu:Hid (Lt.cy (X.map aU).toArray):=Lt.cy.of I;rw[aa];generalize X.map aU=bA at*;clear aS cx f4 o aa Z Y G aP aO bi b2 I H bh aT bj J l U aJ bw aY bt aF Q aV aW bO ct bz bx F;obtain⟨V,r⟩:∃V,[Value.int .i64 (k:Int), .int .i64 (m:Int), .string N, .slice bI am.length b1]=V:=⟨_,rfl⟩;have aM:Hid (V.toArray.all (·.oneCell')=true):=by rw[Hid,←r];simp[Value.oneCell']
  have bR:Hid ((Tryz.prog.info? 33).map (·.size)=some V.toArray.size):=by rw[Hid,←r];exact gg
  have bT:Hid ((Tryz.prog.info? 33).map (·.size)=some V.length):=by rw[Hid,←r];exact gg
  have bZ:Hid (bS.toArray.size=V.toArray.size):=by rw[Hid,←r];rfl
  have bM:=Lib.hid r;rw[r]at aE⊢;clear r;go_wp2_with(refine ai rfl 33 rfl (.agg bS.toArray) Ca bS.toArray rfl ?_);intro cl nb;have aL:=Lib.hid nb;clear nb;generalize M:O.heap.size=g9 at*;have D:=Lib.hid M;clear M;have a8:Hid (ak cl g9 33 bS.toArray):=by have h:=aL.out.az;rw[D.out]at h;exact h
  go_wp2_with(refine ah rfl 33 (.tmp 9) _ rfl g9 V.toArray rfl rfl _ _ a8.out bR.out bZ.out aM.out ?_);intro ax b5 f5;have B:=Lib.hid b5;have f45:Fr af O ax:=aL.out.fr.ao f5 (fun i bF e=>by have bB:i=g9:=e;have:=D.out;omega);have aG:=Lib.hid f45;have z:=Lib.hid (y.out.fr f45 (fun x=>x));clear b5 f5 f45 aL a8 y;have m1:ax.cell? ⟨g8,1,none⟩=some (.slice (some P) nl c):=z.out.cell 1;have t1:decide ((m:Int)<0)=false:=decide_eq_false (by omega);have t2:decide ((nl:Int)<(m:Int))=false:=decide_eq_false (by have:=p.out;omega);have t3:decide ((k:Int)<0)=false:=decide_eq_false (by omega);have t4:decide ((m:Int)≤(k:Int))=false:=decide_eq_false (by have:=p.out;omega);have ca:¬(m:Int)<0:=by omega
  have cb:¬(nl:Int)<(m:Int):=by have:=p.out;omega
  have cc:¬nl<m:=by have:=p.out;omega
  have cd:¬(k:Int)<0:=by omega
  have ce:¬(m:Int)≤(k:Int):=by have:=p.out;omega
  have cf:¬m≤k:=by have:=p.out;omega
  go_wp2_with fail;refine(ba.out _ aG.out).mono ?_;rintro e cE⟨rfl,f6⟩;have bb:=Lib.hid (aG.out.trans f6);have a1:=Lib.hid (z.out.fr f6 (fun x=>x));have a4:=Lib.hid (B.out.fr f6 (fun x=>x));clear f6 m1 t1 t2 t3 t4 ca cb cc cd ce cf ba z B aG;go_wp2_with(refine ai rfl 38 rfl aQ fW ay rfl ?_);intro cj bq;have aK:=Lib.hid bq;clear bq;generalize aq:cE.heap.size=g11 at*;have ae:=Lib.hid aq;clear aq;have a7:Hid (ak cj g11 38 ay):=by have h:=aK.out.az;rw[ae.out]at h;exact h
  go_wp2_with(refine ah rfl 38 (.tmp 11) _ rfl g11 bA.toArray rfl rfl _ _ a7.out bu.out.info bu.out.zero bu.out.one ?_);intro ci b7 f7;have ab:=Lib.hid b7;have f67:Fr af cE ci:=aK.out.fr.ao f7 (fun i bF e=>by have bB:i=g11:=e;have:=ae.out;omega);have aI:=Lib.hid (bb.out.trans f67);have a2:=Lib.hid (a1.out.fr f67 (fun x=>x));have aD:=Lib.hid (a4.out.fr f67 (fun x=>x));clear b7 f7 f67 aK a7 bb a1 a4;have cv:Hid (∀j x,bA[j]? =some x→ci.cell? ((⟨g11,0,none⟩:Addr).add j)=some x):=fun j x bo=>by rw[Addr.add_mid,Nat.zero_add,ab.out.cell j,List.getElem?_toArray];exact bo
  have cu:Hid (∀j x,V[j]? =some x→ci.cell? ((⟨g9,0,none⟩:Addr).add j)=some x):=fun j x bo=>by rw[Addr.add_mid,Nat.zero_add,aD.out.cell j,List.getElem?_toArray];exact bo
  have bU:Hid ((Tryz.prog.info? 38).map (·.size)=some bA.length):=by have q:=bu.out.info;rw[List.size_toArray]at q;exact q
  go_wp2_with(refine aw rfl 38 (.tmp 11) rfl ⟨g11,0,none⟩ rfl bA _ ?yJ Tryz.underlying38 rfl bU.out (aR.go ?yM));case yJ=>exact cv.out
  unfold aR;go_wp2_with(refine aw rfl 33 (.tmp 9) rfl ⟨g9,0,none⟩ rfl V _ ?yH Tryz.underlying33 rfl bT.out (aR.go ?yK));case yH=>exact cu.out
  unfold aR;go_wp2_with fail;refine(aE.out _ aI.out).mono ?_;rintro e cF⟨ds,rfl,t,f8⟩;have bc:=Lib.hid (aI.out.trans f8);have cm:=Lib.hid t;have a3:=Lib.hid (a2.out.fr f8 (fun x=>x));have a5:=Lib.hid (aD.out.fr f8 (fun x=>x));have bQ:Hid ((Tryz.prog.info? 46).map (·.size)=some ds.toArray.size):=by rw[Hid,List.size_toArray,t.len];exact bm
  have bP:Hid ((Tryz.prog.info? 46).map (·.size)=some ds.length):=by rw[Hid,t.len];exact bm
  have bX:Hid (6=ds.toArray.size):=by rw[Hid,List.size_toArray,t.len]
  have bW:=Lib.hid (ActV.one t);clear t f8 aE cv cu ab a2 aD aI;go_wp2_with(refine ai rfl 46 rfl dU jN #[.int .i64 0, .int .i64 0, .int .i64 0, .string ByteArray.empty, .slice none 0 0, .slice none 0 0] rfl ?_);intro wd cC;have bV:=Lib.hid cC;clear cC;generalize au:cF.heap.size=g13 at*;have ag:=Lib.hid au;clear au;have cn:Hid (ak wd g13 46 #[.int .i64 0, .int .i64 0, .int .i64 0, .string ByteArray.empty, .slice none 0 0, .slice none 0 0]):=by have h:=bV.out.az;rw[ag.out]at h;exact h
  go_wp2_with(refine ah rfl 46 (.tmp 13) _ rfl g13 ds.toArray rfl rfl _ _ cn.out bQ.out bX.out bW.out ?_);intro cG b9 f9;have ac:=Lib.hid b9;have f89:Fr af cF cG:=bV.out.fr.ao f9 (fun i bF e=>by have bB:i=g13:=e;have:=ag.out;omega);have R:=Lib.hid (bc.out.trans f89);have aZ:=Lib.hid (cm.out.al f89);have aA:=Lib.hid (a3.out.fr f89 (fun x=>x));have a6:=Lib.hid (a5.out.fr f89 (fun x=>x));clear b9 f9 f89 bV cn cm a3 a5 bc;have m1:cG.cell? ⟨g8,1,none⟩=some (.slice (some P) nl c):=aA.out.cell 1;have i1:(k:Int)<(nl:Int):=by have:=p.out;omega
  have i2:(0:Int)≤(k:Int):=by omega
  go_wp2_with(refine aw rfl 46 (.tmp 78) rfl (P.add (k*6)) rfl s _ ?yI Tryz.underlying46 rfl bf.out (aR.go ?yL));case yI=>exact bg.out _ R.out
  unfold aR;go_wp2_with fail;refine(a9.out _ R.out).mono ?_;rintro e ch⟨rfl,f10⟩;have C:=Lib.hid (R.out.trans f10);have bH:=Lib.hid (aZ.out.al f10);have bJ:=Lib.hid (aA.out.fr f10 (fun x=>x));have bK:=Lib.hid (a6.out.fr f10 (fun x=>x));have a0:=Lib.hid (ac.out.fr f10 (fun x=>x));clear f10 m1 a9 R aZ aA a6 ac;have b8:Hid (∀W,Fr af ch W→W.cell? ⟨g9,0,none⟩=some (.int .i64 (k:Int))∧W.cell? ⟨g9,1,none⟩=some (.int .i64 (m:Int))∧W.cell? ⟨g9,2,none⟩=some (.string N)):=fun W f=>by
   have q:=bK.out.fr f (fun x=>x);rw[←bM.out]at q;exact⟨q.cell 0,q.cell 1,q.cell 2⟩
  go_upto_region 10 with fail;refine iP 42 [.int .i64 0, .bool true, .bool true, .int .i64 0, .bool true, .bool true, .bool true, .int .i64 0, .bool true, .bool true, .bool true, .int .i64 0, .bool true, .bool true, .bool true, .agg ds.toArray, .pointer (some ⟨g8,1,none⟩), .slice (some P) nl c, .int .i64 (k:Int), .pointer (some (P.add (k*6))), .agg s.toArray, .bool true, .bool true, .bool true, .pointer (some ⟨g9,0,none⟩), .int .i64 (k:Int), .int .i64 (k:Int), .bool true, .bool true, .bool true, .pointer (some ⟨g9,1,none⟩), .int .i64 (m:Int), .int .i64 (m:Int), .bool true, .bool true, .bool true, .pointer (some ⟨g9,2,none⟩), .string N, .string N, .bool true, .bool true, .bool true] ?yN ?_;case yN=>
   refine⟨?yY,?yO,?yP,?yQ,?yR,?yS,?yU,?yV,?yW,?yX,?zA,?zB,?zC,?zD,?zE,?zF,?zG,?zH,?zI,?zJ,?zK,?zL,?zM,?zN,?zO,?zP,?zQ,?zR,?zS,?zU,?zV,?zW,?zX,?zY,?zZ,?yA,?yB,?yC,?yD,?yE,?yF,?yG,trivial⟩;all_goals intro u w' K g
   all_goals simp only[z1,z2,z3,z4,an,Act.put,z5,z6,z7,Nat.reduceAdd,Nat.zero_add]
   case yO=>
    simp only[show u 0=_ from g 0];refine aB ?_;go_simp;exact⟨rfl,Fr.refl _ _⟩
   case' yP=>simp only[show u 1=_ from g 1]
   case' yQ=>simp only[show u 2=_ from g 2]
   case yR=>
    simp only[show u 3=_ from g 3,show u 2=_ from g 2];refine aB ?_;go_simp;exact⟨rfl,Fr.refl _ _⟩
   case' yS=>simp only[show u 2=_ from g 2,show u 4=_ from g 4]
   case' yU=>simp only[show u 5=_ from g 5]
   case' yV=>simp only[show u 6=_ from g 6]
   case yW=>
    simp only[show u 7=_ from g 7,show u 6=_ from g 6];refine aB ?_;go_simp;exact⟨rfl,Fr.refl _ _⟩
   case' yX=>simp only[show u 6=_ from g 6,show u 8=_ from g 8]
   case' zA=>simp only[show u 9=_ from g 9]
   case' zB=>simp only[show u 10=_ from g 10]
   case zC=>
    simp only[show u 11=_ from g 11,show u 10=_ from g 10];refine aB ?_;go_simp;exact⟨rfl,Fr.refl _ _⟩
   case' zD=>simp only[show u 10=_ from g 10,show u 12=_ from g 12]
   case' zE=>simp only[show u 13=_ from g 13]
   case zF=>
    simp only[show u 14=_ from g 14];refine aB ?_;exact ar _ _ rfl ⟨g13,0,none⟩ rfl ds _ (fun cR v cQ=>by rw[Addr.add_mid,Nat.zero_add,(a0.out.fr K (fun x=>x)).cell cR,List.getElem?_toArray];exact cQ) Tryz.underlying46 rfl bP.out ⟨rfl,Fr.refl _ _⟩
   case' zG=>simp only[show u 14=_ from g 14]
   case zH=>
    simp only[show u 16=_ from g 16,show u 14=_ from g 14];refine aB ?_;have q:_=some _:=(bJ.out.fr K (fun x=>x)).cell 1;go_simp;exact⟨rfl,Fr.refl _ _⟩
   case' zI=>simp only[show u 14=_ from g 14]
   case zJ=>
    simp only[show u 17=_ from g 17,show u 18=_ from g 18,show u 14=_ from g 14];refine aB ?_;have cU:=i1;have cV:=i2;go_simp;exact⟨rfl,Fr.refl _ _⟩
   case zK=>
    simp only[show u 19=_ from g 19,show u 14=_ from g 14];refine aB ?_;exact ar _ _ rfl (P.add (k*6)) rfl s _ (bg.out _ (C.out.trans K)) Tryz.underlying46 rfl bf.out ⟨rfl,Fr.refl _ _⟩
   case zL=>
    simp only[show u 15=_ from g 15,show u 20=_ from g 20,show u 14=_ from g 14];refine aB ?_;go_simp;refine(bL.out _ _ (bH.out.al K) (C.out.trans K)).mono ?_;rintro e O⟨rfl,f4⟩;exact⟨rfl,f4⟩
   case' zM=>simp only[show u 14=_ from g 14,show u 21=_ from g 21]
   case' zN=>simp only[show u 22=_ from g 22]
   case' zO=>simp only[show u 23=_ from g 23]
   case zP=>
    simp only[show u 24=_ from g 24,show u 23=_ from g 23];refine aB ?_;have q:=(b8.out _ K).1;go_simp;exact⟨rfl,Fr.refl _ _⟩
   case' zQ=>simp only[show u 23=_ from g 23]
   case zR=>
    simp only[show u 25=_ from g 25,show u 26=_ from g 26,show u 23=_ from g 23];refine aB ?_;go_simp;exact⟨rfl,Fr.refl _ _⟩
   case' zS=>simp only[show u 23=_ from g 23,show u 27=_ from g 27]
   case' zU=>simp only[show u 28=_ from g 28]
   case' zV=>simp only[show u 29=_ from g 29]
   case zW=>
    simp only[show u 30=_ from g 30,show u 29=_ from g 29];refine aB ?_;have q:=(b8.out _ K).2.1;go_simp;exact⟨rfl,Fr.refl _ _⟩
   case' zX=>simp only[show u 29=_ from g 29]
   case zY=>
    simp only[show u 31=_ from g 31,show u 32=_ from g 32,show u 29=_ from g 29];refine aB ?_;go_simp;exact⟨rfl,Fr.refl _ _⟩
   case' zZ=>simp only[show u 29=_ from g 29,show u 33=_ from g 33]
   case' yA=>simp only[show u 34=_ from g 34]
   case' yB=>simp only[show u 35=_ from g 35]
   case yC=>
    simp only[show u 36=_ from g 36,show u 35=_ from g 35];refine aB ?_;have q:=(b8.out _ K).2.2;go_simp;exact⟨rfl,Fr.refl _ _⟩
   case' yD=>simp only[show u 35=_ from g 35]
   case yE=>
    simp only[show u 37=_ from g 37,show u 38=_ from g 38,show u 35=_ from g 35];refine aB ?_;go_simp;exact⟨rfl,Fr.refl _ _⟩
   case' yF=>simp only[show u 35=_ from g 35,show u 39=_ from g 39]
   case' yG=>simp only[show u 40=_ from g 40]
   all_goals
    refine aB ?_;go_simp;exact⟨rfl,Fr.refl _ _⟩
  intro w' K;simp only[z1,z2,z3,z4,an,Act.put,z5,z6,z7,z8,z9,jl,jm,Nat.reduceAdd,Nat.zero_add];have cH:=Lib.hid (ad.out.trans (C.out.trans K));clear K;go_wp2;go_ret;exact⟨rfl,cH.out⟩
end Go.Proofs.YtphjagkehiklkaaGreatDoor
