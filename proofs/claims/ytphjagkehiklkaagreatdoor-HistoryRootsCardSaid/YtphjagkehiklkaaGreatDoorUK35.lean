/- Texts. -/
import Derived.Test.YtphjagkehiklkaaGreatDoorUK21
import Derived.Test.YtphjagkehiklkaaGreatDoorUK32
import Derived.Test.YtphjagkehiklkaaGreatDoorUK34
set_option linter.unusedVariables false
set_option linter.unusedSimpArgs false
set_option maxRecDepth 100000
set_option maxHeartbeats 8000000
namespace Go.Proofs.YtphjagkehiklkaaGreatDoor
open Go.RowKit Go.Shelf
theorem Fh{E:List Ent}{L:List ActV}{k:Nat}{a:ActV}(h:L[k]? =some a):(cL E L).getD (k+1) []=bM (bY a):=by
 simp[cL,h]
theorem BQ(E:List Ent)(L:List ActV)(c:gL L){k m:Nat}{a:ActV}(j:k<m)(hm:m≤L.length)(h:L[k]? =some a):
  oM (Lt.eX (cL E (L.take m))) (k:Int) (m:Int) (bY a) (Lt.cg (cL E (L.take m)) (k+1))=0:=by
 have l:(cL E (L.take m)).length=m+1:=by rw[je,List.length_take,Nat.min_eq_left hm]
 have i:=c.len;have e:=List.mem_of_getElem? h;have d:(L.take m)[k]? =some a:=by rw[List.getElem?_take,if_pos j];exact h
 have b:=Lt.Au (m+1) (cL E (L.take m)) (k+1) l (by omega) (by omega);rw[Fh d]at b;have f:(((k+1:Nat)):Int)=(k:Int)+1:=by omega
 have g:(((m+1:Nat)):Int)=(m:Int)+1:=by omega
 rw[f,g]at b;unfold oM;rw[if_neg (by omega),if_neg (by rw[(c.small a e).dec (c.ok a e)];simp),if_pos];unfold iG;rw[b.2,b.1,show Lt.eX (cL E (L.take m))=Lt.cj (cL E (L.take m))from if_neg (by simp[cL])];simp
theorem sK:eW clockA=true:=by kernel_rfl
theorem fR:fX clockA:=⟨by decide,by simp[clockA],by
 intro c a;simp only[clockA,List.mem_singleton]at a;subst a;exact⟨by decide,by decide,by decide⟩,by decide,by decide⟩
theorem ri:ee [] clockA=(0,[clockA]):=by
 unfold ee;rw[if_neg (by rw[sK];decide)];rfl
theorem jx:gL [clockA]:=by
 have:=gL.nil.append fR (by decide);rw[ri]at this;exact this
theorem xP:Hl (dY mf (eU [clockA] []))= .tuple #[.string ⟨#[53]⟩, .bool true]:=by kernel_rfl
theorem xQ:oM (Lt.eX (cL [] [clockA])) 0 1 (bY clockA) (Lt.cg (cL [] [clockA]) 1)=0:=BQ [] [clockA] jx (k:=0) (m:=1) (a:=clockA) (by decide) (by decide) rfl
theorem tj(w:World)(b7:dy w)(b6:bp w):Calls Tryz.prog 13 #[] w (pE w):=by
 have aq:=Lib.hid b7;have K:=Lib.hid b6;clear b7 b6;have bA:Hid (∀w' b,Fr af w w'→ew w' b []→Calls Tryz.prog 29 #[.pointer (some ⟨b,0,none⟩)] w' (Bd w' [])):=fun w' b f h=>uH [] b w' h (aq.out.al f) (K.out.al f) (ct.nil.more (by decide));have Y:Hid (∀w' h T cs,Fr af w w'→eZ w' h [] [] T→ck w' cs clockA→(∀k,T k→w.heap.size≤k)→Calls Tryz.prog 32 #[.pointer (some ⟨h,0,none⟩), .agg cs.toArray] w' (fun e l=>∃T',e= .returned (.int .i64 0)∧eZ l h [] [clockA] T'∧Fr af w l∧∀k,T' k→w.heap.size≤k)):=fun w' h T cs f n b5 I=>by
  refine(pq h [] [] T clockA cs w' n b5 (aq.out.al f) (K.out.al f) fR.sz (fun b cf=>by cases cf) (by decide) (fun _=>by have:=fR.len;omega) (fun k P cj=>?_) (fun cz w2 s f2 aP=>?_)).mono ?_;·have N:=I k cj;have bd:=K.out.yk;have cx:=K.out.yl;rcases P with rfl|rfl<;>omega
  ·exact kI _ clockA cs 0 s w2 (b5.al f2) aP (aq.out.al (f.trans f2)) ct.nil fR.writes (by decide)
  ·rintro e w2⟨T',rfl,aA,f2,bg⟩;rw[ri]at aA⊢;exact⟨T',rfl,aA,f.ao f2 (fun i bi e=>by have:=I i e;omega),fun k P=>by
    rcases bg k P with N|N;·exact I k N
    ·have:=f.size;omega⟩
 have bD:Hid (∀w' h T,eZ w' h [] [clockA] T→Calls Tryz.prog 38 #[.pointer (some ⟨h,0,none⟩), .int .i64 1] w' (Ej w' [] [clockA])):=fun w' h T n=>vN h [] [clockA] T w' n;obtain⟨C,E⟩:∃C,Lt.eX (cL [] [clockA])=C:=⟨_,rfl⟩;have y:C.length=32:=by rw[←E];exact Lt.jr 2 _ rfl (by decide) (mu _ _)
 have bC:Hid (∀w' h T,Fr af w w'→eZ w' h [] [clockA] T→Calls Tryz.prog 16 #[.pointer (some ⟨h,0,none⟩), .int .i64 1] w' (aH w' (.tuple #[.agg (C.map aU).toArray, .int .i64 0]))):=fun w' h T f n=>by
  have q:=sv h [] [clockA] T 1 w' n (K.out.al f) (by decide);have e:pw [] [clockA] 1= .tuple #[.agg (C.map aU).toArray, .int .i64 0]:=by rw[←E];rfl
  rw[e]at q;exact q
 obtain⟨p,D⟩:∃p,Lt.cg (cL [] [clockA]) 1=p:=⟨_,rfl⟩;obtain⟨J,M⟩:∃J:ByteArray,⟨(bY clockA).toArray⟩=J:=⟨_,rfl⟩;have B:Hid (aC J=bY clockA∧J.size≤16777216):=by
  rw[Hid,←M];exact⟨yT _,by have:=fR.len;simp only[ByteArray.size,List.size_toArray];omega⟩
 have ap:Hid (p.length≤1∧∀d∈p,d.length=32):=by
  rw[Hid,←D];exact⟨Lt.iF 1 _ _ (by decide) (by decide),Lt.rG 2 _ _ rfl (by decide) (mu _ _)⟩
 have bB:Hid (∀w' h T,Fr af w w'→eZ w' h [] [clockA] T→Calls Tryz.prog 15 #[.pointer (some ⟨h,0,none⟩), .int .i64 0, .int .i64 1] w' (fun e l=>∃A c,e= .returned (.tuple #[.agg [Value.int .i64 0, .int .i64 1, .string J, .slice A p.length c].toArray, .int .i64 0])∧Lt.eF l (fun _=>True) A p.length p∧Fr af w' l)):=fun w' h T f n=>by
  refine(qX h [] [clockA] T 0 1 w' n (aq.out.al f) (K.out.al f) (by decide) jx.ok (fun a bh=>(jx.small a bh).sz)).mono ?_;rintro e w2(⟨aD,_⟩|⟨k,m,a,v,P,hm,ch,ci,bf,rfl,be⟩);·exact absurd ⟨by decide,by decide,by decide,by decide⟩ aD
  ·obtain rfl:k=0:=by omega
   obtain rfl:m=1:=by omega
   obtain rfl:clockA=a:=by simpa using bf
   have cd:Lt.cg (cL [] ([clockA].take 1)) (0+1)=p:=D;rw[cd]at be;obtain⟨A,c,rfl,H,N,bd,_⟩:=Lt.eF.ts be rfl ap.out.2;rw[M];exact⟨A,c,rfl,⟨H.rd.any,H.len,H.each⟩,be.al⟩
 have CV:Hid (∀w' A c,Fr af w w'→Lt.eF w' (fun _=>True) A p.length p→Calls Tryz.prog 17 #[.agg (C.map aU).toArray, .agg [Value.int .i64 0, .int .i64 1, .string J, .slice A p.length c].toArray] w' (fun e l=>∃cs,e= .returned (.tuple #[.agg cs.toArray, .int .i64 0])∧ck l cs clockA∧Fr af w' l)):=fun w' A c f H=>by
  refine(lV C y 0 1 J p p.length A c _ w' H (by have:=ap.out.1;omega) (aq.out.al f) (K.out.al f) B.out.2).mono ?_;rintro e w2⟨cs,a,cw,rfl,bh,f2,aF,ce,_⟩;rw[B.out.1,←E,←D,xQ]at aF;subst aF;have:=ce rfl;rw[B.out.1,fR.dec sK]at this;obtain rfl:=Option.some.inj this;exact⟨cs,rfl,bh,f2⟩
 have cb:Hid (∀w' cs ds,ck w' cs clockA→ck w' ds clockA→Calls Tryz.prog 19 #[.agg cs.toArray, .agg ds.toArray] w' (aH w' (.bool true))):=fun w' cs ds N bd=>by
  have q:=kJ clockA clockA cs ds w' N bd (by decide) (by decide);rw[(pO clockA clockA).2 rfl]at q;exact q
 have bz:Hid (∀w' s,ew w' s (eU [clockA] [])→Calls Tryz.prog 53 #[.pointer (some ⟨s,0,none⟩), .agg jW] w' (aH w' (.tuple #[.string ⟨#[53]⟩, .bool true]))):=fun w' s h=>by
  have G:=(kC [clockA] [] 0 ct.nil jx.ok jx.small).kX (by decide);have q:=Ei (eU [clockA] []) mf s w' h G ⟨by decide,by decide⟩;rw[xP]at q;exact q
 have CL:Hid (∀w' h T,eZ w' h [] [clockA] T→Calls Tryz.prog 46 #[.pointer (some ⟨h,0,none⟩)] w' (bj w' (.int .i64 1))):=fun w' h T n=>Cb h [] [clockA] T w' n;have aM:Hid (Lt.cy (C.map aU).toArray):=Lt.cy.of y;generalize C.map aU=au at*;clear E D M y B;go_enter Tryz.func13,Tryz.ntmps13;go_wp2_with fail;refine(py _).mono ?_;rintro e w1⟨cn,rfl,aK,f1⟩;have aN:=Lib.hid f1;have bT:Hid (ew w1 cn []):=⟨_,aK,rfl⟩;clear aK f1;go_wp2_with fail;refine(bA.out _ _ aN.out bT.out).mono ?_;rintro e w2⟨h,T,rfl,n,f2,I⟩;have bF:=Lib.hid (aN.out.trans f2);have bK:=Lib.hid n;have b1:Hid (∀k,T k→w.heap.size≤k):=fun k P=>by have:=I k P;have:=aN.out.size;omega
 clear n f2 I bA bT aN;go_wp2_with fail;refine(sL _).mono ?_;rintro e cA⟨cs,rfl,aE,f3,_⟩;have bG:=Lib.hid (bF.out.trans f3);have bL:=Lib.hid (bK.out.al f3);have bt:=Lib.hid aE;clear aE f3 bK bF;go_wp2_with fail;refine(Y.out _ _ _ _ bG.out bL.out bt.out b1.out).mono ?_;rintro e bn⟨T',rfl,n,f4,I⟩;have aW:=Lib.hid f4;have aO:=Lib.hid n;clear n f4 I Y bL bG bt b1;go_wp2_with fail;refine(bD.out _ _ _ aO.out).mono ?_;rintro e bo⟨s,rfl,rfl,aP⟩;have bU:=Lib.hid aP;clear aP bD;go_wp2_with fail;refine(bC.out _ _ _ aW.out aO.out).mono ?_;rintro e bo⟨rfl,f5⟩;have bH:=Lib.hid (aW.out.trans f5);have bM:=Lib.hid (aO.out.al f5);have bV:=Lib.hid (bU.out.al f5);clear f5 bC aO bU aW;go_wp2_with(refine ai rfl 38 rfl aQ fW ay rfl ?_);intro bs aL;have L:=Lib.hid aL;clear aL;generalize aG:bo.heap.size=g5 at*;have ag:=Lib.hid aG;clear aG;have X:Hid (ak bs g5 38 ay):=by have h:=L.out.az;rw[ag.out]at h;exact h
 go_wp2_with(refine ah rfl 38 (.tmp 5) _ rfl g5 au.toArray rfl rfl _ _ X.out aM.out.info aM.out.zero aM.out.one ?_);intro cq b2 f6;have bv:=Lib.hid b2;have f56:Fr af bo cq:=L.out.fr.ao f6 (fun i bi e=>by have b3:i=g5:=e;have:=ag.out;omega);have aX:=Lib.hid (bH.out.trans f56);have a0:=Lib.hid (bM.out.al f56);have bW:=Lib.hid (bV.out.al f56);clear b2 f6 f56 L X bH bM bV;go_wp2_with fail;refine(bB.out _ _ _ aX.out a0.out).mono ?_;rintro e bq⟨A,c,rfl,H,f7⟩;have aY:=Lib.hid (aX.out.trans f7);have bN:=Lib.hid (a0.out.al f7);have bX:=Lib.hid (bW.out.al f7);have bw:=Lib.hid (bv.out.fr f7 (fun x=>x));have bE:=Lib.hid H;clear f7 H bB aX a0 bW bv;obtain⟨z,o⟩:∃z,[Value.int .i64 0, .int .i64 1, .string J, .slice A p.length c]=z:=⟨_,rfl⟩;have a8:Hid (z.toArray.all (·.oneCell')=true):=by rw[Hid,←o];simp[Value.oneCell']
 have a3:Hid ((Tryz.prog.info? 33).map (·.size)=some z.toArray.size):=by rw[Hid,←o];exact gg
 have a4:Hid ((Tryz.prog.info? 33).map (·.size)=some z.length):=by rw[Hid,←o];exact gg
 have ba:Hid (bS.toArray.size=z.toArray.size):=by rw[Hid,←o];rfl
 have Z:Hid (∀w',Fr af bq w'→Calls Tryz.prog 17 #[.agg au.toArray, .agg z.toArray] w' (fun e l=>∃cs,e= .returned (.tuple #[.agg cs.toArray, .int .i64 0])∧ck l cs clockA∧Fr af w' l)):=fun w' f=>by rw[←o];exact CV.out w' A c (aY.out.trans f) (bE.out.al f)
 rw[o];clear o CV bE;go_wp2_with(refine ai rfl 33 rfl (.agg bS.toArray) Ca bS.toArray rfl ?_);intro bs aL;have L:=Lib.hid aL;clear aL;generalize aI:bq.heap.size=g7 at*;have aj:=Lib.hid aI;clear aI;have X:Hid (ak bs g7 33 bS.toArray):=by have h:=L.out.az;rw[aj.out]at h;exact h
 go_wp2_with(refine ah rfl 33 (.tmp 7) _ rfl g7 z.toArray rfl rfl _ _ X.out a3.out ba.out a8.out ?_);intro br b8 f8;have W:=Lib.hid b8;have f78:Fr af bq br:=L.out.fr.ao f8 (fun i bi e=>by have b3:i=g7:=e;have:=aj.out;omega);have bI:=Lib.hid (aY.out.trans f78);have bO:=Lib.hid (bN.out.al f78);have bZ:=Lib.hid (bX.out.al f78);have V:=Lib.hid (bw.out.fr f78 (fun x=>x));have aa:=Lib.hid (Z.out _ f78);have bR:Hid (∀j x,au[j]? =some x→br.cell? ((⟨g5,0,none⟩:Addr).add j)=some x):=fun j x bk=>by rw[Addr.add_mid,Nat.zero_add,V.out.cell j,List.getElem?_toArray];exact bk
 have bQ:Hid (∀j x,z[j]? =some x→br.cell? ((⟨g7,0,none⟩:Addr).add j)=some x):=fun j x bk=>by rw[Addr.add_mid,Nat.zero_add,W.out.cell j,List.getElem?_toArray];exact bk
 have a5:Hid ((Tryz.prog.info? 38).map (·.size)=some au.length):=by have q:=aM.out.info;rw[List.size_toArray]at q;exact q
 clear b8 f8 f78 L X aY bN bX bw Z;go_wp2_with(refine aw rfl 38 (.tmp 5) rfl ⟨g5,0,none⟩ rfl au _ ?zT Tryz.underlying38 rfl a5.out (aR.go ?zV));case zT=>exact bR.out
 unfold aR;go_wp2_with(refine aw rfl 33 (.tmp 7) rfl ⟨g7,0,none⟩ rfl z _ ?zS Tryz.underlying33 rfl a4.out (aR.go ?zU));case zS=>exact bQ.out
 unfold aR;go_wp2_with fail;refine aa.out.mono ?_;rintro e b9⟨ds,rfl,r,f9⟩;have bJ:=Lib.hid (bI.out.trans f9);have bP:=Lib.hid (bO.out.al f9);have b0:=Lib.hid (bZ.out.al f9);have bu:=Lib.hid r;have a2:Hid ((Tryz.prog.info? 46).map (·.size)=some ds.toArray.size):=by rw[Hid,List.size_toArray,r.len];exact bm
 have a1:Hid ((Tryz.prog.info? 46).map (·.size)=some ds.length):=by rw[Hid,r.len];exact bm
 have a9:Hid (6=ds.toArray.size):=by rw[Hid,List.size_toArray,r.len]
 have a7:=Lib.hid (ActV.one r);clear r f9 aa bI bO bZ V W bR bQ;go_wp2_with(refine ai rfl 46 rfl dU jN #[.int .i64 0, .int .i64 0, .int .i64 0, .string ByteArray.empty, .slice none 0 0, .slice none 0 0] rfl ?_);intro cr nb;have a6:=Lib.hid nb;clear nb;generalize aJ:b9.heap.size=g9 at*;have am:=Lib.hid aJ;clear aJ;have bx:Hid (ak cr g9 46 #[.int .i64 0, .int .i64 0, .int .i64 0, .string ByteArray.empty, .slice none 0 0, .slice none 0 0]):=by have h:=a6.out.az;rw[am.out]at h;exact h
 go_wp2_with(refine ah rfl 46 (.tmp 9) _ rfl g9 ds.toArray rfl rfl _ _ bx.out a2.out a9.out a7.out ?_);intro bl gB f10;have S:=Lib.hid gB;have t:Fr af b9 bl:=a6.out.fr.ao f10 (fun i bi e=>by have b3:i=g9:=e;have:=am.out;omega);have ab:=Lib.hid (bJ.out.trans t);have ad:=Lib.hid (bP.out.al t);have av:=Lib.hid (b0.out.al t);have Q:=Lib.hid (bu.out.al t);clear gB f10 t a6 bx bJ bP b0 bu;go_wp2_with fail;refine(pA _).mono ?_;rintro e co⟨rfl,f11⟩;have ax:=Lib.hid (av.out.al f11);have ac:=Lib.hid (ab.out.trans f11);have ae:=Lib.hid (ad.out.al f11);have R:=Lib.hid (Q.out.al f11);have U:=Lib.hid (S.out.fr f11 (fun x=>x));have F:=Lib.hid (bz.out _ _ ax.out);generalize jW=ca at*;clear f11 av ab ad Q S ax bz;go_wp2_with fail;refine F.out.mono ?_;rintro e cp⟨rfl,f12⟩;have aV:=Lib.hid (ac.out.trans f12);have aZ:=Lib.hid (ae.out.al f12);have aS:=Lib.hid (R.out.al f12);have aT:=Lib.hid (U.out.fr f12 (fun x=>x));clear f12 ac ae R U F;go_upto_region 11 with fail;refine xo 28 [iS (.int .i64 0),iS (.bool true),iS (.bool true),iS (.int .i64 0),iS (.bool true),iS (.bool true),iS (.bool true),iS (.int .i64 0),iS (.bool true),iS (.bool true),iS (.bool true),iS (.agg ds.toArray),⟨fun cv cu=>∃es:List Value,cv= .agg es.toArray∧ck cu es clockA,fun _ _ _ f⟨es,e,h⟩=>⟨es,e,h.al f⟩⟩,iS (.bool true),iS (.bool true),iS (.bool true),iS (.bool true),iS (.bool true),iS (.bool true),iS (.string ⟨#[53]⟩),iS (.bool true),iS (.bool true),iS (.bool true),iS (.pointer (some ⟨h,0,none⟩)),iS (.int .i64 1),iS (.bool true),iS (.bool true),iS (.bool true)] ?zW ?_;case zW=>
  refine⟨?yG,?zX,?zY,?zZ,?yA,?yB,?yC,?yD,?yE,?yF,?zA,?zB,?zC,?zD,?zE,?zF,?zG,?zH,?zI,?zJ,?zK,?zL,?zM,?zN,?zO,?zP,?zQ,?zR,trivial⟩;all_goals intro u w' O g
  all_goals simp only[z1,z2,z3,z4,an,Act.put,z5,z6,z7,Nat.reduceAdd,Nat.zero_add]
  case zX=>
   simp only[show u 0=_ from g 0];refine aB ?_;go_simp;exact⟨_,rfl,Fr.refl _ _,rfl⟩
  case' zY=>simp only[show u 1=_ from g 1]
  case' zZ=>simp only[show u 2=_ from g 2]
  case yA=>
   simp only[show u 3=_ from g 3,show u 2=_ from g 2];refine aB ?_;go_simp;exact⟨_,rfl,Fr.refl _ _,rfl⟩
  case' yB=>simp only[show u 2=_ from g 2,show u 4=_ from g 4]
  case' yC=>simp only[show u 5=_ from g 5]
  case' yD=>simp only[show u 6=_ from g 6]
  case yE=>
   simp only[show u 7=_ from g 7,show u 6=_ from g 6];refine aB ?_;go_simp;exact⟨_,rfl,Fr.refl _ _,rfl⟩
  case' yF=>simp only[show u 6=_ from g 6,show u 8=_ from g 8]
  case' zA=>simp only[show u 9=_ from g 9]
  case zB=>
   simp only[show u 10=_ from g 10];refine aB ?_;exact ar _ _ rfl ⟨g9,0,none⟩ rfl ds _ (fun cm v cl=>by rw[Addr.add_mid,Nat.zero_add,(aT.out.fr O (fun x=>x)).cell cm,List.getElem?_toArray];exact cl) Tryz.underlying46 rfl a1.out ⟨_,rfl,Fr.refl _ _,rfl⟩
  case zC=>
   simp only[show u 10=_ from g 10];refine aB ?_;go_simp;refine(sL _).mono ?_;rintro e bn⟨es,rfl,he,f4,_⟩;exact⟨_,rfl,f4,⟨es,rfl,he⟩⟩
  case zD=>
   obtain⟨b4,bb,bc⟩:=g 12;simp only[show u 11=_ from g 11,bb,show u 10=_ from g 10];refine aB ?_;go_simp;refine(cb.out _ _ _ (aS.out.al O) bc).mono ?_;rintro e bn⟨rfl,f4⟩;exact⟨_,rfl,f4,rfl⟩
  case' zE=>simp only[show u 10=_ from g 10,show u 13=_ from g 13]
  case' zF=>simp only[show u 14=_ from g 14]
  case' zG=>simp only[show u 15=_ from g 15]
  case' zH=>simp only[show u 15=_ from g 15,show u 16=_ from g 16]
  case' zI=>simp only[show u 17=_ from g 17]
  case' zJ=>simp only[show u 18=_ from g 18]
  case zK=>
   simp only[show u 19=_ from g 19,show u 18=_ from g 18];refine aB ?_;go_simp;exact⟨_,rfl,Fr.refl _ _,rfl⟩
  case' zL=>simp only[show u 18=_ from g 18,show u 20=_ from g 20]
  case' zM=>simp only[show u 21=_ from g 21]
  case' zN=>simp only[show u 22=_ from g 22]
  case zO=>
   simp only[show u 23=_ from g 23,show u 22=_ from g 22];refine aB ?_;go_simp;refine(CL.out _ _ _ (aZ.out.al O)).mono ?_;rintro e bn⟨rfl,rfl⟩;exact⟨_,rfl,Fr.refl _ _,rfl⟩
  case zP=>
   simp only[show u 24=_ from g 24,show u 22=_ from g 22];refine aB ?_;go_simp;exact⟨_,rfl,Fr.refl _ _,rfl⟩
  case' zQ=>simp only[show u 22=_ from g 22,show u 25=_ from g 25]
  case' zR=>simp only[show u 26=_ from g 26]
  all_goals
   refine aB ?_;go_simp;exact⟨_,rfl,Fr.refl _ _,rfl⟩
 intro u w' O g;simp only[z1,z2,z3,z4,an,Act.put,z5,z6,z7,z8,z9,Nat.reduceAdd,Nat.zero_add,show u 27=_ from g 27 (by omega)];clear g;have cc:=Lib.hid (aV.out.trans O);clear O;go_wp2;go_ret;exact⟨rfl,cc.out⟩
end Go.Proofs.YtphjagkehiklkaaGreatDoor
