/- Texts. -/
import Derived.Test.YtphjagkehiklkaaGreatDoorZK22
import Derived.Test.YtphjagkehiklkaaGreatDoorZK26
set_option linter.unusedVariables false
set_option linter.unusedSimpArgs false
set_option maxRecDepth 100000
set_option maxHeartbeats 8000000
namespace Go.Proofs.YtphjagkehiklkaaGreatDoor
open Go.RowKit Go.Shelf
theorem Kw{E:List Ent}{L:List ActV}{k:Nat}{a:ActV}(h:L[k]? =some a):(db E L).getD (k+1) []=ef (cC a):=by
 simp[db,h]
theorem MA(E:List Ent)(L:List ActV)(c:eH L){k m:Nat}{a:ActV}(j:k<m)(hm:m≤L.length)(h:L[k]? =some a):
  sx (Lt.gV (db E (L.take m))) (k:Int) (m:Int) (cC a) (Lt.da (db E (L.take m)) (k+1))=0:=by
 have l:(db E (L.take m)).length=m+1:=by rw[km,List.length_take,Nat.min_eq_left hm]
 have i:=c.len;have e:=List.mem_of_getElem? h;have d:(L.take m)[k]? =some a:=by rw[List.getElem?_take,if_pos j];exact h
 have b:=Lt.Fg (m+1) (db E (L.take m)) (k+1) l (by omega) (by omega);rw[Kw d]at b;have f:(((k+1:Nat)):Int)=(k:Int)+1:=by omega
 have g:(((m+1:Nat)):Int)=(m:Int)+1:=by omega
 rw[f,g]at b;unfold sx;rw[if_neg (by omega),if_neg (by rw[(c.small a e).dec (c.ok a e)];simp),if_pos];unfold xj;rw[b.2,b.1,show Lt.gV (db E (L.take m))=Lt.cW (db E (L.take m))from if_neg (by simp[db])];simp
theorem vG:fY clockA=true:=by kernel_rfl
theorem iF:eI clockA:=⟨by decide,by simp[clockA],by
 intro c a;simp only[clockA,List.mem_singleton]at a;subst a;exact⟨by decide,by decide,by decide⟩,by decide,by decide⟩
theorem tO:eS [] clockA=(0,[clockA]):=by
 unfold eS;rw[if_neg (by rw[vG];decide)];rfl
theorem kO:eH [clockA]:=by
 have:=eH.nil.append iF (by decide);rw[tO]at this;exact this
theorem Bh:MT (fm ou (fj [clockA] []))= .tuple #[.string ⟨#[53]⟩, .bool true]:=by kernel_rfl
theorem Bj:sx (Lt.gV (db [] [clockA])) 0 1 (cC clockA) (Lt.da (db [] [clockA]) 1)=0:=MA [] [clockA] kO (k:=0) (m:=1) (a:=clockA) (by decide) (by decide) rfl
theorem Ey(w:World)(b6:eh w)(b5:bT w):Calls Tryz.prog 13 #[] w (AI w):=by
 have am:=af b6;have K:=af b5;clear b6 b5;have bx:Hid (∀w' b,Fr ag w w'→eJ w' b []→Calls Tryz.prog 29 #[.pointer (some ⟨b,0,none⟩)] w' (Gj w' [])):=fun w' b f h=>yi [] b w' h (am.out.ao f) (K.out.ao f) (cE.nil.more (by decide));have Y:Hid (∀w' h T cs,Fr ag w w'→ez w' h [] [] T→cF w' cs clockA→(∀k,T k→w.heap.size≤k)→Calls Tryz.prog 32 #[.pointer (some ⟨h,0,none⟩), .agg cs.toArray] w' (fun e l=>∃T',e= .returned (.int .i64 0)∧ez l h [] [clockA] T'∧Fr ag w l∧∀k,T' k→w.heap.size≤k)):=fun w' h T cs f n b4 I=>by
  refine(nY h [] [] T clockA cs w' n b4 (am.out.ao f) (K.out.ao f) iF.sz (fun b ce=>by cases ce) (by decide) (fun _=>by have:=iF.len;omega) (fun k P ch=>?_) (fun cr w2 s f2 aS=>?_)).mono ?_;·have N:=I k ch;have be:=K.out.EF;have cq:=K.out.EG;rcases P with rfl|rfl<;>omega
  ·exact kJ _ clockA cs 0 s w2 (b4.ao f2) aS (am.out.ao (f.trans f2)) cE.nil iF.writes (by decide)
  ·rintro e w2⟨T',rfl,ay,f2,bh⟩;rw[tO]at ay⊢;exact⟨T',rfl,ay,f.aw f2 (fun i bj e=>by have:=I i e;omega),fun k P=>by
    rcases bh k P with N|N;·exact I k N
    ·have:=f.size;omega⟩
 have bB:Hid (∀w' h T,ez w' h [] [clockA] T→Calls Tryz.prog 38 #[.pointer (some ⟨h,0,none⟩), .int .i64 1] w' (Dy w' [] [clockA])):=fun w' h T n=>rH h [] [clockA] T w' n;obtain⟨C,E⟩:∃C,Lt.gV (db [] [clockA])=C:=⟨_,rfl⟩;have y:C.length=32:=by rw[←E];exact Lt.nz 2 _ rfl (by decide) (rh _ _)
 have bA:Hid (∀w' h T,Fr ag w w'→ez w' h [] [clockA] T→Calls Tryz.prog 16 #[.pointer (some ⟨h,0,none⟩), .int .i64 1] w' (aH w' (.tuple #[.agg (C.map bN).toArray, .int .i64 0]))):=fun w' h T f n=>by
  have q:=Dz h [] [clockA] T 1 w' n (K.out.ao f) (by decide);have e:zd [] [clockA] 1= .tuple #[.agg (C.map bN).toArray, .int .i64 0]:=by rw[←E];rfl
  rw[e]at q;exact q
 obtain⟨p,D⟩:∃p,Lt.da (db [] [clockA]) 1=p:=⟨_,rfl⟩;obtain⟨J,M⟩:∃J:ByteArray,⟨(cC clockA).toArray⟩=J:=⟨_,rfl⟩;have B:Hid (aQ J=cC clockA∧J.size≤16777216):=by
  rw[Hid,←M];exact⟨Ls _,by have:=iF.len;simp only[ByteArray.size,List.size_toArray];omega⟩
 have al:Hid (p.length≤1∧∀d∈p,d.length=32):=by
  rw[Hid,←D];exact⟨Lt.lL 1 _ _ (by decide) (by decide),Lt.Ct 2 _ _ rfl (by decide) (rh _ _)⟩
 have bz:Hid (∀w' h T,Fr ag w w'→ez w' h [] [clockA] T→Calls Tryz.prog 15 #[.pointer (some ⟨h,0,none⟩), .int .i64 0, .int .i64 1] w' (fun e l=>∃A c,e= .returned (.tuple #[.agg [Value.int .i64 0, .int .i64 1, .string J, .slice A p.length c].toArray, .int .i64 0])∧Lt.gv l (fun _=>True) A p.length p∧Fr ag w' l)):=fun w' h T f n=>by
  refine(AG h [] [clockA] T 0 1 w' n (am.out.ao f) (K.out.ao f) (by decide) kO.ok (fun a bi=>(kO.small a bi).sz)).mono ?_;rintro e w2(⟨aA,_⟩|⟨k,m,a,v,P,hm,cf,cg,bg,rfl,bf⟩);·exact absurd ⟨by decide,by decide,by decide,by decide⟩ aA
  ·obtain rfl:k=0:=by omega
   obtain rfl:m=1:=by omega
   obtain rfl:clockA=a:=by simpa using bg
   have cc:Lt.da (db [] ([clockA].take 1)) (0+1)=p:=D;rw[cc]at bf;obtain⟨A,c,rfl,H,N,be,_⟩:=Lt.gv.Ci bf rfl al.out.2;rw[M];exact⟨A,c,rfl,⟨H.rd.any,H.len,H.each⟩,bf.ao⟩
 have CV:Hid (∀w' A c,Fr ag w w'→Lt.gv w' (fun _=>True) A p.length p→Calls Tryz.prog 17 #[.agg (C.map bN).toArray, .agg [Value.int .i64 0, .int .i64 1, .string J, .slice A p.length c].toArray] w' (fun e l=>∃cs,e= .returned (.tuple #[.agg cs.toArray, .int .i64 0])∧cF l cs clockA∧Fr ag w' l)):=fun w' A c f H=>by
  refine(ze C y 0 1 J p p.length A c _ w' H (by have:=al.out.1;omega) (am.out.ao f) (K.out.ao f) B.out.2).mono ?_;rintro e w2⟨cs,a,cp,rfl,bi,f2,aG,cd,_⟩;rw[B.out.1,←E,←D,Bj]at aG;subst aG;have:=cd rfl;rw[B.out.1,iF.dec vG]at this;obtain rfl:=Option.some.inj this;exact⟨cs,rfl,bi,f2⟩
 have ca:Hid (∀w' cs ds,cF w' cs clockA→cF w' ds clockA→Calls Tryz.prog 19 #[.agg cs.toArray, .agg ds.toArray] w' (aH w' (.bool true))):=fun w' cs ds N be=>by
  have q:=pg clockA clockA cs ds w' N be (by decide) (by decide);rw[(vR clockA clockA).2 rfl]at q;exact q
 have bw:Hid (∀w' s,eJ w' s (fj [clockA] [])→Calls Tryz.prog 53 #[.pointer (some ⟨s,0,none⟩), .agg lH] w' (aH w' (.tuple #[.string ⟨#[53]⟩, .bool true]))):=fun w' s h=>by
  have G:=(jG [clockA] [] 0 cE.nil kO.ok kO.small).j5 (by decide);have q:=JB (fj [clockA] []) ou s w' h G ⟨by decide,by decide⟩;rw[Bh]at q;exact q
 have CL:Hid (∀w' h T,ez w' h [] [clockA] T→Calls Tryz.prog 46 #[.pointer (some ⟨h,0,none⟩)] w' (bm w' (.int .i64 1))):=fun w' h T n=>qa h [] [clockA] T w' n;have aN:Hid (Lt.dI (C.map bN).toArray):=Lt.dI.of y;generalize C.map bN=ap at*;clear E D M y B;go_enter Tryz.func13,Tryz.ntmps13;go_wp2_with fail;refine(rJ _).mono ?_;rintro e w1⟨ci,rfl,aL,f1⟩;have aO:=af f1;have bS:Hid (eJ w1 ci []):=⟨_,aL,rfl⟩;clear aL f1;go_wp2_with fail;refine(bx.out _ _ aO.out bS.out).mono ?_;rintro e w2⟨h,T,rfl,n,f2,I⟩;have bD:=af (aO.out.trans f2);have bI:=af n;have b0:Hid (∀k,T k→w.heap.size≤k):=fun k P=>by have:=I k P;have:=aO.out.size;omega
 clear n f2 I bx bS aO;go_wp2_with fail;refine(qQ _).mono ?_;rintro e w3⟨cs,rfl,aB,f3,_⟩;have bE:=af (bD.out.trans f3);have bJ:=af (bI.out.ao f3);have br:=af aB;clear aB f3 bI bD;go_wp2_with fail;refine(Y.out _ _ _ _ bE.out bJ.out br.out b0.out).mono ?_;rintro e bl⟨T',rfl,n,f4,I⟩;have aW:=af f4;have aP:=af n;clear n f4 I Y bJ bE br b0;go_wp2_with fail;refine(bB.out _ _ _ aP.out).mono ?_;rintro e bn⟨s,rfl,rfl,aS⟩;have bU:=af aS;clear aS bB;go_wp2_with fail;refine(bA.out _ _ _ aW.out aP.out).mono ?_;rintro e bn⟨rfl,f5⟩;have bF:=af (aW.out.trans f5);have bK:=af (aP.out.ao f5);have bV:=af (bU.out.ao f5);clear f5 bA aP bU aW;go_wp2_with(refine an rfl 38 rfl aZ iR aD rfl ?_);intro bq aM;have L:=af aM;clear aM;generalize aI:bn.heap.size=g5 at*;have ah:=af aI;clear aI;have X:Hid (aq bq g5 38 aD):=by have h:=L.out.aE;rw[ah.out]at h;exact h
 go_wp2_with(refine ai rfl 38 (.tmp 5) _ rfl g5 ap.toArray rfl rfl _ _ X.out aN.out.info aN.out.zero aN.out.one ?_);intro cl b1 f6;have bt:=af b1;have f56:Fr ag bn cl:=L.out.fr.aw f6 (fun i bj e=>by have b2:i=g5:=e;have:=ah.out;omega);have aX:=af (bF.out.trans f56);have a1:=af (bK.out.ao f56);have bW:=af (bV.out.ao f56);clear b1 f6 f56 L X bF bK bV;go_wp2_with fail;refine(bz.out _ _ _ aX.out a1.out).mono ?_;rintro e bo⟨A,c,rfl,H,f7⟩;have aY:=af (aX.out.trans f7);have bM:=af (a1.out.ao f7);have bX:=af (bW.out.ao f7);have bu:=af (bt.out.fr f7 (fun x=>x));have bC:=af H;clear f7 H bz aX a1 bW bt;obtain⟨z,o⟩:∃z,[Value.int .i64 0, .int .i64 1, .string J, .slice A p.length c]=z:=⟨_,rfl⟩;have a9:Hid (z.toArray.all (·.oneCell')=true):=by rw[Hid,←o];simp[Value.oneCell']
 have a4:Hid ((Tryz.prog.info? 33).map (·.size)=some z.toArray.size):=by rw[Hid,←o];exact kF
 have a5:Hid ((Tryz.prog.info? 33).map (·.size)=some z.length):=by rw[Hid,←o];exact kF
 have bb:Hid (dN.toArray.size=z.toArray.size):=by rw[Hid,←o];rfl
 have Z:Hid (∀w',Fr ag bo w'→Calls Tryz.prog 17 #[.agg ap.toArray, .agg z.toArray] w' (fun e l=>∃cs,e= .returned (.tuple #[.agg cs.toArray, .int .i64 0])∧cF l cs clockA∧Fr ag w' l)):=fun w' f=>by rw[←o];exact CV.out w' A c (aY.out.trans f) (bC.out.ao f)
 rw[o];clear o CV bC;go_wp2_with(refine an rfl 33 rfl (.agg dN.toArray) MV dN.toArray rfl ?_);intro bq aM;have L:=af aM;clear aM;generalize aJ:bo.heap.size=g7 at*;have aj:=af aJ;clear aJ;have X:Hid (aq bq g7 33 dN.toArray):=by have h:=L.out.aE;rw[aj.out]at h;exact h
 go_wp2_with(refine ai rfl 33 (.tmp 7) _ rfl g7 z.toArray rfl rfl _ _ X.out a4.out bb.out a9.out ?_);intro bp b8 f8;have W:=af b8;have f78:Fr ag bo bp:=L.out.fr.aw f8 (fun i bj e=>by have b2:i=g7:=e;have:=aj.out;omega);have bG:=af (aY.out.trans f78);have bO:=af (bM.out.ao f78);have bY:=af (bX.out.ao f78);have V:=af (bu.out.fr f78 (fun x=>x));have aa:=af (Z.out _ f78);have bR:Hid (∀j x,ap[j]? =some x→bp.cell? ((⟨g5,0,none⟩:Addr).add j)=some x):=kX V.out;have bQ:Hid (∀j x,z[j]? =some x→bp.cell? ((⟨g7,0,none⟩:Addr).add j)=some x):=kX W.out;have a6:Hid ((Tryz.prog.info? 38).map (·.size)=some ap.length):=by have q:=aN.out.info;rw[List.size_toArray]at q;exact q
 clear b8 f8 f78 L X aY bM bX bu Z;go_wp2_with(refine aC rfl 38 (.tmp 5) rfl ⟨g5,0,none⟩ rfl ap _ ?zT Tryz.underlying38 rfl a6.out (aR.go ?zV));case zT=>exact bR.out
 unfold aR;go_wp2_with(refine aC rfl 33 (.tmp 7) rfl ⟨g7,0,none⟩ rfl z _ ?zS Tryz.underlying33 rfl a5.out (aR.go ?zU));case zS=>exact bQ.out
 unfold aR;go_wp2_with fail;refine aa.out.mono ?_;rintro e b7⟨ds,rfl,r,f9⟩;have bH:=af (bG.out.trans f9);have bP:=af (bO.out.ao f9);have bZ:=af (bY.out.ao f9);have bs:=af r;have a3:Hid ((Tryz.prog.info? 46).map (·.size)=some ds.toArray.size):=by rw[Hid,List.size_toArray,r.len];exact bL
 have a2:Hid ((Tryz.prog.info? 46).map (·.size)=some ds.length):=by rw[Hid,r.len];exact bL
 have ba:Hid (6=ds.toArray.size):=by rw[Hid,List.size_toArray,r.len]
 have a8:=af (ActV.one r);clear r f9 aa bG bO bY V W bR bQ;go_wp2_with(refine an rfl 46 rfl ep kC #[.int .i64 0, .int .i64 0, .int .i64 0, .string ByteArray.empty, .slice none 0 0, .slice none 0 0] rfl ?_);intro cm nb;have a7:=af nb;clear nb;generalize aK:b7.heap.size=g9 at*;have ak:=af aK;clear aK;have bv:Hid (aq cm g9 46 #[.int .i64 0, .int .i64 0, .int .i64 0, .string ByteArray.empty, .slice none 0 0, .slice none 0 0]):=by have h:=a7.out.aE;rw[ak.out]at h;exact h
 go_wp2_with(refine ai rfl 46 (.tmp 9) _ rfl g9 ds.toArray rfl rfl _ _ bv.out a3.out ba.out a8.out ?_);intro bk iU f10;have S:=af iU;have t:Fr ag b7 bk:=a7.out.fr.aw f10 (fun i bj e=>by have b2:i=g9:=e;have:=ak.out;omega);have ab:=af (bH.out.trans t);have ad:=af (bP.out.ao t);have av:=af (bZ.out.ao t);have Q:=af (bs.out.ao t);clear iU f10 t a7 bv bH bP bZ bs;go_wp2_with fail;refine(rL _).mono ?_;rintro e cj⟨rfl,f11⟩;have ax:=af (av.out.ao f11);have ac:=af (ab.out.trans f11);have ae:=af (ad.out.ao f11);have R:=af (Q.out.ao f11);have U:=af (S.out.fr f11 (fun x=>x));have F:=af (bw.out _ _ ax.out);generalize lH=b9 at*;clear f11 av ab ad Q S ax bw;go_wp2_with fail;refine F.out.mono ?_;rintro e ck⟨rfl,f12⟩;have aV:=af (ac.out.trans f12);have a0:=af (ae.out.ao f12);have aT:=af (R.out.ao f12);have aU:=af (U.out.fr f12 (fun x=>x));clear f12 ac ae R U F;go_upto_region 11 with fail;refine xJ 28 [iS (.int .i64 0),iS (.bool true),iS (.bool true),iS (.int .i64 0),iS (.bool true),iS (.bool true),iS (.bool true),iS (.int .i64 0),iS (.bool true),iS (.bool true),iS (.bool true),iS (.agg ds.toArray),⟨fun co cn=>∃es:List Value,co= .agg es.toArray∧cF cn es clockA,fun _ _ _ f⟨es,e,h⟩=>⟨es,e,h.ao f⟩⟩,iS (.bool true),iS (.bool true),iS (.bool true),iS (.bool true),iS (.bool true),iS (.bool true),iS (.string ⟨#[53]⟩),iS (.bool true),iS (.bool true),iS (.bool true),iS (.pointer (some ⟨h,0,none⟩)),iS (.int .i64 1),iS (.bool true),iS (.bool true),iS (.bool true)] ?zW ?_;case zW=>
  refine⟨?yG,?zX,?zY,?zZ,?yA,?yB,?yC,?yD,?yE,?yF,?zA,?zB,?zC,?zD,?zE,?zF,?zG,?zH,?zI,?zJ,?zK,?zL,?zM,?zN,?zO,?zP,?zQ,?zR,trivial⟩;all_goals intro u w' O g
  all_goals simp only[z1,z2,z3,z4,ar,Act.put,z5,z6,z7,Nat.reduceAdd,Nat.zero_add]
  case zX=>
   simp only[show u 0=_ from g 0];refine aF ?_;go_simp;exact⟨_,rfl,az,rfl⟩
  case' zY=>simp only[show u 1=_ from g 1]
  case' zZ=>simp only[show u 2=_ from g 2]
  case yA=>
   simp only[show u 3=_ from g 3,show u 2=_ from g 2];refine aF ?_;go_simp;exact⟨_,rfl,az,rfl⟩
  case' yB=>simp only[show u 2=_ from g 2,show u 4=_ from g 4]
  case' yC=>simp only[show u 5=_ from g 5]
  case' yD=>simp only[show u 6=_ from g 6]
  case yE=>
   simp only[show u 7=_ from g 7,show u 6=_ from g 6];refine aF ?_;go_simp;exact⟨_,rfl,az,rfl⟩
  case' yF=>simp only[show u 6=_ from g 6,show u 8=_ from g 8]
  case' zA=>simp only[show u 9=_ from g 9]
  case zB=>
   simp only[show u 10=_ from g 10];refine aF ?_;exact au _ _ rfl ⟨g9,0,none⟩ rfl ds _ (kX (aU.out.fr O (fun x=>x))) Tryz.underlying46 rfl a2.out ⟨_,rfl,az,rfl⟩
  case zC=>
   simp only[show u 10=_ from g 10];refine aF ?_;go_simp;refine(qQ _).mono ?_;rintro e bl⟨es,rfl,he,f4,_⟩;exact⟨_,rfl,f4,⟨es,rfl,he⟩⟩
  case zD=>
   obtain⟨b3,bc,bd⟩:=g 12;simp only[show u 11=_ from g 11,bc,show u 10=_ from g 10];refine aF ?_;go_simp;refine(ca.out _ _ _ (aT.out.ao O) bd).mono ?_;rintro e bl⟨rfl,f4⟩;exact⟨_,rfl,f4,rfl⟩
  case' zE=>simp only[show u 10=_ from g 10,show u 13=_ from g 13]
  case' zF=>simp only[show u 14=_ from g 14]
  case' zG=>simp only[show u 15=_ from g 15]
  case' zH=>simp only[show u 15=_ from g 15,show u 16=_ from g 16]
  case' zI=>simp only[show u 17=_ from g 17]
  case' zJ=>simp only[show u 18=_ from g 18]
  case zK=>
   simp only[show u 19=_ from g 19,show u 18=_ from g 18];refine aF ?_;go_simp;exact⟨_,rfl,az,rfl⟩
  case' zL=>simp only[show u 18=_ from g 18,show u 20=_ from g 20]
  case' zM=>simp only[show u 21=_ from g 21]
  case' zN=>simp only[show u 22=_ from g 22]
  case zO=>
   simp only[show u 23=_ from g 23,show u 22=_ from g 22];refine aF ?_;go_simp;refine(CL.out _ _ _ (a0.out.ao O)).mono ?_;rintro e bl⟨rfl,rfl⟩;exact⟨_,rfl,az,rfl⟩
  case zP=>
   simp only[show u 24=_ from g 24,show u 22=_ from g 22];refine aF ?_;go_simp;exact⟨_,rfl,az,rfl⟩
  case' zQ=>simp only[show u 22=_ from g 22,show u 25=_ from g 25]
  case' zR=>simp only[show u 26=_ from g 26]
  all_goals
   refine aF ?_;go_simp;exact⟨_,rfl,az,rfl⟩
 intro u w' O g;simp only[z1,z2,z3,z4,ar,Act.put,z5,z6,z7,z8,z9,Nat.reduceAdd,Nat.zero_add,show u 27=_ from g 27 (by omega)];clear g;have cb:=af (aV.out.trans O);clear O;go_wp2;go_ret;exact⟨rfl,cb.out⟩
end Go.Proofs.YtphjagkehiklkaaGreatDoor
