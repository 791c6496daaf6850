/- Texts. -/
import Derived.Test.YtphjagkehiklkaaGreatDoorXK15
import Derived.Test.YtphjagkehiklkaaGreatDoorXK24
set_option linter.unusedVariables false
set_option linter.unusedSimpArgs false
set_option maxRecDepth 100000
set_option maxHeartbeats 8000000
namespace Go.Proofs.YtphjagkehiklkaaGreatDoor
open Go.RowKit Go.Shelf
theorem IQ{E:List Ent}{L:List ActV}{k:Nat}{a:ActV}(h:L[k]? =some a):(dk E L).getD (k+1) []=dZ (dj a):=by
 simp[dk,h]
theorem Kk(E:List Ent)(L:List ActV)(c:eS L){k m:Nat}{a:ActV}(j:k<m)(hm:m≤L.length)(h:L[k]? =some a):
  rF (Lt.gz (dk E (L.take m))) (k:Int) (m:Int) (dj a) (Lt.cX (dk E (L.take m)) (k+1))=0:=by
 have l:(dk E (L.take m)).length=m+1:=by rw[lx,List.length_take,Nat.min_eq_left hm]
 have i:=c.len;have e:=List.mem_of_getElem? h;have d:(L.take m)[k]? =some a:=by rw[List.getElem?_take,if_pos j];exact h
 have b:=Lt.DH (m+1) (dk E (L.take m)) (k+1) l (by omega) (by omega);rw[IQ d]at b;have f:(((k+1:Nat)):Int)=(k:Int)+1:=by omega
 have g:(((m+1:Nat)):Int)=(m:Int)+1:=by omega
 rw[f,g]at b;unfold rF;rw[if_neg (by omega),if_neg (by rw[(c.small a e).dec (c.ok a e)];simp),if_pos];unfold vu;rw[b.2,b.1,show Lt.gz (dk E (L.take m))=Lt.cR (dk E (L.take m))from if_neg (by simp[dk])];simp
theorem uB:gv clockA=true:=by kernel_rfl
theorem gV:fZ clockA:=⟨by decide,by simp[clockA],by
 intro c a;simp only[clockA,List.mem_singleton]at a;subst a;exact⟨by decide,by decide,by decide⟩,by decide,by decide⟩
theorem sP:eo [] clockA=(0,[clockA]):=by
 unfold eo;rw[if_neg (by rw[uB];decide)];rfl
theorem kq:eS [clockA]:=by
 have:=eS.nil.append gV (by decide);rw[sP]at this;exact this
theorem zM:Kx (fi nF (ee [clockA] []))= .tuple #[.string ⟨#[53]⟩, .bool true]:=by kernel_rfl
theorem zN:rF (Lt.gz (dk [] [clockA])) 0 1 (dj clockA) (Lt.cX (dk [] [clockA]) 1)=0:=Kk [] [clockA] kq (k:=0) (m:=1) (a:=clockA) (by decide) (by decide) rfl
theorem De(w:World)(b6:ed w)(b5:bU w):Calls Tryz.prog 13 #[] w (zn w):=by
 have am:=af b6;have K:=af b5;clear b6 b5;have bw:Hid (∀w' b,Fr ah w w'→ec w' b []→Calls Tryz.prog 29 #[.pointer (some ⟨b,0,none⟩)] w' (El w' [])):=fun w' b f h=>rN [] b w' h (am.out.ao f) (K.out.ao f) (cI.nil.more (by decide));have Y:Hid (∀w' h T cs,Fr ah w w'→eD w' h [] [] T→cy w' cs clockA→(∀k,T k→w.heap.size≤k)→Calls Tryz.prog 32 #[.pointer (some ⟨h,0,none⟩), .agg cs.toArray] w' (fun e l=>∃T',e= .returned (.int .i64 0)∧eD l h [] [clockA] T'∧Fr ah w l∧∀k,T' k→w.heap.size≤k)):=fun w' h T cs f n b4 I=>by
  refine(nf h [] [] T clockA cs w' n b4 (am.out.ao f) (K.out.ao f) gV.sz (fun b ce=>by cases ce) (by decide) (fun _=>by have:=gV.len;omega) (fun k P ch=>?_) (fun cr w2 s f2 aQ=>?_)).mono ?_;·have N:=I k ch;have be:=K.out.Dm;have cq:=K.out.Dn;rcases P with rfl|rfl<;>omega
  ·exact jq _ clockA cs 0 s w2 (b4.ao f2) aQ (am.out.ao (f.trans f2)) cI.nil gV.writes (by decide)
  ·rintro e w2⟨T',rfl,ay,f2,bh⟩;rw[sP]at ay⊢;exact⟨T',rfl,ay,f.au f2 (fun i bj e=>by have:=I i e;omega),fun k P=>by
    rcases bh k P with N|N;·exact I k N
    ·have:=f.size;omega⟩
 have bA:Hid (∀w' h T,eD w' h [] [clockA] T→Calls Tryz.prog 38 #[.pointer (some ⟨h,0,none⟩), .int .i64 1] w' (BE w' [] [clockA])):=fun w' h T n=>ng h [] [clockA] T w' n;obtain⟨C,E⟩:∃C,Lt.gz (dk [] [clockA])=C:=⟨_,rfl⟩;have y:C.length=32:=by rw[←E];exact Lt.mJ 2 _ rfl (by decide) (qv _ _)
 have bz:Hid (∀w' h T,Fr ah w w'→eD w' h [] [clockA] T→Calls Tryz.prog 16 #[.pointer (some ⟨h,0,none⟩), .int .i64 1] w' (aK w' (.tuple #[.agg (C.map bL).toArray, .int .i64 0]))):=fun w' h T f n=>by
  have q:=BF h [] [clockA] T 1 w' n (K.out.ao f) (by decide);have e:xP [] [clockA] 1= .tuple #[.agg (C.map bL).toArray, .int .i64 0]:=by rw[←E];rfl
  rw[e]at q;exact q
 obtain⟨p,D⟩:∃p,Lt.cX (dk [] [clockA]) 1=p:=⟨_,rfl⟩;obtain⟨J,M⟩:∃J:ByteArray,⟨(dj clockA).toArray⟩=J:=⟨_,rfl⟩;have B:Hid (aS J=dj clockA∧J.size≤16777216):=by
  rw[Hid,←M];exact⟨Jl _,by have:=gV.len;simp only[ByteArray.size,List.size_toArray];omega⟩
 have al:Hid (p.length≤1∧∀d∈p,d.length=32):=by
  rw[Hid,←D];exact⟨Lt.kX 1 _ _ (by decide) (by decide),Lt.AN 2 _ _ rfl (by decide) (qv _ _)⟩
 have bx:Hid (∀w' h T,Fr ah w w'→eD w' h [] [clockA] T→Calls Tryz.prog 15 #[.pointer (some ⟨h,0,none⟩), .int .i64 0, .int .i64 1] w' (fun e l=>∃A c,e= .returned (.tuple #[.agg [Value.int .i64 0, .int .i64 1, .string J, .slice A p.length c].toArray, .int .i64 0])∧Lt.fL l (fun _=>True) A p.length p∧Fr ah w' l)):=fun w' h T f n=>by
  refine(zk h [] [clockA] T 0 1 w' n (am.out.ao f) (K.out.ao f) (by decide) kq.ok (fun a bi=>(kq.small a bi).sz)).mono ?_;rintro e w2(⟨aA,_⟩|⟨k,m,a,v,P,hm,cf,cg,bg,rfl,bf⟩);·exact absurd ⟨by decide,by decide,by decide,by decide⟩ aA
  ·obtain rfl:k=0:=by omega
   obtain rfl:m=1:=by omega
   obtain rfl:clockA=a:=by simpa using bg
   have cc:Lt.cX (dk [] ([clockA].take 1)) (0+1)=p:=D;rw[cc]at bf;obtain⟨A,c,rfl,H,N,be,_⟩:=Lt.fL.Ax bf rfl al.out.2;rw[M];exact⟨A,c,rfl,⟨H.rd.any,H.len,H.each⟩,bf.ao⟩
 have CV:Hid (∀w' A c,Fr ah w w'→Lt.fL w' (fun _=>True) A p.length p→Calls Tryz.prog 17 #[.agg (C.map bL).toArray, .agg [Value.int .i64 0, .int .i64 1, .string J, .slice A p.length c].toArray] w' (fun e l=>∃cs,e= .returned (.tuple #[.agg cs.toArray, .int .i64 0])∧cy l cs clockA∧Fr ah w' l)):=fun w' A c f H=>by
  refine(xQ C y 0 1 J p p.length A c _ w' H (by have:=al.out.1;omega) (am.out.ao f) (K.out.ao f) B.out.2).mono ?_;rintro e w2⟨cs,a,cp,rfl,bi,f2,aG,cd,_⟩;rw[B.out.1,←E,←D,zN]at aG;subst aG;have:=cd rfl;rw[B.out.1,gV.dec uB]at this;obtain rfl:=Option.some.inj this;exact⟨cs,rfl,bi,f2⟩
 have ca:Hid (∀w' cs ds,cy w' cs clockA→cy w' ds clockA→Calls Tryz.prog 19 #[.agg cs.toArray, .agg ds.toArray] w' (aK w' (.bool true))):=fun w' cs ds N be=>by
  have q:=oA clockA clockA cs ds w' N be (by decide) (by decide);rw[(uL clockA clockA).2 rfl]at q;exact q
 have bv:Hid (∀w' s,ec w' s (ee [clockA] [])→Calls Tryz.prog 53 #[.pointer (some ⟨s,0,none⟩), .agg kS] w' (aK w' (.tuple #[.string ⟨#[53]⟩, .bool true]))):=fun w' s h=>by
  have G:=(iG [clockA] [] 0 cI.nil kq.ok kq.small).jK (by decide);have q:=Hn (ee [clockA] []) nF s w' h G ⟨by decide,by decide⟩;rw[zM]at q;exact q
 have CL:Hid (∀w' h T,eD w' h [] [clockA] T→Calls Tryz.prog 46 #[.pointer (some ⟨h,0,none⟩)] w' (bG w' (.int .i64 1))):=fun w' h T n=>wV h [] [clockA] T w' n;have aN:Hid (Lt.dB (C.map bL).toArray):=Lt.dB.of y;generalize C.map bL=ap at*;clear E D M y B;go_enter Tryz.func13,Tryz.ntmps13;go_wp2_with fail;refine(qO _).mono ?_;rintro e w1⟨ci,rfl,aL,f1⟩;have aO:=af f1;have bS:Hid (ec w1 ci []):=⟨_,aL,rfl⟩;clear aL f1;go_wp2_with fail;refine(bw.out _ _ aO.out bS.out).mono ?_;rintro e w2⟨h,T,rfl,n,f2,I⟩;have bC:=af (aO.out.trans f2);have bI:=af n;have b0:Hid (∀k,T k→w.heap.size≤k):=fun k P=>by have:=I k P;have:=aO.out.size;omega
 clear n f2 I bw bS aO;go_wp2_with fail;refine(uC _).mono ?_;rintro e w3⟨cs,rfl,aB,f3,_⟩;have bD:=af (bC.out.trans f3);have bJ:=af (bI.out.ao f3);have bq:=af aB;clear aB f3 bI bC;go_wp2_with fail;refine(Y.out _ _ _ _ bD.out bJ.out bq.out b0.out).mono ?_;rintro e bl⟨T',rfl,n,f4,I⟩;have aW:=af f4;have aP:=af n;clear n f4 I Y bJ bD bq b0;go_wp2_with fail;refine(bA.out _ _ _ aP.out).mono ?_;rintro e bm⟨s,rfl,rfl,aQ⟩;have bT:=af aQ;clear aQ bA;go_wp2_with fail;refine(bz.out _ _ _ aW.out aP.out).mono ?_;rintro e bm⟨rfl,f5⟩;have bE:=af (aW.out.trans f5);have bK:=af (aP.out.ao f5);have bV:=af (bT.out.ao f5);clear f5 bz aP bT aW;go_wp2_with(refine an rfl 38 rfl aZ iJ aE rfl ?_);intro bp aM;have L:=af aM;clear aM;generalize aH:bm.heap.size=g5 at*;have ag:=af aH;clear aH;have X:Hid (aq bp g5 38 aE):=by have h:=L.out.aD;rw[ag.out]at h;exact h
 go_wp2_with(refine ak rfl 38 (.tmp 5) _ rfl g5 ap.toArray rfl rfl _ _ X.out aN.out.info aN.out.zero aN.out.one ?_);intro cl b1 f6;have bs:=af b1;have f56:Fr ah bm cl:=L.out.fr.au f6 (fun i bj e=>by have b2:i=g5:=e;have:=ag.out;omega);have aX:=af (bE.out.trans f56);have a1:=af (bK.out.ao f56);have bW:=af (bV.out.ao f56);clear b1 f6 f56 L X bE bK bV;go_wp2_with fail;refine(bx.out _ _ _ aX.out a1.out).mono ?_;rintro e bn⟨A,c,rfl,H,f7⟩;have aY:=af (aX.out.trans f7);have bN:=af (a1.out.ao f7);have bX:=af (bW.out.ao f7);have bt:=af (bs.out.fr f7 (fun x=>x));have bB:=af H;clear f7 H bx aX a1 bW bs;obtain⟨z,o⟩:∃z,[Value.int .i64 0, .int .i64 1, .string J, .slice A p.length c]=z:=⟨_,rfl⟩;have a9:Hid (z.toArray.all (·.oneCell')=true):=by rw[Hid,←o];simp[Value.oneCell']
 have a4:Hid ((Tryz.prog.info? 33).map (·.size)=some z.toArray.size):=by rw[Hid,←o];exact kg
 have a5:Hid ((Tryz.prog.info? 33).map (·.size)=some z.length):=by rw[Hid,←o];exact kg
 have bb:Hid (dM.toArray.size=z.toArray.size):=by rw[Hid,←o];rfl
 have Z:Hid (∀w',Fr ah bn w'→Calls Tryz.prog 17 #[.agg ap.toArray, .agg z.toArray] w' (fun e l=>∃cs,e= .returned (.tuple #[.agg cs.toArray, .int .i64 0])∧cy l cs clockA∧Fr ah w' l)):=fun w' f=>by rw[←o];exact CV.out w' A c (aY.out.trans f) (bB.out.ao f)
 rw[o];clear o CV bB;go_wp2_with(refine an rfl 33 rfl (.agg dM.toArray) KE dM.toArray rfl ?_);intro bp aM;have L:=af aM;clear aM;generalize aI:bn.heap.size=g7 at*;have ai:=af aI;clear aI;have X:Hid (aq bp g7 33 dM.toArray):=by have h:=L.out.aD;rw[ai.out]at h;exact h
 go_wp2_with(refine ak rfl 33 (.tmp 7) _ rfl g7 z.toArray rfl rfl _ _ X.out a4.out bb.out a9.out ?_);intro bo b8 f8;have W:=af b8;have f78:Fr ah bn bo:=L.out.fr.au f8 (fun i bj e=>by have b2:i=g7:=e;have:=ai.out;omega);have bF:=af (aY.out.trans f78);have bO:=af (bN.out.ao f78);have bY:=af (bX.out.ao f78);have V:=af (bt.out.fr f78 (fun x=>x));have aa:=af (Z.out _ f78);have bR:Hid (∀j x,ap[j]? =some x→bo.cell? ((⟨g5,0,none⟩:Addr).add j)=some x):=jJ V.out;have bQ:Hid (∀j x,z[j]? =some x→bo.cell? ((⟨g7,0,none⟩:Addr).add j)=some x):=jJ W.out;have a6:Hid ((Tryz.prog.info? 38).map (·.size)=some ap.length):=by have q:=aN.out.info;rw[List.size_toArray]at q;exact q
 clear b8 f8 f78 L X aY bN bX bt Z;go_wp2_with(refine aC rfl 38 (.tmp 5) rfl ⟨g5,0,none⟩ rfl ap _ ?zV Tryz.underlying38 rfl a6.out (aR.go ?zX));case zV=>exact bR.out
 unfold aR;go_wp2_with(refine aC rfl 33 (.tmp 7) rfl ⟨g7,0,none⟩ rfl z _ ?zU Tryz.underlying33 rfl a5.out (aR.go ?zW));case zU=>exact bQ.out
 unfold aR;go_wp2_with fail;refine aa.out.mono ?_;rintro e b7⟨ds,rfl,r,f9⟩;have bH:=af (bF.out.trans f9);have bP:=af (bO.out.ao f9);have bZ:=af (bY.out.ao f9);have br:=af r;have a3:Hid ((Tryz.prog.info? 46).map (·.size)=some ds.toArray.size):=by rw[Hid,List.size_toArray,r.len];exact bM
 have a2:Hid ((Tryz.prog.info? 46).map (·.size)=some ds.length):=by rw[Hid,r.len];exact bM
 have ba:Hid (6=ds.toArray.size):=by rw[Hid,List.size_toArray,r.len]
 have a8:=af (ActV.one r);clear r f9 aa bF bO bY V W bR bQ;go_wp2_with(refine an rfl 46 rfl eC j8 #[.int .i64 0, .int .i64 0, .int .i64 0, .string ByteArray.empty, .slice none 0 0, .slice none 0 0] rfl ?_);intro cm nb;have a7:=af nb;clear nb;generalize aJ:b7.heap.size=g9 at*;have aj:=af aJ;clear aJ;have bu:Hid (aq cm g9 46 #[.int .i64 0, .int .i64 0, .int .i64 0, .string ByteArray.empty, .slice none 0 0, .slice none 0 0]):=by have h:=a7.out.aD;rw[aj.out]at h;exact h
 go_wp2_with(refine ak rfl 46 (.tmp 9) _ rfl g9 ds.toArray rfl rfl _ _ bu.out a3.out ba.out a8.out ?_);intro bk iu f10;have S:=af iu;have t:Fr ah b7 bk:=a7.out.fr.au f10 (fun i bj e=>by have b2:i=g9:=e;have:=aj.out;omega);have ab:=af (bH.out.trans t);have ad:=af (bP.out.ao t);have av:=af (bZ.out.ao t);have Q:=af (br.out.ao t);clear iu f10 t a7 bu bH bP bZ br;go_wp2_with fail;refine(qQ _).mono ?_;rintro e cj⟨rfl,f11⟩;have ax:=af (av.out.ao f11);have ac:=af (ab.out.trans f11);have ae:=af (ad.out.ao f11);have R:=af (Q.out.ao f11);have U:=af (S.out.fr f11 (fun x=>x));have F:=af (bv.out _ _ ax.out);generalize kS=b9 at*;clear f11 av ab ad Q S ax bv;go_wp2_with fail;refine F.out.mono ?_;rintro e ck⟨rfl,f12⟩;have aV:=af (ac.out.trans f12);have a0:=af (ae.out.ao f12);have aT:=af (R.out.ao f12);have aU:=af (U.out.fr f12 (fun x=>x));clear f12 ac ae R U F;go_upto_region 11 with fail;refine y8 28 [iS (.int .i64 0),iS (.bool true),iS (.bool true),iS (.int .i64 0),iS (.bool true),iS (.bool true),iS (.bool true),iS (.int .i64 0),iS (.bool true),iS (.bool true),iS (.bool true),iS (.agg ds.toArray),⟨fun co cn=>∃es:List Value,co= .agg es.toArray∧cy cn es clockA,fun _ _ _ f⟨es,e,h⟩=>⟨es,e,h.ao f⟩⟩,iS (.bool true),iS (.bool true),iS (.bool true),iS (.bool true),iS (.bool true),iS (.bool true),iS (.string ⟨#[53]⟩),iS (.bool true),iS (.bool true),iS (.bool true),iS (.pointer (some ⟨h,0,none⟩)),iS (.int .i64 1),iS (.bool true),iS (.bool true),iS (.bool true)] ?zY ?_;case zY=>
  refine⟨?yI,?zZ,?yA,?yB,?yC,?yD,?yE,?yF,?yG,?yH,?zA,?zB,?zC,?zD,?zE,?zF,?zG,?zH,?zI,?zJ,?zK,?zL,?zO,?zP,?zQ,?zR,?zS,?zT,trivial⟩;all_goals intro u w' O g
  all_goals simp only[z1,z2,z3,z4,ar,Act.put,z5,z6,z7,Nat.reduceAdd,Nat.zero_add]
  case zZ=>
   simp only[show u 0=_ from g 0];refine aF ?_;go_simp;exact⟨_,rfl,az,rfl⟩
  case' yA=>simp only[show u 1=_ from g 1]
  case' yB=>simp only[show u 2=_ from g 2]
  case yC=>
   simp only[show u 3=_ from g 3,show u 2=_ from g 2];refine aF ?_;go_simp;exact⟨_,rfl,az,rfl⟩
  case' yD=>simp only[show u 2=_ from g 2,show u 4=_ from g 4]
  case' yE=>simp only[show u 5=_ from g 5]
  case' yF=>simp only[show u 6=_ from g 6]
  case yG=>
   simp only[show u 7=_ from g 7,show u 6=_ from g 6];refine aF ?_;go_simp;exact⟨_,rfl,az,rfl⟩
  case' yH=>simp only[show u 6=_ from g 6,show u 8=_ from g 8]
  case' zA=>simp only[show u 9=_ from g 9]
  case zB=>
   simp only[show u 10=_ from g 10];refine aF ?_;exact aw _ _ rfl ⟨g9,0,none⟩ rfl ds _ (jJ (aU.out.fr O (fun x=>x))) Tryz.underlying46 rfl a2.out ⟨_,rfl,az,rfl⟩
  case zC=>
   simp only[show u 10=_ from g 10];refine aF ?_;go_simp;refine(uC _).mono ?_;rintro e bl⟨es,rfl,he,f4,_⟩;exact⟨_,rfl,f4,⟨es,rfl,he⟩⟩
  case zD=>
   obtain⟨b3,bc,bd⟩:=g 12;simp only[show u 11=_ from g 11,bc,show u 10=_ from g 10];refine aF ?_;go_simp;refine(ca.out _ _ _ (aT.out.ao O) bd).mono ?_;rintro e bl⟨rfl,f4⟩;exact⟨_,rfl,f4,rfl⟩
  case' zE=>simp only[show u 10=_ from g 10,show u 13=_ from g 13]
  case' zF=>simp only[show u 14=_ from g 14]
  case' zG=>simp only[show u 15=_ from g 15]
  case' zH=>simp only[show u 15=_ from g 15,show u 16=_ from g 16]
  case' zI=>simp only[show u 17=_ from g 17]
  case' zJ=>simp only[show u 18=_ from g 18]
  case zK=>
   simp only[show u 19=_ from g 19,show u 18=_ from g 18];refine aF ?_;go_simp;exact⟨_,rfl,az,rfl⟩
  case' zL=>simp only[show u 18=_ from g 18,show u 20=_ from g 20]
  case' zO=>simp only[show u 21=_ from g 21]
  case' zP=>simp only[show u 22=_ from g 22]
  case zQ=>
   simp only[show u 23=_ from g 23,show u 22=_ from g 22];refine aF ?_;go_simp;refine(CL.out _ _ _ (a0.out.ao O)).mono ?_;rintro e bl⟨rfl,rfl⟩;exact⟨_,rfl,az,rfl⟩
  case zR=>
   simp only[show u 24=_ from g 24,show u 22=_ from g 22];refine aF ?_;go_simp;exact⟨_,rfl,az,rfl⟩
  case' zS=>simp only[show u 22=_ from g 22,show u 25=_ from g 25]
  case' zT=>simp only[show u 26=_ from g 26]
  all_goals
   refine aF ?_;go_simp;exact⟨_,rfl,az,rfl⟩
 intro u w' O g;simp only[z1,z2,z3,z4,ar,Act.put,z5,z6,z7,z8,z9,Nat.reduceAdd,Nat.zero_add,show u 27=_ from g 27 (by omega)];clear g;have cb:=af (aV.out.trans O);clear O;go_wp2;go_ret;exact⟨rfl,cb.out⟩
end Go.Proofs.YtphjagkehiklkaaGreatDoor
namespace Go.Proofs.YtphjagkehiklkaaGreatDoor.Lt
open Go.RowKit
def rO(w:World)(n:Nat)(PL:List (List UInt8))(v:Value)(w':World):Prop:=∃v1,v=v1∧bO 38 32 w (.slice none 0 0) w' v1 n (PL.flatMap aA)
theorem rO.ag{w W:World}{n:Nat}{PL:List (List UInt8)}:∀v w' a,Fr ah W w'→Fr ah w' a→rO w n PL v w'→rO w n PL v a:=fun _ _ _ _ c⟨v1,h,b⟩=>⟨v1,h,b.behind c⟩
def xV(w:World)(ds:List (List UInt8))(C:Nat→Nat→Prop)(mb:Option Nat)(W:World):Prop:=(∃b,mb=some b∧df W b ds C∧w.heap.size≤b)∨(mb=none∧∀l i,¬C l i)
theorem xV.fr{w W W':World}{ds:List (List UInt8)}{C:Nat→Nat→Prop}{mb:Option Nat}(h:xV w ds C mb W)(e:Fr ah W W'):xV w ds C mb W':=by
 rcases h with⟨b,a,c,d⟩|h;·exact .inl ⟨b,a,c.fr e (fun x=>x),d⟩
 ·exact .inr h
def Hp(w:World)(ds:List (List UInt8))(C:Nat→Nat→Prop)(v:Value)(W:World):Prop:=∃mb,v= .map mb∧xV w ds C mb W
theorem Hp.ag{w W:World}{ds:List (List UInt8)}{C:Nat→Nat→Prop}:∀v w' a,Fr ah W w'→Fr ah w' a→Hp w ds C v w'→Hp w ds C v a:=fun _ _ _ _ c⟨mb,h,b⟩=>⟨mb,h,b.fr c⟩
def Cut(w:World)(p:Nat)(A:Option Addr)(n c:Nat)(mb:Option Nat)(ds:List (List UInt8))(k:Nat)(e:Ending)(w':World):Prop:=
 e= .returned (.int .i64 0)∧∃a b,ew w' p a k b mb (ds.take k) (aY k)∧Fr (TB p A n c mb) w w'∧∀i,(Value.slice a k b).ownBlock=some i→w.heap.size≤i
theorem IM:(Tryz.prog.info? 31).map (·.size)=some 1:=by kernel_rfl
theorem x8(w:World)(p:Nat)(A:Option Addr)(n c:Nat)(mb:Option Nat)(ds:List (List UInt8))(k:Nat)(U:ew w p A n c mb ds (aY n))(a2:n≤1048576)(aE:k≤n)(P:n≤c):
  Calls Tryz.prog 97 #[.pointer (some ⟨p,0,none⟩), .int .i64 k] w (Cut w p A n c mb ds k):=by
 have aN:Hid (∀w',Calls Tryz.prog 89 #[.int .i64 k, .int .i64 0, .int .i64 n] w' (bG w' (.bool true))):=fun w'=>by
  have h:=eK k 0 n w';rw[cT (by omega)]at h;exact h
 have aL:Hid (∀w',Fr ah w w'→Calls Tryz.prog 140 #[.slice A k c] w' (oF w' k (ds.take k))):=fun w' m=>yU k (ds.take k) A c _ w' ((U.Lm.take aE).ao m) (by omega);have J:Hid (w.cell? ⟨p,0,none⟩=some (.slice A n c)):=U.aD.cell 0;have T:=af U;have aQ:=af aE;have B:=af P;have a3:k≤1048576:=by omega
 clear U P;go_enter Tryz.func97,Tryz.ntmps97;go_wp2_with(refine aB rfl 3 (.tmp 1) rfl #[.int .i64 k] rfl ?_);intro aK nb;have X:=af nb.fr;have Z:=af nb.aD;have a5:Hid (w.heap.size<aK.heap.size):=nb.aD.lt;clear nb;generalize N:w.heap.size=g3 at*;have aW:=af N;clear N;have Y:Hid (aK.cell? ⟨g3,0,none⟩=some (.int .i64 k)):=Z.out.cell 0;have ae:Hid (aK.cell? ⟨p,0,none⟩=some (.slice A n c)):=X.out.aj J.out (fun x=>x);go_upto_region 3 with fail;refine ay 9 ah [Is (.int .i64 k),Is (.pointer (some ⟨p,0,none⟩)),Is (.pointer (some ⟨p,0,none⟩)),Is (.pointer (some ⟨p,0,none⟩)),Is (.slice A n c),Is (.int .i64 n),Is (.bool true),Is (.bool false),Is (.bool false)] [] (fun _=>True) (fun _ _=>false) (by kernel_rfl) (by kernel_rfl) (by kernel_rfl) (by kernel_rfl) ⟨Is.ag _,Is.ag _,Is.ag _,Is.ag _,Is.ag _,Is.ag _,Is.ag _,Is.ag _,Is.ag _,trivial⟩ trivial (fun _ _ _ _ h=>h) trivial ?_ ?_
 ·refine⟨?_,?_,?_,?_,?_,?_,?_,?_,?_,trivial⟩;all_goals intro u w' d m a j g f
  all_goals simp only[bm,bp,bw,bC,ar,Act.put,bD,bE,bF,Nat.reduceAdd,Nat.zero_add]
  ·clear a j g f;refine ai ?_;have az:w'.cell? ⟨g3,0,none⟩=some (.int .i64 k):=m.aj Y.out (fun x=>x);go_simp;exact⟨_,rfl,al⟩
  ·clear a j g f;refine ai ?_;go_simp;exact⟨_,rfl,al⟩
  ·have C:u 1=_:=a 1;clear a j g f;simp only[C];refine ai ?_;go_simp;exact⟨_,rfl,al⟩
  ·have s:u 2=_:=a 2;clear a j g f;simp only[s];refine ai ?_;go_simp;exact⟨_,rfl,al⟩
  ·have au:u 3=_:=a 3;clear a j g f;simp only[au];refine ai ?_;have az:w'.cell? ⟨p,0,none⟩=some (.slice A n c):=m.aj ae.out (fun x=>x);go_simp;exact⟨_,rfl,al⟩
  ·have av:u 4=_:=a 4;clear a j g f;simp only[av];refine ai ?_;go_simp;exact⟨_,rfl,al⟩
  ·have ap:u 0=_:=a 0;have aw:u 5=_:=a 5;clear a j g f;simp only[ap,aw];refine ai ?_;go_simp;refine(aN.out _).mono ?_;rintro e aI⟨rfl,rfl⟩;exact⟨_,rfl,al⟩
  ·have ax:u 6=_:=a 6;clear a j g f;simp only[ax];refine ai ?_;go_simp;exact⟨_,rfl,al⟩
  ·have a0:u 7=_:=a 7;clear a j g f;simp only[a0];refine ai ?_;go_simp;exact⟨_,rfl,al⟩
 ·intro u w' m a f;have a1:u 8=_:=a 8 (by omega);clear a f;simp only[bm,bp,bw,bC,ar,Act.put,bD,bE,bF,cZ,da,Nat.reduceAdd,Nat.zero_add,a1];generalize w'=w1 at*;have o:=af m;clear m;have I:=af (X.out.trans o.out);have aS:Hid (w1.cell? ⟨p,0,none⟩=some (.slice A n c)):=o.out.aj ae.out (fun x=>x);have aP:Hid (w1.cell? ⟨g3,0,none⟩=some (.int .i64 (k:Int))):=o.out.aj Y.out (fun x=>x);have t:=af (Z.out.fr o.out (fun x=>x));have an:=af (T.out.ao I.out);have a6:Hid (g3<w1.heap.size):=t.out.lt;have b1:(k:Int)≤(c:Int):=by have a4:=aQ.out;have aV:=B.out;omega
  have b2:(k:Int)≤(n:Int):=by omega
  have b4:(n:Int)≤(c:Int):=by have aV:=B.out;omega
  clear ae Y J o X Z aE aN;go_upto_region 5 with fail;refine ay 8 ah [Is (.pointer (some ⟨p,0,none⟩)),Is (.pointer (some ⟨p,0,none⟩)),Is (.pointer (some ⟨p,0,none⟩)),Is (.pointer (some ⟨p,0,none⟩)),Is (.slice A n c),Is (.int .i64 k),Is (.slice A k c),rO w1 k (ds.take k)] [] (fun _=>True) (fun _ _=>false) (by kernel_rfl) (by kernel_rfl) (by kernel_rfl) (by kernel_rfl) ⟨Is.ag _,Is.ag _,Is.ag _,Is.ag _,Is.ag _,Is.ag _,Is.ag _,rO.ag,trivial⟩ trivial (fun _ _ _ _ h=>h) trivial ?_ ?_
  ·refine⟨?_,?_,?_,?_,?_,?_,?_,?_,trivial⟩;all_goals intro u w' d m a j g f
   all_goals simp only[bm,bp,bw,bC,ar,Act.put,bD,bE,bF,Nat.reduceAdd,Nat.zero_add]
   ·clear a j g f;refine ai ?_;go_simp;exact⟨_,rfl,al⟩
   ·clear a j g f;refine ai ?_;go_simp;exact⟨_,rfl,al⟩
   ·have C:u 1=_:=a 1;clear a j g f;simp only[C];refine ai ?_;go_simp;exact⟨_,rfl,al⟩
   ·have s:u 2=_:=a 2;clear a j g f;simp only[s];refine ai ?_;go_simp;exact⟨_,rfl,al⟩
   ·have au:u 3=_:=a 3;clear a j g f;simp only[au];refine ai ?_;have az:w'.cell? ⟨p,0,none⟩=some (.slice A n c):=m.aj aS.out (fun x=>x);go_simp;exact⟨_,rfl,al⟩
   ·clear a j g f;refine ai ?_;have az:w'.cell? ⟨g3,0,none⟩=some (.int .i64 k):=m.aj aP.out (fun x=>x);go_simp;exact⟨_,rfl,al⟩
   ·have av:u 4=_:=a 4;have aw:u 5=_:=a 5;clear a j g f;simp only[av,aw];refine ai ?_;go_simp;exact⟨_,rfl,al⟩
   ·have ax:u 6=_:=a 6;clear a j g f;simp only[ax];refine ai ?_;go_simp;refine(aL.out _ (I.out.trans m)).mono ?_;rintro e aI⟨v,rfl,aT⟩;exact⟨_,rfl,aT.ao.bJ,⟨_,rfl,bO.ahead m aT⟩,trivial⟩
  ·intro u w' m a f;obtain⟨v1,aG,D⟩:rO w1 k (ds.take k) (u 7) w':=a 7 (by omega);have ap:u 0=_:=a 0 (by omega);clear a f;have S:=af D;have R:=af m;obtain⟨E,n1,G,rfl,H1,_⟩:=aH D.own;have aF:n1=k:=H1.out;subst aF;clear D m H1;simp only[bm,bp,bw,bC,ar,Act.put,bD,bE,bF,cZ,da,Nat.reduceAdd,Nat.zero_add,aG,ap];have K:=af (an.out.ao R.out);have y:=af (t.out.fr R.out (fun x=>x));go_wp2_with(refine aM rfl 31 (.tmp 26) _ rfl p 0 (.slice E n1 G) rfl rfl rfl IM 180 #[.slice A n c, .map mb] #[.slice E n1 G, .map mb] K.out.aD (show 0<2 by decide) rfl ?_);intro w3 b3 f3;have Q:=af b3;have ac:Hid (g3≠p):=y.out.pN K.out.aD (by decide);have aa:=af (y.out.fr f3 (fun e=>ac.out e));have ak:Hid (w3.ownsRow 0 38 32 (.slice E n1 G) n1 ((ds.take n1).flatMap aA)):=aJ S.out.own f3 (fun i O e=>by have r:i=p:=e;have a4:=S.out.new i O;have aV:=an.out.aD.lt;omega);have aR:Hid (∀i,(Value.slice E n1 G).ownBlock=some i→w.heap.size≤i):=fun i O=>Nat.le_trans I.out.size (S.out.new i O);have aO:Hid (Fr (TB p A n c mb) w w3):=((I.out.trans R.out).bJ).trans (f3.mono (fun i _ e=> .inl e));have F:Hid (ds.length=n∧(∀d∈ds,d.length=32)):=⟨T.out.len,T.out.each⟩;have ad:Hid ((∃b,mb=some b∧df w3 b ds (aY n))∨(mb=none∧∀l i,¬aY n l i)):=by
    rcases K.out.parts with⟨b,C,s⟩|h;·exact .inl ⟨b,C,s.fr f3 (fun e=>by have r:b=p:=e;exact s.kh K.out.aD r)⟩
    ·exact .inr h
   have aZ:w3.cell? ⟨p,1,none⟩=some (.map mb):=Q.out.cell 1;clear b3 f3 K y S R an t aS aP T aL I aQ B;rcases ad.out with⟨b,rfl,aU⟩|⟨rfl,L⟩;·have z:=af aU;clear aU ad;have H:Hid (∀w',df w' b ds (aY n)→aq w' g3 3 #[.int .i64 (n1:Int)]→Calls Tryz.prog 141 #[.map (some b), .func (.func 142) #[] #[.pointer (some ⟨g3,0,none⟩)]] w' (fun e q=>e= .returned (.tuple #[])∧df q b ds (fun l i=>aY n l i∧(i+1)*2^l≤n1)∧Fr (fun k=>k=b) w' q)):=fun w' C s=>yl b n1 n g3 ds w' C s a2 a3 F.out.1 F.out.2;go_wp2_with fail;refine(H.out _ z.out aa.out).mono ?_;rintro e aI⟨rfl,M,f4⟩;have aX:=af (M.take (by omega));have W:=af (aO.out.trans (f4.mono (fun i _ e=>by have r:i=b:=e;exact .inr (.inl (by rw[r])))));have V:=af (Q.out.fr f4 (fun e=>by have r:p=b:=e;exact z.out.kh Q.out r.symm));have am:=af (aJ ak.out f4 (fun i O e=>by have r:i=b:=e;exact z.out.tR ak.out (by rw[←r];exact O)));clear M f4 H;go_wp2;go_ret;exact⟨rfl,E,G,⟨V.out,am.out,by rw[List.length_take,F.out.1];omega,fun d aC=>F.out.2 d (List.mem_of_mem_take aC), .inl ⟨b,rfl,aX.out⟩⟩,W.out,aR.out⟩
   ·have ab:=af L;clear L ad;have H:Hid (∀w',Calls Tryz.prog 141 #[.map none, .func (.func 142) #[] #[.pointer (some ⟨g3,0,none⟩)]] w' (fun e q=>e= .returned (.tuple #[])∧Fr ah w' q)):=fun w'=>ym _ w';go_wp2_with fail;refine(H.out _).mono ?_;rintro e aI⟨rfl,f4⟩;have W:=af (aO.out.trans f4.bJ);have V:=af (Q.out.fr f4 (fun x=>x));have am:=af (aJ ak.out f4 (fun _ _ x=>x));clear f4 H;go_wp2;go_ret;exact⟨rfl,E,G,⟨V.out,am.out,by rw[List.length_take,F.out.1];omega,fun d aC=>F.out.2 d (List.mem_of_mem_take aC), .inr ⟨rfl,fun l i h=>ab.out l i ⟨h.1,Nat.le_trans h.2 (by omega)⟩⟩⟩,W.out,aR.out⟩
end Go.Proofs.YtphjagkehiklkaaGreatDoor.Lt
namespace Go.Proofs.YtphjagkehiklkaaGreatDoor
open Go.RowKit Go.Shelf
theorem AJ{w:World}{base:Nat}{e:TypeId}{size n m c:Nat}{A:Option Addr}{xs:List Value}(h:w.ownsRow base e size (.slice A n c) n xs)(hm:m≤n):w.ownsRow base e size (.slice A m c) m (xs.take (m*size)):=by
 have f:m*size≤n*size:=Nat.mul_le_mul_right _ hm;refine⟨by rw[List.length_take,h.1,Nat.min_eq_left f],?_⟩;rcases h.2 with⟨d,r⟩|⟨g,cap,cur,d,o,p,q,j,k,l⟩
 ·injection d with a i b;subst a b;obtain rfl:m=0:=by omega
  exact .inl ⟨rfl,rfl⟩
 ·injection d with a i b;subst a b;exact .inr ⟨g,c,cur,rfl,o,p,by omega,j,k,by rw[←l,List.take_take,Nat.min_eq_left f]⟩
theorem EC:∀(cs:List (List Value))(m:Nat),(∀c∈cs,c.length=6)→(cs.take m).flatten=cs.flatten.take (m*6)
 |_,0,_=>by simp
 |[],_+1,_=>by simp
 |c::cs,m+1,h=>by
  have a:=h c (List.mem_cons_self ..);rw[List.take_succ_cons,List.flatten_cons,List.flatten_cons,EC cs m (fun x b=>h x (List.mem_cons_of_mem _ b)),List.take_append,a,show(m+1)*6-6=m*6 by omega,List.take_of_length_le (show c.length≤(m+1)*6 by omega)]
theorem dF.Lv{w:World}:∀{cs:List (List Value)}{l:List ActV},dF w cs l→∀c∈cs,c.length=6
 |[],[],_,_,h=>by cases h
 |c::cs,a::l,h,x,b=>by
  rcases List.mem_cons.1 b with rfl|b;·exact h.1.len
  ·exact dF.Lv h.2 x b
 |[],_::_,h,_,_=>h.elim
 |_::_,[],h,_,_=>h.elim
theorem jr.cut{w:World}{A:Option Addr}{n c m:Nat}{l:List ActV}(h:jr w (.slice A n c) l)(d:n=l.length)(hm:m≤l.length):jr w (.slice A m c) (l.take m):=by
 obtain⟨cs,a,b⟩:=h;refine⟨cs.take m,?_,b.take m⟩;rw[EC cs m b.Lv,List.length_take,Nat.min_eq_left hm];rw[←d]at a;exact AJ a (by omega)
def Jt(w:World)(h:Nat)(E:List Ent)(L:List ActV)(T:Nat→Prop)(n:Int)(e:Ending)(w':World):Prop:=
 (0≤n∧n≤L.length∧e= .returned (.int .i64 0)∧∃T',eD w' h E (L.take n.toNat) T'∧Fr T w w'∧∀k,T' k→T k∨w.heap.size≤k)∨(¬(0≤n∧n≤L.length)∧e= .returned (.int .i64 2)∧Fr ah w w')
theorem ue(h:Nat)(E:List Ent)(L:List ActV)(T:Nat→Prop)(n:Int)(w:World)(ar:eD w h E L T)(aa:ed w)(Z:cI 24 E)(U:eS L):
  Calls Tryz.prog 42 #[.pointer (some ⟨h,0,none⟩), .int .i64 n] w (Jt w h E L T n):=by
 have I:=af (zl h E L T n w ar aa Z U);obtain⟨b,s,g,va,vk,K,A,c,mb,H,rfl⟩:=ar;obtain⟨aI,z,ab⟩:=id H.jt;obtain⟨f,n1,l,rfl,H1,M⟩:=aH z;obtain⟨j,r,o,rfl,ak,N⟩:=aH H.kept;have p:Hid (n1=L.length∧n1≤16∧n1≤l∧r=L.length/16∧r≤o∧r=K.length):=by have aQ:=H1.out;have aZ:=U.len;have aR:=M.out;have aS:=ak.out;have aT:=N.out;have a0:=H.lP;exact⟨aQ,by omega,aR,by omega,aT,aS⟩
 have ae:=af (iO w h b (H.aD.cell 0));have aB:=af H;have aX:=af aa;have aV:=af Z;have aW:=af U;clear H z ab H1 M ak N aa Z U;go_enter Tryz.func42,Tryz.ntmps42;go_wp2_with fail;refine ae.out.mono ?_;rintro e w'⟨rfl,rfl⟩;clear ae;go_wp2_with fail;refine I.out.mono ?_;rintro e w1⟨f1,⟨a,S,V,rfl,ac⟩|⟨a,rfl⟩⟩;case inr=>
  have J:=af f1;have u:=af a;clear f1 a;go_wp2;go_ret;exact .inr ⟨u.out,rfl,J.out⟩
 obtain⟨m,rfl⟩:∃m:Nat,n=m:=⟨n.toNat,by omega⟩;have C:Hid (m≤n1):=by have:=p.out;simp only[Hid];omega
 rw[Int.toNat_natCast]at ac;have J:=af f1;have am:=af ac;have G:=af (aB.out.ao f1);clear f1 ac a S I;have aE:w1.cell? ⟨h,4,none⟩=some (.pointer (some ⟨g,0,none⟩)):=G.out.aD.cell 4;have a1:IntKind.i64.wrap ((m:Int)+1)=((m+1:Nat):Int):=by rw[IntWalk.i64_in _ (by have:=C.out;have:=p.out;omega)];rfl
 have ag:Hid (Calls Tryz.prog 97 #[.pointer (some ⟨g,0,none⟩), .int .i64 ((m+1:Nat):Int)] w1 (Lt.Cut w1 g A (L.length+1) c mb (dk E L) (m+1))):=Lt.x8 w1 g A (L.length+1) c mb (dk E L) (m+1) G.out.log (by have:=p.out;omega) (by have:=C.out;have:=p.out;omega) (by obtain⟨aU,c3,aP,aO⟩:=qz G.out.log.row;injection aP with _ _ X;rw[X];exact aO);go_wp2_with fail;refine ag.out.mono ?_;rintro e w2⟨rfl,B,D,au,v,y⟩;have t:(L.take m).length=m:=by rw[List.length_take];have:=C.out;have:=p.out;omega
 have x:eZ w1 (Lt.TB g A (L.length+1) c mb):=fun k d=>G.out.cu k (.inr (.inr (.inr d)));have Q:Hid (dG w2 h b s g (.slice f n1 l) (.slice j r o) K B D mb E L L L (L.take m)):=G.out.Bf v (by rw[t,←qw];exact au);have an:=af (am.out.cu v x);have ah:Hid (Fr (HB h (.slice f n1 l) (.slice j r o) g A (L.length+1) c mb) w w2):=J.out.bJ.trans (v.mono (fun i _ d=> .inr (.inr (.inr d))));have W:Hid (∀k,Lt.TB g B ((L.take m).length+1) D mb k→Lt.TB g A (L.length+1) c mb k∨w.heap.size≤k):=fun k d=>by
  rw[t]at d;rcases d with a|a|a;·exact .inl (.inl a)
  ·exact .inl (.inr (.inl a))
  ·exact .inr (Nat.le_trans J.out.size (y k a))
 have t:=af t;have O:=af Q.out.aD;have aF:w2.cell? ⟨h,1,none⟩=some (.slice f n1 l):=O.out.cell 1;clear au v y x ag G am J aE;have aJ:(m:Int)≤(l:Int):=by have:=C.out;have:=p.out;omega
 have aY:(0:Int)≤(m:Int):=by omega
 go_wp2_with(refine aM rfl 26 (.tmp 37) (.tmp 35) rfl h 1 (.slice f m l) rfl rfl rfl r8 _ _ #[.pointer (some ⟨b,0,none⟩), .slice f m l, .slice j r o, .pointer (some ⟨s,0,none⟩), .pointer (some ⟨g,0,none⟩)] O.out (show 1<5 by decide) rfl ?_);intro w3 b3 f3;have R:Hid (dG w3 h b s g (.slice f m l) (.slice j r o) K B D mb E (L.take m) L L (L.take m)):=Q.out.Bc az.bJ (Q.out.jt.cut p.out.1 (by have:=C.out;have:=p.out;omega)) (fun k d=> .inl (by cases f<;>exact d)) f3 b3;have ap:=af (an.out.cu f3 (kt O.out (by decide) (by decide) (by decide)));have ai:Hid (Fr (HB h (.slice f n1 l) (.slice j r o) g A (L.length+1) c mb) w w3):=ah.out.trans (f3.mono (fun i _ d=> .inl d));have P:=af b3;have aG:w3.cell? ⟨h,2,none⟩=some (.slice j r o):=P.out.cell 2;clear b3 f3 Q an ah O aF aJ;obtain⟨q,aw⟩:∃q:Nat,q=m/16:=⟨_,rfl⟩;have X:(m:Int).tdiv 16=(q:Int):=by rw[Int.tdiv_eq_ediv_of_nonneg (by omega)];omega
 have u:Hid (q=m/16∧q≤r):=by have:=C.out;have:=p.out;exact⟨aw,by omega⟩
 have aK:(q:Int)≤(o:Int):=by have:=u.out;have:=p.out;omega
 have aL:(0:Int)≤(q:Int):=by omega
 have Y:IntKind.i64.wrap (q:Int)=(q:Int):=IntWalk.i64_in _ (by have:=u.out;have:=p.out;omega);have aN:wrap64 (q:Int)=(q:Int):=by first|exact Y|(simpa[IntKind.wrap,IntKind.bits,IntKind.signed]using Y)|(unfold wrap64;have:=u.out;have:=p.out;omega)
 clear aw;go_wp2_with(refine aM rfl 108 (.tmp 47) (.tmp 45) rfl h 2 (.slice j q o) rfl rfl rfl xq _ _ #[.pointer (some ⟨b,0,none⟩), .slice f m l, .slice j q o, .pointer (some ⟨s,0,none⟩), .pointer (some ⟨g,0,none⟩)] P.out (show 2<5 by decide) rfl ?_);intro ax b4 f4;have al:Hid (dG ax h b s g (.slice f m l) (.slice j q o) (K.take q) B D mb E (L.take m) (L.take m) L (L.take m)):=by
  have F:(K.take q).length=q:=by rw[List.length_take];have:=u.out;have:=p.out;omega
  refine R.out.Bd az.bJ ?_ (fun k d=> .inl (by cases j<;>exact d)) (by rw[F,t.out];exact u.out.1) (fun i k d=>?_) f4 b4;·have a:=R.out.kept;rw[←p.out.2.2.2.2.2]at a;have S:=AJ a u.out.2;rw[Nat.mul_one,←List.map_take]at S;rw[F];exact S
  ·have av:=(List.getElem?_eq_some_iff.1 d).1;rw[F]at av;rw[List.getElem?_take_of_lt av]at d;have a:=R.out.qs i k d;rw[List.take_take,Nat.min_eq_left (by have:=u.out;omega)];exact a
 have aq:=af (ap.out.cu f4 (kt P.out (by decide) (by decide) (by decide)));have aj:Hid (Fr (HB h (.slice f n1 l) (.slice j r o) g A (L.length+1) c mb) w ax):=ai.out.trans (f4.mono (fun i _ d=> .inl d));have ad:=af b4;clear b4 f4 R ap ai P aG X aK aL Y aN;go_wp2_with(refine aM rfl 25 (.tmp 51) (.tmp 49) rfl h 3 (.pointer (some ⟨V,0,none⟩)) rfl rfl rfl Ak _ _ #[.pointer (some ⟨b,0,none⟩), .slice f m l, .slice j q o, .pointer (some ⟨V,0,none⟩), .pointer (some ⟨g,0,none⟩)] ad.out (show 3<5 by decide) rfl ?_);intro ay b5 f5;have aC:Hid (dG ay h b V g (.slice f m l) (.slice j q o) (K.take q) B D mb E (L.take m) (L.take m) (L.take m) (L.take m)):=al.out.Be f5 aq.out b5;have aA:Hid (Fr (HB h (.slice f n1 l) (.slice j r o) g A (L.length+1) c mb) w ay):=aj.out.trans (f5.mono (fun i _ d=> .inl d));clear b5 f5 al aq aj ad;go_wp2;go_ret;refine .inl ⟨by omega,by have:=C.out;have:=p.out;omega,rfl,HB h (.slice f m l) (.slice j q o) g B ((L.take m).length+1) D mb,?_,aA.out,fun k d=>?_⟩;·rw[Int.toNat_natCast];exact⟨b,V,g,_,_,_,B,D,mb,aC.out,rfl⟩
 ·rcases d with a|a|a|a;·exact .inl (.inl a)
  ·exact .inl (.inr (.inl (by cases f<;>exact a)))
  ·exact .inl (.inr (.inr (.inl (by cases j<;>exact a))))
  ·exact(W.out k a).imp (fun h=> .inr (.inr (.inr h))) id
end Go.Proofs.YtphjagkehiklkaaGreatDoor
