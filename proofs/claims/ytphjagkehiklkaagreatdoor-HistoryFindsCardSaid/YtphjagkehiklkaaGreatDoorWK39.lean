/- Texts. -/
import Derived.Test.YtphjagkehiklkaaGreatDoorWK36
import Derived.Test.YtphjagkehiklkaaGreatDoorWK37
import Derived.Test.YtphjagkehiklkaaGreatDoorWK38
set_option linter.unusedVariables false
set_option linter.unusedSimpArgs false
set_option maxRecDepth 100000
set_option maxHeartbeats 8000000
namespace Go.Proofs.YtphjagkehiklkaaGreatDoor
open Go.RowKit Go.Shelf
theorem Hk{E:List Ent}{L:List ActV}{k:Nat}{a:ActV}(h:L[k]? =some a):(cj E L).getD (k+1) []=dV (dk a):=by
 simp[cj,h]
theorem Jm(E:List Ent)(L:List ActV)(c:iH L){k m:Nat}{a:ActV}(j:k<m)(hm:m≤L.length)(h:L[k]? =some a):
  rk (Lt.dC (cj E (L.take m))) (k:Int) (m:Int) (dk a) (Lt.cZ (cj E (L.take m)) (k+1))=0:=by
 have l:(cj E (L.take m)).length=m+1:=by rw[gj,List.length_take,Nat.min_eq_left hm]
 have i:=c.len;have e:=List.mem_of_getElem? h;have d:(L.take m)[k]? =some a:=by rw[List.getElem?_take,if_pos j];exact h
 have b:=Lt.Ck (m+1) (cj E (L.take m)) (k+1) l (by omega) (by omega);rw[Hk d]at b;have f:(((k+1:Nat)):Int)=(k:Int)+1:=by omega
 have g:(((m+1:Nat)):Int)=(m:Int)+1:=by omega
 rw[f,g]at b;unfold rk;rw[if_neg (by omega),if_neg (by rw[(c.small a e).dec (c.ok a e)];simp),if_pos];unfold uM;rw[b.2,b.1,show Lt.dC (cj E (L.take m))=Lt.bQ (cj E (L.take m))from if_neg (by simp[cj])];simp
theorem tT:gm clockA=true:=by kernel_rfl
theorem gP:gW clockA:=⟨by decide,by simp[clockA],by
 intro c a;simp only[clockA,List.mem_singleton]at a;subst a;exact⟨by decide,by decide,by decide⟩,by decide,by decide⟩
theorem su:eY [] clockA=(0,[clockA]):=by
 unfold eY;rw[if_neg (by rw[tT];decide)];rfl
theorem j5:iH [clockA]:=by
 have:=iH.nil.append gP (by decide);rw[su]at this;exact this
theorem y7:Jz (eU nk (fT [clockA] []))= .tuple #[.string ⟨#[53]⟩, .bool true]:=by kernel_rfl
theorem y8:rk (Lt.dC (cj [] [clockA])) 0 1 (dk clockA) (Lt.cZ (cj [] [clockA]) 1)=0:=Jm [] [clockA] j5 (k:=0) (m:=1) (a:=clockA) (by decide) (by decide) rfl
theorem By(w:World)(b7:eE w)(b6:bB w):Calls Tryz.prog 13 #[] w (yH w):=by
 have an:=af b7;have K:=af b6;clear b7 b6;have bz:Hid (∀w' b,Fr ag w w'→ft w' b []→Calls Tryz.prog 29 #[.pointer (some ⟨b,0,none⟩)] w' (Dm w' [])):=fun w' b f h=>vY [] b w' h (an.out.ar f) (K.out.ar f) (cW.nil.more (by decide));have Y:Hid (∀w' h T cs,Fr ag w w'→fK w' h [] [] T→df w' cs clockA→(∀k,T k→w.heap.size≤k)→Calls Tryz.prog 32 #[.pointer (some ⟨h,0,none⟩), .agg cs.toArray] w' (fun e l=>∃T',e= .returned (.int .i64 0)∧fK l h [] [clockA] T'∧Fr ag w l∧∀k,T' k→w.heap.size≤k)):=fun w' h T cs f n b5 I=>by
  refine(qw h [] [] T clockA cs w' n b5 (an.out.ar f) (K.out.ar f) gP.sz (fun b cf=>by cases cf) (by decide) (fun _=>by have:=gP.len;omega) (fun k P ci=>?_) (fun cu w2 s f2 aT=>?_)).mono ?_;·have N:=I k ci;have bf:=K.out.Fg;have ct:=K.out.Fh;rcases P with rfl|rfl<;>omega
  ·exact lQ _ clockA cs 0 s w2 (b5.ar f2) aT (an.out.ar (f.trans f2)) cW.nil gP.writes (by decide)
  ·rintro e w2⟨T',rfl,av,f2,bi⟩;rw[su]at av⊢;exact⟨T',rfl,av,f.aw f2 (fun i bl e=>by have:=I i e;omega),fun k P=>by
    rcases bi k P with N|N;·exact I k N
    ·have:=f.size;omega⟩
 have bD:Hid (∀w' h T,fK w' h [] [clockA] T→Calls Tryz.prog 38 #[.pointer (some ⟨h,0,none⟩), .int .i64 1] w' (Gl w' [] [clockA])):=fun w' h T n=>xn h [] [clockA] T w' n;obtain⟨C,E⟩:∃C,Lt.dC (cj [] [clockA])=C:=⟨_,rfl⟩;have y:C.length=32:=by rw[←E];exact Lt.iW 2 _ rfl (by decide) (jM _ _)
 have bC:Hid (∀w' h T,Fr ag w w'→fK w' h [] [clockA] T→Calls Tryz.prog 16 #[.pointer (some ⟨h,0,none⟩), .int .i64 1] w' (aJ w' (.tuple #[.agg (C.map aS).toArray, .int .i64 0]))):=fun w' h T f n=>by
  have q:=pT h [] [clockA] T 1 w' n (K.out.ar f) (by decide);have e:qz [] [clockA] 1= .tuple #[.agg (C.map aS).toArray, .int .i64 0]:=by rw[←E];rfl
  rw[e]at q;exact q
 obtain⟨p,D⟩:∃p,Lt.cZ (cj [] [clockA]) 1=p:=⟨_,rfl⟩;obtain⟨J,M⟩:∃J:ByteArray,⟨(dk clockA).toArray⟩=J:=⟨_,rfl⟩;have B:Hid (aR J=dk clockA∧J.size≤16777216):=by
  rw[Hid,←M];exact⟨Iq _,by have:=gP.len;simp only[ByteArray.size,List.size_toArray];omega⟩
 have am:Hid (p.length≤1∧∀d∈p,d.length=32):=by
  rw[Hid,←D];exact⟨Lt.kH 1 _ _ (by decide) (by decide),Lt.zQ 2 _ _ rfl (by decide) (jM _ _)⟩
 have bA:Hid (∀w' h T,Fr ag w w'→fK w' h [] [clockA] T→Calls Tryz.prog 15 #[.pointer (some ⟨h,0,none⟩), .int .i64 0, .int .i64 1] w' (fun e l=>∃A c,e= .returned (.tuple #[.agg [Value.int .i64 0, .int .i64 1, .string J, .slice A p.length c].toArray, .int .i64 0])∧Lt.eM l (fun _=>True) A p.length p∧Fr ag w' l)):=fun w' h T f n=>by
  refine(yE h [] [clockA] T 0 1 w' n (an.out.ar f) (K.out.ar f) (by decide) j5.ok (fun a bk=>(j5.small a bk).sz)).mono ?_;rintro e w2(⟨ax,_⟩|⟨k,m,a,v,P,hm,cg,ch,bh,rfl,bg⟩);·exact absurd ⟨by decide,by decide,by decide,by decide⟩ ax
  ·obtain rfl:k=0:=by omega
   obtain rfl:m=1:=by omega
   obtain rfl:clockA=a:=by simpa using bh
   have cd:Lt.cZ (cj [] ([clockA].take 1)) (0+1)=p:=D;rw[cd]at bg;obtain⟨A,c,rfl,H,N,bf,_⟩:=Lt.eM.qY bg rfl am.out.2;rw[M];exact⟨A,c,rfl,⟨H.rd.any,H.len,H.each⟩,bg.ar⟩
 have CV:Hid (∀w' A c,Fr ag w w'→Lt.eM w' (fun _=>True) A p.length p→Calls Tryz.prog 17 #[.agg (C.map aS).toArray, .agg [Value.int .i64 0, .int .i64 1, .string J, .slice A p.length c].toArray] w' (fun e l=>∃cs,e= .returned (.tuple #[.agg cs.toArray, .int .i64 0])∧df l cs clockA∧Fr ag w' l)):=fun w' A c f H=>by
  refine(xo C y 0 1 J p p.length A c _ w' H (by have:=am.out.1;omega) (an.out.ar f) (K.out.ar f) B.out.2).mono ?_;rintro e w2⟨cs,a,cr,rfl,bk,f2,aC,ce,_⟩;rw[B.out.1,←E,←D,y8]at aC;subst aC;have:=ce rfl;rw[B.out.1,gP.dec tT]at this;obtain rfl:=Option.some.inj this;exact⟨cs,rfl,bk,f2⟩
 have cb:Hid (∀w' cs ds,df w' cs clockA→df w' ds clockA→Calls Tryz.prog 19 #[.agg cs.toArray, .agg ds.toArray] w' (aJ w' (.bool true))):=fun w' cs ds N bf=>by
  have q:=yA clockA clockA cs ds w' N bf (by decide) (by decide);rw[(GX clockA clockA).2 rfl]at q;exact q
 have bx:Hid (∀w' s,ft w' s (fT [clockA] [])→Calls Tryz.prog 53 #[.pointer (some ⟨s,0,none⟩), .agg kC] w' (aJ w' (.tuple #[.string ⟨#[53]⟩, .bool true]))):=fun w' s h=>by
  have G:=(lI [clockA] [] 0 cW.nil j5.ok j5.small).oh (by decide);have q:=Gk (fT [clockA] []) nk s w' h G ⟨by decide,by decide⟩;rw[y7]at q;exact q
 have CL:Hid (∀w' h T,fK w' h [] [clockA] T→Calls Tryz.prog 46 #[.pointer (some ⟨h,0,none⟩)] w' (aY w' (.int .i64 1))):=fun w' h T n=>Ea h [] [clockA] T w' n;have aO:Hid (Lt.bT (C.map aS).toArray):=Lt.bT.of y;generalize C.map aS=ao at*;clear E D M y B;go_enter Tryz.func13,Tryz.ntmps13;go_wp2_with fail;refine(qB _).mono ?_;rintro e w1⟨ck,rfl,aM,f1⟩;have aP:=af f1;have bS:Hid (ft w1 ck []):=⟨_,aM,rfl⟩;clear aM f1;go_wp2_with fail;refine(bz.out _ _ aP.out bS.out).mono ?_;rintro e w2⟨h,T,rfl,n,f2,I⟩;have bF:=af (aP.out.trans f2);have bK:=af n;have b1:Hid (∀k,T k→w.heap.size≤k):=fun k P=>by have:=I k P;have:=aP.out.size;omega
 clear n f2 I bz bS aP;go_wp2_with fail;refine(tU _).mono ?_;rintro e w3⟨cs,rfl,aA,f3,_⟩;have bG:=af (bF.out.trans f3);have bL:=af (bK.out.ar f3);have bs:=af aA;clear aA f3 bK bF;go_wp2_with fail;refine(Y.out _ _ _ _ bG.out bL.out bs.out b1.out).mono ?_;rintro e bn⟨T',rfl,n,f4,I⟩;have aX:=af f4;have aQ:=af n;clear n f4 I Y bL bG bs b1;go_wp2_with fail;refine(bD.out _ _ _ aQ.out).mono ?_;rintro e bo⟨s,rfl,rfl,aT⟩;have bU:=af aT;clear aT bD;go_wp2_with fail;refine(bC.out _ _ _ aX.out aQ.out).mono ?_;rintro e bo⟨rfl,f5⟩;have bH:=af (aX.out.trans f5);have bM:=af (aQ.out.ar f5);have bV:=af (bU.out.ar f5);clear f5 bC aQ bU aX;go_wp2_with(refine ak rfl 38 rfl aI dW aB rfl ?_);intro br aN;have L:=af aN;clear aN;generalize aE:bo.heap.size=g5 at*;have ah:=af aE;clear aE;have X:Hid (aq br g5 38 aB):=by have h:=L.out.aH;rw[ah.out]at h;exact h
 go_wp2_with(refine ai rfl 38 (.tmp 5) _ rfl g5 ao.toArray rfl rfl _ _ X.out aO.out.info aO.out.zero aO.out.one ?_);intro cn b2 f6;have bu:=af b2;have f56:Fr ag bo cn:=L.out.fr.aw f6 (fun i bl e=>by have b3:i=g5:=e;have:=ah.out;omega);have aZ:=af (bH.out.trans f56);have a2:=af (bM.out.ar f56);have bW:=af (bV.out.ar f56);clear b2 f6 f56 L X bH bM bV;go_wp2_with fail;refine(bA.out _ _ _ aZ.out a2.out).mono ?_;rintro e bp⟨A,c,rfl,H,f7⟩;have a0:=af (aZ.out.trans f7);have bN:=af (a2.out.ar f7);have bX:=af (bW.out.ar f7);have bv:=af (bu.out.fr f7 (fun x=>x));have bE:=af H;clear f7 H bA aZ a2 bW bu;obtain⟨z,o⟩:∃z,[Value.int .i64 0, .int .i64 1, .string J, .slice A p.length c]=z:=⟨_,rfl⟩;have ba:Hid (z.toArray.all (·.oneCell')=true):=by rw[Hid,←o];simp[Value.oneCell']
 have a5:Hid ((Tryz.prog.info? 33).map (·.size)=some z.toArray.size):=by rw[Hid,←o];exact jV
 have a6:Hid ((Tryz.prog.info? 33).map (·.size)=some z.length):=by rw[Hid,←o];exact jV
 have bc:Hid (dI.toArray.size=z.toArray.size):=by rw[Hid,←o];rfl
 have Z:Hid (∀w',Fr ag bp w'→Calls Tryz.prog 17 #[.agg ao.toArray, .agg z.toArray] w' (fun e l=>∃cs,e= .returned (.tuple #[.agg cs.toArray, .int .i64 0])∧df l cs clockA∧Fr ag w' l)):=fun w' f=>by rw[←o];exact CV.out w' A c (a0.out.trans f) (bE.out.ar f)
 rw[o];clear o CV bE;go_wp2_with(refine ak rfl 33 rfl (.agg dI.toArray) JC dI.toArray rfl ?_);intro br aN;have L:=af aN;clear aN;generalize aK:bp.heap.size=g7 at*;have aj:=af aK;clear aK;have X:Hid (aq br g7 33 dI.toArray):=by have h:=L.out.aH;rw[aj.out]at h;exact h
 go_wp2_with(refine ai rfl 33 (.tmp 7) _ rfl g7 z.toArray rfl rfl _ _ X.out a5.out bc.out ba.out ?_);intro bq b8 f8;have W:=af b8;have f78:Fr ag bp bq:=L.out.fr.aw f8 (fun i bl e=>by have b3:i=g7:=e;have:=aj.out;omega);have bI:=af (a0.out.trans f78);have bO:=af (bN.out.ar f78);have bY:=af (bX.out.ar f78);have V:=af (bv.out.fr f78 (fun x=>x));have aa:=af (Z.out _ f78);have bR:Hid (∀j x,ao[j]? =some x→bq.cell? ((⟨g5,0,none⟩:Addr).add j)=some x):=fE V.out;have bQ:Hid (∀j x,z[j]? =some x→bq.cell? ((⟨g7,0,none⟩:Addr).add j)=some x):=fE W.out;have a7:Hid ((Tryz.prog.info? 38).map (·.size)=some ao.length):=by have q:=aO.out.info;rw[List.size_toArray]at q;exact q
 clear b8 f8 f78 L X a0 bN bX bv Z;go_wp2_with(refine aF rfl 38 (.tmp 5) rfl ⟨g5,0,none⟩ rfl ao _ ?zU Tryz.underlying38 rfl a7.out (bj.go ?zW));case zU=>exact bR.out
 unfold bj;go_wp2_with(refine aF rfl 33 (.tmp 7) rfl ⟨g7,0,none⟩ rfl z _ ?zT Tryz.underlying33 rfl a6.out (bj.go ?zV));case zT=>exact bQ.out
 unfold bj;go_wp2_with fail;refine aa.out.mono ?_;rintro e b9⟨ds,rfl,r,f9⟩;have bJ:=af (bI.out.trans f9);have bP:=af (bO.out.ar f9);have b0:=af (bY.out.ar f9);have bt:=af r;have a4:Hid ((Tryz.prog.info? 46).map (·.size)=some ds.toArray.size):=by rw[Hid,List.size_toArray,r.len];exact bZ
 have a3:Hid ((Tryz.prog.info? 46).map (·.size)=some ds.length):=by rw[Hid,r.len];exact bZ
 have bb:Hid (6=ds.toArray.size):=by rw[Hid,List.size_toArray,r.len]
 have a9:=af (ActV.one r);clear r f9 aa bI bO bY V W bR bQ;go_wp2_with(refine ak rfl 46 rfl fH oc #[.int .i64 0, .int .i64 0, .int .i64 0, .string ByteArray.empty, .slice none 0 0, .slice none 0 0] rfl ?_);intro co nb;have a8:=af nb;clear nb;generalize aL:b9.heap.size=g9 at*;have al:=af aL;clear aL;have bw:Hid (aq co g9 46 #[.int .i64 0, .int .i64 0, .int .i64 0, .string ByteArray.empty, .slice none 0 0, .slice none 0 0]):=by have h:=a8.out.aH;rw[al.out]at h;exact h
 go_wp2_with(refine ai rfl 46 (.tmp 9) _ rfl g9 ds.toArray rfl rfl _ _ bw.out a4.out bb.out a9.out ?_);intro bm fj f10;have S:=af fj;have t:Fr ag b9 bm:=a8.out.fr.aw f10 (fun i bl e=>by have b3:i=g9:=e;have:=al.out;omega);have ab:=af (bJ.out.trans t);have ad:=af (bP.out.ar t);have ap:=af (b0.out.ar t);have Q:=af (bt.out.ar t);clear fj f10 t a8 bw bJ bP b0 bt;go_wp2_with fail;refine(qD _).mono ?_;rintro e cl⟨rfl,f11⟩;have au:=af (ap.out.ar f11);have ac:=af (ab.out.trans f11);have ae:=af (ad.out.ar f11);have R:=af (Q.out.ar f11);have U:=af (S.out.fr f11 (fun x=>x));have F:=af (bx.out _ _ au.out);generalize kC=ca at*;clear f11 ap ab ad Q S au bx;go_wp2_with fail;refine F.out.mono ?_;rintro e cm⟨rfl,f12⟩;have aW:=af (ac.out.trans f12);have a1:=af (ae.out.ar f12);have aU:=af (R.out.ar f12);have aV:=af (U.out.fr f12 (fun x=>x));clear f12 ac ae R U F;go_upto_region 11 with fail;refine yw 28 [iS (.int .i64 0),iS (.bool true),iS (.bool true),iS (.int .i64 0),iS (.bool true),iS (.bool true),iS (.bool true),iS (.int .i64 0),iS (.bool true),iS (.bool true),iS (.bool true),iS (.agg ds.toArray),⟨fun cq cp=>∃es:List Value,cq= .agg es.toArray∧df cp es clockA,fun _ _ _ f⟨es,e,h⟩=>⟨es,e,h.ar f⟩⟩,iS (.bool true),iS (.bool true),iS (.bool true),iS (.bool true),iS (.bool true),iS (.bool true),iS (.string ⟨#[53]⟩),iS (.bool true),iS (.bool true),iS (.bool true),iS (.pointer (some ⟨h,0,none⟩)),iS (.int .i64 1),iS (.bool true),iS (.bool true),iS (.bool true)] ?zX ?_;case zX=>
  refine⟨?yK,?zY,?zZ,?yB,?yC,?yD,?yF,?yG,?yI,?yJ,?zA,?zB,?zC,?zD,?zE,?zF,?zG,?zH,?zI,?zJ,?zK,?zL,?zM,?zN,?zO,?zP,?zR,?zS,trivial⟩;all_goals intro u w' O g
  all_goals simp only[z1,z2,z3,z4,ay,Act.put,z5,z6,z7,Nat.reduceAdd,Nat.zero_add]
  case zY=>
   simp only[show u 0=_ from g 0];refine aG ?_;go_simp;exact⟨_,rfl,aD,rfl⟩
  case' zZ=>simp only[show u 1=_ from g 1]
  case' yB=>simp only[show u 2=_ from g 2]
  case yC=>
   simp only[show u 3=_ from g 3,show u 2=_ from g 2];refine aG ?_;go_simp;exact⟨_,rfl,aD,rfl⟩
  case' yD=>simp only[show u 2=_ from g 2,show u 4=_ from g 4]
  case' yF=>simp only[show u 5=_ from g 5]
  case' yG=>simp only[show u 6=_ from g 6]
  case yI=>
   simp only[show u 7=_ from g 7,show u 6=_ from g 6];refine aG ?_;go_simp;exact⟨_,rfl,aD,rfl⟩
  case' yJ=>simp only[show u 6=_ from g 6,show u 8=_ from g 8]
  case' zA=>simp only[show u 9=_ from g 9]
  case zB=>
   simp only[show u 10=_ from g 10];refine aG ?_;exact az _ _ rfl ⟨g9,0,none⟩ rfl ds _ (fE (aV.out.fr O (fun x=>x))) Tryz.underlying46 rfl a3.out ⟨_,rfl,aD,rfl⟩
  case zC=>
   simp only[show u 10=_ from g 10];refine aG ?_;go_simp;refine(tU _).mono ?_;rintro e bn⟨es,rfl,he,f4,_⟩;exact⟨_,rfl,f4,⟨es,rfl,he⟩⟩
  case zD=>
   obtain⟨b4,bd,be⟩:=g 12;simp only[show u 11=_ from g 11,bd,show u 10=_ from g 10];refine aG ?_;go_simp;refine(cb.out _ _ _ (aU.out.ar O) be).mono ?_;rintro e bn⟨rfl,f4⟩;exact⟨_,rfl,f4,rfl⟩
  case' zE=>simp only[show u 10=_ from g 10,show u 13=_ from g 13]
  case' zF=>simp only[show u 14=_ from g 14]
  case' zG=>simp only[show u 15=_ from g 15]
  case' zH=>simp only[show u 15=_ from g 15,show u 16=_ from g 16]
  case' zI=>simp only[show u 17=_ from g 17]
  case' zJ=>simp only[show u 18=_ from g 18]
  case zK=>
   simp only[show u 19=_ from g 19,show u 18=_ from g 18];refine aG ?_;go_simp;exact⟨_,rfl,aD,rfl⟩
  case' zL=>simp only[show u 18=_ from g 18,show u 20=_ from g 20]
  case' zM=>simp only[show u 21=_ from g 21]
  case' zN=>simp only[show u 22=_ from g 22]
  case zO=>
   simp only[show u 23=_ from g 23,show u 22=_ from g 22];refine aG ?_;go_simp;refine(CL.out _ _ _ (a1.out.ar O)).mono ?_;rintro e bn⟨rfl,rfl⟩;exact⟨_,rfl,aD,rfl⟩
  case zP=>
   simp only[show u 24=_ from g 24,show u 22=_ from g 22];refine aG ?_;go_simp;exact⟨_,rfl,aD,rfl⟩
  case' zR=>simp only[show u 22=_ from g 22,show u 25=_ from g 25]
  case' zS=>simp only[show u 26=_ from g 26]
  all_goals
   refine aG ?_;go_simp;exact⟨_,rfl,aD,rfl⟩
 intro u w' O g;simp only[z1,z2,z3,z4,ay,Act.put,z5,z6,z7,z8,z9,Nat.reduceAdd,Nat.zero_add,show u 27=_ from g 27 (by omega)];clear g;have cc:=af (aW.out.trans O);clear O;go_wp2;go_ret;exact⟨rfl,cc.out⟩
end Go.Proofs.YtphjagkehiklkaaGreatDoor
