/- Texts. -/
import Derived.Test.YtphjagkehiklkaaGreatDoorYK22
set_option linter.unusedVariables false
set_option linter.unusedSimpArgs false
set_option maxRecDepth 100000
set_option maxHeartbeats 8000000
namespace Go.Proofs.YtphjagkehiklkaaGreatDoor
open Go.RowKit Go.Shelf
theorem pW(bA:Nat)(fo:Option Addr)(gL:Nat)(fg:Int)(P:pE)(w:World)(iv:ug w fo bA)(fA:0≤fg∧fg≤255)(jh:P.kE)(fx:eG w)(fw:bH w):
  Calls Tryz.prog 6 #[.slice fo bA gL, .int .u8 fg,P.val] w (ui w):=by
 obtain⟨ci,cl,ba,bs,ap,ir⟩:=P;obtain⟨hg,hh,iC,hu,av,ad⟩:=jh;simp only at iC hu av ad;clear hg hh;obtain⟨c3,rfl⟩:∃z:Nat,fg=(z:Int):=⟨fg.toNat,by omega⟩;obtain⟨bs,rfl⟩:∃z:Nat,bs=(z:Int):=⟨bs.toNat,by omega⟩;obtain⟨ap,rfl⟩:∃z:Nat,ap=(z:Int):=⟨ap.toNat,by omega⟩;obtain⟨bb,rfl⟩:∃bb:UInt8,ir=((bb.toNat:Nat):Int):=⟨UInt8.ofNat ir.toNat,by rw[UInt8.toNat_ofNat'];omega⟩;unfold pE.val pE.cells;simp only;have gl:Hid (c3≤255∧bs<256∧ap<256∧ba.size≤9223372036854775807):=by simp only[Hid];omega
 clear fA iC hu av ad;have hJ:Hid (∀w',Fr ag w w'→Calls Tryz.prog 13 #[] w' (ui w')):=fun w' f=>Ct w' (fx.aq f) (fw.aq f);have hI:Hid (∀w',Fr ag w w'→Calls Tryz.prog 14 #[.slice none 0 0, .slice fo bA gL] w' (o6 w')):=fun w' f=>zQ 0 [] none 0 (fun _=>True) bA fo gL w' ⟨Rd.none_,rfl⟩ (by decide) (by decide) (iv.aq f) (fx.aq f) (fw.aq f);have hR:=af fx;have bi:=af fw;clear iv fx fw;go_enter Tryz.func6,Tryz.ntmps6;go_wp2_with(refine ay rfl 60 (.tmp 2) rfl [Value.int .i64 ci, .int .i64 cl, .string ba, .int .u8 (bs:Int), .int .u8 (ap:Int), .int .u8 ((bb.toNat:Nat):Int)].toArray rfl ?_);intro iK n0;have gx:=af n0;clear n0;generalize cS:w.heap.size=g5 at*;have hC:Hid (ao iK g5 60 [Value.int .i64 ci, .int .i64 cl, .string ba, .int .u8 (bs:Int), .int .u8 (ap:Int), .int .u8 ((bb.toNat:Nat):Int)].toArray):=by have q:=gx.out.aF;rw[cS]at q;exact q
 have fX:Hid (Fr ag w iK):=gx.out.fr;have iR:Hid (w.heap.size≤g5):=by rw[Hid,cS];exact Nat.le_refl _
 clear cS gx;go_wp2_with fail;refine(hJ.out _ fX.out).mono ?_;rintro e w1⟨rfl,f1⟩;have fY:=af (fX.out.trans f1);have hD:=af (hC.out.fr f1 (fun x=>x));clear f1 hJ fX hC;go_wp2_with fail;refine(hI.out _ fY.out).mono ?_;rintro e w2⟨h,b,ms,E,L,T,rfl,iu,iw,cM,o,ji,f2,fb⟩;obtain⟨A,nl,c,rfl,hc,ix,ad,i6,bX,zA⟩:=id iw;have hM:=af (fY.out.trans f2);have hE:=af (hD.out.fr f2 (fun x=>x));have hP:=af iu;have bg:=af o;have bF:Hid (nl=L.length∧nl≤16∧nl≤c):=by have:=o.len;exact⟨hc,by omega,ix⟩
 have dD:Hid (∀j,j<L.length→∃br aX a,A=some br∧L[j]? =some a∧cT w2 aX a∧aX.length=6∧∀i x,aX[i]? =some x→w2.cell? ((br.add (j*6)).add i)=some x):=fun j fy=>tH bX zA hc fy;have ib:Hid ([Value.pointer (some ⟨b,0,none⟩), .slice A nl c].toArray.all (·.oneCell')=true):=by simp[Hid,Value.oneCell']
 clear f2 iu iw cM o hc ix ad bX zA hI fY hD ji fb;go_wp2_with(refine Ba rfl rfl rfl 28 8 rfl rfl (.tmp 28) rfl _ rfl (.agg sA.toArray) Jn #[.pointer none, .slice none 0 0] rfl (.pointer (some ⟨h,0,none⟩)) [Value.pointer (some ⟨b,0,none⟩), .slice A nl c].toArray (fun _=>rfl) (fun _=>rfl) (fun _=>rfl) jf rfl ib.out ?_);intro hy g8 g7 _ b3 f3;have gt:Hid (ao hy g8 28 [Value.pointer (some ⟨b,0,none⟩), .slice A nl c].toArray):=b3;have du:=af (hM.out.trans f3);have dr:=af f3;have gb:=af (hP.out.aq f3);have aa:=af (hE.out.fr f3 (fun x=>x));clear b3 f3 hP hM hE g7 ib;have m1:hy.cell? ⟨g8,1,none⟩=some (.slice A nl c):=gt.out.cell 1;by_cases bz:nl=0
 ·have t1:((nl:Int)==0)=true:=by subst bz;rfl
  clear bz;go_wp2;go_ret;exact⟨rfl,du.out⟩
 have t1:((nl:Int)==0)=false:=by rw[beq_eq_false_iff_ne];omega
 obtain⟨k,jj⟩:∃k:Nat,(c3:Int).tmod (nl:Int)=(k:Int):=⟨c3%nl,(Int.ofNat_tmod c3 nl).symm⟩;have e5:k<nl:=by have:=Int.tmod_lt_of_pos (c3:Int) (show(0:Int)<(nl:Int)by omega);omega
 have hk:wrap64 (c3:Int)=(c3:Int):=IntWalk.wrap64_in _ (by have:=gl.out;omega);have hd:(nl=0)=False:=eq_false bz;have he:((nl:Int)=0)=False:=eq_false (by omega);have cr:Hid (k<nl∧k<L.length∧nl≤16∧nl=L.length):=by have:=bF.out;exact⟨e5,by omega,by omega,by omega⟩
 clear bz e5;go_wp2_with fail;refine(sD h E L T (k:Int) (nl:Int) _ gb.out (hR.out.aq du.out) (bi.out.aq du.out) (by have:=bF.out;omega) bg.out.ok (fun a av=>(bg.out.small a av).sz)).mono ?_;rintro e Q(⟨eO,_⟩|⟨jk,jp,a,v,i7,em,e4,cU,bt,rfl,cM⟩);·exact absurd ⟨by omega,by have:=cr.out;omega,by omega,by have:=cr.out;omega⟩ eO
 obtain rfl:k=jk:=by omega
 obtain rfl:nl=jp:=by omega
 clear i7 em jj hd he t1 m1 hk;have aV:=EF E L bg.out e4 cU bt;obtain⟨c5,aZ⟩:∃c5,dq E (L.take nl)=c5:=⟨_,rfl⟩;have cK:c5.length=nl+1:=by rw[←aZ,jS,List.length_take,Nat.min_eq_left cU]
 have cJ:∀d∈c5,d.length=32:=by rw[←aZ];exact nI _ _
 rw[aZ]at aV cM;obtain⟨B,bu⟩:∃B,Lt.cR c5 (k+1)=B:=⟨_,rfl⟩;rw[bu]at aV cM;have cN:∀d∈B,d.length=32:=by rw[←bu];exact Lt.tc (nl+1) _ _ cK (by have:=bF.out;omega) cJ
 have eH:B.length≤5:=by rw[←bu];exact Lt.jy 5 _ _ (by have:=bF.out;omega) (by have:=bF.out;omega)
 obtain⟨aM,bv⟩:∃aM,Lt.fW c5=aM:=⟨_,rfl⟩;rw[bv]at aV;have a1:aM.length=32:=by rw[←bv];exact Lt.j6 (nl+1) _ cK (by have:=bF.out;omega) cJ
 obtain⟨S,c0⟩:∃S:ByteArray,⟨(db a).toArray⟩=S:=⟨_,rfl⟩;have aO:=List.mem_of_getElem? bt;have bl:Hid (aJ S=db a∧S.size≤6300):=by
  rw[Hid,←c0];exact⟨AW _,by have:=(bg.out.small a aO).len;simp only[ByteArray.size,List.size_toArray];omega⟩
 have d4:Hid (jl aM (k:Int) (nl:Int) (aJ S) B=true∧ly (aJ S)=some a):=by
  rw[Hid,bl.out.1];exact⟨(vO aV).2,(bg.out.small a aO).dec (bg.out.ok a aO)⟩
 obtain⟨U,Y,rfl,fv,hf,g4,Z⟩:=Lt.ed.iA cM rfl cN;have f4:Fr ag hy Q:=cM.aq;have hN:=af (du.out.trans f4);have cg:=af (dr.out.trans f4);have hQ:=af (gb.out.aq f4);have hT:=af (gt.out.fr f4 (fun x=>x));have cc:=af (aa.out.fr f4 (fun x=>x));have fS:Hid (Lt.ed Q (fun _=>True) U B.length B):=⟨fv.rd.any,fv.len,fv.each⟩;have N:Hid (B.length≤5∧∀d∈B,d.length=32):=⟨eH,cN⟩;have dk:Hid (∀w',Fr ag Q w'→Calls Tryz.prog 16 #[.pointer (some ⟨h,0,none⟩), .int .i64 (nl:Int)] w' (aK w' (.tuple #[.agg (aM.map aT).toArray, .int .i64 0]))):=fun w' f=>by
  have q:=tZ h E L T nl w' (hQ.out.aq f) (bi.out.aq (hN.out.trans f)) (by have:=bF.out;omega);have e:qD E L nl= .tuple #[.agg (aM.map aT).toArray, .int .i64 0]:=by
   unfold qD;rw[if_pos (by omega),Int.toNat_natCast,aZ,bv];rfl
  rw[e]at q;exact q
 obtain⟨br,aX,i4,rfl,eF,eM,eQ,a2⟩:=dD.out k (by have:=bF.out;omega);obtain rfl:a=i4:=Option.some.inj (bt.symm.trans eF);have d7:Hid ((Tryz.prog.info? 46).map (·.size)=some aX.length):=by rw[Hid,eQ];exact bT
 have eb:Hid (∀w',Fr ag Q w'→∀j x,aX[j]? =some x→w'.cell? ((br.add (k*6)).add j)=some x):=fun w' f j x c2=>(cg.out.trans f).an (a2 j x c2) (fun x=>x);have bd:Hid (∀w' ds,cT w' ds a→Fr ag Q w'→Calls Tryz.prog 19 #[.agg ds.toArray, .agg aX.toArray] w' (aK w' (.bool true))):=fun w' ds ak f=>by
  have q:=om a a ds aX w' ak (eM.aq (cg.out.trans f)) (by have:=(bg.out.small a aO).nr;omega) (by have:=(bg.out.small a aO).nw;omega);rw[(uI a a).2 rfl]at q;exact q
 have fq:Hid (Lt.cX (aM.map aT).toArray):=Lt.cX.of a1;have d1:=af a1;rw[c0];clear aV cM fv f4 aO c0 bv bu aZ cK cJ cN eH a1 bt eF eM eQ a2 dD gb du gt aa dr cg e4 cU hQ bg hf g4 Z;have ej:Hid ([Value.int .i64 (k:Int), .int .i64 (nl:Int), .string S, .slice U B.length Y].toArray.all (·.oneCell')=true):=by simp[Hid,Value.oneCell']
 go_wp2_with(refine qv rfl rfl 33 10 rfl rfl _ rfl (.agg df.toArray) EK df.toArray rfl [Value.int .i64 (k:Int), .int .i64 (nl:Int), .string S, .slice U B.length Y].toArray (fun _=>rfl) (fun _=>rfl) iH rfl ej.out ?_);intro iL g10 eV _ b5 f5;have ic:Hid (ao iL g10 33 [Value.int .i64 (k:Int), .int .i64 (nl:Int), .string S, .slice U B.length Y].toArray):=b5;have ch:=af f5;have gu:=af (hT.out.fr f5 (fun x=>x));have hF:=af (cc.out.fr f5 (fun x=>x));clear b5 f5 hT cc ej eV;have m1:iL.cell? ⟨g8,1,none⟩=some (.slice (some br) nl c):=gu.out.cell 1;go_wp2_with fail;refine(dk.out _ ch.out).mono ?_;rintro e fB⟨rfl,f6⟩;have dv:=af (ch.out.trans f6);have hU:=af (gu.out.fr f6 (fun x=>x));have hG:=af (hF.out.fr f6 (fun x=>x));have ie:=af (ic.out.fr f6 (fun x=>x));clear f6 dk m1 gu hF ic ch;generalize eI:aM.map aT=bU at*;have d2:=af eI;clear eI;go_wp2_with(refine qv rfl rfl 38 12 rfl rfl _ rfl aR fV aD rfl bU.toArray (fun _=>rfl) (fun _=>rfl) fq.out.info fq.out.zero fq.out.one ?_);intro M g12 eW _ b7 f7;have gI:=af b7;have be:=af (dv.out.trans f7);have gv:=af (hU.out.fr f7 (fun x=>x));have cd:=af (hG.out.fr f7 (fun x=>x));have cz:=af (ie.out.fr f7 (fun x=>x));clear b7 f7 hU hG ie dv eW;obtain⟨b6,hi⟩:∃b6,min ba.size 20=b6:=⟨_,rfl⟩;have dU:Hid (min (ba.size:Int) 20=(b6:Int)):=by simp only[Hid];omega
 have cv:Hid (b6≤20∧b6≤ba.size):=by simp only[Hid];omega
 clear hi;obtain⟨iG,e8⟩:∃z,ci.tmod 3=z:=⟨_,rfl⟩;have dY:=af e8;obtain⟨iI,e9⟩:∃z,cl.tmod 3=z:=⟨_,rfl⟩;have dZ:=af e9;obtain⟨i2,e2⟩:∃z,IntKind.i64.wrap ((k:Int)+iG)=z:=⟨_,rfl⟩;have dT:=af e2;obtain⟨m2,e6⟩:∃z,IntKind.i64.wrap ((nl:Int)+iI)=z:=⟨_,rfl⟩;have dV:=af e6;clear e8 e9 e2 e6;go_upto_region 9 with fail;refine vR 28 [iS (.pointer (some ⟨g10,0,none⟩)),iS (.int .i64 (k:Int)),iS (.pointer (some ⟨g5,0,none⟩)),iS (.int .i64 ci),iS (.int .i64 iG),iS (.int .i64 i2),iS (.pointer (some ⟨g10,1,none⟩)),iS (.int .i64 (nl:Int)),iS (.pointer (some ⟨g5,1,none⟩)),iS (.int .i64 cl),iS (.int .i64 iI),iS (.int .i64 m2),iS (.pointer (some ⟨g10,2,none⟩)),iS (.string S),iS (.pointer (some ⟨g5,2,none⟩)),iS (.string ba),iS (.pointer (some ⟨g5,2,none⟩)),iS (.string ba),iS (.int .i64 (ba.size:Nat)),iS (.int .i64 (b6:Int)),⟨fun a8 _=>∃s:ByteArray,s.size≤20∧a8= .string s,fun _ _ _ _ h=>h⟩,⟨fun a8 _=>∃s:ByteArray,s.size≤6320∧a8= .string s,fun _ _ _ _ h=>h⟩,⟨fun a8 _=>∃b:Addr,a8= .slice (some b) 0 0,fun _ _ _ _ h=>h⟩,iS (.pointer (some ⟨g10,3,none⟩)),iS (.slice U B.length Y),⟨fun a8 fn=>∃(A:Option Addr)(c:Nat),a8= .slice A B.length c∧B.length≤c∧c≤9223372036854775807∧ky M.heap.size B A fn,fun _ _ _ f⟨A,c,h,ak,bc,cG⟩=>⟨A,c,h,ak,bc,cG.aq f⟩⟩,⟨fun a8 fn=>∃(s:ByteArray)(A:Option Addr)(c:Nat),a8= .agg [Value.int .i64 i2, .int .i64 m2, .string s, .slice A B.length c].toArray∧s.size≤6320∧B.length≤c∧c≤9223372036854775807∧ky M.heap.size B A fn,fun _ _ _ f⟨s,A,c,h,ah,ak,bc,cG⟩=>⟨s,A,c,h,ah,ak,bc,cG.aq f⟩⟩,⟨fun a8 fn=>∃g,a8= .pointer (some ⟨g,0,none⟩)∧M.heap.size≤g∧ao fn g 33 df.toArray,fun _ _ _ f⟨g,h,l,b⟩=>⟨g,h,l,b.fr f (fun x=>x)⟩⟩] ?xH ?_;case xH=>
  refine⟨?XD,?xQ,?XE,?xR,?xS,?xT,?XF,?xU,?XG,?xV,?zC,?zD,?YW,?zE,?YX,?zF,?YY,?zG,?zH,?zI,?zJ,?zL,?zM,?YZ,?zN,?zO,?zP,?zR,trivial⟩;all_goals intro u w' t o
  all_goals simp only[z1,z2,z3,z4,au,Act.put,z5,z6,z7,Nat.reduceAdd,Nat.zero_add]
  case xQ=>
   simp only[show u 0=_ from o 0];refine aC ?_;have q:_=some _:=(cz.out.fr t (fun x=>x)).cell 0;go_simp;exact⟨_,rfl,aA,rfl⟩
  case xR=>
   simp only[show u 2=_ from o 2];refine aC ?_;have q:_=some _:=(cd.out.fr t (fun x=>x)).cell 0;go_simp;exact⟨_,rfl,aA,rfl⟩
  case xS=>
   simp only[show u 3=_ from o 3];refine aC ?_;have q:=dY.out;go_simp;exact⟨_,rfl,aA,rfl⟩
  case xT=>
   simp only[show u 1=_ from o 1,show u 4=_ from o 4];refine aC ?_;have q:=dT.out;go_simp;exact⟨_,rfl,aA,rfl⟩
  case xU=>
   simp only[show u 6=_ from o 6];refine aC ?_;have q:_=some _:=(cz.out.fr t (fun x=>x)).cell 1;go_simp;exact⟨_,rfl,aA,rfl⟩
  case xV=>
   simp only[show u 8=_ from o 8];refine aC ?_;have q:_=some _:=(cd.out.fr t (fun x=>x)).cell 1;go_simp;exact⟨_,rfl,aA,rfl⟩
  case zC=>
   simp only[show u 9=_ from o 9];refine aC ?_;have q:=dZ.out;go_simp;exact⟨_,rfl,aA,rfl⟩
  case zD=>
   simp only[show u 7=_ from o 7,show u 10=_ from o 10];refine aC ?_;have q:=dV.out;go_simp;exact⟨_,rfl,aA,rfl⟩
  case zE=>
   simp only[show u 12=_ from o 12];refine aC ?_;have q:_=some _:=(cz.out.fr t (fun x=>x)).cell 2;go_simp;exact⟨_,rfl,aA,rfl⟩
  case zF=>
   simp only[show u 14=_ from o 14];refine aC ?_;have q:_=some _:=(cd.out.fr t (fun x=>x)).cell 2;go_simp;exact⟨_,rfl,aA,rfl⟩
  case zG=>
   simp only[show u 16=_ from o 16];refine aC ?_;have q:_=some _:=(cd.out.fr t (fun x=>x)).cell 2;go_simp;exact⟨_,rfl,aA,rfl⟩
  case' zH=>simp only[show u 17=_ from o 17]
  case zI=>
   simp only[show u 18=_ from o 18];refine aC ?_;have q:=dU.out;go_simp;exact⟨_,rfl,aA,rfl⟩
  case zJ=>
   simp only[show u 15=_ from o 15,show u 19=_ from o 19];refine aC ?_;have is:(b6:Int)≤(ba.size:Int):=by have:=cv.out;omega
   have it:(0:Int)≤(b6:Int):=by omega
   go_simp;exact⟨_,rfl,aA,⟨_,by simp only[ByteArray.size_extract];have:=cv.out;omega,rfl⟩⟩
  case zL=>
   obtain⟨hv,iB,gN⟩:=o 20;simp only[show u 13=_ from o 13,gN];refine aC ?_;have J:¬9223372036854775807<S.size+hv.size:=by have:=bl.out.2;omega
   go_simp;exact⟨_,rfl,aA,⟨_,by simp only[ByteArray.size_append];have:=bl.out.2;omega,rfl⟩⟩
  case zM=>
   refine aC ?_;go_simp;exact⟨_,rfl,aA.alloc _,⟨_,rfl⟩⟩
  case zN=>
   simp only[show u 23=_ from o 23];refine aC ?_;have q:_=some _:=(cz.out.fr t (fun x=>x)).cell 3;go_simp;exact⟨_,rfl,aA,rfl⟩
  case zO=>
   obtain⟨gK,gP⟩:=o 22;simp only[gP,show u 24=_ from o 24];refine aC ?_;refine Jl _ _ rfl gK rfl U B.length Y rfl _ B (fS.out.aq (be.out.trans t)) (by have:=N.out;omega) ?_;intro iN i5 w1 f1 ak bc cG;exact⟨_,rfl,f1,⟨iN,i5,rfl,ak,bc,cG.low t.size⟩⟩
  case zP=>
   obtain⟨hw,fc,gO⟩:=o 21;obtain⟨fE,gM,gQ,g0,hn,d25⟩:=o 25;simp only[show u 5=_ from o 5,show u 11=_ from o 11,gO,gQ];refine aC ?_;exact Lt.kl 33 #[(0, .tmp 62),(1, .tmp 68),(2, .tmp 78),(3, .tmp 82)] rfl _ (by simp only[List.map_toArray,List.map_cons,List.map_nil];exact zq _ _ _ _ _ _) ⟨_,rfl,aA,⟨hw,fE,gM,rfl,fc,g0,hn,d25⟩⟩
  case zR=>
   refine aC ?_;refine fT 33 rfl (.agg df.toArray) EK df.toArray rfl ?_;intro Q n4;exact⟨_,rfl,n4.fr,⟨_,rfl,t.size,n4.aF⟩⟩
  all_goals
   refine aC ?_;go_simp;exact⟨_,rfl,aA,rfl⟩
 intro u w' t o;obtain⟨K,C,y,ey,fe,eA,fh,d14⟩:=o 26 (by omega);obtain⟨g14,ez,fi,tm⟩:=o 27 (by omega);simp only[z1,z2,z3,z4,au,Act.put,z5,z6,z7,z8,z9,Nat.reduceAdd,Nat.zero_add];clear o;simp only[ey,ez];have eh:Hid ([Value.int .i64 i2, .int .i64 m2, .string K, .slice C B.length y].toArray.all (·.oneCell')=true):=by simp[Hid,Value.oneCell']
 refine ai rfl 33 (.tmp 14) (.tmp 83) rfl g14 [Value.int .i64 i2, .int .i64 m2, .string K, .slice C B.length y].toArray rfl rfl _ _ tm iH rfl eh.out ?_;intro fC b8 f8;have dC:Hid (M.heap.size≤g14):=fi;have ft:Hid (ao fC g14 33 [Value.int .i64 i2, .int .i64 m2, .string K, .slice C B.length y].toArray):=b8;have f78:Fr ag M fC:=t.aw f8 (fun i c9 e=>by have V:i=g14:=e;omega);have dw:=af (be.out.trans f78);have hK:=af (d14.cC tm (by decide) f8);have hV:=af (gv.out.fr f78 (fun x=>x));have fI:=af (cd.out.fr f78 (fun x=>x));have ig:=af (cz.out.fr f78 (fun x=>x));have ii:=af (gI.out.fr f78 (fun x=>x));have G:Hid (B.length≤y∧y≤9223372036854775807∧K.size≤6320∧Q.heap.size≤M.heap.size):=⟨eA,fh,fe,be.out.size⟩;have dR:Hid (g8<g14∧g5<g14∧g10<g14∧g12<g14∧g8<M.heap.size∧g5<M.heap.size∧g10<M.heap.size∧g12<M.heap.size):=by have:=gv.out.lt;have:=cd.out.lt;have:=cz.out.lt;have:=gI.out.lt;simp only[Hid];omega
 clear t f8 b8 f78 d14 tm fi eA fh fe ey ez gv cd cz gI be dU cv dY dZ dT dV eh;obtain⟨ex,eR⟩:∃z:Nat,(bs:Int).tmod 2=(z:Int):=⟨bs%2,by rw[Int.tmod_eq_emod_of_nonneg (by omega)];omega⟩;have eT:(ex:Int)<2:=by rw[←eR];exact Int.tmod_lt_of_pos _ (by decide)
 obtain⟨iF,hb⟩:∃z:Nat,min (B.length:Int) (ex:Int)=(z:Int):=⟨min B.length ex,by omega⟩;obtain⟨pn,a5⟩:∃z:Nat,(B.length:Int)-(iF:Int)=(z:Int):=⟨B.length-iF,by omega⟩;have hj:IntKind.i64.wrap (pn:Int)=(pn:Int):=IntWalk.i64_in _ (by have:=N.out;omega);have hl:wrap64 (ex:Int)=(ex:Int):=IntWalk.wrap64_in _ (by omega);have X:Hid (pn≤B.length∧pn≤y∧pn≤5):=by have:=N.out;have:=G.out;simp only[Hid];omega
 have H:Hid (g8<g14∧g5<g14∧g10<g14∧g12<g14∧g8<M.heap.size∧g5<M.heap.size∧g10<M.heap.size∧g12<M.heap.size):=dR.out;have is:(pn:Int)≤(y:Int):=by have:=X.out;omega
 have it:(0:Int)≤(pn:Int):=by omega
 have ht:fC.cell? ⟨g14,3,none⟩=some (.slice C B.length y):=ft.out.cell 3;have jq:fC.cell? ⟨g5,3,none⟩=some (.int .u8 (bs:Int)):=fI.out.cell 3;clear eT;go_wp2_with(refine aS rfl 31 (.tmp 99) (.tmp 98) rfl g14 3 (.slice C pn y) rfl rfl rfl rfl _ _ #[.int .i64 i2, .int .i64 m2, .string K, .slice C pn y] ft.out (show 3<4 by decide) rfl ?_);intro dc b9 f9;have cB:=af b9;have fU:=af (hK.out.cC ft.out (by decide) f9);have dx:Hid (Fr ag Q dc):=dw.out.aw f9 (fun i c9 e=>by have V:i=g14:=e;have:=dC.out;have:=G.out;omega);have hW:=af (hV.out.fr f9 (fun e=>by have V:g8=g14:=e;have:=H.out;omega));have dj:=af (fI.out.fr f9 (fun e=>by have V:g5=g14:=e;have:=H.out;omega));have ih:=af (ig.out.fr f9 (fun e=>by have V:g10=g14:=e;have:=H.out;omega));have ij:=af (ii.out.fr f9 (fun e=>by have V:g12=g14:=e;have:=H.out;omega));clear b9 f9 ht jq is it eR hb a5 hj hl ft hK dw hV fI ig ii dR;have ht:dc.cell? ⟨g14,3,none⟩=some (.slice C pn y):=cB.out.cell 3;have aW:Hid (wrap64 (ap:Int)=(ap:Int)∧IntKind.i64.wrap (ap:Int)=(ap:Int)):=⟨IntWalk.wrap64_in _ (by have:=gl.out;omega),IntWalk.i64_in _ (by have:=gl.out;omega)⟩;have cx:Hid (∀b:UInt8,bits .xor .u8 ((b.toNat:Nat):Int) ((bb.toNat:Nat):Int)=(((b^^^bb).toNat:Nat):Int)):=fun b=>Lt.Ki b bb;obtain⟨ip,cP⟩:∃z:Bool,decide ((0:Int)<(pn:Int))=z:=⟨_,rfl⟩;have d5:=af cP;have g2:decide (0<pn)=ip:=by rw[←cP];exact decide_eq_decide.2 (by omega)
 go_upto_if 103 with fail;clear ht cP g2;go_cut[9](fun v fD=>v= .int .i64 (k:Int)∧Ee dc M.heap.size g14 B.length [Value.int .i64 i2, .int .i64 m2, .string K, .slice C pn y] C fD);case first=>
  cases ip;·go_wp2;go_meet;exact⟨rfl,B,rfl,N.out.2,fU.out,cB.out,aA⟩
  ·have ax:0<pn:=by have:=of_decide_eq_true d5.out;omega
   obtain⟨i,c9⟩:∃z:Nat,(ap:Int).tmod (pn:Int)=(z:Int):=⟨ap%pn,(Int.ofNat_tmod ap pn).symm⟩;have e3:i<pn:=by have:=Int.tmod_lt_of_pos (ap:Int) (show(0:Int)<(pn:Int)by omega);omega
   obtain⟨j,fy⟩:∃z:Nat,(ap:Int).tmod 32=(z:Int):=⟨ap%32,by rw[Int.tmod_eq_emod_of_nonneg (by omega)];omega⟩;have bW:j<32:=by have:=Int.tmod_lt_of_pos (ap:Int) (show(0:Int)<32 by decide);omega
   have iV:=af c9;have iW:=af fy;have gf:Hid ((pn=0)=False):=eq_false (by omega);have gg:Hid (((pn:Int)=0)=False):=eq_false (by omega);have R:Hid (i<pn∧j<32∧pn≤B.length):=⟨e3,bW,X.out.1⟩;obtain⟨aN,c4,rfl,e1,eP⟩:∃g c4,C=some ⟨g,0,none⟩∧M.heap.size≤g∧ao dc g 38 (B.flatMap Lt.ar++c4).toArray:=by
    rcases fU.out with h|h
    ·have:B.length=0:=by rw[h];rfl
     have:=X.out;omega
    ·exact h
   have fL:=af eP;have dS:=af e1;obtain⟨ob,cV⟩:∃ob,(B.getD i []).getD j 0=ob:=⟨_,rfl⟩;have gq:Hid (∀W,Fr ag dc W→W.cell? ⟨aN,i*32+j,none⟩=some (.int .u8 ((ob.toNat:Nat):Int))):=fun W f=>by
    rw[←cV];exact Lt.Dl N.out.2 (fL.out.fr f (fun x=>x)) (by have:=R.out;omega) R.out.2.1
   have gA:Hid ((B.flatMap Lt.ar++c4).toArray.setIfInBounds (i*32+j) (.int .u8 (((ob^^^bb).toNat:Nat):Int))=((rA B i j bb).flatMap Lt.ar++c4).toArray):=by
    rw[←cV];exact AV B c4 N.out.2 i j bb (by have:=R.out;omega) R.out.2.1
   have gJ:Hid (i*32+j<(B.flatMap Lt.ar++c4).toArray.size):=by simp only[Hid,List.size_toArray,aY];rw[Lt.rS B N.out.2];have:=X.out;omega
   clear ax c9 e3 fy bW e1 eP cV;go_upto_region 12 with fail;refine iU 20 [.pointer (some ⟨g14,3,none⟩), .slice (some ⟨aN,0,none⟩) pn y, .pointer (some ⟨g5,4,none⟩), .int .u8 (ap:Int), .int .i64 (ap:Int), .pointer (some ⟨g14,3,none⟩), .slice (some ⟨aN,0,none⟩) pn y, .int .i64 (pn:Nat), .int .i64 (i:Int), .pointer (some ⟨g5,4,none⟩), .int .u8 (ap:Int), .int .u8 (j:Int), .pointer (some ⟨aN,i*32,none⟩), .pointer (some ⟨aN,i*32+j,none⟩), .int .u8 ((ob.toNat:Nat):Int), .pointer (some ⟨g5,5,none⟩), .int .u8 ((bb.toNat:Nat):Int), .int .u8 (((ob^^^bb).toNat:Nat):Int), .pointer (some ⟨aN,i*32,none⟩), .pointer (some ⟨aN,i*32+j,none⟩)] ?xI ?_;case xI=>
    refine⟨?XH,?xW,?XI,?xX,?xY,?XJ,?xZ,?ZA,?ZB,?XK,?zZ,?yA,?yB,?yC,?yD,?XC,?yE,?yF,?yG,?yH,trivial⟩;all_goals intro u w' t o
    all_goals simp only[z1,z2,z3,z4,au,Act.put,z5,z6,z7,Nat.reduceAdd,Nat.zero_add]
    case xW=>
     simp only[show u 0=_ from o 0];refine aC ?_;have q:_=some _:=(cB.out.fr t (fun x=>x)).cell 3;go_simp;exact aG
    case xX=>
     simp only[show u 2=_ from o 2];refine aC ?_;have q:_=some _:=(dj.out.fr t (fun x=>x)).cell 4;go_simp;exact aG
    case xY=>
     simp only[show u 3=_ from o 3];refine aC ?_;have J:=aW.out.1;have a7:=aW.out.2;go_simp;exact aG
    case xZ=>
     simp only[show u 5=_ from o 5];refine aC ?_;have q:_=some _:=(cB.out.fr t (fun x=>x)).cell 3;go_simp;exact aG
    case' ZA=>simp only[show u 6=_ from o 6]
    case ZB=>
     simp only[show u 4=_ from o 4,show u 7=_ from o 7];refine aC ?_;have J:=iV.out;have a7:=gf.out;have hs:=gg.out;go_simp;exact aG
    case zZ=>
     simp only[show u 9=_ from o 9];refine aC ?_;have q:_=some _:=(dj.out.fr t (fun x=>x)).cell 4;go_simp;exact aG
    case yA=>
     simp only[show u 10=_ from o 10];refine aC ?_;have J:=iW.out;go_simp;exact aG
    case yB=>
     simp only[show u 1=_ from o 1,show u 8=_ from o 8];refine aC ?_;have J:=(show(i:Int)<(pn:Int)by have:=R.out;omega);have a7:=(show(0:Int)≤(i:Int)by omega);go_simp;exact aG
    case yC=>
     simp only[show u 12=_ from o 12,show u 11=_ from o 11];refine aC ?_;have J:=(show(j:Int)<32 by have:=R.out;omega);have a7:=(show(0:Int)≤(j:Int)by omega);go_simp;exact aG
    case yD=>
     simp only[show u 13=_ from o 13];refine aC ?_;have q:=gq.out _ t;go_simp;exact aG
    case yE=>
     simp only[show u 15=_ from o 15];refine aC ?_;have q:_=some _:=(dj.out.fr t (fun x=>x)).cell 5;go_simp;exact aG
    case yF=>
     simp only[show u 14=_ from o 14,show u 16=_ from o 16];refine aC ?_;have J:=cx.out ob;go_simp;exact aG
    case yG=>
     simp only[show u 1=_ from o 1,show u 8=_ from o 8];refine aC ?_;have J:=(show(i:Int)<(pn:Int)by have:=R.out;omega);have a7:=(show(0:Int)≤(i:Int)by omega);go_simp;exact aG
    case yH=>
     simp only[show u 18=_ from o 18,show u 11=_ from o 11];refine aC ?_;have J:=(show(j:Int)<32 by have:=R.out;omega);have a7:=(show(0:Int)≤(j:Int)by omega);go_simp;exact aG
    all_goals
     refine aC ?_;go_simp;exact aG
   intro w' t;simp only[z1,z2,z3,z4,au,Act.put,z5,z6,z7,z8,z9,iO,iP,Nat.reduceAdd,Nat.zero_add];refine oh rfl 5 (.tmp 123) (.tmp 121) rfl aN (i*32+j) (.int .u8 (((ob^^^bb).toNat:Nat):Int)) rfl rfl rfl Lt.JT _ _ _ (fL.out.fr t (fun x=>x)) gJ.out gA.out ?_;intro jt ev gT;have gj:Hid (Ee dc M.heap.size g14 B.length [Value.int .i64 i2, .int .i64 m2, .string K, .slice (some ⟨aN,0,none⟩) pn y] (some ⟨aN,0,none⟩) jt):=
    ⟨rA B i j bb,vL _ _ _ _,yU _ _ _ _ (by have:=R.out;omega) N.out.2, .inr ⟨aN,c4,rfl,dS.out,ev⟩,(cB.out.fr t (fun x=>x)).fr gT (fun e=>by have V:g14=aN:=e;exact ao.oi fL.out cB.out (by decide) V.symm),(Fr.bI t).aw gT (fun i _ e=>by have V:i=aN:=e;rw[V];exact dS.out)⟩;clear ev gT t;go_wp2;go_meet;exact⟨rfl,gj.out⟩
 case rest=>
  obtain⟨rfl,hr,bY,bZ,b1,b2,O⟩:=hcut;have dW:Hid (hr.length=B.length∧∀d∈hr,d.length=32):=⟨bY,bZ⟩;have dl:=af b1;have cA:=af b2;have bB:Hid (Fr ag Q wc):=dx.out.aw O (fun i c9 e=>by have V:M.heap.size≤i:=e;have:=G.out;omega);have ee:=af (hW.out.fr O (fun e=>by have V:M.heap.size≤g8:=e;have:=H.out;omega));have ca:=af (dj.out.fr O (fun e=>by have V:M.heap.size≤g5:=e;have:=H.out;omega));have ek:=af (ih.out.fr O (fun e=>by have V:M.heap.size≤g10:=e;have:=H.out;omega));have ep:=af (ij.out.fr O (fun e=>by have V:M.heap.size≤g12:=e;have:=H.out;omega));clear bY bZ b1 b2 O fU cB dx hW dj ih ij d5;generalize wc=jw at*;obtain⟨iJ,fa⟩:∃z:Int,(ap:Int).tmod 3=z:=⟨_,rfl⟩;have d0:=af fa;obtain⟨aa,eB⟩:∃z:Bool,(iJ==0)=z:=⟨_,rfl⟩;have dF:=af eB;obtain⟨cc,cH⟩:∃z:Bool,decide ((0:Int)<(K.size:Int))=z:=⟨_,rfl⟩;have cm:=af cH;have dH:Hid (decide (0<K.size)=cc):=by rw[Hid,←cH];exact decide_eq_decide.2 (by omega)
  clear fa eB cH;obtain⟨im,eK⟩:∃z:Bool,(bif aa then cc else false)=z:=⟨_,rfl⟩;have cw:=af eK;clear eK;go_upto_region 13 with fail;refine gZ 10 [.pointer (some ⟨g5,4,none⟩), .int .u8 (ap:Int), .int .u8 iJ, .bool aa, .bool aa,bif aa then .pointer (some ⟨g14,2,none⟩)else undef,bif aa then .string K else undef,bif aa then .int .i64 (K.size:Nat)else undef,bif aa then .bool cc else undef, .bool im] ?xJ ?_;case xJ=>
   refine⟨?XL,?ZC,?ZD,?ZE,?ZF,?ZG,?ZH,?ZI,?ZJ,?ZK,trivial⟩;all_goals intro u w' t o
   all_goals simp only[z1,z2,z3,z4,au,Act.put,z5,z6,z7,Nat.reduceAdd,Nat.zero_add]
   case ZC=>
    simp only[show u 0=_ from o 0];refine aC ?_;have q:_=some _:=(ca.out.fr t (fun x=>x)).cell 4;go_simp;exact aG
   case ZD=>
    simp only[show u 1=_ from o 1];refine aC ?_;have J:=d0.out;go_simp;exact aG
   case ZE=>
    simp only[show u 2=_ from o 2];refine aC ?_;have J:=dF.out;go_simp;exact aG
   case' ZF=>simp only[show u 3=_ from o 3]
   case' ZG=>
    simp only[show u 4=_ from o 4];cases aa;case false=>exact bR
   case ZH=>
    simp only[show u 5=_ from o 5,show u 4=_ from o 4];cases aa;case false=>exact bR
    refine aC ?_;have q:_=some _:=(cA.out.fr t (fun x=>x)).cell 2;go_simp;exact aG
   case' ZI=>
    simp only[show u 6=_ from o 6,show u 4=_ from o 4];cases aa;case false=>exact bR
   case ZJ=>
    simp only[show u 7=_ from o 7,show u 4=_ from o 4];cases aa;case false=>exact bR
    refine aC ?_;have J:=cm.out;have a7:=dH.out;go_simp;exact aG
   case ZK=>
    simp only[show u 4=_ from o 4,show u 8=_ from o 8];cases aa<;>exact aC (by go_simp;exact⟨by rw[←cw.out];rfl,aA⟩)
   all_goals
    try simp only[cond]
    refine aC ?_;go_simp;exact aG
  intro w' t;simp only[z1,z2,z3,z4,au,Act.put,z5,z6,z7,z8,z9,iO,iP,Nat.reduceAdd,Nat.zero_add];have bC:=af (bB.out.trans t);have dm:=af (dl.out.aq t);have aI:=af (cA.out.fr t (fun x=>x));have ef:=af (ee.out.fr t (fun x=>x));have di:=af (ca.out.fr t (fun x=>x));have el:=af (ek.out.fr t (fun x=>x));have eq:=af (ep.out.fr t (fun x=>x));clear t bB dl cA ee ca ek ep;generalize w'=dd at*;go_upto_if 133 with fail;go_cut[9](fun v fD=>v= .int .i64 (k:Int)∧∃ab:ByteArray,ab.size≤6320∧ao fD g14 33 [Value.int .i64 i2, .int .i64 m2, .string ab, .slice C pn y].toArray∧Fr (fun j=>j=g14) dd fD);case first=>
   cases im;·go_wp2;go_meet;exact⟨rfl,K,G.out.2.2.1,aI.out,aA⟩
   ·have ax:0<K.size:=by
     have h:=cw.out;cases aa;·cases h
     ·have gU:cc=true:=h;have:=of_decide_eq_true (cm.out.trans gU);omega
    obtain⟨jr,hA,bx,ad⟩:=gH.conv dd K (by have:=G.out;omega);have bw:gH dd hA jr (dG K):=ad;obtain⟨_,cF,cap,rfl,e0,_⟩:=id bw;have fk:=cW K;obtain⟨sn,cZ⟩:∃n,K.size=n:=⟨_,rfl⟩;rw[cZ]at fk ax;rw[fk]at bx bw;have HB:=af bw;have cu:Hid (K.size=sn∧sn≤6320∧(dG K).length=sn):=⟨cZ,by have:=G.out;omega,fk⟩;obtain⟨p,iy⟩:∃z:Nat,(ap:Int).tmod (sn:Int)=(z:Int):=⟨ap%sn,(Int.ofNat_tmod ap sn).symm⟩;have a5:p<sn:=by have:=Int.tmod_lt_of_pos (ap:Int) (show(0:Int)<(sn:Int)by omega);omega
    have gh:=af iy;have dX:Hid (p<(dG K).length):=by rw[Hid,fk];exact a5
    have bG:=af a5;have gd:Hid ((sn=0)=False):=eq_false (by omega);have ge:Hid (((sn:Int)=0)=False):=eq_false (by omega);obtain⟨b0,eN⟩:∃b0,(dG K)[p]? =some b0:=⟨_,List.getElem?_eq_getElem dX.out⟩;have gc:=af eN;have hs:dd.cell? ⟨g14,2,none⟩=some (.string K):=aI.out.cell 2;obtain⟨bV,cO⟩:∃bV:ByteArray,(⟨((dG K).set p (b0^^^bb)).toArray⟩:ByteArray)=bV:=⟨_,rfl⟩;have gk:=af cO;have d3:Hid (bV.size≤6320):=by rw[Hid,←cO];simp only[ByteArray.size,List.size_toArray,List.length_set];have:=cu.out;omega
    have iT:=af e0;have dI:Hid (∀w',Fr ag hA w'→w'.cell? ⟨cF,p,none⟩=some (.int .u8 (b0.toNat:Int))):=fun w' t=>by
     obtain⟨_,_,_,fz,_,ha,_,_,_,_,cY⟩:=HB.out;cases fz;rw[t.cell ha (fun x=>x)];exact cY p (aT b0) (by rw[List.getElem?_map,gc.out];rfl)
    clear ad bw fk cZ iy a5 eN ax cO e0;go_upto_region 15 with fail;have f0:Hid (Fr ag dd hA):=HB.out.fr;have aL:=af (aI.out.fr f0.out (fun x=>x));have cb:=af (di.out.fr f0.out (fun x=>x));clear bx hs;refine iU 13 [.slice (some ⟨cF,0,none⟩) sn cap, .pointer (some ⟨g5,4,none⟩), .int .u8 (ap:Int), .int .i64 (ap:Int), .slice (some ⟨cF,0,none⟩) sn cap, .int .i64 (sn:Nat), .int .i64 (p:Int), .pointer (some ⟨cF,p,none⟩), .int .u8 ((b0.toNat:Nat):Int), .pointer (some ⟨g5,5,none⟩), .int .u8 ((bb.toNat:Nat):Int), .int .u8 (((b0^^^bb).toNat:Nat):Int), .pointer (some ⟨cF,p,none⟩)] ?xK ?_;case xK=>
     refine⟨?XM,?XN,?ZL,?ZM,?XO,?ZN,?ZO,?ZP,?ZQ,?XP,?yI,?yJ,?yK,trivial⟩;all_goals intro u w' t o
     all_goals simp only[z1,z2,z3,z4,au,Act.put,z5,z6,z7,Nat.reduceAdd,Nat.zero_add]
     case ZL=>
      simp only[show u 1=_ from o 1];refine aC ?_;have q:_=some _:=(cb.out.fr t (fun x=>x)).cell 4;go_simp;exact aG
     case ZM=>
      simp only[show u 2=_ from o 2];refine aC ?_;have J:=aW.out.1;have a7:=aW.out.2;go_simp;exact aG
     case' ZN=>simp only[show u 4=_ from o 4]
     case ZO=>
      simp only[show u 3=_ from o 3,show u 5=_ from o 5];refine aC ?_;have J:=gh.out;have a7:=gd.out;have hs:=ge.out;go_simp;exact aG
     case ZP=>
      simp only[show u 0=_ from o 0,show u 6=_ from o 6];refine aC ?_;have J:=(show(p:Int)<(sn:Int)by have:=bG.out;omega);have a7:=(show(0:Int)≤(p:Int)by omega);go_simp;exact aG
     case ZQ=>
      simp only[show u 7=_ from o 7];refine aC ?_;have q:=dI.out _ t;go_simp;exact aG
     case yI=>
      simp only[show u 9=_ from o 9];refine aC ?_;have q:_=some _:=(cb.out.fr t (fun x=>x)).cell 5;go_simp;exact aG
     case yJ=>
      simp only[show u 8=_ from o 8,show u 10=_ from o 10];refine aC ?_;have J:=cx.out b0;go_simp;exact aG
     case yK=>
      simp only[show u 0=_ from o 0,show u 6=_ from o 6];refine aC ?_;have J:=(show(p:Int)<(sn:Int)by have:=bG.out;omega);have a7:=(show(0:Int)≤(p:Int)by omega);go_simp;exact aG
     all_goals
      refine aC ?_;go_simp;exact aG
    intro w' t;simp only[z1,z2,z3,z4,au,Act.put,z5,z6,z7,z8,z9,iO,iP,Nat.reduceAdd,Nat.zero_add];have dE:=af (HB.out.behind t);have gB:=af (aL.out.fr t (fun x=>x));clear t HB dI;refine vQ rfl (.tmp 149) (.tmp 148) rfl cF p sn cap (b0^^^bb) rfl rfl dE.out dX.out ?_;intro fB cQ;have bx:(convert 61 9 (.slice (some ⟨cF,0,none⟩) sn cap)).run Tryz.prog fB= .ok (.string bV) fB:=by
     obtain⟨jv,ju,fz,o⟩:=cQ.slice;rw[List.length_set,cu.out.2.2]at fz;cases fz;rw[←gk.out];rw[List.length_set,cu.out.2.2]at o;exact mV fB 61 9 5 Tryz.underlying61 Tryz.underlying5 Tryz.underlying9 _ _ _ cap _ o
    have dy:=af cQ.fr;have gC:=af (aI.out.fr dy.out (fun x=>x));clear cQ dE gB aL cb f0;go_wp2_with(refine aS rfl 9 (.tmp 152) (.tmp 151) rfl g14 2 (.string bV) rfl rfl rfl rfl _ _ #[.int .i64 i2, .int .i64 m2, .string bV, .slice C pn y] gC.out (show 2<4 by decide) rfl ?_);intro fl gR f10;have gD:Hid (ao fl g14 33 [Value.int .i64 i2, .int .i64 m2, .string bV, .slice C pn y].toArray):=gR;have fZ:Hid (Fr (fun j=>j=g14) dd fl):=(Fr.bI dy.out).aw f10 (fun i _ e=>e);clear gR f10 bx;go_wp2;go_meet;exact⟨rfl,bV,d3.out,gD.out,fZ.out⟩
  case rest=>
   obtain⟨rfl,ab,fd,iz,Z⟩:=hcut;have aL:=af iz;have ct:=af fd;have ae:Hid (Fr ag Q wc):=bC.out.aw Z (fun i c9 e=>by have V:i=g14:=e;have:=dC.out;have:=G.out;omega);have dn:=af (dm.out.cC aI.out (by decide) Z);have eg:=af (ef.out.fr Z (fun e=>by have V:g8=g14:=e;have:=H.out;omega));have en:=af (el.out.fr Z (fun e=>by have V:g10=g14:=e;have:=H.out;omega));have gG:=af (eq.out.fr Z (fun e=>by have V:g12=g14:=e;have:=H.out;omega));clear iz fd Z aI bC dm ef di el eq cw dF cm dH d0 aW cx;generalize wc=de at*;obtain⟨ik,cI⟩:=dn.out.JB dW.out.2 (n:=pn) (by rw[dW.out.1];exact X.out.1);obtain⟨a6,e7⟩:∃a6,hr.take pn=a6:=⟨_,rfl⟩;rw[e7]at cI;have aQ:=af cI;clear cI e7 dn;have aH:Hid (Fr ag w de):=hN.out.trans ae.out;obtain⟨a9,a0⟩:∃a9,[Value.int .i64 i2, .int .i64 m2, .string ab, .slice C pn y]=a9:=⟨_,rfl⟩;have iX:Hid (ao de g14 33 a9.toArray):=by rw[Hid,←a0];exact aL.out
   have d9:Hid ((Tryz.prog.info? 33).map (·.size)=some a9.length):=by rw[Hid,←a0];exact iH
   have ea:Hid ((Tryz.prog.info? 38).map (·.size)=some bU.length):=by have q:=fq.out.info;rw[List.size_toArray]at q;exact q
   have CV:Hid (∀w',Fr ag de w'→Calls Tryz.prog 17 #[.agg bU.toArray, .agg a9.toArray] w' (kZ w' aM i2 m2 (aJ ab) a6)):=fun w' f=>by
    have q:=qE aM d1.out i2 m2 ab a6 pn C y ik w' (aQ.out.aq f) (by have:=X.out;omega) (hR.out.aq (aH.out.trans f)) (bi.out.aq (aH.out.trans f)) (by have:=ct.out;omega);unfold aP at q;rw[d2.out,a0]at q;exact q
   have fp:Hid (∀w',Fr ag de w'→¬(m2<1∨65536<m2∨i2<0∨m2≤i2)→Calls Tryz.prog 21 #[.agg bU.toArray, .agg a9.toArray] w' (aK w' (.bool (jl aM i2 m2 (aJ ab) a6)))):=fun w' f cY=>by
    obtain⟨m,hm⟩:∃m:Nat,m2=m:=⟨m2.toNat,by omega⟩;obtain⟨kk,g9⟩:∃k:Nat,i2=k:=⟨i2.toNat,by omega⟩;have q:=uW aM d1.out kk m (by omega) (by omega) ab a6 pn C y ik w' (aQ.out.aq f) (by have:=X.out;omega) (bi.out.aq (aH.out.trans f)) (by have:=ct.out;omega);unfold aP at q;rw[d2.out,←g9,←hm,a0]at q;exact q
   clear a0;have gs:Hid (∀W,Fr ag de W→∀j x,bU[j]? =some x→W.cell? ((⟨g12,0,none⟩:Addr).add j)=some x):=fun W f j x c2=>by rw[Addr.add_mid,Nat.zero_add,(gG.out.fr f (fun x=>x)).cell j,bD];exact c2
   have gr:Hid (∀W,Fr ag de W→∀j x,a9[j]? =some x→W.cell? ((⟨g14,0,none⟩:Addr).add j)=some x):=fun W f j x c2=>by rw[Addr.add_mid,Nat.zero_add,(iX.out.fr f (fun x=>x)).cell j,bD];exact c2
   go_wp2_with(refine aB rfl 38 (.tmp 12) rfl ⟨g12,0,none⟩ rfl bU _ ?xA Tryz.underlying38 rfl ea.out (bh.go ?xF));case xA=>exact gs.out _ aA
   unfold bh;go_wp2_with(refine aB rfl 33 (.tmp 14) rfl ⟨g14,0,none⟩ rfl a9 _ ?yZ Tryz.underlying33 rfl d9.out (bh.go ?xE));case yZ=>exact gr.out _ aA
   unfold bh;go_wp2_with fail;refine(CV.out _ aA).mono ?_;rintro e js⟨cs,i3,gS,rfl,av,f5,eU,ah,fA⟩;have d8:Hid ((Tryz.prog.info? 46).map (·.size)=some cs.toArray.size):=by rw[Hid,List.size_toArray,av.len];exact bT
   have cy:Hid ((Tryz.prog.info? 46).map (·.size)=some cs.length):=by rw[Hid,av.len];exact bT
   have d6:Hid (6=cs.toArray.size):=by rw[Hid,List.size_toArray,av.len]
   have ei:=af (ActV.one av);have dh:=af av;have dp:=af f5;have dP:=af eU;have dO:=af ah;have dQ:=af fA;clear av f5 eU ah fA CV;go_wp2_with(refine qv rfl rfl 46 16 rfl rfl _ rfl fH mJ bS.toArray rfl cs.toArray (fun _=>rfl) (fun _=>rfl) d8.out d6.out ei.out ?_);intro fm g16 eX _ iq f6;have hH:=af iq;have c6:=af (dp.out.trans f6);have fF:=af (dh.out.aq f6);clear eX iq f6 dh dp d6 ei d8;have gp:Hid (∀W,Fr ag fm W→∀j x,cs[j]? =some x→W.cell? ((⟨g16,0,none⟩:Addr).add j)=some x):=fun W f j x c2=>by rw[Addr.add_mid,Nat.zero_add,(hH.out.fr f (fun x=>x)).cell j,bD];exact c2
   by_cases ah:gS=0;case neg=>
    have t5:(gS !=0)=true:=by rw[bne_iff_ne];exact ah
    have fN:Hid (Calls Tryz.prog 19 #[.agg cs.toArray, .agg bS.toArray] fm (aK fm (.bool true))):=by
     have av:=fF.out;rw[dQ.out ah]at av;have q:=om jF jF cs bS fm av (nX fm) (by decide) (by decide);rw[(uI jF jF).2 rfl]at q;exact q
    clear ah fp bd;go_wp2_with(refine aB rfl 46 (.tmp 16) rfl ⟨g16,0,none⟩ rfl cs _ ?yY Tryz.underlying46 rfl cy.out (bh.go ?xC));case yY=>exact gp.out _ aA
    unfold bh;go_wp2_with(refine wpList_buildTo rfl 46 #[] rfl bS.toArray fj ?_);refine fN.out.mono ?_;rintro e hx⟨rfl,f14⟩;have bE:=af (aH.out.trans (c6.out.trans f14));clear f14;go_wp2;go_ret;exact⟨rfl,bE.out⟩
   have t5:(gS !=0)=false:=by rw[ah];rfl
   have c1:=vO (dP.out.symm.trans ah);have gi:=af c1.1;have bf:=af c1.2;have dN:=af (dO.out ah);clear c1 ah dP dO dQ;obtain⟨ac,eC⟩:∃z:Bool,(i2 !=(k:Int))=z:=⟨_,rfl⟩;obtain⟨fR,eD⟩:∃z:Bool,(m2 !=(nl:Int))=z:=⟨_,rfl⟩;have cn:=af eC;have co:=af eD;have hX:=af (eg.out.fr c6.out (fun x=>x));have fs:=af (en.out.fr c6.out (fun x=>x));have fu:=af (aL.out.fr c6.out (fun x=>x));clear eC eD eg en aL;obtain⟨io,eL⟩:∃z:Bool,(bif ac then true else fR)=z:=⟨_,rfl⟩;have bm:=af eL;clear eL;go_upto_region 22 with fail;refine gZ 12 [.pointer (some ⟨g14,0,none⟩), .int .i64 i2, .pointer (some ⟨g10,0,none⟩), .int .i64 (k:Int), .bool ac, .bool ac,bif ac then undef else .pointer (some ⟨g14,1,none⟩),bif ac then undef else .int .i64 m2,bif ac then undef else .pointer (some ⟨g10,1,none⟩),bif ac then undef else .int .i64 (nl:Int),bif ac then undef else .bool fR, .bool io] ?xO ?_;case xO=>
    refine⟨?XV,?YL,?XW,?YM,?YN,?YO,?YP,?YQ,?YR,?YS,?yW,?yX,trivial⟩;all_goals intro u w' t o
    all_goals simp only[z1,z2,z3,z4,au,Act.put,z5,z6,z7,Nat.reduceAdd,Nat.zero_add]
    case YL=>
     simp only[show u 0=_ from o 0];refine aC ?_;have q:_=some _:=(fu.out.fr t (fun x=>x)).cell 0;go_simp;exact aG
    case YM=>
     simp only[show u 2=_ from o 2];refine aC ?_;have q:_=some _:=(fs.out.fr t (fun x=>x)).cell 0;go_simp;exact aG
    case YN=>
     simp only[show u 1=_ from o 1,show u 3=_ from o 3];refine aC ?_;have J:=cn.out;go_simp;exact aG
    case' YO=>simp only[show u 4=_ from o 4]
    case' YP=>
     simp only[show u 5=_ from o 5];cases ac;case true=>exact bR
    case YQ=>
     simp only[show u 6=_ from o 6,show u 5=_ from o 5];cases ac;case true=>exact bR
     refine aC ?_;have q:_=some _:=(fu.out.fr t (fun x=>x)).cell 1;go_simp;exact aG
    case' YR=>
     simp only[show u 5=_ from o 5];cases ac;case true=>exact bR
    case YS=>
     simp only[show u 8=_ from o 8,show u 5=_ from o 5];cases ac;case true=>exact bR
     refine aC ?_;have q:_=some _:=(fs.out.fr t (fun x=>x)).cell 1;go_simp;exact aG
    case yW=>
     simp only[show u 7=_ from o 7,show u 9=_ from o 9,show u 5=_ from o 5];cases ac;case true=>exact bR
     refine aC ?_;have J:=co.out;go_simp;exact aG
    case yX=>
     simp only[show u 5=_ from o 5,show u 10=_ from o 10];cases ac<;>exact aC (by go_simp;exact⟨by rw[←bm.out];rfl,aA⟩)
    all_goals
     try simp only[cond]
     refine aC ?_;go_simp;exact aG
   intro w' t;simp only[z1,z2,z3,z4,au,Act.put,z5,z6,z7,z8,z9,iO,iP,Nat.reduceAdd,Nat.zero_add];have bE:=af (c6.out.trans t);have hY:=af (hX.out.fr t (fun x=>x));have gy:=af (fs.out.fr t (fun x=>x));have gE:=af (fu.out.fr t (fun x=>x));have hB:=af (fF.out.aq t);have LE:Hid (∀W,Fr ag w' W→∀j x,cs[j]? =some x→W.cell? ((⟨g16,0,none⟩:Addr).add j)=some x):=fun W f=>gp.out _ (t.trans f);clear t c6 hX fs fu fF gp hH;generalize w'=hz at*;cases io;case true=>
    have fQ:Hid (Calls Tryz.prog 21 #[.agg bU.toArray, .agg a9.toArray] hz (aK hz (.bool true))):=by
     have q:=fp.out hz bE.out gi.out;rw[bf.out]at q;exact q
    clear fp bm bf;go_wp2_with(refine aB rfl 38 (.tmp 12) rfl ⟨g12,0,none⟩ rfl bU _ ?zA Tryz.underlying38 rfl ea.out (bh.go ?holds));case zA=>exact gs.out _ bE.out
    unfold bh;go_wp2_with(refine aB rfl 33 (.tmp 14) rfl ⟨g14,0,none⟩ rfl a9 _ ?xB Tryz.underlying33 rfl d9.out (bh.go ?xG));case xB=>exact gr.out _ bE.out
    unfold bh;go_wp2_with fail;refine fQ.out.mono ?_;rintro e hx⟨rfl,f14⟩;have ck:=af (aH.out.trans (bE.out.trans f14));clear f14;go_wp2;go_ret;exact⟨rfl,ck.out⟩
   have eE:i2=(k:Int)∧m2=(nl:Int):=by
    have h:=bm.out;have ak:=cn.out;have bc:=co.out;cases ac;·have gU:fR=false:=h;rw[gU]at bc;exact⟨by simpa using ak,by simpa using bc⟩
    ·cases h
   clear bm cn co fp gr gs;obtain⟨il,eJ⟩:∃z:Bool,(ab.toList==S.toList)=z:=⟨_,rfl⟩;have bk:=af eJ;clear eJ;have cq:=af eE;clear eE;go_upto_region 24 with fail;refine gZ 5 [.pointer (some ⟨g14,2,none⟩), .string ab, .pointer (some ⟨g10,2,none⟩), .string S, .bool il] ?xP ?_;case xP=>
    refine⟨?XX,?YT,?XY,?YU,?YV,trivial⟩;all_goals intro u w' t o
    all_goals simp only[z1,z2,z3,z4,au,Act.put,z5,z6,z7,Nat.reduceAdd,Nat.zero_add]
    case YT=>
     simp only[show u 0=_ from o 0];refine aC ?_;have q:_=some _:=(gE.out.fr t (fun x=>x)).cell 2;go_simp;exact aG
    case YU=>
     simp only[show u 2=_ from o 2];refine aC ?_;have q:_=some _:=(gy.out.fr t (fun x=>x)).cell 2;go_simp;exact aG
    case YV=>
     simp only[show u 1=_ from o 1,show u 3=_ from o 3];refine aC ?_;have J:=bk.out;go_simp;exact aG
    all_goals
     refine aC ?_;go_simp;exact aG
   intro w' t;simp only[z1,z2,z3,z4,au,Act.put,z5,z6,z7,z8,z9,iO,iP,Nat.reduceAdd,Nat.zero_add];have aU:=af (bE.out.trans t);have gw:=af (hY.out.fr t (fun x=>x));have gz:=af (gy.out.fr t (fun x=>x));have gF:=af (gE.out.fr t (fun x=>x));have fG:=af (hB.out.aq t);have hS:Hid (∀W,Fr ag w' W→∀j x,cs[j]? =some x→W.cell? ((⟨g16,0,none⟩:Addr).add j)=some x):=fun W f=>LE.out _ (t.trans f);clear t bE hY gy gE hB LE;generalize w'=dg at*;cases il;case true=>
    have ff:ab=S:=by
     have h:=bk.out;rw[beq_iff_eq,ByteArray.toList_eq,ByteArray.toList_eq]at h;exact ByteArray.ext (Array.toList_inj.1 h)
    have g3:i3=a:=by
     have ak:=dN.out;rw[ff,d4.out.2]at ak;exact(Option.some.inj ak).symm
    subst g3;have i1:Hid ((k:Int)<(nl:Int)):=by have:=cr.out;simp only[Hid];omega
    have fM:Hid (∀w',Fr ag dg w'→Calls Tryz.prog 19 #[.agg cs.toArray, .agg aX.toArray] w' (aK w' (.bool true))):=fun w' f=>bd.out w' cs (fG.out.aq f) (ae.out.trans (aU.out.trans f));clear ff bk bd fG;go_upto_region 25 with fail;refine iU 8 [.agg cs.toArray, .pointer (some ⟨g8,1,none⟩), .slice (some br) nl c, .int .i64 (k:Int), .pointer (some (br.add (k*6))), .agg aX.toArray, .bool true, .bool true] ?zB ?_;case zB=>
     refine⟨?zS,?XA,?zT,?XB,?zU,?zV,?zW,?zX,trivial⟩;all_goals intro u w' t o
     all_goals simp only[z1,z2,z3,z4,au,Act.put,z5,z6,z7,Nat.reduceAdd,Nat.zero_add]
     case zS=>
      refine aC ?_;exact az _ _ rfl ⟨g16,0,none⟩ rfl cs _ (hS.out _ t) Tryz.underlying46 rfl cy.out aG
     case zT=>
      simp only[show u 1=_ from o 1];refine aC ?_;have q:_=some _:=(gw.out.fr t (fun x=>x)).cell 1;go_simp;exact aG
     case zU=>
      simp only[show u 2=_ from o 2,show u 3=_ from o 3];refine aC ?_;have J:=i1.out;have a7:=(show(0:Int)≤(k:Int)by omega);go_simp;exact aG
     case zV=>
      simp only[show u 4=_ from o 4];refine aC ?_;exact az _ _ rfl (br.add (k*6)) rfl aX _ (eb.out _ (ae.out.trans (aU.out.trans t))) Tryz.underlying46 rfl d7.out aG
     case zW=>
      simp only[show u 0=_ from o 0,show u 5=_ from o 5];refine aC ?_;go_simp;refine(fM.out _ t).mono ?_;rintro e Q⟨rfl,f4⟩;exact⟨rfl,f4⟩
     case' zX=>simp only[show u 6=_ from o 6]
     all_goals
      refine aC ?_;go_simp;exact aG
    intro w' t;simp only[z1,z2,z3,z4,au,Act.put,z5,z6,z7,z8,z9,iO,iP,Nat.reduceAdd,Nat.zero_add];have ck:=af (aH.out.trans (aU.out.trans t));clear t;go_wp2;go_ret;exact⟨rfl,ck.out⟩
   have dB:=af aU.out;clear bk dN bd fG hS eb d7 cy;obtain⟨l1,a3⟩:∃l,bQ (aJ S)=l:=⟨_,rfl⟩;obtain⟨l2,a4⟩:∃l,bQ (aJ ab)=l:=⟨_,rfl⟩;have n1:l1.length=32:=by rw[←a3];exact ew _
   have bA:l2.length=32:=by rw[←a4];exact ew _
   obtain⟨r,cY⟩:∃r,r=Lt.je (Lt.bj l1 ((k:Int)+1) ((nl:Int)+1) B).2.2 (Lt.bj l2 ((k:Int)+1) ((nl:Int)+1) a6).2.2 (Lt.bj l1 ((k:Int)+1) ((nl:Int)+1) B).1 (Lt.bj l2 ((k:Int)+1) ((nl:Int)+1) a6).1 (Lt.bj l1 ((k:Int)+1) ((nl:Int)+1) B).2.1 (Lt.bj l2 ((k:Int)+1) ((nl:Int)+1) a6).2.1:=⟨_,rfl⟩;have dK:Hid (l1≠l2→r.2.2=true∧r.1≠r.2.1∧dt r.1=dt r.2.1∧r.1.length≤1000∧r.2.1.length≤1000):=fun h=>by
    have q:=bf.out;rw[cq.out.1,cq.out.2]at q;exact yq aM k nl (aJ S) (aJ ab) B a6 N.out.2 aQ.out.each d4.out.1 q (by rw[a3,a4];exact h) r (by rw[a3,a4];exact cY)
   have dJ:Hid (r.2.2=true→2≤r.1.length∧2≤r.2.1.length):=zK cY;have ce:Hid (∀w',Fr ag dg w'→Calls Tryz.prog 25 #[.string S] w' (aK w' (.agg (l1.map aT).toArray))):=fun w' f=>by
    have q:=qg S w' (bi.out.aq (aH.out.trans (aU.out.trans f))) (by have:=bl.out.2;omega);unfold aP at q;rw[a3]at q;exact q
   have cf:Hid (∀w',Fr ag dg w'→Calls Tryz.prog 25 #[.string ab] w' (aK w' (.agg (l2.map aT).toArray))):=fun w' f=>by
    have q:=qg ab w' (bi.out.aq (aH.out.trans (aU.out.trans f))) (by have:=ct.out;omega);unfold aP at q;rw[a4]at q;exact q
   have aE:Hid (∀w',Fr ag dg w'→Calls Tryz.prog 26 #[.int .i64 ((k:Int)+1), .int .i64 ((nl:Int)+1), .agg (l1.map aT++[Value.slice U B.length Y]).toArray, .agg (l2.map aT++[Value.slice C pn y]).toArray] w' (aK w' (.tuple #[.string ⟨r.1.toArray⟩, .string ⟨r.2.1.toArray⟩, .bool r.2.2]))):=fun w' f=>
    Lt.tX l1 l2 n1 bA _ _ (by have:=cr.out;omega) B a6 B.length pn U C Y y _ _ w' (fS.out.aq (ae.out.trans (aU.out.trans f))) (aQ.out.aq (aU.out.trans f)) (by have:=N.out;omega) (by have:=X.out;omega) (bi.out.aq (aH.out.trans (aU.out.trans f))) _ _ rfl rfl r cY;have eo:Hid (∀w:World,(binOp .eql 38 (.agg (l1.map aT).toArray) (.agg (l2.map aT).toArray)).run Tryz.prog w= .ok (.bool (decide (l1=l2))) w):=fun w=>vG w _ Tryz.underlying38 l1 l2 n1 bA;obtain⟨D,al⟩:∃L,l1.map aT=L:=⟨_,rfl⟩;obtain⟨F,am⟩:∃L,l2.map aT=L:=⟨_,rfl⟩;rw[al]at ce aE eo;rw[am]at cf aE eo;have bn:Hid (D.length=32):=by rw[Hid,←al,List.length_map];exact n1
   have bo:Hid (F.length=32):=by rw[Hid,←am,List.length_map];exact bA
   have gm:Hid ((Tryz.prog.info? 38).map (·.size)=some D.length):=by rw[Hid,bn.out];exact zY
   have gn:Hid ((Tryz.prog.info? 38).map (·.size)=some F.length):=by rw[Hid,bo.out];exact zY
   have bp:=xD D bn.out (fun u hu=>by rw[←al]at hu;exact Lt.pk l1 u hu) U B.length Y;have bq:=xD F bo.out (fun u hu=>by rw[←am]at hu;exact Lt.pk l2 u hu) C pn y;have fJ:Hid (Tryz.prog.built 64 [(0, .agg D.toArray),(1, .slice U B.length Y)]=some (D++[Value.slice U B.length Y]).toArray):=Lt.qQ D bn.out _ _ _;have fK:Hid (Tryz.prog.built 64 [(0, .agg F.toArray),(1, .slice C pn y)]=some (F++[Value.slice C pn y]).toArray):=Lt.qQ F bo.out _ _ _;clear a3 a4 n1 bA cY al am bf cq fS aQ;go_upto_region 26 with fail;refine lV 16 64 [fun v=>v= .pointer (some ⟨g10,2,none⟩),fun v=>v= .string S,fun v=>v= .agg D.toArray,fun v=>v= .pointer (some ⟨g10,3,none⟩),fun v=>v= .slice U B.length Y,fun v=>v= .agg (D++[Value.slice U B.length Y]).toArray,fun v=>v= .pointer (some ⟨g14,2,none⟩),fun v=>v= .string ab,fun v=>v= .agg F.toArray,fun v=>v= .pointer (some ⟨g14,3,none⟩),fun v=>v= .slice C pn y,fun v=>v= .agg (F++[Value.slice C pn y]).toArray,fun _=>True,fun _=>True,fun _=>True,fun _=>True] [] [(12,Lt.ec),(13,Lt.ec)] [(14,12,(D++[Value.slice U B.length Y]).toArray),(15,13,(F++[Value.slice C pn y]).toArray)] (by kernel_rfl) (by kernel_rfl) (by kernel_rfl) trivial ?_ ?_
   ·refine⟨fun u w' t o I=>?_,fun u w' t o I=>?_,fun u w' t o I=>?_,fun u w' t o I=>?_,fun u w' t o I=>?_,fun u w' t o I=>?_,fun u w' t o I=>?_,fun u w' t o I=>?_,fun u w' t o I=>?_,fun u w' t o I=>?_,fun u w' t o I=>?_,fun u w' t o I=>?_,fun u w' t o=>?_,fun u w' t o=>?_,fun u w' g t o g6 ad=>?_,fun u w' g t o g6 ad=>?_,trivial⟩;all_goals simp only[bJ,bK,bL,bM,au,Act.put,bN,bO,bP,Nat.reduceAdd,Nat.zero_add]
    ·clear o I;refine aj ?_;go_simp;exact⟨_,rfl,da⟩
    ·have ah:u 0=_:=o 0 (by kernel_rfl);clear o I;simp only[ah];refine aj ?_;have q:_=some _:=(gz.out.fr t (fun x=>x)).cell 2;go_simp;exact⟨_,rfl,da⟩
    ·have ak:u 1=_:=o 1 (by kernel_rfl);clear o I;simp only[ak];refine aj ?_;go_simp;refine(ce.out _ t).mono ?_;rintro e Q⟨rfl,f4⟩;exact⟨_,rfl,rfl,trivial,f4⟩
    ·clear o I;refine aj ?_;go_simp;exact⟨_,rfl,da⟩
    ·have cG:u 3=_:=o 3 (by kernel_rfl);clear o I;simp only[cG];refine aj ?_;have q:_=some _:=(gz.out.fr t (fun x=>x)).cell 3;go_simp;exact⟨_,rfl,da⟩
    ·have bc:u 2=_:=o 2 (by kernel_rfl);have i8:u 4=_:=o 4 (by kernel_rfl);clear o I;simp only[bc,i8];refine aj ?_;exact Lt.kl 64 #[(0, .tmp 199),(1, .tmp 201)] rfl _ (by simp only[List.map_toArray,List.map_cons,List.map_nil];exact fJ.out) ⟨_,rfl,da⟩
    ·clear o I;refine aj ?_;go_simp;exact⟨_,rfl,da⟩
    ·have ja:u 6=_:=o 6 (by kernel_rfl);clear o I;simp only[ja];refine aj ?_;have q:_=some _:=(gF.out.fr t (fun x=>x)).cell 2;go_simp;exact⟨_,rfl,da⟩
    ·have jb:u 7=_:=o 7 (by kernel_rfl);clear o I;simp only[jb];refine aj ?_;go_simp;refine(cf.out _ t).mono ?_;rintro e Q⟨rfl,f4⟩;exact⟨_,rfl,rfl,trivial,f4⟩
    ·clear o I;refine aj ?_;go_simp;exact⟨_,rfl,da⟩
    ·have jd:u 9=_:=o 9 (by kernel_rfl);clear o I;simp only[jd];refine aj ?_;have q:_=some _:=(gF.out.fr t (fun x=>x)).cell 3;go_simp;exact⟨_,rfl,da⟩
    ·have jc:u 8=_:=o 8 (by kernel_rfl);have gV:u 10=_:=o 10 (by kernel_rfl);clear o I;simp only[jc,gV];refine aj ?_;exact Lt.kl 64 #[(0, .tmp 205),(1, .tmp 207)] rfl _ (by simp only[List.map_toArray,List.map_cons,List.map_nil];exact fK.out) ⟨_,rfl,da⟩
    ·clear o;refine aj ?_;refine fT 64 rfl (.agg Lt.ec) Kw Lt.ec rfl ?_;intro Q n4;exact⟨_,rfl,trivial,trivial,rfl,n4⟩
    ·clear o;refine aj ?_;refine fT 64 rfl (.agg Lt.ec) Kw Lt.ec rfl ?_;intro Q n4;exact⟨_,rfl,trivial,trivial,rfl,n4⟩
    ·have i9:u 5=_:=o 5 (by kernel_rfl);clear o;simp only[i9,g6];refine aj ?_;obtain⟨cs,hm,ad⟩:=ad;obtain rfl:cs=Lt.ec:=by simpa using hm
     refine Lt.iM 64 (.tmp 18) (.tmp 202) rfl g (D++[Value.slice U B.length Y]).toArray rfl rfl _ _ ad bp.out.1 bp.out.2.1 bp.out.2.2 ?_;intro Q b4 f4;exact⟨_,rfl,trivial,b4,f4⟩
    ·have gW:u 11=_:=o 11 (by kernel_rfl);clear o;simp only[gW,g6];refine aj ?_;obtain⟨cs,hm,ad⟩:=ad;obtain rfl:cs=Lt.ec:=by simpa using hm
     refine Lt.iM 64 (.tmp 19) (.tmp 208) rfl g (F++[Value.slice C pn y]).toArray rfl rfl _ _ ad bq.out.1 bq.out.2.1 bq.out.2.2 ?_;intro Q b4 f4;exact⟨_,rfl,trivial,b4,f4⟩
   intro u w' t o g1 jg;obtain⟨g18,gX,hp,et⟩:=g1 12 Lt.ec (by simp);obtain⟨g19,gY,hq,eu⟩:=g1 13 Lt.ec (by simp);have cD:Hid (ao w' g18 64 (D++[Value.slice U B.length Y]).toArray):=et;have cE:Hid (ao w' g19 64 (F++[Value.slice C pn y]).toArray):=eu;have hO:=af (aU.out.trans t);have dz:=af t;have hZ:=af (gw.out.fr t (fun x=>x));clear o g1 jg t et eu hp hq ce cf aU gw gz gF;simp only[bJ,bK,bL,bM,au,Act.put,bN,bO,bP,dL,dM,Nat.reduceAdd,Nat.zero_add,gX,gY];generalize w'=jx at*;obtain⟨hL,cL⟩:∃z:Bool,decide (l1=l2)=z:=⟨_,rfl⟩;rw[cL]at eo;have cp:=af cL;clear cL;go_upto_region 27 with fail;refine gZ 5 [.pointer (some ⟨g18,0,none⟩), .agg D.toArray, .pointer (some ⟨g19,0,none⟩), .agg F.toArray, .bool hL] ?xL ?_;case xL=>
    refine⟨?XQ,?ZR,?XR,?ZS,?ZT,trivial⟩;all_goals intro u w' t o
    all_goals simp only[z1,z2,z3,z4,au,Act.put,z5,z6,z7,Nat.reduceAdd,Nat.zero_add]
    case ZR=>
     simp only[show u 0=_ from o 0];refine aC ?_;exact az _ _ rfl ⟨g18,0,none⟩ rfl D _ (Lt.eY (cD.out.fr t (fun x=>x)) bn.out).2 Tryz.underlying38 rfl gm.out aG
    case ZS=>
     simp only[show u 2=_ from o 2];refine aC ?_;exact az _ _ rfl ⟨g19,0,none⟩ rfl F _ (Lt.eY (cE.out.fr t (fun x=>x)) bo.out).2 Tryz.underlying38 rfl gn.out aG
    case ZT=>
     simp only[show u 1=_ from o 1,show u 3=_ from o 3];refine aC ?_;exact eS _ _ _ _ _ rfl _ _ rfl rfl Tryz.eqGuardType38 _ (eo.out _) aG
    all_goals
     refine aC ?_;go_simp;exact aG
   intro w' t;simp only[z1,z2,z3,z4,au,Act.put,z5,z6,z7,z8,z9,iO,iP,Nat.reduceAdd,Nat.zero_add];have ga:=af (hO.out.trans t);have cj:=af (dz.out.trans t);have ia:=af (hZ.out.fr t (fun x=>x));have er:=af (cD.out.fr t (fun x=>x));have es:=af (cE.out.fr t (fun x=>x));clear t hO dz hZ cD cE eo;generalize w'=jz at*;cases hL;case true=>
    have ck:=af (aH.out.trans ga.out);clear aE cp;go_wp2;go_ret;exact⟨rfl,ck.out⟩
   obtain⟨ho,iD,iE,jm,jn⟩:=dK.out (of_decide_eq_false cp.out);obtain⟨k6,jo⟩:=dJ.out ho;have iZ:Hid ((!(ByteArray.mk r.1.toArray).toList==(ByteArray.mk r.2.1.toArray).toList)=true):=by
    have:(ByteArray.mk r.1.toArray).toList≠(ByteArray.mk r.2.1.toArray).toList:=by
     rw[ByteArray.toList_eq,ByteArray.toList_eq];simpa using iD
    simp only[Hid];simpa using this
   have iY:Hid (∀w:World,(binOp .eql 38 (.agg ((dt r.1).map aT).toArray) (.agg ((dt r.1).map aT).toArray)).run Tryz.prog w= .ok (.bool true) w):=fun w=>by
    have q:=vG w _ Tryz.underlying38 (dt r.1) (dt r.1) (eZ _) (eZ _);rw[decide_eq_true rfl]at q;exact q
   have fO:Hid (∀w',Fr ag dg w'→Calls Tryz.prog 27 #[.string ⟨r.1.toArray⟩] w' (aK w' (.agg ((dt r.1).map aT).toArray))):=fun w' f=>
    qN ⟨r.1.toArray⟩ w' (bi.out.aq (aH.out.trans (dB.out.trans f))) (by simp only[ByteArray.size,List.size_toArray];omega) (by simp only[ByteArray.size,List.size_toArray];omega);have fP:Hid (∀w',Fr ag dg w'→Calls Tryz.prog 27 #[.string ⟨r.2.1.toArray⟩] w' (aK w' (.agg ((dt r.1).map aT).toArray))):=fun w' f=>by
    have q:=qN ⟨r.2.1.toArray⟩ w' (bi.out.aq (aH.out.trans (dB.out.trans f))) (by simp only[ByteArray.size,List.size_toArray];omega) (by simp only[ByteArray.size,List.size_toArray];omega);have e:dG ⟨r.2.1.toArray⟩=r.2.1:=rfl;rw[e,←iE]at q;exact q
   rw[ho]at aE;generalize(dt r.1).map aT=SV at*;generalize(ByteArray.mk r.1.toArray)=c7 at*;generalize(ByteArray.mk r.2.1.toArray)=c8 at*;have i0:Hid (IntKind.i64.wrap ((k:Int)+1)=(k:Int)+1):=IntWalk.i64_in _ (by have:=cr.out;omega);have WN:Hid (IntKind.i64.wrap ((nl:Int)+1)=(nl:Int)+1):=IntWalk.i64_in _ (by have:=cr.out;omega);clear ho iD iE jm jn k6 jo dK dJ cp cr;go_upto_region 29 with fail;refine gZ 16 [.int .i64 (k:Int), .int .i64 ((k:Int)+1), .pointer (some ⟨g8,1,none⟩), .slice (some br) nl c, .int .i64 (nl:Nat), .int .i64 ((nl:Int)+1), .agg (D++[Value.slice U B.length Y]).toArray, .agg (F++[Value.slice C pn y]).toArray, .tuple #[.string c7, .string c8, .bool true], .tuple #[.string c7, .string c8, .bool true], .string c7, .string c8, .bool true, .string c7, .string c8, .bool true] ?xM ?_;case xM=>
    refine⟨?XS,?ZU,?XT,?ZV,?ZW,?ZX,?ZY,?ZZ,?YA,?YB,?yL,?yM,?yN,?yO,?yP,?yQ,trivial⟩;all_goals intro u w' t o
    all_goals simp only[z1,z2,z3,z4,au,Act.put,z5,z6,z7,Nat.reduceAdd,Nat.zero_add]
    case ZU=>
     simp only[show u 0=_ from o 0];refine aC ?_;have J:=i0.out;go_simp;exact aG
    case ZV=>
     simp only[show u 2=_ from o 2];refine aC ?_;have q:_=some _:=(ia.out.fr t (fun x=>x)).cell 1;go_simp;exact aG
    case' ZW=>simp only[show u 3=_ from o 3]
    case ZX=>
     simp only[show u 4=_ from o 4];refine aC ?_;have J:=WN.out;go_simp;exact aG
    case ZY=>
     refine aC ?_;exact az _ _ rfl ⟨g18,0,none⟩ rfl (D++[Value.slice U B.length Y]) _ (kH (er.out.fr t (fun x=>x))) Tryz.underlying64 rfl (by have q:=bp.out.1;rw[List.size_toArray]at q;exact q) aG
    case ZZ=>
     refine aC ?_;exact az _ _ rfl ⟨g19,0,none⟩ rfl (F++[Value.slice C pn y]) _ (kH (es.out.fr t (fun x=>x))) Tryz.underlying64 rfl (by have q:=bq.out.1;rw[List.size_toArray]at q;exact q) aG
    case YA=>
     simp only[show u 1=_ from o 1,show u 5=_ from o 5,show u 6=_ from o 6,show u 7=_ from o 7];refine aC ?_;go_simp;refine(aE.out _ (cj.out.trans t)).mono ?_;rintro e Q⟨rfl,f4⟩;exact⟨rfl,f4⟩
    case' YB=>simp only[show u 8=_ from o 8]
    case' yL=>simp only[show u 9=_ from o 9]
    case' yM=>simp only[show u 9=_ from o 9]
    case' yN=>simp only[show u 9=_ from o 9]
    case' yO=>simp only[show u 10=_ from o 10]
    case' yP=>simp only[show u 11=_ from o 11]
    case' yQ=>simp only[show u 12=_ from o 12]
    all_goals
     refine aC ?_;go_simp;exact aG
   intro w' t;simp only[z1,z2,z3,z4,au,Act.put,z5,z6,z7,z8,z9,iO,iP,Nat.reduceAdd,Nat.zero_add];have iQ:=af (ga.out.trans t);have dA:=af (cj.out.trans t);clear t ga cj aE ia er es;generalize w'=jA at*;go_upto_region 30 with fail;refine gZ 14 [.bool true, .bool true, .string c7, .string c8, .bool true, .bool true, .bool true, .string c7, .agg SV.toArray, .string c8, .agg SV.toArray, .bool true, .bool true, .bool true] ?xN ?_;case xN=>
    refine⟨?XU,?YC,?YD,?YE,?YF,?YG,?YH,?YI,?YJ,?YK,?yR,?yS,?yT,?yV,trivial⟩;all_goals intro u w' t o
    all_goals simp only[z1,z2,z3,z4,au,Act.put,z5,z6,z7,Nat.reduceAdd,Nat.zero_add]
    case' YC=>simp only[show u 0=_ from o 0]
    case' YD=>simp only[show u 1=_ from o 1]
    case' YE=>simp only[show u 1=_ from o 1]
    case YF=>
     simp only[show u 2=_ from o 2,show u 3=_ from o 3,show u 1=_ from o 1];refine aC ?_;have J:=iZ.out;go_simp;exact aG
    case' YG=>simp only[show u 1=_ from o 1,show u 4=_ from o 4]
    case' YH=>simp only[show u 5=_ from o 5]
    case' YI=>simp only[show u 6=_ from o 6]
    case YJ=>
     simp only[show u 7=_ from o 7,show u 6=_ from o 6];refine aC ?_;go_simp;refine(fO.out _ (dA.out.trans t)).mono ?_;rintro e Q⟨rfl,f4⟩;exact⟨rfl,f4⟩
    case' YK=>simp only[show u 6=_ from o 6]
    case yR=>
     simp only[show u 9=_ from o 9,show u 6=_ from o 6];refine aC ?_;go_simp;refine(fP.out _ (dA.out.trans t)).mono ?_;rintro e Q⟨rfl,f4⟩;exact⟨rfl,f4⟩
    case yS=>
     simp only[show u 8=_ from o 8,show u 10=_ from o 10,show u 6=_ from o 6];refine aC ?_;exact eS _ _ _ _ _ rfl _ _ rfl rfl Tryz.eqGuardType38 _ (iY.out _) aG
    case' yT=>simp only[show u 6=_ from o 6,show u 11=_ from o 11]
    case' yV=>simp only[show u 12=_ from o 12]
    all_goals
     refine aC ?_;go_simp;exact aG
   intro w' t;simp only[z1,z2,z3,z4,au,Act.put,z5,z6,z7,z8,z9,iO,iP,Nat.reduceAdd,Nat.zero_add];have ck:=af (aH.out.trans (iQ.out.trans t));clear t;go_wp2;go_ret;exact⟨rfl,ck.out⟩
end Go.Proofs.YtphjagkehiklkaaGreatDoor
