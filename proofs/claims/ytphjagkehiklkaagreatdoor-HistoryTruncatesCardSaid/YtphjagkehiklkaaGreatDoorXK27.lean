/- Texts. -/
import Derived.Test.YtphjagkehiklkaaGreatDoorXK25
import Derived.Test.YtphjagkehiklkaaGreatDoorXK26
set_option linter.unusedVariables false
set_option linter.unusedSimpArgs false
set_option maxRecDepth 100000
set_option maxHeartbeats 8000000
namespace Go.Proofs.YtphjagkehiklkaaGreatDoor
open Go.RowKit Go.Shelf
theorem oy(bh:Nat)(a4:Option Addr)(br:Nat)(z:Int)(w:World)(bX:uj w a4 bh)(bf:ed w)(be:bU w):
  Calls Tryz.prog 10 #[.slice a4 bh br, .int .i64 z] w (zn w):=by
 have bF:=af (De w bf be);have bE:Hid (∀w',Fr ah w w'→Calls Tryz.prog 14 #[.slice none 0 0, .slice a4 bh br] w' (pq w')):=fun w' f=>Ab 0 [] none 0 (fun _=>True) bh a4 br w' ⟨Rd.none_,rfl⟩ (by decide) (by decide) (bX.ao f) (bf.ao f) (be.ao f);have ap:=af bf;have a8:=af be;clear bX bf be;go_enter Tryz.func10,Tryz.ntmps10;go_wp2_with fail;refine bF.out.mono ?_;rintro e w1⟨rfl,f1⟩;have a6:=af f1;clear f1 bF;go_wp2_with fail;refine(bE.out _ a6.out).mono ?_;rintro e w2⟨h,b,ms,E,L,T,rfl,bV,bv,bT,d,b0,f2,S⟩;obtain⟨A,nl,c,rfl,b6,b2,bw,bs,a0,bx⟩:=id bv;have bm:=af (a6.out.trans f2);have bo:=af bV;have H:=af bv;have V:=af bT;have an:=af d;have Y:=af S;have am:Hid (nl=L.length∧nl≤16∧nl≤c):=by have:=d.len;exact⟨b6,by omega,b2⟩
 have aQ:Hid (∀j,T j→w.heap.size≤j):=fun j hj=>Nat.le_trans a6.out.size (b0 j hj);have cf:Hid ([Value.pointer (some ⟨b,0,none⟩), .slice A nl c].toArray.all (·.oneCell')=true):=by simp[Hid,Value.oneCell']
 clear f2 bV bv bT d b6 b2 bw a0 bx bE a6 b0 S;go_wp2_with(refine po rfl rfl rfl 28 6 rfl rfl (.tmp 16) rfl _ rfl (.agg sF.toArray) Jp #[.pointer none, .slice none 0 0] rfl (.pointer (some ⟨h,0,none⟩)) [Value.pointer (some ⟨b,0,none⟩), .slice A nl c].toArray (fun _=>rfl) (fun _=>rfl) (fun _=>rfl) gZ rfl cf.out ?_);intro w3 g6 bA _ b3 f3;have ak:Hid (aq w3 g6 28 [Value.pointer (some ⟨b,0,none⟩), .slice A nl c].toArray):=b3;have aD:=af (bm.out.trans f3);have a7:=af (bo.out.ao f3);have a9:=af (H.out.ao f3);have I:Hid (¬T g6∧w.heap.size≤g6):=⟨fun a1=>by have:=bo.out.lt g6 a1;omega,by have:=bm.out.size;omega⟩;clear b3 f3 bo H bm bA;obtain⟨P,bY⟩:∃P,decide (z<0)=P:=⟨_,rfl⟩;obtain⟨R,d⟩:∃R,decide ((nl:Int)<z)=R:=⟨_,rfl⟩;have aN:=af bY;have r:=af d;clear bY d;obtain⟨ax,aY⟩:∃z:Bool,(bif P then true else R)=z:=⟨_,rfl⟩;have B:=af aY;clear aY;have K:Hid (ax=true↔¬(0≤z∧z≤(nl:Int))):=by
  rw[Hid,←B.out,←aN.out,←r.out];by_cases y:z<0;·simp[y];omega
  ·simp[y];omega
 go_wp2_with fail;refine(ue h E L T z w3 a7.out (ap.out.ao aD.out) (V.out.more (by decide)) an.out).mono ?_;rintro e b7(⟨y,ay,rfl,T',ac,f4,aV⟩|⟨y,rfl,f4⟩);case inr=>
  obtain⟨n,l⟩:∃n,[Value.pointer (some ⟨b,0,none⟩), .slice A nl c]=n:=⟨_,rfl⟩;have bp:=af l;have Z:Hid ((Tryz.prog.info? 28).map (·.size)=some n.length):=by rw[Hid,←l];exact gZ
  rw[l]at ak a9 Y;have bb:Hid (∀W,Fr ah w3 W→W.cell? ⟨g6,1,none⟩=some (.slice A nl c)):=fun W f=>by
   have q:=(ak.out.fr f (fun x=>x)).cell 1;rw[←bp.out]at q;exact q
  have aE:=af f4;have O:Hid (ax=true):=K.out.2 (by rw[am.out.1];exact y);have U:Hid (∀W,Fr ah w3 W→Calls Tryz.prog 33 #[.agg n.toArray, .pointer (some ⟨h,0,none⟩)] W (aK W (.bool true))):=fun W f=>vP n h b E L T W (a7.out.ao f) (a9.out.ao f) (ap.out.ao (aD.out.trans f)) (V.out.more (by decide)) an.out;clear l f4 y K;go_upto_region 5 with fail;refine jm 9 [.int .i64 z, .bool P, .bool P,bif P then undef else .int .i64 z,bif P then undef else .pointer (some ⟨g6,1,none⟩),bif P then undef else .slice A nl c,bif P then undef else .int .i64 (nl:Nat),bif P then undef else .bool R, .bool ax] ?zJ ?_;case zJ=>
   refine⟨?yT,?zN,?zO,?zP,?zQ,?zR,?zS,?zT,?zU,trivial⟩;all_goals intro u w' g d
   all_goals simp only[z1,z2,z3,z4,ar,Act.put,z5,z6,z7,Nat.reduceAdd,Nat.zero_add]
   case zN=>
    simp only[show u 0=_ from d 0];refine aF ?_;have q:=aN.out;go_simp;exact aL
   case' zO=>simp only[show u 1=_ from d 1]
   case' zP=>
    simp only[show u 2=_ from d 2];cases P;case true=>exact bS
   case' zQ=>
    simp only[show u 2=_ from d 2];cases P;case true=>exact bS
   case zR=>
    simp only[show u 4=_ from d 4,show u 2=_ from d 2];cases P;case true=>exact bS
    refine aF ?_;have q:_=some _:=bb.out _ (aE.out.trans g);go_simp;exact aL
   case' zS=>
    simp only[show u 5=_ from d 5,show u 2=_ from d 2];cases P;case true=>exact bS
   case zT=>
    simp only[show u 3=_ from d 3,show u 6=_ from d 6,show u 2=_ from d 2];cases P;case true=>exact bS
    refine aF ?_;have q:=r.out;go_simp;exact aL
   case zU=>
    simp only[show u 2=_ from d 2,show u 7=_ from d 7];cases P<;>exact aF (by go_simp;exact⟨by rw[←B.out];rfl,az⟩)
   all_goals
    try simp only[cond]
    refine aF ?_;go_simp;exact aL
  intro w' g;simp only[z1,z2,z3,z4,ar,Act.put,z5,z6,z7,z8,z9,jn,jo,Nat.reduceAdd,Nat.zero_add];have al:=af (aE.out.trans g);clear g;generalize w'=bD at*;have aS:=O.out;subst aS;clear aN r B O;go_upto_region 6 with fail;refine jm 8 [.int .i64 2, .bool true, .bool true, .agg n.toArray, .pointer (some ⟨h,0,none⟩), .bool true, .bool true, .bool true] ?zL ?_;case zL=>
   refine⟨?yV,?yD,?yE,?yF,?yG,?yH,?yI,?yJ,trivial⟩;all_goals intro u w' g d
   all_goals simp only[z1,z2,z3,z4,ar,Act.put,z5,z6,z7,Nat.reduceAdd,Nat.zero_add]
   case yD=>
    simp only[show u 0=_ from d 0];refine aF ?_;go_simp;exact aL
   case' yE=>simp only[show u 1=_ from d 1]
   case yF=>
    simp only[show u 2=_ from d 2];refine aF ?_;exact aw _ _ rfl ⟨g6,0,none⟩ rfl n _ (jJ (ak.out.fr (al.out.trans g) (fun x=>x))) Tryz.underlying28 rfl Z.out aL
   case' yG=>simp only[show u 2=_ from d 2]
   case yH=>
    simp only[show u 3=_ from d 3,show u 4=_ from d 4,show u 2=_ from d 2];refine aF ?_;go_simp;refine(U.out _ (al.out.trans g)).mono ?_;rintro e b8⟨rfl,aT⟩;exact⟨rfl,aT⟩
   case' yI=>simp only[show u 2=_ from d 2,show u 5=_ from d 5]
   case' yJ=>simp only[show u 6=_ from d 6]
   all_goals
    refine aF ?_;go_simp;exact aL
  intro w' g;simp only[z1,z2,z3,z4,ar,Act.put,z5,z6,z7,z8,z9,jn,jo,Nat.reduceAdd,Nat.zero_add];have M:=af (al.out.trans g);clear g;go_wp2;go_ret;exact⟨rfl,aD.out.trans M.out⟩
 obtain⟨m,rfl⟩:∃m:Nat,z=m:=⟨z.toNat,by omega⟩;rw[Int.toNat_natCast]at ac;have H:Hid (m≤nl∧m≤L.length):=by have:=am.out;exact⟨by omega,by omega⟩
 have N:Hid (ax=false):=by
  cases hw:ax;·rfl
  ·exact absurd ⟨y,by have:=am.out;omega⟩ (K.out.1 hw)
 have bH:=af ac;have aE:Hid (Fr ah w b7):=aD.out.au f4 (fun i b4 e=>by have:=aQ.out i e;omega);have bL:=af (a9.out.jx f4 a7.out.cu Y.out);have bi:=af (ak.out.fr f4 I.out.1);have aO:Hid (¬T' g6):=fun a1=>by
  rcases aV g6 a1 with h|h;·exact I.out.1 h
  ·have:=ak.out.lt;omega
 have bb:Hid (∀W,Fr ah b7 W→W.cell? ⟨g6,1,none⟩=some (.slice A nl c)):=fun W f=>(bi.out.fr f (fun x=>x)).cell 1;clear y ay ac f4 aV K a9 ak a7 aD aQ Y;go_upto_region 5 with fail;refine jm 9 [.int .i64 (m:Int), .bool P, .bool P,bif P then undef else .int .i64 (m:Int),bif P then undef else .pointer (some ⟨g6,1,none⟩),bif P then undef else .slice A nl c,bif P then undef else .int .i64 (nl:Nat),bif P then undef else .bool R, .bool ax] ?zK ?_;case zK=>
  refine⟨?yU,?zV,?zW,?zX,?zY,?zZ,?yA,?yB,?yC,trivial⟩;all_goals intro u w' g d
  all_goals simp only[z1,z2,z3,z4,ar,Act.put,z5,z6,z7,Nat.reduceAdd,Nat.zero_add]
  case zV=>
   simp only[show u 0=_ from d 0];refine aF ?_;have q:=aN.out;go_simp;exact aL
  case' zW=>simp only[show u 1=_ from d 1]
  case' zX=>
   simp only[show u 2=_ from d 2];cases P;case true=>exact bS
  case' zY=>
   simp only[show u 2=_ from d 2];cases P;case true=>exact bS
  case zZ=>
   simp only[show u 4=_ from d 4,show u 2=_ from d 2];cases P;case true=>exact bS
   refine aF ?_;have q:_=some _:=bb.out _ (g);go_simp;exact aL
  case' yA=>
   simp only[show u 5=_ from d 5,show u 2=_ from d 2];cases P;case true=>exact bS
  case yB=>
   simp only[show u 3=_ from d 3,show u 6=_ from d 6,show u 2=_ from d 2];cases P;case true=>exact bS
   refine aF ?_;have q:=r.out;have bC:decide (nl<m)=R:=(by rw[←r.out];exact(decide_eq_decide.2 Int.ofNat_lt).symm);go_simp;exact aL
  case yC=>
   simp only[show u 2=_ from d 2,show u 7=_ from d 7];cases P<;>exact aF (by go_simp;exact⟨by rw[←B.out];rfl,az⟩)
  all_goals
   try simp only[cond]
   refine aF ?_;go_simp;exact aL
 intro w' g;simp only[z1,z2,z3,z4,ar,Act.put,z5,z6,z7,z8,z9,jn,jo,Nat.reduceAdd,Nat.zero_add];have al:=af (aE.out.trans g);have bI:=af (bH.out.ao g);have bq:=af (bL.out.ao g);have aA:=af (bi.out.fr g (fun x=>x));clear g aE bH bL bi bb;generalize w'=bD at*;have aS:=N.out;subst aS;clear aN r B N;have aS:(m:Int)≤(c:Int):=by have:=H.out;have:=am.out;omega
 have ck:(0:Int)≤(m:Int):=by omega
 have ci:bD.cell? ⟨g6,1,none⟩=some (.slice A nl c):=aA.out.cell 1;go_wp2_with(refine aM rfl 26 (.tmp 41) (.tmp 40) rfl g6 1 (.slice A m c) rfl rfl rfl r8 _ _ #[.pointer (some ⟨b,0,none⟩), .slice A m c] aA.out (show 1<2 by decide) rfl ?_);intro D bQ f6;have F:eZ bD (fun j=>j=g6):=kt aA.out (by decide) (by decide) (by decide);have M:=af (al.out.au f6 (fun i b4 e=>by have bd:i=g6:=e;have:=I.out.2;omega));have bJ:=af (bI.out.jx f6 F (fun j hj e=>aO.out (by have bd:j=g6:=e;rw[←bd];exact hj)));have a5:=af bQ;have ba:Hid (Mod D [Value.pointer (some ⟨b,0,none⟩), .slice A m c] b E (L.take m)):=by
  obtain⟨b9,cn,ch,he,ay,bR,aU,bt⟩:=bq.out;injection he with bz o;injection o with o _;injection o with bu ai ag;subst bu ai ag;have b5:(L.take m).length=m:=by rw[List.length_take];have:=H.out;omega
  refine⟨A,m,c,rfl,b5.symm,by have:=H.out;omega,aU.cu f6 F,(bt.cut ay H.out.2).cu f6 F (fun k bg e=>?_)⟩;have bd:k=g6:=e;have t:=bq.out.lt _ (List.mem_cons_of_mem _ (List.mem_singleton.2 rfl)) k (by cases A<;>exact bg);rw[bd]at t;exact absurd (t.one aA.out.ty) (by decide)
 clear bQ f6 F al bI bq aA ci aS ck I aO;have cj:D.cell? ⟨g6,0,none⟩=some (.pointer (some ⟨b,0,none⟩)):=a5.out.cell 0;have bO:Hid (ec D b E):=by obtain⟨_,_,_,_,_,_,aU,_⟩:=ba.out;exact aU
 go_wp2_with fail;refine(rN E b D bO.out (ap.out.ao M.out) (a8.out.ao M.out) (V.out.more (by decide))).mono ?_;rintro e cv⟨k,cg,rfl,bW,f7,aX⟩;have bG:=af f7;have aI:=af bW;have aP:=af aX;have bN:Hid (∀W,Fr ah D W→W.cell? ⟨g6,1,none⟩=some (.slice A m c)):=fun W f=>(a5.out.fr f (fun x=>x)).cell 1;have aH:Hid (∀j,j<m→∃aa v a,A=some aa∧L[j]? =some a∧cy D v a∧v.length=6∧∀i x,v[i]? =some x→D.cell? ((aa.add (j*6)).add i)=some x):=fun j hj=>by
  obtain⟨b9,cn,ch,he,ay,bR,aU,bs,bt,cl⟩:=ba.out;injection he with bz o;injection o with o _;injection o with bu ai ag;subst bu ai ag;have b5:(L.take m).length=m:=by rw[List.length_take];have:=H.out;omega
  obtain⟨aa,v,a,co,bC,cp,cq,cr⟩:=kb bt cl ay (show j<(L.take m).length by omega);rw[List.getElem?_take_of_lt hj]at bC;exact⟨aa,v,a,co,bC,cp,cq,cr⟩
 clear f7 bW aX bO cj;go_wp2;go_loopw[10](fun i wr=>∃(j:Nat)(av:Nat→Prop),j≤m∧i= .int .i64 (j:Int)∧eD wr k E (L.take j) av∧(∀x,av x→D.heap.size≤x)∧Fr ah D wr)(fun i _=>m-(intOf i).toNat);case atStart=>exact⟨0,cg,Nat.zero_le _,rfl,by rw[List.take_zero];exact aI.out,aP.out,bG.out⟩
 case round=>
  clear aI aP bG;obtain⟨j,av,hj,rfl,bg,a2,g⟩:=hrel;have p:=af g;have X:=af bg;have J:=af a2;have bK:=af hj;clear g bg a2 hj;by_cases bB:j<m
  ·have t0:decide ((j:Int)<(m:Int))=true:=cT (by omega);have i0:(j:Int)<(m:Int):=by omega
   have i1:(0:Int)≤(j:Int):=by omega
   have cx:IntKind.i64.wrap ((j:Int)+1)=(j:Int)+1:=IntWalk.i64_in _ (by have:=am.out;have:=H.out;omega);have m1:wr.cell? ⟨g6,1,none⟩=some (.slice A m c):=bN.out _ p.out;obtain⟨aa,v,a,rfl,ae,ab,aZ,C⟩:=aH.out j bB;have cc:Hid ((Tryz.prog.info? 46).map (·.size)=some v.length):=by rw[Hid,aZ];exact bM
   have bj:Hid (∀i x,v[i]? =some x→wr.cell? ((aa.add (j*6)).add i)=some x):=fun i x a3=>p.out.aj (C i x a3) (fun x=>x);have aG:=af (Ib an.out ae);have bc:Hid (fZ a):=an.out.small a (List.mem_of_getElem? ae);have aJ:Hid ((L.take j).length≤16):=by rw[Hid,List.length_take];have:=am.out;omega
   have aB:Hid (Calls Tryz.prog 32 #[.pointer (some ⟨k,0,none⟩), .agg v.toArray] wr (wU wr k E (L.take j) av a)):=by
    have bn:=M.out.trans p.out;have Q:=an.out.take j;refine nf k E (L.take j) av a v wr X.out (ab.ao p.out) (ap.out.ao bn) (a8.out.ao bn) bc.out.sz (fun b bw=>by have:=(Q.small b bw).fA;omega) (by have:=aJ.out;omega) (fun _=>by have:=bc.out.len;omega) (fun x a3 a1=>?_) (fun ct w' s f cm=>?_);·have y:=J.out x a1;have ay:=a8.out.Dm;have bR:=a8.out.Dn;have aU:=M.out.size;rcases a3 with rfl|rfl<;>omega
    ·have G:=iG (L.take j) E 24 (V.out.more (by decide)) Q.ok Q.small;exact jq _ a v _ s w' ((ab.ao p.out).ao f) cm (ap.out.ao (bn.trans f)) G bc.out.writes (by have:=bc.out.nw;have:=aJ.out;omega)
   clear ae ab aZ C;go_wp2_with(refine aC rfl 46 (.tmp 57) rfl (aa.add (j*6)) rfl v _ ?zH Tryz.underlying46 rfl cc.out (aR.go ?zI));case zH=>exact bj.out
   unfold aR;go_wp2_with fail;refine aB.out.mono ?_;rintro e cw⟨bP,rfl,ad,f8,aW⟩;rw[aG.out]at ad;have cd:=af ad;have cb:=af (p.out.au f8 (fun i b4 e=>by have:=J.out i e;omega));have ce:Hid (∀x,bP x→D.heap.size≤x):=fun x a3=>by
    rcases aW x a3 with y|y;·exact J.out x y
    ·have:=p.out.size;omega
   have t5:(eo (L.take j) a).1=0:=by rw[aG.out]
   rw[t5];clear ad f8 aW aB t5 m1;go_wp2;go_roundw;case rel=>exact⟨j+1,bP,by omega,by go_num,cd.out,ce.out,cb.out⟩
   case measure=>simp[intOf];omega
  ·obtain rfl:j=m:=by have:=bK.out;omega
   have t0:decide ((j:Int)<(j:Int))=false:=bZ (by omega);have cs:¬(j:Int)<(j:Int):=by omega
   have Q:=af (an.out.take j);obtain⟨n,l⟩:∃n,[Value.pointer (some ⟨b,0,none⟩), .slice A j c]=n:=⟨_,rfl⟩;have Z:Hid ((Tryz.prog.info? 28).map (·.size)=some n.length):=by rw[Hid,←l];exact gZ
   have ca:Hid (aq D g6 28 n.toArray):=by rw[Hid,←l];exact a5.out
   rw[l]at ba;have U:Hid (∀W,Fr ah wr W→Calls Tryz.prog 33 #[.agg n.toArray, .pointer (some ⟨h,0,none⟩)] W (aK W (.bool true))):=fun W f=>vP n h b E (L.take j) T' W (bJ.out.ao (p.out.trans f)) (ba.out.ao (p.out.trans f)) (ap.out.ao (M.out.trans (p.out.trans f))) (V.out.more (by decide)) Q.out;have bk:Hid (∀W,Fr ah wr W→Calls Tryz.prog 43 #[.pointer (some ⟨h,0,none⟩), .pointer (some ⟨k,0,none⟩)] W (aK W (.bool true))):=fun W f=>zj h k E E (L.take j) (L.take j) T' av W (bJ.out.ao (p.out.trans f)) (X.out.ao f) ((V.out.more (show 6≤24 by decide)).jK (by decide)) ((V.out.more (show 6≤24 by decide)).jK (by decide)) (by have:=Q.out.len;omega) (fun a b1=>⟨by have:=(Q.out.small a b1).nr;omega,by have:=(Q.out.small a b1).nw;omega⟩) true true (by simp) (by simp);clear l a5 aH X J bK bN;go_upto_region 14 with fail;refine jm 17 [.int .i64 0, .bool true, .bool true, .int .i64 0, .bool true, .bool true, .bool true, .agg n.toArray, .pointer (some ⟨h,0,none⟩), .bool true, .bool true, .bool true, .pointer (some ⟨h,0,none⟩), .pointer (some ⟨k,0,none⟩), .bool true, .bool true, .bool true] ?zM ?_;case zM=>
    refine⟨?yW,?yK,?yL,?yM,?yN,?yO,?yP,?yQ,?yR,?yS,?zA,?zB,?zC,?zD,?zE,?zF,?zG,trivial⟩;all_goals intro u w' g d
    all_goals simp only[z1,z2,z3,z4,ar,Act.put,z5,z6,z7,Nat.reduceAdd,Nat.zero_add]
    case yK=>
     simp only[show u 0=_ from d 0];refine aF ?_;go_simp;exact aL
    case' yL=>simp only[show u 1=_ from d 1]
    case' yM=>simp only[show u 2=_ from d 2]
    case yN=>
     simp only[show u 3=_ from d 3,show u 2=_ from d 2];refine aF ?_;go_simp;exact aL
    case' yO=>simp only[show u 2=_ from d 2,show u 4=_ from d 4]
    case' yP=>simp only[show u 5=_ from d 5]
    case yQ=>
     simp only[show u 6=_ from d 6];refine aF ?_;exact aw _ _ rfl ⟨g6,0,none⟩ rfl n _ (jJ (ca.out.fr (p.out.trans g) (fun x=>x))) Tryz.underlying28 rfl Z.out aL
    case' yR=>simp only[show u 6=_ from d 6]
    case yS=>
     simp only[show u 7=_ from d 7,show u 8=_ from d 8,show u 6=_ from d 6];refine aF ?_;go_simp;refine(U.out _ g).mono ?_;rintro e b8⟨rfl,aT⟩;exact⟨rfl,aT⟩
    case' zA=>simp only[show u 6=_ from d 6,show u 9=_ from d 9]
    case' zB=>simp only[show u 10=_ from d 10]
    case' zC=>simp only[show u 11=_ from d 11]
    case' zD=>simp only[show u 11=_ from d 11]
    case zE=>
     simp only[show u 12=_ from d 12,show u 13=_ from d 13,show u 11=_ from d 11];refine aF ?_;go_simp;refine(bk.out _ g).mono ?_;rintro e b8⟨rfl,aT⟩;exact⟨rfl,aT⟩
    case' zF=>simp only[show u 11=_ from d 11,show u 14=_ from d 14]
    case' zG=>simp only[show u 15=_ from d 15]
    all_goals
     refine aF ?_;go_simp;exact aL
   intro w' g;simp only[z1,z2,z3,z4,ar,Act.put,z5,z6,z7,z8,z9,jn,jo,Nat.reduceAdd,Nat.zero_add];have bl:=af (p.out.trans g);clear g;go_wp2;go_ret;exact⟨rfl,M.out.trans bl.out⟩
end Go.Proofs.YtphjagkehiklkaaGreatDoor
