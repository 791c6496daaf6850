/- Texts. -/
import Derived.Test.YtphjagkehiklkaaGreatDoorWK42
import Derived.Test.YtphjagkehiklkaaGreatDoorWK47
import Derived.Test.YtphjagkehiklkaaGreatDoorWK51
set_option linter.unusedVariables false
set_option linter.unusedSimpArgs false
set_option maxRecDepth 100000
set_option maxHeartbeats 8000000
namespace Go.Proofs.YtphjagkehiklkaaGreatDoor
open Go.RowKit Go.Shelf
def Mi(L:List ActV)(k:eN)(n:Nat)(v:Int):Prop:=(v=-1∧∀(j:Nat)(a:ActV),j<n→L[j]? =some a→a.key≠k)∨∃(j:Nat)(a:ActV),j<n∧L[j]? =some a∧a.key=k∧v=(j:Int)
theorem Mi.zero(L:List ActV)(k:eN):Mi L k 0 (-1):= .inl ⟨rfl,fun _ _ h _=>absurd h (Nat.not_lt_zero _)⟩
theorem Mi.hit{L:List ActV}{k:eN}{n:Nat}{a:ActV}(b:L[n]? =some a)(e:a.key=k):Mi L k (n+1) (n:Int):= .inr ⟨n,a,Nat.lt_succ_self _,b,e,rfl⟩
theorem Mi.MQ{L:List ActV}{k:eN}{n:Nat}{a:ActV}{v:Int}(h:Mi L k n v)(g:L[n]? =some a)(e:a.key≠k):Mi L k (n+1) v:=by
 rcases h with⟨rfl,h⟩|⟨j,b,i,c,f,rfl⟩
 ·refine .inl ⟨rfl,fun j b i c=>?_⟩;rcases Nat.lt_or_ge j n with d|d;·exact h j b d c
  ·obtain rfl:j=n:=by omega
   rw[g]at c;injection c with c;exact c▸e
 ·exact .inr ⟨j,b,by omega,c,f,rfl⟩
theorem MK{L:List ActV}(m:L.Pairwise (fun a b=>gD a.key b.key<0)){k:eN}{i v:Int}{b:Bool}(p:Mh L k i b)(hw:Mi L k L.length v):(b=true∧∃j:Nat,v=(j:Int)∧i=(j:Int))∨(b=false∧v=-1):=by
 rcases p with⟨rfl,j,a,rfl,g,e⟩|⟨rfl,h⟩
 ·refine .inl ⟨rfl,j,?_,rfl⟩;rcases hw with⟨_,h⟩|⟨n,l,_,c,f,rfl⟩;·exact absurd e (h j a (List.getElem?_eq_some_iff.1 g).1 g)
  ·rcases Nat.lt_trichotomy j n with d|d|d;·have:=Mq m d g c;rw[e,f,tY.refl]at this;omega
   ·rw[d]
   ·have:=Mq m d c g;rw[e,f,tY.refl]at this;omega
 ·refine .inr ⟨rfl,?_⟩;rcases hw with⟨o,_⟩|⟨n,l,_,c,f,_⟩;·exact o
  ·exact absurd f (h l (List.mem_of_getElem? c))
theorem Ml.cells{w w':World}{L:List ActV}{i:Int}{e:Ending}(h:Ml w L i e w'):∃cs a x,e= .returned (.tuple #[.agg cs.toArray, .int .i64 x])∧Fr ag w w'∧df w' cs a∧((∃k:Nat,i=(k:Int)∧L[k]? =some a∧x=0)∨(¬(0≤i∧i<L.length)∧a=oa∧x=2)):=by
 obtain⟨f,⟨k,a,cs,b,c,d,g⟩|⟨b,c⟩⟩:=h;·exact⟨cs,a,0,d,f,g, .inl ⟨k,b,c,rfl⟩⟩
 ·exact⟨ca,oa,2,c,f,qt _, .inr ⟨b,rfl,rfl⟩⟩
theorem Mp.ptr{w w':World}{E:List Ent}{L:List ActV}{n:Int}{e:Ending}(h:Mp w E L n e w'):∃p x,e= .returned (.tuple #[.pointer p, .int .i64 x])∧Fr ag w w'∧((0≤n∧n≤L.length∧x=0∧∃s,p=some ⟨s,0,none⟩∧ft w' s (fT (L.take n.toNat) E))∨(¬(0≤n∧n≤L.length)∧p=none∧x=2)):=by
 obtain⟨f,⟨a,b,s,c,d⟩|⟨a,b⟩⟩:=h;·exact⟨_,0,c,f, .inl ⟨a,b,rfl,s,rfl,d⟩⟩
 ·exact⟨none,2,b,f, .inr ⟨a,rfl,rfl⟩⟩
def Mt(k:eN)(v:Value):Prop:=∃(A B:Option Addr)(x y u z:Nat),v= .agg (k.cells++[Value.slice A x y, .slice B u z]).toArray
theorem Lf.key{k:eN}{w w':World}{e:Ending}(h:Lf k w e w'):∃v,e= .returned v∧Mt k v∧Fr ag w w':=by
 obtain⟨j,f,rfl,⟨l,m,rfl,a,b⟩,_,_,f7,rfl⟩:=h;obtain⟨c,nr,g,rfl,_,_,_⟩:=a.cl;obtain⟨d,nw,i,rfl,_,_,_⟩:=b.cl;exact⟨_,rfl,⟨_,_,_,_,_,_,rfl⟩,f7⟩
theorem Mr(k:eN)(A B:Option Addr)(x y u v:Nat)(w:World):(Instr.field 46 (.agg (k.cells++[Value.slice A x y, .slice B u v]).toArray) 0).run Tryz.prog w= .ok (.agg k.cells.toArray) w:=by kernel_rfl
theorem Mn(bL:Nat)(bG:Option Addr)(b8:Nat)(z:Int)(rs:List Value)(w:World)(cK:tK w bG bL)(cf:sh w rs)(bK:eE w)(ce:bB w):
  Calls Tryz.prog 9 #[.slice bG bL b8, .int .i64 z, .agg rs.toArray] w (yH w):=by
 have cw:Hid (∀w',Fr ag w w'→Calls Tryz.prog 13 #[] w' (yH w')):=fun w' f=>By w' (bK.ar f) (ce.ar f);have cv:Hid (∀w',Fr ag w w'→Calls Tryz.prog 14 #[.slice none 0 0, .slice bG bL b8] w' (qx w')):=fun w' f=>Bt 0 [] none 0 (fun _=>True) bL bG b8 w' ⟨Rd.none_,rfl⟩ (by decide) (by decide) (cK.ar f) (bK.ar f) (ce.ar f);obtain⟨M,bp⟩:=Lm rs w cf;have cx:=af bp;have cE:=af bK;have IR:Hid ((Tryz.prog.info? 72).map (·.size)=some rs.length):=by rw[Hid,cf.len];exact Hh
 clear cK bK ce cf bp;go_enter Tryz.func9,Tryz.ntmps9;go_wp2_with(refine aA rfl 72 (.tmp 2) rfl rs.toArray rfl ?_);intro dq n0;have bN:=af n0.fr;have co:=af n0.aH;clear n0;generalize w.heap.size=g5 at*;go_wp2_with fail;refine(cw.out _ bN.out).mono ?_;rintro e w1⟨rfl,f1⟩;have bO:=af (bN.out.trans f1);have cp:=af (co.out.fr f1 (fun x=>x));clear f1 cw bN co;go_wp2_with fail;refine(cv.out _ bO.out).mono ?_;rintro e w2⟨h,b,ms,E,L,T,rfl,cJ,cd,cI,d,_,f2⟩;obtain⟨A,nl,c,rfl,ch,c6,c5,c1,au,bt⟩:=id cd;have cz:=af (bO.out.trans f2);have cq:=af (cp.out.fr f2 (fun x=>x));have cC:=af cJ;have ad:=af cd;have bT:=af cI;have Z:=af d;have ae:Hid (nl=L.length∧nl≤16):=by have:=d.len;exact⟨ch,by omega⟩
 have a8:Hid (∀j,j<L.length→∃F X a,A=some F∧L[j]? =some a∧df w2 X a∧X.length=6∧∀i x,X[i]? =some x→w2.cell? ((F.add (j*6)).add i)=some x):=fun j c7=>xz au bt ch c7;have cH:Hid ([Value.pointer (some ⟨b,0,none⟩), .slice A nl c].toArray.all (·.oneCell')=true):=by simp[Hid,Value.oneCell']
 clear f2 cJ cd cI d ch c6 c5 au bt cv bO cp;obtain⟨N,J⟩:∃N,[Value.pointer (some ⟨b,0,none⟩), .slice A nl c]=N:=⟨_,rfl⟩;have bU:=af J;have b2:Hid ((Tryz.prog.info? 28).map (·.size)=some N.toArray.size):=by rw[Hid,←J];exact je
 have bl:Hid ((Tryz.prog.info? 28).map (·.size)=some N.length):=by rw[Hid,←J];exact je
 have b0:Hid (2=N.toArray.size):=by rw[Hid,←J];rfl
 rw[J]at cH ad⊢;clear J;go_wp2_with(refine Ak rfl rfl rfl 28 8 rfl rfl (.tmp 22) rfl _ rfl (.agg sd.toArray) Iv #[.pointer none, .slice none 0 0] rfl (.pointer (some ⟨h,0,none⟩)) N.toArray (fun _=>rfl) (fun _=>rfl) (fun _=>rfl) b2.out b0.out cH.out ?_);intro w3 g8 _ _ b3 f3;have bM:=af b3;have cZ:=af (cq.out.fr f3 (fun x=>x));have aR:=af (cz.out.trans f3);have ax:=af f3;have bQ:=af (cC.out.ar f3);have cV:=af (ad.out.ar f3);clear b3 f3 cC ad cz cq;go_wp2_with fail;refine(Ms h E L T z w3 bQ.out (by have:=ae.out;omega) (fun a aq=>⟨by have:=(Z.out.small a aq).nr;omega,by have:=(Z.out.small a aq).nw;omega⟩)).mono ?_;rintro e dr G;obtain⟨O,aL,cO,rfl,f4,K,bs⟩:=G.cells;have cA:=af f4;have a9:=af K;have ac:=af bs;have cU:Hid ((Tryz.prog.info? 46).map (·.size)=some O.toArray.size):=by rw[Hid,List.size_toArray,K.len];exact bZ
 have bi:Hid ((Tryz.prog.info? 46).map (·.size)=some O.length):=by rw[Hid,K.len];exact bZ
 have bY:Hid (6=O.toArray.size):=by rw[Hid,List.size_toArray,K.len]
 have cW:=af (ActV.one K);clear G f4 K bs;go_wp2_with(refine vw rfl rfl 46 9 rfl rfl _ rfl fH oc #[.int .i64 0, .int .i64 0, .int .i64 0, .string ByteArray.empty, .slice none 0 0, .slice none 0 0] rfl O.toArray (fun _=>rfl) (fun _=>rfl) cU.out bY.out cW.out ?_);intro dj g9 _ _ b5 f5;have cr:=af b5;have bI:=af (cA.out.trans f5);have aX:=af (a9.out.ar f5);clear b5 f5 a9 cA;go_wp2_with fail;refine(Mw h E L T z dj (bQ.out.ar bI.out) (cE.out.ar (aR.out.trans bI.out)) (bT.out.more (by decide)) Z.out).mono ?_;rintro e ds C;obtain⟨bD,xs,rfl,f6,bx⟩:=C.ptr;have a6:=af (bI.out.trans f6);have cs:=af (cr.out.fr f6 (fun x=>x));have aY:=af (aX.out.ar f6);have be:=af bx;clear C f6 bx bI cr aX;have aj:Hid (∀W,Fr ag w3 W→∀j x,rs[j]? =some x→W.cell? ((⟨g5,0,none⟩:Addr).add j)=some x):=fun W f j x av=>by rw[Addr.add_mid,Nat.zero_add,(cZ.out.fr f (fun x=>x)).cell j,bR];exact av
 have aI:Hid (∀w',Fr ag w3 w'→Calls Tryz.prog 30 #[.agg rs.toArray] w' (Lf M w')):=fun w' f=>cx.out w' ((aR.out).trans f);go_wp2_with(refine aF rfl 72 (.tmp 5) rfl ⟨g5,0,none⟩ rfl rs _ ?zM Tryz.underlying72 rfl IR.out (bj.go ?zN));case zM=>first|exact aj.out _ a6.out|exact fun j x av=>by have q:=aj.out _ a6.out j x av;rw[Addr.add_mid,Nat.zero_add]at q;exact q
 unfold bj;go_wp2_with fail;refine(aI.out _ a6.out).mono ?_;rintro e dt⟨dm,aU,rfl,cg,aQ,_,f7,rfl⟩;have bP:=af (a6.out.trans f7);have a7:=af f7;have bH:=af (cs.out.fr f7 (fun x=>x));have aZ:=af (aY.out.ar f7);have bV:=af aQ;have a3:Hid (∀w',Fr ag w3 w'→Calls Tryz.prog 39 #[.pointer (some ⟨h,0,none⟩), .agg aU.key.cells.toArray] w' (fun e cj=>∃i b,e= .returned (.tuple #[.int .i64 i, .bool b])∧Fr ag w' cj∧Mh L aU.key i b∧(b=false→i=0))):=fun w' f=>My h E L T aU.key w' (bQ.out.ar f) Z.out (fun a aq=>by have:=(Z.out.small a aq).fA;omega) (by have:=aQ.fA;omega);clear f7 aQ a6 cs aY;obtain⟨dp,ab,rfl,bz,bC⟩:=cg;obtain⟨cQ,nr,c0,rfl,_,_,_⟩:=bz.cl;obtain⟨cR,nw,c2,rfl,_,_,_⟩:=bC.cl;clear bz bC;generalize aU.key=M at*;have cY:=Mr M cQ cR aU.reads.length c0 aU.writes.length c2;go_wp2_with fail;refine(a3.out _ bP.out).mono ?_;rintro e aa⟨aV,bv,rfl,f8,bu,bw⟩;have r:=af (bP.out.trans f8);have cu:=af (bH.out.fr f8 (fun x=>x));have a0:=af (aZ.out.ar f8);have cB:=af bu;have bc:=af bw;have y:Hid ((0≤z∧z≤L.length∧xs=0∧∃s,bD=some ⟨s,0,none⟩∧ft aa s (fT (L.take z.toNat) E))∨(¬(0≤z∧z≤L.length)∧bD=none∧xs=2)):=by
  rcases be.out with⟨l,B,ap,s,bo,aO⟩|h;·exact .inl ⟨l,B,ap,s,bo,aO.ar (a7.out.trans f8)⟩
  ·exact .inr h
 have aS:Hid (∀W,Fr ag w3 W→W.cell? ⟨g8,1,none⟩=some (.slice A nl c)):=fun W f=>by
  have q:=(bM.out.fr f (fun x=>x)).cell 1;rw[←bU.out]at q;exact q
 have bm:Hid (∀W,Fr ag aa W→∀j x,rs[j]? =some x→W.cell? ((⟨g5,0,none⟩:Addr).add j)=some x):=fun W f=>aj.out W (r.out.trans f);have bk:Hid (∀W,Fr ag aa W→Calls Tryz.prog 30 #[.agg rs.toArray] W (fun e W'=>∃v,e= .returned v∧Mt M v∧Fr ag W W')):=fun W f=>(aI.out W (r.out.trans f)).mono fun e W' h=>h.key;clear f8 bu bw be a7 bP bH aZ a3 aI cx bV cY aj;go_wp2;go_loopw[15,16](fun v i wr=>∃(k:Nat)(ab:Int),k≤nl∧i= .int .i64 (k:Int)∧v= .int .i64 ab∧Mi L M k ab∧Fr ag aa wr)(fun _ i _=>nl-(intOf i).toNat);case atStart=>exact⟨0,-1,Nat.zero_le _,rfl,rfl,Mi.zero _ _,aD⟩
 case round=>
  obtain⟨k,ab,cN,rfl,rfl,bA,g⟩:=hrel;have am:=af g;have bW:=af bA;have cD:=af cN;clear g bA cN;have m1:wr.cell? ⟨g8,1,none⟩=some (.slice A nl c):=aS.out _ (r.out.trans am.out);by_cases c8:k<nl
  ·have t0:decide ((k:Int)<(nl:Int))=true:=dh (by omega);have i0:(k:Int)<(nl:Int):=by omega
   have i1:(0:Int)≤(k:Int):=by omega
   obtain⟨F,X,a,rfl,D,ak,al,n⟩:=a8.out k (by have:=ae.out;omega);obtain⟨ra,dv,rfl,_,_⟩:=ak;have bd:=af D;have dw:IntKind.i64.wrap ((k:Int)+1)=(k:Int)+1:=IntWalk.i64_in _ (by have:=ae.out;omega);have b1:Hid ((Tryz.prog.info? 43).map (·.size)=some a.key.cells.length):=fP;have b4:Hid (∀W,Fr ag wr W→∀i x,a.key.cells[i]? =some x→W.cell? ((F.add (k*6)).add i)=some x):=fun W f i x av=>by
    refine(ax.out.trans (r.out.trans (am.out.trans f))).an (n i x ?_) (fun x=>x);rw[List.getElem?_append_left (List.getElem?_eq_some_iff.1 av).1];exact av
   have cX:=af (EI a.key M);have cy:=af (ui a.key M);generalize xN a.key M=Q at*;generalize cc:a.key.cells=cG at*;clear D al n cc;go_upto_region 11 with fail;refine yw 10 [iS (.pointer (some ⟨g8,1,none⟩)),iS (.slice (some F) nl c),iS (.int .i64 (k:Int)),iS (.pointer (some (F.add (k*6)))),iS (.pointer (some (F.add (k*6)))),iS (.agg cG.toArray),iS (.agg rs.toArray),⟨fun bF _=>Mt M bF,fun _ _ _ _ h=>h⟩,iS (.agg M.cells.toArray),iS (.bool Q)] ?zO ?_;case zO=>
    refine⟨?ZW,?zX,?ZX,?zY,?zZ,?yB,?yC,?yD,?yE,?yF,trivial⟩;all_goals intro u w' g d
    all_goals simp only[z1,z2,z3,z4,ay,Act.put,z5,z6,z7,Nat.reduceAdd,Nat.zero_add]
    case zX=>
     simp only[show u 0=_ from d 0];refine aG ?_;have q:_=some _:=aS.out _ (r.out.trans (am.out.trans g));go_simp;exact⟨_,rfl,aD,rfl⟩
    case zY=>
     simp only[show u 1=_ from d 1,show u 2=_ from d 2];refine aG ?_;have da:=i1;have db:=i0;go_simp;exact⟨_,rfl,aD,rfl⟩
    case' zZ=>simp only[show u 3=_ from d 3]
    case yB=>
     simp only[show u 4=_ from d 4];refine aG ?_;exact az _ _ rfl (F.add (k*6)) rfl cG _ (b4.out _ g) Tryz.underlying43 rfl b1.out ⟨_,rfl,aD,rfl⟩
    case yC=>
     refine aG ?_;exact az _ _ rfl ⟨g5,0,none⟩ rfl rs _ (bm.out _ (am.out.trans g)) Tryz.underlying72 rfl IR.out ⟨_,rfl,aD,rfl⟩
    case yD=>
     simp only[show u 6=_ from d 6];refine aG ?_;go_simp;refine(bk.out _ (am.out.trans g)).mono ?_;rintro e aW⟨v,rfl,c9,I⟩;exact⟨_,rfl,I,c9⟩
    case yE=>
     obtain⟨cP,bH,dk,dl,dg,z7,c4⟩:=d 7;simp only[c4];refine aG ?_;have q:=Mr M cP bH dk dl dg z7;go_simp;exact⟨_,rfl,aD,rfl⟩
    case yF=>
     simp only[show u 5=_ from d 5,show u 8=_ from d 8];refine aG ?_;have q:=cX.out;go_simp;exact⟨_,rfl,aD,rfl⟩
    all_goals
     refine aG ?_;go_simp;exact⟨_,rfl,aD,rfl⟩
   intro u w' g d;simp only[z1,z2,z3,z4,ay,Act.put,z5,z6,z7,z8,z9,Nat.reduceAdd,Nat.zero_add,show u 9=_ from d 9 (by omega)];clear d;have cS:=af (am.out.trans g);clear g m1;have bX:Hid (Mi L M (k+1) (bif Q then(k:Int)else ab)):=by
    cases Q;·exact bW.out.MQ bd.out (fun e=>by have:=cy.out.2 e;cases this)
    ·exact .hit bd.out (cy.out.1 rfl)
   cases Q;all_goals
    go_wp2;go_roundw;case rel=>exact⟨k+1,_,by omega,by go_num,rfl,bX.out,cS.out⟩
    case measure=>simp[intOf];omega
  ·obtain rfl:k=nl:=by have:=cD.out;omega
   have t0:decide ((k:Int)<(k:Int))=false:=ct (by omega);have dd:¬(k:Int)<(k:Int):=by omega
   have de:¬k<k:=by omega
   have bS:Hid (bv=false→aV=0):=bc.out;have aC:=af (MK Z.out.ord cB.out (by rw[←ae.out.1];exact bW.out));have ba:Hid (bv=true→aV=ab):=fun h=>by
    rcases aC.out with⟨_,j,l,B⟩|⟨l,_⟩;·rw[l,B]
    ·rw[l]at h;cases h
   have bb:Hid (decide ((0:Int)≤ab)=bv):=by
    rcases aC.out with⟨l,j,B,_⟩|⟨l,B⟩;·rw[Hid,l,B];exact dh (by omega)
    ·rw[Hid,l,B];rfl
   go_upto_region 13 with fail;refine iQ 20 [.bool bv, .int .i64 ab, .bool bv, .bool false, .bool false, .bool bv, .bool bv,bif bv then .int .i64 aV else undef,bif bv then .int .i64 ab else undef,bif bv then .bool false else undef, .bool false, .bool false, .bool false, .bool bv, .bool (!bv), .bool (!bv),bif bv then undef else .int .i64 aV,bif bv then undef else .bool false, .bool false, .bool false] ?zP ?_;case zP=>
    refine⟨?ZY,?ZZ,?yG,?yI,?yJ,?yK,?yL,?yM,?yN,?yO,?zA,?zB,?zC,?zD,?zE,?zF,?zG,?zH,?zI,?zJ,trivial⟩;all_goals intro u w' g d
    all_goals simp only[z1,z2,z3,z4,ay,Act.put,z5,z6,z7,Nat.reduceAdd,Nat.zero_add]
    case yG=>
     simp only[show u 1=_ from d 1];refine aG ?_;have q:=bb.out;go_simp;exact aM
    case yI=>
     simp only[show u 0=_ from d 0,show u 2=_ from d 2];refine aG ?_;cases bv<;>(go_simp;exact aM)
    case' yJ=>simp only[show u 3=_ from d 3]
    case' yK=>simp only[show u 4=_ from d 4]
    case' yL=>simp only[show u 5=_ from d 5,show u 4=_ from d 4]
    case' yM=>
     simp only[show u 6=_ from d 6];cases bv;case false=>exact bE
    case' yN=>
     simp only[show u 6=_ from d 6];cases bv;case false=>exact bE
    case yO=>
     simp only[show u 7=_ from d 7,show u 8=_ from d 8,show u 6=_ from d 6];cases bv;case false=>exact bE
     refine aG ?_;have q:(aV !=ab)=false:=(by rw[ba.out rfl];simp);go_simp;exact aM
    case' zA=>
     simp only[show u 6=_ from d 6,show u 9=_ from d 9,show u 4=_ from d 4];cases bv
    case' zB=>simp only[show u 4=_ from d 4,show u 10=_ from d 10]
    case' zC=>simp only[show u 11=_ from d 11]
    case' zD=>simp only[show u 12=_ from d 12]
    case' zE=>simp only[show u 13=_ from d 13,show u 12=_ from d 12]
    case' zF=>simp only[show u 14=_ from d 14,show u 12=_ from d 12]
    case' zG=>
     simp only[show u 15=_ from d 15];cases bv;case true=>exact bE
    case zH=>
     simp only[show u 16=_ from d 16,show u 15=_ from d 15];cases bv;case true=>exact bE
     refine aG ?_;have q:(aV !=0)=false:=(by rw[bS.out rfl];rfl);go_simp;exact aM
    case' zI=>
     simp only[show u 15=_ from d 15,show u 17=_ from d 17,show u 12=_ from d 12];cases bv
    case' zJ=>simp only[show u 12=_ from d 12,show u 18=_ from d 18]
    all_goals
     try simp only[cond]
     refine aG ?_;go_simp;exact aM
   intro w' g;simp only[z1,z2,z3,z4,ay,Act.put,z5,z6,z7,z8,z9,jx,jy,Nat.reduceAdd,Nat.zero_add];have a5:=af (am.out.trans g);clear g ba bb aC bc cB bW m1 bm bk;obtain⟨P,cL⟩:∃P,decide (z<0)=P:=⟨_,rfl⟩;obtain⟨Q,cM⟩:∃Q,decide ((k:Int)≤z)=Q:=⟨_,rfl⟩;obtain⟨R,d⟩:∃R,decide ((k:Int)<z)=R:=⟨_,rfl⟩;have aB:=af cL;have bJ:=af cM;have H:=af d;clear cL cM d;obtain⟨b7,bq⟩:∃z:Bool,(bif P then true else Q)=z:=⟨_,rfl⟩;have ai:=af bq;clear bq;obtain⟨aT,br⟩:∃z:Bool,(bif P then true else R)=z:=⟨_,rfl⟩;have V:=af br;clear br;have ah:Hid (b7=true↔¬(0≤z∧z<(k:Int))):=by
    rw[Hid,←ai.out,←aB.out,←bJ.out];by_cases l:z<0;·simp[l];omega
    ·simp[l];omega
   have U:Hid (aT=true↔¬(0≤z∧z≤(k:Int))):=by
    rw[Hid,←V.out,←aB.out,←H.out];by_cases l:z<0;·simp[l];omega
    ·simp[l];omega
   have a4:Hid (∀(m:Nat)W,m≤L.length→Fr ag aa W→Calls Tryz.prog 41 #[.agg N.toArray, .int .i64 (m:Int)] W (Gu W (fT (L.take m) E))):=fun m W hm f=>Cz N b E L m W (cV.out.ar (r.out.trans f)) (cE.out.ar (aR.out.trans (r.out.trans f))) (bT.out.more (by decide)) Z.out hm;have GT:Hid (∀m:Nat,rq (fT (L.take m) E)):=fun m=>(lI (L.take m) E 24 (bT.out.more (by decide)) (fun a aq=>Z.out.ok a (List.mem_of_mem_take aq)) (fun a aq=>Z.out.small a (List.mem_of_mem_take aq))).oh (by rw[List.length_take];have:=ae.out;omega);have a2:Hid (∀(m p q:Nat)W,ft W p (fT (L.take m) E)→ft W q (fT (L.take m) E)→Calls Tryz.prog 40 #[.pointer (some ⟨p,0,none⟩), .pointer (some ⟨q,0,none⟩)] W (aJ W (.bool true))):=fun m p q W l B=>KY _ _ p q W l B (GT.out m) (GT.out m) true (by simp);clear am cD;generalize w'=du at*;go_upto_region 15 with fail;refine iQ 9 [.int .i64 z, .bool P, .bool P,bif P then undef else .int .i64 z,bif P then undef else .pointer (some ⟨g8,1,none⟩),bif P then undef else .slice A k c,bif P then undef else .int .i64 (k:Nat),bif P then undef else .bool Q, .bool b7] ?zQ ?_;case zQ=>
    refine⟨?YA,?yP,?yQ,?yR,?yS,?yT,?yU,?yV,?yW,trivial⟩;all_goals intro u w' g d
    all_goals simp only[z1,z2,z3,z4,ay,Act.put,z5,z6,z7,Nat.reduceAdd,Nat.zero_add]
    case yP=>
     simp only[show u 0=_ from d 0];refine aG ?_;have q:=aB.out;go_simp;exact aM
    case' yQ=>simp only[show u 1=_ from d 1]
    case' yR=>
     simp only[show u 2=_ from d 2];cases P;case true=>exact bE
    case' yS=>
     simp only[show u 2=_ from d 2];cases P;case true=>exact bE
    case yT=>
     simp only[show u 4=_ from d 4,show u 2=_ from d 2];cases P;case true=>exact bE
     refine aG ?_;have q:_=some _:=aS.out _ (r.out.trans (a5.out.trans g));go_simp;exact aM
    case' yU=>
     simp only[show u 5=_ from d 5,show u 2=_ from d 2];cases P;case true=>exact bE
    case yV=>
     simp only[show u 3=_ from d 3,show u 6=_ from d 6,show u 2=_ from d 2];cases P;case true=>exact bE
     refine aG ?_;have q:=bJ.out;go_simp;exact aM
    case yW=>
     simp only[show u 2=_ from d 2,show u 7=_ from d 7];cases P<;>exact aG (by go_simp;exact⟨by rw[←ai.out];rfl,aD⟩)
    all_goals
     try simp only[cond]
     refine aG ?_;go_simp;exact aM
   intro w' g;simp only[z1,z2,z3,z4,ay,Act.put,z5,z6,z7,z8,z9,jx,jy,Nat.reduceAdd,Nat.zero_add];have t:=af (a5.out.trans g);clear g;generalize w'=di at*;cases b7;case true=>
    have aE:=af (ah.out.1 rfl);have bg:Hid (aL=oa∧cO=2):=by
     rcases ac.out with⟨j,l,B,_⟩|⟨_,l,B⟩;·exact absurd ⟨by omega,by have:=(List.getElem?_eq_some_iff.1 B).1;have:=ae.out;omega⟩ aE.out
     ·exact⟨l,B⟩
    obtain⟨aN,bn⟩:=bg.out;subst aN bn;have CZQ:Hid (∀W,Fr ag aa W→Calls Tryz.prog 19 #[.agg O.toArray, .agg ca.toArray] W (aJ W (.bool true))):=fun W f=>by
     have q:=yA oa oa O ca W (a0.out.ar f) (qt W) (by decide) (by decide);rw[(GX oa oa).2 rfl]at q;exact q
    clear bg;go_upto_region 16 with fail;refine iQ 8 [.int .i64 2, .bool false, .bool false, .agg O.toArray, .agg ca.toArray, .bool true, .bool false, .bool false] ?zT ?_;case zT=>
     refine⟨?YD,?xO,?xP,?xQ,?xR,?xS,?xT,?xU,trivial⟩;all_goals intro u w' g d
     all_goals simp only[z1,z2,z3,z4,ay,Act.put,z5,z6,z7,Nat.reduceAdd,Nat.zero_add]
     case xO=>
      simp only[show u 0=_ from d 0];refine aG ?_;go_simp;exact aM
     case' xP=>simp only[show u 1=_ from d 1]
     case xQ=>
      simp only[show u 2=_ from d 2];refine aG ?_;exact az _ _ rfl ⟨g9,0,none⟩ rfl O _ (fE (cu.out.fr (t.out.trans g) (fun x=>x))) Tryz.underlying46 rfl bi.out aM
     case xR=>
      simp only[show u 2=_ from d 2];refine aG ?_;exact iF 46 _ rfl ca.toArray _ (by simp only[List.map_toArray,List.map_nil]) fO aM
     case xS=>
      simp only[show u 3=_ from d 3,show u 4=_ from d 4,show u 2=_ from d 2];refine aG ?_;go_simp;refine(CZQ.out _ (t.out.trans g)).mono ?_;rintro e aW⟨rfl,I⟩;exact⟨rfl,I⟩
     case' xT=>simp only[show u 5=_ from d 5,show u 2=_ from d 2]
     case' xU=>simp only[show u 2=_ from d 2,show u 6=_ from d 6]
     all_goals
      refine aG ?_;go_simp;exact aM
    intro w' g;simp only[z1,z2,z3,z4,ay,Act.put,z5,z6,z7,z8,z9,jx,jy,Nat.reduceAdd,Nat.zero_add];have S:=af (t.out.trans g);clear g CZQ;generalize w'=ck at*;go_upto_region 20 with fail;refine iQ 9 [.int .i64 z, .bool P, .bool P,bif P then undef else .int .i64 z,bif P then undef else .pointer (some ⟨g8,1,none⟩),bif P then undef else .slice A k c,bif P then undef else .int .i64 (k:Nat),bif P then undef else .bool R, .bool aT] ?zR ?_;case zR=>
     refine⟨?YB,?yX,?yY,?yZ,?xA,?xB,?xC,?xD,?xE,trivial⟩;all_goals intro u w' g d
     all_goals simp only[z1,z2,z3,z4,ay,Act.put,z5,z6,z7,Nat.reduceAdd,Nat.zero_add]
     case yX=>
      simp only[show u 0=_ from d 0];refine aG ?_;have q:=aB.out;go_simp;exact aM
     case' yY=>simp only[show u 1=_ from d 1]
     case' yZ=>
      simp only[show u 2=_ from d 2];cases P;case true=>exact bE
     case' xA=>
      simp only[show u 2=_ from d 2];cases P;case true=>exact bE
     case xB=>
      simp only[show u 4=_ from d 4,show u 2=_ from d 2];cases P;case true=>exact bE
      refine aG ?_;have q:_=some _:=aS.out _ (r.out.trans (S.out.trans g));go_simp;exact aM
     case' xC=>
      simp only[show u 5=_ from d 5,show u 2=_ from d 2];cases P;case true=>exact bE
     case xD=>
      simp only[show u 3=_ from d 3,show u 6=_ from d 6,show u 2=_ from d 2];cases P;case true=>exact bE
      refine aG ?_;have q:=H.out;go_simp;exact aM
     case xE=>
      simp only[show u 2=_ from d 2,show u 7=_ from d 7];cases P<;>exact aG (by go_simp;exact⟨by rw[←V.out];rfl,aD⟩)
     all_goals
      try simp only[cond]
      refine aG ?_;go_simp;exact aM
    intro w' g;simp only[z1,z2,z3,z4,ay,Act.put,z5,z6,z7,z8,z9,jx,jy,Nat.reduceAdd,Nat.zero_add];have o:=af (S.out.trans g);clear g;generalize w'=cm at*;cases aT;case true=>
     have cT:Hid (bD=none∧xs=2):=by
      rcases y.out with⟨l,B,_⟩|⟨_,h⟩;·exact absurd ⟨l,by have:=ae.out;omega⟩ (U.out.1 rfl)
      ·exact h
     obtain⟨aN,bn⟩:=cT.out;subst aN bn;go_wp2;go_ret;exact⟨rfl,aR.out.trans (r.out.trans o.out)⟩
    case false=>
     have bh:Hid (z=(L.length:Int)):=by
      have l:=aE.out;have B:0≤z∧z≤(k:Int):=Classical.byContradiction fun h=>by have:=U.out.2 h;cases this
      have ap:=ae.out;simp only[Hid];omega
     obtain⟨m,rfl,hm⟩:∃m:Nat,z=(m:Int)∧m≤L.length:=⟨L.length,bh.out,Nat.le_refl _⟩;have ad:=af hm;clear hm bh aE ah U ac aB bJ H ai V;obtain⟨sp,rfl,rfl,Y⟩:∃sp,bD=some ⟨sp,0,none⟩∧xs=0∧ft aa sp (fT (L.take m) E):=by
      rcases y.out with⟨_,_,ap,s,bo,aO⟩|⟨h,_⟩;·exact⟨s,bo,ap,by rw[Int.toNat_natCast]at aO;exact aO⟩
      ·exact absurd ⟨by omega,by have:=ad.out;omega⟩ h
     have b6:=af Y;clear Y y;go_upto_region 22 with fail;refine Dh 10 [iS (.int .i64 0),iS (.bool true),iS (.bool true),iS (.pointer (some ⟨sp,0,none⟩)),iS (.agg N.toArray),iS (.int .i64 (m:Int)),⟨fun bF cn=>∃q:Nat,bF= .pointer (some ⟨q,0,none⟩)∧ft cn q (fT (L.take m) E),fun _ _ _ f⟨q,e,h⟩=>⟨q,e,h.ar f⟩⟩,iS (.bool true),iS (.bool true),iS (.bool true)] ?zV ?_;case zV=>
      refine⟨?YF,?ZE,?ZF,?ZG,?ZH,?ZI,?ZJ,?ZK,?ZL,?ZM,trivial⟩;all_goals intro u w' g d
      all_goals simp only[z1,z2,z3,z4,ay,Act.put,z5,z6,z7,Nat.reduceAdd,Nat.zero_add]
      case ZE=>
       simp only[show u 0=_ from d 0];refine aG ?_;go_simp;exact⟨_,rfl,aD,rfl⟩
      case' ZF=>simp only[show u 1=_ from d 1]
      case' ZG=>simp only[show u 2=_ from d 2]
      case ZH=>
       simp only[show u 2=_ from d 2];refine aG ?_;exact az _ _ rfl ⟨g8,0,none⟩ rfl N _ (fE (bM.out.fr (r.out.trans (o.out.trans g)) (fun x=>x))) Tryz.underlying28 rfl bl.out ⟨_,rfl,aD,rfl⟩
      case' ZI=>simp only[show u 2=_ from d 2]
      case ZJ=>
       simp only[show u 4=_ from d 4,show u 5=_ from d 5,show u 2=_ from d 2];refine aG ?_;go_simp;refine(a4.out m _ ad.out (o.out.trans g)).mono ?_;rintro e aW⟨q,rfl,ci,I⟩;exact⟨_,rfl,I,⟨q,rfl,ci⟩⟩
      case ZK=>
       obtain⟨dc,b9,cb⟩:=d 6;simp only[show u 3=_ from d 3,b9,show u 2=_ from d 2];refine aG ?_;go_simp;refine(a2.out m _ _ _ (b6.out.ar (o.out.trans g)) cb).mono ?_;rintro e aW⟨rfl,I⟩;exact⟨_,rfl,I,rfl⟩
      case' ZL=>simp only[show u 2=_ from d 2,show u 7=_ from d 7]
      case' ZM=>simp only[show u 8=_ from d 8]
      all_goals
       refine aG ?_;go_simp;exact⟨_,rfl,aD,rfl⟩
     intro u w' g d;simp only[z1,z2,z3,z4,ay,Act.put,z5,z6,z7,z8,z9,Nat.reduceAdd,Nat.zero_add,show u 9=_ from d 9 (by omega)];clear d;have aw:=af (o.out.trans g);clear g;go_wp2;go_ret;exact⟨rfl,aR.out.trans (r.out.trans aw.out)⟩
   case false=>
    have aE:Hid (0≤z∧z<(k:Int)):=Classical.byContradiction fun h=>by have:=ah.out.2 h;cases this
    obtain⟨m,rfl,hm⟩:∃m:Nat,z=(m:Int)∧m<k:=⟨z.toNat,by have:=aE.out;omega,by have:=aE.out;omega⟩;have aP:m<L.length:=by have:=ae.out;omega
    have ad:Hid (m≤L.length):=Nat.le_of_lt aP;have bg:Hid (L[m]? =some aL∧cO=0):=by
     rcases ac.out with⟨j,l,B,ap⟩|⟨h,_⟩
     ·obtain rfl:m=j:=by omega
      exact⟨B,ap⟩
     ·exact absurd ⟨by omega,by omega⟩ h
    obtain⟨aN,bn⟩:=bg.out;subst bn;obtain⟨F,X,a,rfl,D,ak,al,n⟩:=a8.out m aP;rw[aN]at D;injection D with D;subst D;have aK:Hid (gW aL):=Z.out.small _ (List.mem_of_getElem? aN);have i0:(m:Int)<(k:Int):=by omega
    have i1:(0:Int)≤(m:Int):=by omega
    have cF:Hid ((Tryz.prog.info? 46).map (·.size)=some X.length):=by rw[Hid,al];exact bZ
    have a1:Hid (∀W,Fr ag aa W→∀i x,X[i]? =some x→W.cell? ((F.add (m*6)).add i)=some x):=fun W f i x av=>(ax.out.trans (r.out.trans f)).an (n i x av) (fun x=>x);have CZQ:Hid (∀W,Fr ag aa W→Calls Tryz.prog 19 #[.agg O.toArray, .agg X.toArray] W (aJ W (.bool true))):=fun W f=>by
     have q:=yA aL aL O X W (a0.out.ar f) (ak.ar (ax.out.trans (r.out.trans f))) (by have:=aK.out.nr;omega) (by have:=aK.out.nw;omega);rw[(GX aL aL).2 rfl]at q;exact q
    have ao:Hid (aT=false):=by
     cases hw:aT;·rfl
     ·exact absurd ⟨by omega,by omega⟩ (U.out.1 hw)
    clear bg aN ak al n aK aP hm;go_upto_region 18 with fail;refine jS 12 [.int .i64 0, .bool false, .bool false, .agg O.toArray, .pointer (some ⟨g8,1,none⟩), .slice (some F) k c, .int .i64 (m:Int), .pointer (some (F.add (m*6))), .agg X.toArray, .bool true, .bool false, .bool false] ?zU ?_;case zU=>
     refine⟨?YE,?xV,?xW,?xX,?xY,?xZ,?ZA,?ZB,?ZC,?ZD,?zK,?zL,trivial⟩;all_goals intro u w' g d
     all_goals simp only[z1,z2,z3,z4,ay,Act.put,z5,z6,z7,Nat.reduceAdd,Nat.zero_add]
     case xV=>
      simp only[show u 0=_ from d 0];refine aG ?_;go_simp;exact aM
     case' xW=>simp only[show u 1=_ from d 1]
     case xX=>
      simp only[show u 2=_ from d 2];refine aG ?_;exact az _ _ rfl ⟨g9,0,none⟩ rfl O _ (fE (cu.out.fr (t.out.trans g) (fun x=>x))) Tryz.underlying46 rfl bi.out aM
     case' xY=>simp only[show u 2=_ from d 2]
     case xZ=>
      simp only[show u 4=_ from d 4,show u 2=_ from d 2];refine aG ?_;have q:_=some _:=aS.out _ (r.out.trans (t.out.trans g));go_simp;exact aM
     case' ZA=>simp only[show u 2=_ from d 2]
     case ZB=>
      simp only[show u 5=_ from d 5,show u 6=_ from d 6,show u 2=_ from d 2];refine aG ?_;have da:=i1;have db:=i0;go_simp;exact aM
     case ZC=>
      simp only[show u 7=_ from d 7,show u 2=_ from d 2];refine aG ?_;exact az _ _ rfl (F.add (m*6)) rfl X _ (a1.out _ (t.out.trans g)) Tryz.underlying46 rfl cF.out aM
     case ZD=>
      simp only[show u 3=_ from d 3,show u 8=_ from d 8,show u 2=_ from d 2];refine aG ?_;go_simp;refine(CZQ.out _ (t.out.trans g)).mono ?_;rintro e aW⟨rfl,I⟩;exact⟨rfl,I⟩
     case' zK=>simp only[show u 9=_ from d 9,show u 2=_ from d 2]
     case' zL=>simp only[show u 2=_ from d 2,show u 10=_ from d 10]
     all_goals
      refine aG ?_;go_simp;exact aM
    intro w' g;simp only[z1,z2,z3,z4,ay,Act.put,z5,z6,z7,z8,z9,jx,jy,Nat.reduceAdd,Nat.zero_add];have S:=af (t.out.trans g);clear g CZQ a1 cF i0 i1;have bf:Hid (decide (k<m)=R):=by
     rw[Hid,←H.out];exact(decide_eq_decide.2 Int.ofNat_lt).symm
    generalize w'=ck at*;go_upto_region 20 with fail;refine iQ 9 [.int .i64 (m:Int), .bool P, .bool P,bif P then undef else .int .i64 (m:Int),bif P then undef else .pointer (some ⟨g8,1,none⟩),bif P then undef else .slice (some F) k c,bif P then undef else .int .i64 (k:Nat),bif P then undef else .bool R, .bool aT] ?zS ?_;case zS=>
     refine⟨?YC,?xF,?xG,?xH,?xI,?xJ,?xK,?xL,?xM,trivial⟩;all_goals intro u w' g d
     all_goals simp only[z1,z2,z3,z4,ay,Act.put,z5,z6,z7,Nat.reduceAdd,Nat.zero_add]
     case xF=>
      simp only[show u 0=_ from d 0];refine aG ?_;have q:=aB.out;go_simp;exact aM
     case' xG=>simp only[show u 1=_ from d 1]
     case' xH=>
      simp only[show u 2=_ from d 2];cases P;case true=>exact bE
     case' xI=>
      simp only[show u 2=_ from d 2];cases P;case true=>exact bE
     case xJ=>
      simp only[show u 4=_ from d 4,show u 2=_ from d 2];cases P;case true=>exact bE
      refine aG ?_;have q:_=some _:=aS.out _ (r.out.trans (S.out.trans g));go_simp;exact aM
     case' xK=>
      simp only[show u 5=_ from d 5,show u 2=_ from d 2];cases P;case true=>exact bE
     case xL=>
      simp only[show u 3=_ from d 3,show u 6=_ from d 6,show u 2=_ from d 2];cases P;case true=>exact bE
      refine aG ?_;have q:=H.out;have dn:=bf.out;go_simp;exact aM
     case xM=>
      simp only[show u 2=_ from d 2,show u 7=_ from d 7];cases P<;>exact aG (by go_simp;exact⟨by rw[←V.out];rfl,aD⟩)
     all_goals
      try simp only[cond]
      refine aG ?_;go_simp;exact aM
    intro w' g;simp only[z1,z2,z3,z4,ay,Act.put,z5,z6,z7,z8,z9,jx,jy,Nat.reduceAdd,Nat.zero_add];have o:=af (S.out.trans g);clear g;generalize w'=cm at*;have c3:=ao.out;subst c3;clear aE ah U ac aB bJ H ai V ao;obtain⟨sp,rfl,rfl,Y⟩:∃sp,bD=some ⟨sp,0,none⟩∧xs=0∧ft aa sp (fT (L.take m) E):=by
     rcases y.out with⟨_,_,ap,s,bo,aO⟩|⟨h,_⟩;·exact⟨s,bo,ap,by rw[Int.toNat_natCast]at aO;exact aO⟩
     ·exact absurd ⟨by omega,by have:=ad.out;omega⟩ h
    have b6:=af Y;clear Y y;go_upto_region 22 with fail;refine Dh 10 [iS (.int .i64 0),iS (.bool true),iS (.bool true),iS (.pointer (some ⟨sp,0,none⟩)),iS (.agg N.toArray),iS (.int .i64 (m:Int)),⟨fun bF cn=>∃q:Nat,bF= .pointer (some ⟨q,0,none⟩)∧ft cn q (fT (L.take m) E),fun _ _ _ f⟨q,e,h⟩=>⟨q,e,h.ar f⟩⟩,iS (.bool true),iS (.bool true),iS (.bool true)] ?zW ?_;case zW=>
     refine⟨?YG,?ZN,?ZO,?ZP,?ZQ,?ZR,?ZS,?ZT,?ZU,?ZV,trivial⟩;all_goals intro u w' g d
     all_goals simp only[z1,z2,z3,z4,ay,Act.put,z5,z6,z7,Nat.reduceAdd,Nat.zero_add]
     case ZN=>
      simp only[show u 0=_ from d 0];refine aG ?_;go_simp;exact⟨_,rfl,aD,rfl⟩
     case' ZO=>simp only[show u 1=_ from d 1]
     case' ZP=>simp only[show u 2=_ from d 2]
     case ZQ=>
      simp only[show u 2=_ from d 2];refine aG ?_;exact az _ _ rfl ⟨g8,0,none⟩ rfl N _ (fE (bM.out.fr (r.out.trans (o.out.trans g)) (fun x=>x))) Tryz.underlying28 rfl bl.out ⟨_,rfl,aD,rfl⟩
     case' ZR=>simp only[show u 2=_ from d 2]
     case ZS=>
      simp only[show u 4=_ from d 4,show u 5=_ from d 5,show u 2=_ from d 2];refine aG ?_;go_simp;refine(a4.out m _ ad.out (o.out.trans g)).mono ?_;rintro e aW⟨q,rfl,ci,I⟩;exact⟨_,rfl,I,⟨q,rfl,ci⟩⟩
     case ZT=>
      obtain⟨dc,b9,cb⟩:=d 6;simp only[show u 3=_ from d 3,b9,show u 2=_ from d 2];refine aG ?_;go_simp;refine(a2.out m _ _ _ (b6.out.ar (o.out.trans g)) cb).mono ?_;rintro e aW⟨rfl,I⟩;exact⟨_,rfl,I,rfl⟩
     case' ZU=>simp only[show u 2=_ from d 2,show u 7=_ from d 7]
     case' ZV=>simp only[show u 8=_ from d 8]
     all_goals
      refine aG ?_;go_simp;exact⟨_,rfl,aD,rfl⟩
    intro u w' g d;simp only[z1,z2,z3,z4,ay,Act.put,z5,z6,z7,z8,z9,Nat.reduceAdd,Nat.zero_add,show u 9=_ from d 9 (by omega)];clear d;have aw:=af (o.out.trans g);clear g;go_wp2;go_ret;exact⟨rfl,aR.out.trans (r.out.trans aw.out)⟩
end Go.Proofs.YtphjagkehiklkaaGreatDoor
namespace Go.Proofs.YtphjagkehiklkaaGreatDoor
open Go.RowKit Go.ChangeShapes Go.WideShapes Go.Deep
theorem MA{H:Type}{enc:TypeId×Value→H}{w:World}{r:Reach}{b fuel:Nat}{v:Value}{x:DataW H×List MemPlace}(a:Value.okWide Tryz.prog w r b 72 v)
  (h:DataW.trod enc Tryz.prog w 0 (fun _=>true) true fuel 72 v.cells.toList=some x):∃rs:List Value,v= .agg rs.toArray∧sh w rs:=by
 unfold Value.okWide at a;rw[Tryz.underlying72]at a;obtain⟨⟨l⟩,rfl,_,_⟩:=a;exact⟨l,rfl,Fj h⟩
def ME:Value:= .agg #[.int .i64 0, .int .i64 0, .int .i64 0, .int .u8 0, .slice none 0 0, .slice none 0 0]
def MP{H:Type}:DataW H:= .agg [.lit (.int .i64 0), .lit (.int .i64 0), .lit (.int .i64 0), .lit (.int .u8 0), .nil, .nil]
end Go.Proofs.YtphjagkehiklkaaGreatDoor
