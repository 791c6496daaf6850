/- Texts. -/
import Derived.Deep.CutBlock
import Derived.Test.YtphjagkehiklkaaGreatDoorYK20
set_option linter.unusedVariables false
set_option linter.unusedSimpArgs false
set_option maxRecDepth 100000
set_option maxHeartbeats 8000000
namespace Go.Proofs.YtphjagkehiklkaaGreatDoor
open Go.RowKit Go.Shelf
def jl(rt:List UInt8)(i n:Int)(l:List UInt8)(path:List (List UInt8)):Bool:=decide ((Lt.bj (bQ l) (i+1) (n+1) path).2.2=0)&&decide ((Lt.bj (bQ l) (i+1) (n+1) path).1=rt)
def oW(rt:List UInt8)(i n:Int)(l:List UInt8)(path:List (List UInt8)):Int:=
 if n<1∨65536<n∨i<0∨n≤i then 2 else if ly l=none then 3 else if jl rt i n l path=true then 0 else 35
def kZ(w:World)(rt:List UInt8)(i n:Int)(l:List UInt8)(path:List (List UInt8))(e:Ending)(w':World):Prop:=
 ∃cs a b,e= .returned (.tuple #[.agg cs.toArray, .int .i64 b])∧cT w' cs a∧Fr ag w w'∧b=oW rt i n l path∧(b=0→ly l=some a)∧(b≠0→a=jF)
theorem qE(rt:List UInt8)(ax:rt.length=32)(i n:Int)(d:ByteArray)(path:List (List UInt8))(len:Nat)(A:Option Addr)(c:Nat)(S:Nat→Prop)(w:World)(bB:Lt.ed w S A len path)(V:len≤1048576)(ck:eG w)(bF:bH w)(cl:d.size≤16777216):
  Calls Tryz.prog 17 #[aP rt, .agg [Value.int .i64 i, .int .i64 n, .string d, .slice A len c].toArray] w (kZ w rt i n (aJ d) path):=by
 have D:Hid (oW rt i n (aJ d) path=if n<1∨65536<n∨i<0∨n≤i then 2 else if ly (aJ d)=none then 3 else if jl rt i n (aJ d) path=true then 0 else 35):=rfl;have b7:Hid (∀w',Fr ag w w'→Calls Tryz.prog 20 #[.string d] w' (xN w' (aJ d))):=fun w' f=>EM d w' (ck.aq f) cl;have CL:Hid (∀w',Fr ag w w'→Calls Tryz.prog 59 #[.string d] w' (aK w' (aP (bQ (aJ d))))):=fun w' f=>uR d w' (bF.aq f) (by omega);have Y:Hid (∀(k m:Nat)w',Fr ag w w'→m≤65536→Calls Tryz.prog 58 #[aP (bQ (aJ d)), .int .i64 ((k:Int)+1), .int .i64 ((m:Int)+1), .slice A len c] w' (aK w' (.tuple #[aP (Lt.bj (bQ (aJ d)) ((k:Int)+1) ((m:Int)+1) path).1, .int .i64 (Lt.bj (bQ (aJ d)) ((k:Int)+1) ((m:Int)+1) path).2.2]))):=fun k m w' f hm=>
  Lt.wV (bQ (aJ d)) (ew _) _ _ (by omega) path len A c S w' (bB.aq f) V (bF.aq f);have aU:Hid (∀k m:Int,(Lt.bj (bQ (aJ d)) k m path).1.length=32):=fun k m=>Lt.iy (bQ (aJ d)) (ew _) k m path bB.each;have l:Hid (∀ae:Int,oW rt i n (aJ d) path=ae→ae≠0→∀w',Fr ag w w'→kZ w rt i n (aJ d) path (.returned (.tuple #[.agg bS.toArray, .int .i64 ae])) w'):=fun ae R T w' f=>⟨_,_,_,rfl,nX w',f,R.symm,fun h=>absurd h T,fun _=>rfl⟩;have r:Hid (∀cs a w',oW rt i n (aJ d) path=0→ly (aJ d)=some a→cT w' cs a→Fr ag w w'→kZ w rt i n (aJ d) path (.returned (.tuple #[.agg cs.toArray, .int .i64 0])) w'):=fun cs a w' R T al f=>⟨_,_,_,rfl,al,f,R.symm,fun _=>T,fun h=>absurd rfl h⟩;have aY:Hid (∀k m:Nat,jl rt (k:Int) (m:Int) (aJ d) path=(decide ((Lt.bj (bQ (aJ d)) ((k:Int)+1) ((m:Int)+1) path).2.2=0)&&decide ((Lt.bj (bQ (aJ d)) ((k:Int)+1) ((m:Int)+1) path).1=rt))):=fun _ _=>rfl;have cr:Hid (Lt.cX (rt.map aT).toArray):=Lt.cX.of ax;have bl:=af ax;have cq:Hid (Lt.cX ((bQ (aJ d)).map aT).toArray):=Lt.cX.of (ew _);unfold aP at CL Y⊢;generalize bC:(bQ (aJ d)).map aT=cw at*;generalize a5:rt.map aT=aH at*;have bm:=af a5;generalize kZ w rt i n (aJ d) path=PP at*;clear bB V ck bF cl ax bC a5;go_enter Tryz.func17,Tryz.ntmps17;go_wp2_with(refine ay rfl 38 (.tmp 0) rfl aH.toArray rfl ?_);intro w1 n1;have bc:=af n1;clear n1;generalize ar:w.heap.size=g2 at*;have b1:Hid (ao w1 g2 38 aH.toArray):=by have q:=bc.out.aF;rw[ar]at q;exact q
 have cu:Hid (w.heap.size≤g2):=by rw[Hid,ar];exact Nat.le_refl _
 clear ar;go_wp2_with(refine ay rfl 33 (.tmp 1) rfl [Value.int .i64 i, .int .i64 n, .string d, .slice A len c].toArray rfl ?_);intro w2 cm;have a0:=af cm;clear cm;generalize a9:w1.heap.size=H at*;have cf:Hid (ao w2 H 33 [Value.int .i64 i, .int .i64 n, .string d, .slice A len c].toArray):=by have q:=a0.out.aF;rw[a9]at q;exact q
 clear a9;go_wp2_with(refine ak rfl 46 rfl fH mJ bS.toArray rfl ?_);intro bX n3;have a1:=af n3;clear n3;generalize a7:w2.heap.size=g4 at*;have aI:Hid (ao bX g4 46 bS.toArray):=by have q:=a1.out.aF;rw[a7]at q;exact q
 have Z:Hid (Fr ag w bX):=(bc.out.fr.trans a0.out.fr).trans a1.out.fr;have E:Hid (w.heap.size≤g4):=by have:=(bc.out.fr.trans a0.out.fr).size;simp only[Hid];omega
 clear a7;have b2:=af ((b1.out.fr a0.out.fr (fun x=>x)).fr a1.out.fr (fun x=>x));have a2:=af (cf.out.fr a1.out.fr (fun x=>x));clear bc a0 a1 b1 cf;have M:Hid (∀W,Fr ag bX W→W.cell? {block:=H,off:=0}=some (.int .i64 i)∧W.cell? {block:=H,off:=1}=some (.int .i64 n)∧W.cell? {block:=H,off:=2}=some (.string d)∧W.cell? {block:=H,off:=3}=some (.slice A len c)):=fun W f=>⟨(a2.out.fr f (fun x=>x)).cell 0,(a2.out.fr f (fun x=>x)).cell 1,(a2.out.fr f (fun x=>x)).cell 2,(a2.out.fr f (fun x=>x)).cell 3⟩;obtain⟨cP,cQ,cR,x3⟩:=M.out _ aA;by_cases R:n<1;·have t1:decide (n<1)=true:=decide_eq_true R;have G:=af (l.out 2 (by rw[D.out,if_pos (by omega)]) (by decide));clear l r;go_wp2_with(first|(refine wpList_buildTo rfl 46 #[] rfl bS.toArray fj ?_)|(refine ai rfl 46 (.tmp 4) _ rfl g4 bS.toArray rfl rfl _ _ aI.out bT rfl fU ?_));intro t C y;have I:=af C;have J:Hid (Fr ag w t):=Z.out.aw y (fun i av e=>by have ad:i=g4:=e;have:=E.out;omega);clear C y;go_wp2;exact bodyPost_ret (aX (fn:=Tryz.f17) (p:=4) (q:=5) (ty:=46) Tryz.results17 _ t _ 46 bS.toArray (0,0) _ rfl I.out Tryz.underlying46 rfl bT _ rfl) rfl (G.out t J.out)
 have t1:decide (n<1)=false:=decide_eq_false R;by_cases T:65536<n;·have t2:decide (65536<n)=true:=decide_eq_true T;have G:=af (l.out 2 (by rw[D.out,if_pos (by omega)]) (by decide));clear l r;go_wp2_with(first|(refine wpList_buildTo rfl 46 #[] rfl bS.toArray fj ?_)|(refine ai rfl 46 (.tmp 4) _ rfl g4 bS.toArray rfl rfl _ _ aI.out bT rfl fU ?_));intro t C y;have I:=af C;have J:Hid (Fr ag w t):=Z.out.aw y (fun i av e=>by have ad:i=g4:=e;have:=E.out;omega);clear C y;go_wp2;exact bodyPost_ret (aX (fn:=Tryz.f17) (p:=4) (q:=5) (ty:=46) Tryz.results17 _ t _ 46 bS.toArray (0,0) _ rfl I.out Tryz.underlying46 rfl bT _ rfl) rfl (G.out t J.out)
 have t2:decide (65536<n)=false:=decide_eq_false T;by_cases al:i<0;·have t3:decide (i<0)=true:=decide_eq_true al;have G:=af (l.out 2 (by rw[D.out,if_pos (by omega)]) (by decide));clear l r;go_wp2_with(first|(refine wpList_buildTo rfl 46 #[] rfl bS.toArray fj ?_)|(refine ai rfl 46 (.tmp 4) _ rfl g4 bS.toArray rfl rfl _ _ aI.out bT rfl fU ?_));intro t C y;have I:=af C;have J:Hid (Fr ag w t):=Z.out.aw y (fun i av e=>by have ad:i=g4:=e;have:=E.out;omega);clear C y;go_wp2;exact bodyPost_ret (aX (fn:=Tryz.f17) (p:=4) (q:=5) (ty:=46) Tryz.results17 _ t _ 46 bS.toArray (0,0) _ rfl I.out Tryz.underlying46 rfl bT _ rfl) rfl (G.out t J.out)
 have t3:decide (i<0)=false:=decide_eq_false al;by_cases a3:n≤i;·have t4:decide (n≤i)=true:=decide_eq_true a3;have G:=af (l.out 2 (by rw[D.out,if_pos (by omega)]) (by decide));clear l r;go_wp2_with(first|(refine wpList_buildTo rfl 46 #[] rfl bS.toArray fj ?_)|(refine ai rfl 46 (.tmp 4) _ rfl g4 bS.toArray rfl rfl _ _ aI.out bT rfl fU ?_));intro t C y;have I:=af C;have J:Hid (Fr ag w t):=Z.out.aw y (fun i av e=>by have ad:i=g4:=e;have:=E.out;omega);clear C y;go_wp2;exact bodyPost_ret (aX (fn:=Tryz.f17) (p:=4) (q:=5) (ty:=46) Tryz.results17 _ t _ 46 bS.toArray (0,0) _ rfl I.out Tryz.underlying46 rfl bT _ rfl) rfl (G.out t J.out)
 have t4:decide (n≤i)=false:=decide_eq_false a3;have ac:Hid (¬(n<1∨65536<n∨i<0∨n≤i)):=by simp only[Hid];omega
 go_wp2_with fail;refine(b7.out _ Z.out).mono ?_;rintro e X⟨cs,a,ae,rfl,an,f4,K⟩;have cc:=af (Z.out.trans f4);have bd:=af an;have br:=af (aI.out.fr f4 (fun x=>x));have b3:=af (b2.out.fr f4 (fun x=>x));have aN:Hid (∀W,Fr ag X W→W.cell? {block:=H,off:=0}=some (.int .i64 i)∧W.cell? {block:=H,off:=1}=some (.int .i64 n)∧W.cell? {block:=H,off:=2}=some (.string d)∧W.cell? {block:=H,off:=3}=some (.slice A len c)):=fun W f=>M.out W (f4.trans f);have N:=af K;have ba:=an.len;have F:=af ba;clear K an f4 cP cQ cR x3 M a2 Z aI b2 b7 ba;go_wp2_with(refine ak rfl 46 rfl fH mJ bS.toArray rfl ?_);intro cN n5;have bp:=af n5;clear n5;generalize a8:X.heap.size=g6 at*;have b9:Hid (ao cN g6 46 bS.toArray):=by have q:=bp.out.aF;rw[a8]at q;exact q
 have bi:Hid (X.heap.size≤g6∧g4<g6∧w.heap.size≤g6):=by have:=br.out.lt;have:=cc.out.size;simp only[Hid];omega
 clear a8;go_wp2_with(refine ai rfl 46 (.tmp 6) _ rfl g6 cs.toArray rfl rfl _ _ b9.out (pB _ F.out) (by rw[List.size_toArray,List.size_toArray,F.out];rfl) (ActV.one bd.out) ?_);intro cO ch f6;have ca:=af ch;have aE:Hid (Fr ag X cO):=bp.out.fr.aw f6 (fun i av e=>by have ad:i=g6:=e;have:=bi.out;omega);have aO:=af (cc.out.trans aE.out);have aQ:=af aE.out;have bY:=af (bd.out.aq aE.out);have bs:=af (br.out.fr aE.out (fun x=>x));have b5:=af (b3.out.fr aE.out (fun x=>x));clear ch f6 bp b9 aE br b3 bd;by_cases ap:ae=0;case neg=>
  obtain⟨rfl,a6,_⟩:ae=3∧ly (aJ d)=none∧a=jF:=by
   rcases N.out with⟨h,_⟩|h;·exact absurd h ap
   ·exact h
  have be:=af a6;have t5:((3:Int)!=0)=true:=rfl;clear ap a6 N;have G:=af (l.out 3 (by rw[D.out,if_neg ac.out,if_pos be.out]) (by decide));clear l r;go_wp2_with(first|(refine wpList_buildTo rfl 46 #[] rfl bS.toArray fj ?_)|(refine ai rfl 46 (.tmp 4) _ rfl g4 bS.toArray rfl rfl _ _ bs.out bT rfl fU ?_));intro t C y;have I:=af C;have J:Hid (Fr ag w t):=aO.out.aw y (fun i av e=>by have ad:i=g4:=e;have:=E.out;omega);clear C y;go_wp2;exact bodyPost_ret (aX (fn:=Tryz.f17) (p:=4) (q:=5) (ty:=46) Tryz.results17 _ t _ 46 bS.toArray (0,0) _ rfl I.out Tryz.underlying46 rfl bT _ rfl) rfl (G.out t J.out)
 subst ap;have t5:((0:Int)!=0)=false:=rfl;have aa:Hid (ly (aJ d)=some a):=by
  rcases N.out with⟨_,h⟩|⟨h,_⟩;·exact h
  ·cases h
 clear N;obtain⟨m,rfl⟩:∃m:Nat,n=m:=⟨n.toNat,by omega⟩;obtain⟨k,rfl⟩:∃k:Nat,i=k:=⟨i.toNat,by omega⟩;have bk:Hid (m≤65536∧k≤65536):=by simp only[Hid];omega
 have cy:Hid (IntKind.i64.wrap ((k:Int)+1)=(k:Int)+1):=IntWalk.i64_in _ (by have:=bk.out;omega);have cz:Hid (IntKind.i64.wrap ((m:Int)+1)=(m:Int)+1):=IntWalk.i64_in _ (by have:=bk.out;omega);have aM:=af (fun w' f=>Y.out k m w' f bk.out.1);have aV:=af (aU.out ((k:Int)+1) ((m:Int)+1));have aW:=af (aY.out k m);have bb:Hid (Lt.cX ((Lt.bj (bQ (aJ d)) ((k:Int)+1) ((m:Int)+1) path).1.map aT).toArray):=Lt.cX.of aV.out;generalize(Lt.bj (bQ (aJ d)) ((k:Int)+1) ((m:Int)+1) path).2.2=U at*;generalize(Lt.bj (bQ (aJ d)) ((k:Int)+1) ((m:Int)+1) path).1=fr at*;generalize a4:fr.map aT=L at*;have bg:=af a4;clear a4 Y aU aY t1 t2 t3 t4 R T al a3;have M:=af (fun W f=>aN.out W f);have bq:Hid (∀w:World,(binOp .neq 38 (.agg L.toArray) (.agg aH.toArray)).run Tryz.prog w= .ok (.bool (!decide (fr=rt))) w):=fun w=>by
  rw[←bg.out,←bm.out];exact AR w _ Tryz.underlying38 fr rt aV.out bl.out
 have bn:Hid ((Tryz.prog.info? 38).map (·.size)=some L.length):=by have q:=bb.out.info;rw[List.size_toArray]at q;exact q
 have bo:Hid ((Tryz.prog.info? 38).map (·.size)=some aH.length):=by have q:=cr.out.info;rw[List.size_toArray]at q;exact q
 go_upto_region 6 with fail;refine lV 18 38 [fun v=>v= .pointer (some ⟨H,2,none⟩),fun v=>v= .string d,fun v=>v= .agg cw.toArray,fun v=>v= .pointer (some ⟨H,0,none⟩),fun v=>v= .int .i64 (k:Int),fun v=>v= .int .i64 ((k:Int)+1),fun v=>v= .pointer (some ⟨H,1,none⟩),fun v=>v= .int .i64 (m:Int),fun v=>v= .int .i64 ((m:Int)+1),fun v=>v= .pointer (some ⟨H,3,none⟩),fun v=>v= .slice A len c,fun v=>v= .tuple #[.agg L.toArray, .int .i64 U],fun v=>v= .tuple #[.agg L.toArray, .int .i64 U],fun v=>v= .agg L.toArray,fun v=>v= .int .i64 U,fun _=>True,fun _=>True,fun v=>v= .int .i64 U] [] [(15,aD)] [(16,15,L.toArray)] (by kernel_rfl) (by kernel_rfl) (by kernel_rfl) trivial ?_ ?_
 ·refine⟨fun u w' o b s=>?_,fun u w' o b s=>?_,fun u w' o b s=>?_,fun u w' o b s=>?_,fun u w' o b s=>?_,fun u w' o b s=>?_,fun u w' o b s=>?_,fun u w' o b s=>?_,fun u w' o b s=>?_,fun u w' o b s=>?_,fun u w' o b s=>?_,fun u w' o b s=>?_,fun u w' o b s=>?_,fun u w' o b s=>?_,fun u w' o b s=>?_,fun u w' o b=>?_,fun u w' g o b cK bG=>?_,fun u w' o b s=>?_,trivial⟩;all_goals simp only[bJ,bK,bL,bM,au,Act.put,bN,bO,bP,Nat.reduceAdd,Nat.zero_add]
  ·clear b s;refine aj ?_;go_simp;exact⟨_,rfl,da⟩
  ·have cD:u 0=_:=b 0 (by kernel_rfl);clear b s;simp only[cD];refine aj ?_;have q:=M.out _ (aQ.out.trans o);obtain⟨bI,bU,bV,bW⟩:=q;go_simp;exact⟨_,rfl,da⟩
  ·have R:u 1=_:=b 1 (by kernel_rfl);clear b s;simp only[R];refine aj ?_;go_simp;refine(CL.out _ (aO.out.trans o)).mono ?_;rintro e X⟨rfl,f4⟩;exact⟨_,rfl,rfl,trivial,f4⟩
  ·clear b s;refine aj ?_;go_simp;exact⟨_,rfl,da⟩
  ·have al:u 3=_:=b 3 (by kernel_rfl);clear b s;simp only[al];refine aj ?_;have q:=M.out _ (aQ.out.trans o);obtain⟨bI,bU,bV,bW⟩:=q;go_simp;exact⟨_,rfl,da⟩
  ·have a3:u 4=_:=b 4 (by kernel_rfl);clear b s;simp only[a3];refine aj ?_;have cV:=cy.out;go_simp;exact⟨_,rfl,da⟩
  ·clear b s;refine aj ?_;go_simp;exact⟨_,rfl,da⟩
  ·have cF:u 6=_:=b 6 (by kernel_rfl);clear b s;simp only[cF];refine aj ?_;have q:=M.out _ (aQ.out.trans o);obtain⟨bI,bU,bV,bW⟩:=q;go_simp;exact⟨_,rfl,da⟩
  ·have cG:u 7=_:=b 7 (by kernel_rfl);clear b s;simp only[cG];refine aj ?_;have cW:=cz.out;go_simp;exact⟨_,rfl,da⟩
  ·clear b s;refine aj ?_;go_simp;exact⟨_,rfl,da⟩
  ·have cI:u 9=_:=b 9 (by kernel_rfl);clear b s;simp only[cI];refine aj ?_;have q:=M.out _ (aQ.out.trans o);obtain⟨bI,bU,bV,bW⟩:=q;go_simp;exact⟨_,rfl,da⟩
  ·have T:u 2=_:=b 2 (by kernel_rfl);have cE:u 5=_:=b 5 (by kernel_rfl);have cH:u 8=_:=b 8 (by kernel_rfl);have bu:u 10=_:=b 10 (by kernel_rfl);clear b s;simp only[T,cE,cH,bu];refine aj ?_;go_simp;refine(aM.out _ (aO.out.trans o)).mono ?_;rintro e X⟨rfl,f4⟩;exact⟨_,rfl,rfl,trivial,f4⟩
  ·have bv:u 11=_:=b 11 (by kernel_rfl);clear b s;simp only[bv];refine aj ?_;go_simp;exact⟨_,rfl,da⟩
  ·have ah:u 12=_:=b 12 (by kernel_rfl);clear b s;simp only[ah];refine aj ?_;go_simp;exact⟨_,rfl,da⟩
  ·have ah:u 12=_:=b 12 (by kernel_rfl);clear b s;simp only[ah];refine aj ?_;go_simp;exact⟨_,rfl,da⟩
  ·clear b;refine aj ?_;refine fT 38 rfl aR fV aD rfl ?_;intro X n4;exact⟨_,rfl,trivial,trivial,rfl,n4⟩
  ·have bw:u 13=_:=b 13 (by kernel_rfl);clear b;simp only[bw,cK];refine aj ?_;obtain⟨cs,hm,bG⟩:=bG;obtain rfl:cs=aD:=by simpa using hm
   refine Lt.iM 38 (.tmp 8) (.tmp 53) rfl g L.toArray rfl rfl _ _ bG bb.out.info bb.out.zero bb.out.one ?_;intro X b4 f4;exact⟨_,rfl,trivial,b4,f4⟩
  ·have bx:u 14=_:=b 14 (by kernel_rfl);clear b s;simp only[bx];refine aj ?_;go_simp;exact⟨_,rfl,da⟩
 intro u w' o b ci cJ;have bA:u 17=_:=b 17 (by omega);obtain⟨g8,bz,cM,b8⟩:=ci 15 aD (by simp);have b6:Hid (ao w' g8 38 L.toArray):=b8;have cS:=af o;have cd:=af (aO.out.trans o);have aL:=af (b5.out.fr o (fun x=>x));have cg:=af (bs.out.fr o (fun x=>x));have cb:=af (ca.out.fr o (fun x=>x));have bZ:=af (bY.out.aq o);clear b ci cJ o b8 cM CL aM M aN aQ aO b5 bs ca bY;simp only[bJ,bK,bL,bM,au,Act.put,bN,bO,bP,dL,dM,Nat.reduceAdd,Nat.zero_add,bA,bz];generalize w'=cU at*;obtain⟨P,cj⟩:∃P,(U !=0)=P:=⟨_,rfl⟩;have ab:=af cj;obtain⟨Q,bE⟩:∃Q,(!decide (fr=rt))=Q:=⟨_,rfl⟩;have aZ:=af bE;rw[bE]at bq;clear cj bE;obtain⟨B,am⟩:∃z:Bool,(bif P then true else Q)=z:=⟨_,rfl⟩;have HB:=af am;clear am;go_upto_region 7 with fail;refine gZ 7 [.int .i64 U, .bool P, .bool P,bif P then undef else .agg L.toArray,bif P then undef else .agg aH.toArray,bif P then undef else .bool Q, .bool B] ?zC ?_;case zC=>
  refine⟨?zJ,?zD,?zE,?zF,?zG,?zH,?zI,trivial⟩;all_goals intro u w' o b
  all_goals simp only[z1,z2,z3,z4,au,Act.put,z5,z6,z7,Nat.reduceAdd,Nat.zero_add]
  case zD=>
   simp only[show u 0=_ from b 0];refine aC ?_;have t1:=ab.out;go_simp;exact aG
  case' zE=>simp only[show u 1=_ from b 1]
  case zF=>
   simp only[show u 2=_ from b 2];cases P;case true=>exact bR
   refine aC ?_;exact az _ _ rfl ⟨g8,0,none⟩ rfl L _ (kH (b6.out.fr o (fun x=>x))) Tryz.underlying38 rfl bn.out aG
  case zG=>
   simp only[show u 2=_ from b 2];cases P;case true=>exact bR
   refine aC ?_;exact az _ _ rfl ⟨g2,0,none⟩ rfl aH _ (kH (aL.out.fr o (fun x=>x))) Tryz.underlying38 rfl bo.out aG
  case zH=>
   simp only[show u 3=_ from b 3,show u 4=_ from b 4,show u 2=_ from b 2];cases P;case true=>exact bR
   refine aC ?_;exact eS _ _ _ _ _ rfl _ _ rfl rfl Tryz.eqGuardType38 _ (bq.out _) aG
  case zI=>
   simp only[show u 2=_ from b 2,show u 5=_ from b 5];cases P<;>exact aC (by go_simp;exact⟨by rw[←HB.out];rfl,aA⟩)
  all_goals
   try simp only[cond]
   refine aC ?_;go_simp;exact aG
 intro w' o;simp only[z1,z2,z3,z4,au,Act.put,z5,z6,z7,z8,z9,iO,iP,Nat.reduceAdd,Nat.zero_add];have ce:=af (cd.out.trans o);have bt:=af (cg.out.fr o (fun x=>x));have cp:=af (cb.out.fr o (fun x=>x));have b0:=af (bZ.out.aq o);have O:Hid (jl rt (k:Int) (m:Int) (aJ d) path=!B):=by
  rw[Hid,aW.out,←HB.out];have cA:decide (U=0)=!P:=by
   rw[←ab.out,bne,Bool.not_not];by_cases h:U=0<;>simp[h]
  have cB:decide (fr=rt)=!Q:=by rw[←aZ.out,Bool.not_not]
  rw[cA,cB];cases P<;>cases Q<;>rfl
 clear o HB aW ab aZ bq cd cg cb bZ b6 aL;cases am:B;case true=>
  have aS:Hid (oW rt (k:Int) (m:Int) (aJ d) path=35):=by
   rw[D.out,if_neg ac.out,if_neg (by rw[aa.out];simp),O.out,am];rfl
  clear am O D;have G:=af (l.out 35 aS.out (by decide));clear l r;go_wp2_with(first|(refine wpList_buildTo rfl 46 #[] rfl bS.toArray fj ?_)|(refine ai rfl 46 (.tmp 4) _ rfl g4 bS.toArray rfl rfl _ _ bt.out bT rfl fU ?_));intro t C y;have I:=af C;have J:Hid (Fr ag w t):=ce.out.aw y (fun i av e=>by have ad:i=g4:=e;have:=E.out;omega);clear C y;go_wp2;exact bodyPost_ret (aX (fn:=Tryz.f17) (p:=4) (q:=5) (ty:=46) Tryz.results17 _ t _ 46 bS.toArray (0,0) _ rfl I.out Tryz.underlying46 rfl bT _ rfl) rfl (G.out t J.out)
 have bf:Hid (oW rt (k:Int) (m:Int) (aJ d) path=0):=by
  rw[D.out,if_neg ac.out,if_neg (by rw[aa.out];simp),O.out,am];rfl
 clear am O D l;have cv:Hid ((Tryz.prog.info? 46).map (·.size)=some cs.length):=by rw[Hid,F.out];exact bT
 have cx:Hid (cs.toArray.all (·.oneCell')=true):=ActV.one b0.out;go_wp2_with(refine aB rfl 46 (.tmp 6) rfl ⟨g6,0,none⟩ rfl cs _ ?zA Tryz.underlying46 rfl cv.out (bh.go ?zB));case zA=>
  intro j x cL;rw[Addr.add_mid,Nat.zero_add,cp.out.cell j,bD];exact cL
 unfold bh;go_wp2_with(refine ai rfl 46 (.tmp 4) _ rfl g4 cs.toArray rfl rfl _ _ bt.out (pB _ F.out) (by rw[List.size_toArray,List.size_toArray,F.out];rfl) cx.out ?_);intro t C y;have co:=af C;have ct:Hid (Fr ag w t):=ce.out.aw y (fun i av e=>by have ad:i=g4:=e;have:=E.out;omega);have cn:Hid (cT t cs a):=b0.out.cC y (oH bt.out (by decide) (by decide) (by decide));have G:=af (r.out cs a t bf.out aa.out cn.out ct.out);clear C y;go_wp2;exact bodyPost_ret (aX (fn:=Tryz.f17) (p:=4) (q:=5) (ty:=46) Tryz.results17 _ t _ 46 cs.toArray (0,0) _ rfl co.out Tryz.underlying46 rfl (pB _ F.out) _ rfl) rfl G.out
def ug(w:World)(A:Option Addr)(n:Nat):Prop:=∀k,k<n→∃a b,A=some a∧qK w b∧∀j x,b[j]? =some x→w.cell? ((a.add (k*6)).add j)=some x
theorem ug.aq{w w':World}{A:Option Addr}{n:Nat}(h:ug w A n)(a:Fr ag w w'):ug w' A n:=fun k g=>by
 obtain⟨b,c,d,e,f⟩:=h k g;exact⟨b,c,d,e.aq a,fun j x i=>a.an (f j x i) (fun x=>x)⟩
theorem qK.len{w:World}{cs:List Value}(h:qK w cs):cs.length=6:=by
 obtain⟨_,_,_,_,_,_,_,_,_,_,_,_,_,_,_,_,rfl,_⟩:=h;rfl
theorem Mod.kb{w w':World}{T:Nat→Prop}{cs:List Value}{b:Nat}{E:List Ent}{L:List ActV}(h:Mod w cs b E L)(a:Fr T w w')(hF:fK w T)(i:∀v∈cs,∀k,v.ownBlock=some k→¬T k):Mod w' cs b E L:=by
 obtain⟨A,n,c,rfl,d,e,f,g⟩:=h;exact⟨A,n,c,rfl,d,e,f.cC a hF,g.cC a hF (i _ (by simp))⟩
theorem Mod.lt{w:World}{cs:List Value}{b:Nat}{E:List Ent}{L:List ActV}(h:Mod w cs b E L):∀v∈cs,∀k,v.ownBlock=some k→Ty w k 46:=by
 obtain⟨A,n,c,rfl,g,i,j,e,f,l⟩:=h;intro v d k a;rw[List.mem_cons,List.mem_singleton]at d;rcases d with rfl|rfl;·cases a
 ·exact ja f a
theorem Ty.lt{w:World}{k:Nat}{t:TypeId}(h:Ty w k t):k<w.heap.size:=by
 obtain⟨cs,h⟩:=h;exact ao.lt (cs:=cs) (t:=t) h
theorem Mod.len{w:World}{cs:List Value}{b:Nat}{E:List Ent}{L:List ActV}(h:Mod w cs b E L):cs.length=2:=by
 obtain⟨A,n,c,rfl,_⟩:=h;rfl
theorem Mod.one{w:World}{cs:List Value}{b:Nat}{E:List Ent}{L:List ActV}(h:Mod w cs b E L):cs.toArray.all (·.oneCell')=true:=by
 obtain⟨A,n,c,rfl,_⟩:=h;simp[Value.oneCell']
theorem Ie(b:Nat):Tryz.prog.built 28 [(0, .pointer (some ⟨b,0,none⟩))]=some [Value.pointer (some ⟨b,0,none⟩), .slice none 0 0].toArray:=by kernel_rfl
def o6(w:World)(e:Ending)(w':World):Prop:=∃(h b:Nat)(ms:List Value)(E:List Ent)(L:List ActV)(T:Nat→Prop),e= .returned (.tuple #[.pointer (some ⟨h,0,none⟩), .agg ms.toArray])∧
 fY w' h E L T∧Mod w' ms b E L∧cY 6 E∧gg L∧(∀k,T k→w.heap.size≤k)∧Fr ag w w'∧∀v∈ms,∀j,v.ownBlock=some j→¬T j
structure xO(w a wr:World)(h b g5 g6 k:Nat)(E:List Ent)(L:List ActV)(T:Nat→Prop)(ms:List Value):Prop where
 uQ:fY wr h E L T
 mod:Mod wr ms b E L
 box:ao wr g6 28 ms.toArray
 run:gg L
 len:L.length≤k
 new:∀j,T j→a.heap.size≤j
 rows:∀v∈ms,∀j,v.ownBlock=some j→¬T j
 fr:Fr ag w wr
 size:a.heap.size≤wr.heap.size
 out:ao wr g5 28 #[.pointer none, .slice none 0 0]
theorem zQ(n:Nat)(xs:List CV)(A:Option Addr)(bu:Nat)(S:Nat→Prop)(aa:Nat)(bX:Option Addr)(cq:Nat)(w:World)(cc:CL w S A n xs)(ck:n≤9223372036854775807)(cj:n≤bu)(cg:ug w bX aa)(bS:eG w)(ch:bH w):
  Calls Tryz.prog 14 #[.slice A n bu, .slice bX aa cq] w (o6 w):=by
 have b0:Hid (∀w',Fr ag w w'→Calls Tryz.prog 28 #[.slice A n bu] w' (Hg w')):=fun w' f=>BJ n xs A bu S w' (cc.aq f) ck cj (bS.aq f);have bt:=af bS;have bs:=af ch;have co:=af cg;clear cc ck cj bS ch cg;go_enter Tryz.func14,Tryz.ntmps14;go_wp2_with(refine ak rfl 28 rfl (.agg sA.toArray) Jn #[.pointer none, .slice none 0 0] rfl ?_);intro w1 n1;have bA:=af n1.fr;have bY:=af n1.aF;clear n1;generalize bk:w.heap.size=g5 at*;have H:=af bk;clear bk;go_wp2_with fail;refine(b0.out _ bA.out).mono ?_;rintro e w2⟨b,E,rfl,bw,cd,f2⟩;have b1:=af (bA.out.trans f2);have bx:=af (bY.out.fr f2 (fun x=>x));have ca:=af bw;have a8:=af cd;have a6:=af (Ie b);clear f2 bw cd bA bY b0;go_wp2_with(refine eD rfl 28 _ rfl [Value.pointer (some ⟨b,0,none⟩), .slice none 0 0].toArray _ (by simp only[List.map_toArray,List.map_cons,List.map_nil];rfl) a6.out (bh.go ?zA));unfold bh;go_wp2_with(refine ak rfl 28 rfl (.agg sA.toArray) Jn #[.pointer none, .slice none 0 0] rfl ?_);intro bW bp;have aQ:=af bp;clear bp;generalize bl:w2.heap.size=g6 at*;have R:=af bl;clear bl;have a4:Hid (ao bW g6 28 #[.pointer none, .slice none 0 0]):=by have h:=aQ.out.aF;rw[R.out]at h;exact h
 have b9:Hid ([Value.pointer (some ⟨b,0,none⟩), .slice none 0 0].toArray.all (·.oneCell')=true):=by simp[Hid,Value.oneCell']
 go_wp2_with(refine ai rfl 28 (.tmp 6) _ rfl g6 [Value.pointer (some ⟨b,0,none⟩), .slice none 0 0].toArray rfl rfl _ _ a4.out jf rfl b9.out ?_);intro M b3 f3;have br:Hid (ao M g6 28 [Value.pointer (some ⟨b,0,none⟩), .slice none 0 0].toArray):=b3;have f23:Fr ag w2 M:=aQ.out.fr.aw f3 (fun i aV e=>by have N:i=g6:=e;have:=R.out;omega);have a5:=af (b1.out.trans f23);have aS:=af (ca.out.aq f23);have cn:=af (bx.out.fr f23 (fun x=>x));have d:Hid (g6<M.heap.size∧g5<g6∧w.heap.size≤M.heap.size):=⟨br.out.lt,by have:=bx.out.lt;have:=R.out;omega,a5.out.size⟩;clear b3 f3 f23 aQ a4 b9 b1 bx ca a6;have cu:M.cell? ⟨g6,0,none⟩=some (.pointer (some ⟨b,0,none⟩)):=br.out.cell 0;go_wp2_with fail;refine(wW E b M aS.out (bt.out.aq a5.out) (bs.out.aq a5.out) (a8.out.more (by decide))).mono ?_;rintro e cw⟨h,T,rfl,ce,f4,ci⟩;have b5:Hid (xO w M cw h b g5 g6 0 E [] T [Value.pointer (some ⟨b,0,none⟩), .slice none 0 0]):=⟨ce,⟨none,0,0,rfl,rfl,Nat.le_refl _,aS.out.aq f4,kx.nil _⟩,br.out.fr f4 (fun x=>x),gg.nil,Nat.le_refl _,ci,(fun v z k zA=>by
  rw[List.mem_cons,List.mem_singleton]at z;rcases z with rfl|rfl;·cases zA
  ·cases zA),a5.out.trans f4,f4.size,cn.out.fr f4 (fun x=>x)⟩;clear ce f4 ci cu br aS;go_wp2;go_loopw[9](fun i wr=>∃(k:Nat)(L:List ActV)(T:Nat→Prop)(ms:List Value),k≤16∧k≤aa∧i= .int .i64 (k:Int)∧xO w M wr h b g5 g6 k E L T ms)(fun i _=>16-(intOf i).toNat);case atStart=>exact⟨0,[],T,_,Nat.zero_le _,Nat.zero_le _,rfl,b5.out⟩
 case round=>
  obtain⟨k,L,T,ms,zA,bm,rfl,cf⟩:=hrel;have c:=af cf;have b4:Hid (k≤16∧k≤aa):=⟨zA,bm⟩;clear cf zA bm b5;by_cases Y:k<aa∧k<16
  ·have t0:decide ((k:Int)<(aa:Int))=true:=dJ (by omega);have t1:decide ((k:Int)<16)=true:=dJ (by omega);have t2:(k:Int)<(aa:Int):=by omega
   have t3:(0:Int)≤(k:Int):=by omega
   have t4:(k:Int)<16:=by omega
   have t:=af Y;obtain⟨cp,bP,rfl,aW,V⟩:=(co.out.aq c.out.fr) k Y.1;have bc:=af aW;have a7:=af V;have IR:Hid ((Tryz.prog.info? 72).map (·.size)=some bP.length):=by rw[Hid,aW.len];exact IB
   clear aW V Y;go_wp2_with(refine aB rfl 72 (.tmp 34) rfl (cp.add (k*6)) rfl bP _ ?zB Tryz.underlying72 rfl IR.out (bh.go ?zH));case zB=>exact a7.out
   unfold bh;go_wp2_with fail;refine(zj bP _ bc.out).mono ?_;rintro e cl⟨cs,a,rfl,K,bn,bU,f5⟩;have b2:=af f5;have a0:=af K;have aX:=af bn;have bI:Hid ((Tryz.prog.info? 46).map (·.size)=some cs.toArray.size):=by rw[Hid,List.size_toArray,K.len];exact bT
   have ar:Hid ((Tryz.prog.info? 46).map (·.size)=some cs.length):=by rw[Hid,K.len];exact bT
   have bF:Hid (6=cs.toArray.size):=by rw[Hid,List.size_toArray,K.len]
   have bM:=af (ActV.one K);clear f5 K bn bU a7 bc IR t0 t1 t2 t3 t4;go_wp2_with(refine ak rfl 46 rfl fH mJ #[.int .i64 0, .int .i64 0, .int .i64 0, .string ByteArray.empty, .slice none 0 0, .slice none 0 0] rfl ?_);intro bW bp;have aQ:=af bp;clear bp;generalize ax:cl.heap.size=g10 at*;have an:=af ax;clear ax;have a4:Hid (ao bW g10 46 #[.int .i64 0, .int .i64 0, .int .i64 0, .string ByteArray.empty, .slice none 0 0, .slice none 0 0]):=by have h:=aQ.out.aF;rw[an.out]at h;exact h
   go_wp2_with(refine ai rfl 46 (.tmp 10) _ rfl g10 cs.toArray rfl rfl _ _ a4.out bI.out bF.out bM.out ?_);intro bV cb f6;have aE:=af cb;have f56:Fr ag cl bV:=aQ.out.fr.aw f6 (fun i aV e=>by have N:i=g10:=e;have:=an.out;omega);have D:=af (b2.out.trans f56);have aD:=af (a0.out.aq f56);clear cb f6 f56 aQ a4 b2 a0;have b7:Hid (∀j x,ms[j]? =some x→bV.cell? ((⟨g6,0,none⟩:Addr).add j)=some x):=kH (c.out.box.fr D.out (fun x=>x));have ae:Hid ((Tryz.prog.info? 28).map (·.size)=some ms.length):=by rw[Hid,c.out.mod.len];exact jf
   have am:Hid (∀j x,cs[j]? =some x→bV.cell? ((⟨g10,0,none⟩:Addr).add j)=some x):=kH aE.out;go_wp2_with(refine aB rfl 28 (.tmp 6) rfl ⟨g6,0,none⟩ rfl ms _ ?zD Tryz.underlying28 rfl ae.out (bh.go ?zJ));case zD=>exact b7.out
   unfold bh;go_wp2_with(refine aB rfl 46 (.tmp 10) rfl ⟨g10,0,none⟩ rfl cs _ ?zC Tryz.underlying46 rfl ar.out (bh.go ?zI));case zC=>exact am.out
   unfold bh;go_wp2_with fail;refine(zn ms cs b E L a _ (c.out.mod.aq D.out) aD.out (bt.out.aq (c.out.fr.trans D.out)) (a8.out.more (by decide)) c.out.run aX.out).mono ?_;rintro e cm⟨g,rfl,Z,f7,aA⟩;have bB:=af (D.out.trans f7);have b6:=af Z;have aK:Hid (∀v∈g,∀j,v.ownBlock=some j→¬T j):=fun v z j l O=>by
    rcases aA v z j l with o|⟨u,hu,o⟩;·have:=c.out.uQ.lt j O;have:=D.out.size;omega
    ·exact c.out.rows u hu j o O
   have a1:=af (aD.out.aq f7);have aj:=af (aE.out.fr f7 (fun x=>x));have y:Hid ((Tryz.prog.info? 28).map (·.size)=some g.toArray.size):=by rw[Hid,List.size_toArray,Z.len];exact jf
   have I:Hid (2=g.toArray.size):=by rw[Hid,List.size_toArray,Z.len]
   have J:=af Z.one;clear f7 Z aA aD aE D b7 am;go_wp2_with(refine ak rfl 28 rfl (.agg sA.toArray) Jn #[.pointer none, .slice none 0 0] rfl ?_);intro cx nb;have bL:=af nb;clear nb;generalize ay:cm.heap.size=g12 at*;have Q:=af ay;clear ay;have bZ:Hid (ao cx g12 28 #[.pointer none, .slice none 0 0]):=by have h:=bL.out.aF;rw[Q.out]at h;exact h
   go_wp2_with(refine ai rfl 28 (.tmp 12) _ rfl g12 g.toArray rfl rfl _ _ bZ.out y.out I.out J.out ?_);intro ab b8 f8;have ac:=af b8;have f78:Fr ag cm ab:=bL.out.fr.aw f8 (fun i aV e=>by have N:i=g12:=e;have:=Q.out;omega);have F:=af (bB.out.trans f78);have a2:=af (a1.out.aq f78);have be:=af (b6.out.aq f78);have a3:=af (aj.out.fr f78 (fun x=>x));have a9:Hid (wr.heap.size≤g12):=by have:=bB.out.size;have:=Q.out;simp only[Hid];omega
   clear b8 f8 f78 bL bZ bB a1 b6 aj;have bz:Hid (∀j x,cs[j]? =some x→ab.cell? ((⟨g10,0,none⟩:Addr).add j)=some x):=kH a3.out;have cE:IntKind.i64.wrap ((k:Int)+1)=(k:Int)+1:=IntWalk.i64_in _ (by have:=t.out;omega);have bb:=af (c.out.run.append aX.out (by have:=c.out.len;have:=t.out;omega));have ap:Hid ((eI L a).2.length≤k+1):=by
    have:=c.out.len;rcases oy L a with⟨_,e⟩|⟨_,e,_⟩;·rw[Hid,e];omega
    ·rw[Hid,e,aY,List.length_singleton];omega
   have aI:Hid (Calls Tryz.prog 32 #[.pointer (some ⟨h,0,none⟩), .agg cs.toArray] ab (ze ab h E L T a)):=by
    have bE:=c.out.fr.trans F.out;refine qB h E L T a cs ab (c.out.uQ.aq F.out) a2.out (bt.out.aq bE) (bs.out.aq bE) aX.out.sz (fun b bw=>by have:=(c.out.run.small b bw).fF;omega) (by have:=c.out.run.len;omega) (fun _=>by have:=aX.out.len;omega) (fun k zA O=>?_) (fun cD w' s f cr=>?_);·have o:=c.out.new k O;have cz:=bs.out.Gr;have cA:=bs.out.Gs;have cB:=a5.out.size;rcases zA with rfl|rfl<;>omega
    ·have G:=lR L E 24 (a8.out.more (by decide)) c.out.run.ok c.out.run.small;exact lX _ a cs _ s w' (a2.out.aq f) cr (bt.out.aq (bE.trans f)) G aX.out.writes (by have:=aX.out.nw;have:=c.out.run.len;omega)
   have C:Hid ((eI L a).1≠0→(eI L a).2=L):=fun h=>by
    rcases oy L a with⟨_,e⟩|⟨e,_,_⟩;·exact e
    ·exact absurd e h
   by_cases aZ:(eI L a).1=0
   ·rw[aZ];have al:Hid (Calls Tryz.prog 32 #[.pointer (some ⟨h,0,none⟩), .agg cs.toArray] ab (ze ab h E L T a)):=aI;clear C aI aZ;generalize ba:(eI L a).2=aN at*;go_wp2_with(refine aB rfl 46 (.tmp 10) rfl ⟨g10,0,none⟩ rfl cs _ ?zG Tryz.underlying46 rfl ar.out (bh.go ?zK));case zG=>exact bz.out
    unfold bh;go_wp2_with fail;refine al.out.mono ?_;rintro e bq⟨T',rfl,bi,f9,aU⟩;have av:=(c.out.uQ.aq F.out).cC;have bG:Hid (fY bq h E aN T'):=by rw[Hid,←ba];exact bi
    have bf:=af (be.out.kb f9 av (fun v z j l=>aK.out v z j l));have P:=af (ac.out.fr f9 (fun O=>by have:=c.out.uQ.lt _ O;have:=a9.out;omega));have B:=af ((c.out.box.fr F.out (fun x=>x)).fr f9 (fun O=>by have:=c.out.new _ O;have:=d.out;omega));have aH:=af ((c.out.out.fr F.out (fun x=>x)).fr f9 (fun O=>by have:=c.out.new _ O;have:=d.out;omega));have bC:Hid (Fr ag w bq):=(c.out.fr.trans F.out).aw f9 (fun i aV e=>by have:=c.out.new i e;have:=d.out;omega);have bg:Hid (∀j,T' j→M.heap.size≤j):=fun j l=>by
     rcases aU j l with o|o;·exact c.out.new j o
     ·have:=c.out.size;have:=F.out.size;omega
    have bN:Hid (∀v∈g,∀j,v.ownBlock=some j→¬T' j):=fun v z j l O=>by
     rcases aU j O with o|o;·exact aK.out v z j l o
     ·have:=(be.out.lt v z j l).lt;omega
    have bO:Hid (M.heap.size≤bq.heap.size):=by have:=c.out.size;have:=F.out.size;have:=f9.size;simp only[Hid];omega
    clear bi f9 aU av al be ac;have aO:Hid (∀j x,g[j]? =some x→bq.cell? ((⟨g12,0,none⟩:Addr).add j)=some x):=kH P.out;have aM:Hid ((Tryz.prog.info? 28).map (·.size)=some g.length):=by have:=y.out;rw[List.size_toArray]at this;exact this
    have aL:Hid (ms.toArray.size=g.toArray.size):=by rw[Hid,←I.out,List.size_toArray,c.out.mod.len]
    go_wp2_with(refine aB rfl 28 (.tmp 12) rfl ⟨g12,0,none⟩ rfl g _ ?zF Tryz.underlying28 rfl aM.out (bh.go ?zT));case zF=>exact aO.out
    unfold bh;go_wp2_with(refine ai rfl 28 (.tmp 6) _ rfl g6 g.toArray rfl rfl _ _ B.out y.out aL.out J.out ?_);intro ah U r;have m:fK bq (fun k=>k=g6):=fK.of (fun k zA=>⟨28,(show k=g6 from zA)▸B.out.ty,by decide,by decide,by decide⟩);have bJ:Hid (xO w M ah h b g5 g6 (k+1) E aN T' g):=⟨bG.out.kb r m (fun j l e=>by have N:j=g6:=e;have:=bg.out j l;have:=d.out;omega),by
      have bQ:=bf.out;exact bQ.kb r m (fun v z j l e=>by
       have N:j=g6:=e;have o:=bf.out.lt v z j l;rw[N]at o;exact absurd (o.one B.out.ty) (by decide)),U,bb.out,ap.out,bg.out,bN.out,bC.out.aw r (fun i aV e=>by have N:i=g6:=e;have:=d.out;have:=R.out;have:=H.out;omega),by have:=r.size;have:=bO.out;omega,aH.out.fr r (fun e=>by have N:g5=g6:=e;have:=d.out;omega)⟩;clear U r;go_wp2;go_roundw;case rel=>exact⟨k+1,aN,T',g,by have:=t.out;omega,by have:=t.out;omega,by go_num,bJ.out⟩
    case measure=>simp[intOf];have:=t.out;omega
   ·have bo:=C.out aZ;obtain⟨bv,bj⟩:∃bv,(eI L a).1=bv:=⟨_,rfl⟩;rw[bj]at aZ⊢;have t5:decide (bv=0)=false:=decide_eq_false aZ;have t6:(bv==0)=false:=kI aZ;generalize ba:(eI L a).2=aN at*;have bG:Hid (fY ab h E aN T):=by rw[Hid,bo];exact c.out.uQ.aq F.out
    have bf:=be;have P:=ac;have B:=af (c.out.box.fr F.out (fun x=>x));have aH:=af (c.out.out.fr F.out (fun x=>x));have bC:=af (c.out.fr.trans F.out);have bg:=af c.out.new;have bN:=aK;have bO:Hid (M.heap.size≤ab.heap.size):=by have:=c.out.size;have:=F.out.size;simp only[Hid];omega
    clear bj bo C aI be ac;have aO:Hid (∀j x,g[j]? =some x→ab.cell? ((⟨g12,0,none⟩:Addr).add j)=some x):=kH P.out;have aM:Hid ((Tryz.prog.info? 28).map (·.size)=some g.length):=by have:=y.out;rw[List.size_toArray]at this;exact this
    have aL:Hid (ms.toArray.size=g.toArray.size):=by rw[Hid,←I.out,List.size_toArray,c.out.mod.len]
    go_wp2_with(refine aB rfl 28 (.tmp 12) rfl ⟨g12,0,none⟩ rfl g _ ?zE Tryz.underlying28 rfl aM.out (bh.go ?zS));case zE=>exact aO.out
    unfold bh;go_wp2_with(refine ai rfl 28 (.tmp 6) _ rfl g6 g.toArray rfl rfl _ _ B.out y.out aL.out J.out ?_);intro ah U r;have m:fK ab (fun k=>k=g6):=fK.of (fun k zA=>⟨28,(show k=g6 from zA)▸B.out.ty,by decide,by decide,by decide⟩);have bJ:Hid (xO w M ah h b g5 g6 (k+1) E aN T g):=⟨bG.out.kb r m (fun j l e=>by have N:j=g6:=e;have:=bg.out j l;have:=d.out;omega),by
      have bQ:=bf.out;exact bQ.kb r m (fun v z j l e=>by
       have N:j=g6:=e;have o:=bf.out.lt v z j l;rw[N]at o;exact absurd (o.one B.out.ty) (by decide)),U,bb.out,ap.out,bg.out,bN.out,bC.out.aw r (fun i aV e=>by have N:i=g6:=e;have:=d.out;have:=R.out;have:=H.out;omega),by have:=r.size;have:=bO.out;omega,aH.out.fr r (fun e=>by have N:g5=g6:=e;have:=d.out;omega)⟩;clear U r;go_wp2;go_roundw;case rel=>exact⟨k+1,aN,T,g,by have:=t.out;omega,by have:=t.out;omega,by go_num,bJ.out⟩
    case measure=>simp[intOf];have:=t.out;omega
  ·have cy:=c;have bd:Hid (∀W,Fr ag wr W→∀j x,ms[j]? =some x→W.cell? ((⟨g6,0,none⟩:Addr).add j)=some x):=fun W f j x ct=>by rw[Addr.add_mid,Nat.zero_add,(c.out.box.fr f (fun x=>x)).cell j,bD];exact ct
   have ae:Hid ((Tryz.prog.info? 28).map (·.size)=some ms.length):=by rw[Hid,c.out.mod.len];exact jf
   have ad:Hid ((Tryz.prog.info? 28).map (·.size)=some ms.toArray.size):=by rw[Hid,List.size_toArray,c.out.mod.len];exact jf
   have I:Hid (2=ms.toArray.size):=by rw[Hid,List.size_toArray,c.out.mod.len]
   have J:=af c.out.mod.one;by_cases o:k<aa
   ·obtain rfl:k=16:=by have:=b4.out;omega
    have t0:decide (((16:Nat):Int)<(aa:Int))=true:=dJ (by omega);have cv:decide ((16:Int)<(aa:Int))=true:=dJ (by omega);clear o Y;go_upto_region 11 with fail;refine iU 3 [.pointer (some ⟨h,0,none⟩), .agg ms.toArray, .pointer (some ⟨h,0,none⟩)] ?zL ?_;case zL=>
     refine⟨?zU,?zN,?zO,trivial⟩;all_goals intro u w' X bR
     all_goals simp only[z1,z2,z3,z4,au,Act.put,z5,z6,z7,Nat.reduceAdd,Nat.zero_add]
     case zN=>
      refine aC ?_;exact az _ _ rfl ⟨g6,0,none⟩ rfl ms _ (bd.out _ X) Tryz.underlying28 rfl ae.out aG
     case' zO=>simp only[show u 0=_ from bR 0]
     all_goals
      refine aC ?_;go_simp;exact aG
    intro w' X;simp only[z1,z2,z3,z4,au,Act.put,z5,z6,z7,z8,z9,iO,iP,Nat.reduceAdd,Nat.zero_add];have D:=af X;have aR:=af (c.out.out.fr X (fun x=>x));clear X;refine ai rfl 28 (.tmp 5) _ rfl g5 ms.toArray rfl rfl _ _ aR.out ad.out I.out J.out ?_;intro ah U r;have bK:=af U;have m:fK w' (fun j=>j=g5):=fK.of (fun j l=>⟨28,(show j=g5 from l)▸aR.out.ty,by decide,by decide,by decide⟩);have aP:=c.out.mod.aq D.out;have aJ:Hid (o6 w (.returned (.tuple #[.pointer (some ⟨h,0,none⟩), .agg ms.toArray])) ah):=⟨h,b,ms,E,L,T,rfl,(c.out.uQ.aq D.out).kb r m (fun j l e=>by have aT:j=g5:=e;have:=c.out.new j l;have:=d.out;omega),aP.kb r m (fun v z j l e=>by
      have aT:j=g5:=e;have o:=aP.lt v z j l;rw[aT]at o;exact absurd (o.one aR.out.ty) (by decide)),a8.out,c.out.run,(fun j l=>by have:=c.out.new j l;have:=d.out;have:=H.out;omega),(c.out.fr.trans D.out).aw r (fun i aV e=>by have aT:i=g5:=e;have:=H.out;omega),c.out.rows⟩;clear U r aP m;go_wp2;exact bodyPost_ret (fG (fn:=Tryz.f14) (p:=5) (q:=4) (ty:=28) Tryz.results14 _ ah _ 28 ms.toArray (0,0) _ rfl bK.out Tryz.underlying28 rfl ad.out _ rfl) rfl aJ.out
   ·obtain rfl:k=aa:=by have:=b4.out;omega
    have t0:decide ((k:Int)<(k:Int))=false:=cN (by omega);clear o Y;go_upto_region 11 with fail;refine iU 3 [.pointer (some ⟨h,0,none⟩), .agg ms.toArray, .pointer (some ⟨h,0,none⟩)] ?zM ?_;case zM=>
     refine⟨?zV,?zP,?zR,trivial⟩;all_goals intro u w' X bR
     all_goals simp only[z1,z2,z3,z4,au,Act.put,z5,z6,z7,Nat.reduceAdd,Nat.zero_add]
     case zP=>
      refine aC ?_;exact az _ _ rfl ⟨g6,0,none⟩ rfl ms _ (bd.out _ X) Tryz.underlying28 rfl ae.out aG
     case' zR=>simp only[show u 0=_ from bR 0]
     all_goals
      refine aC ?_;go_simp;exact aG
    intro w' X;simp only[z1,z2,z3,z4,au,Act.put,z5,z6,z7,z8,z9,iO,iP,Nat.reduceAdd,Nat.zero_add];have D:=af X;have aR:=af (c.out.out.fr X (fun x=>x));clear X;refine ai rfl 28 (.tmp 5) _ rfl g5 ms.toArray rfl rfl _ _ aR.out ad.out I.out J.out ?_;intro ah U r;have bK:=af U;have m:fK w' (fun j=>j=g5):=fK.of (fun j l=>⟨28,(show j=g5 from l)▸aR.out.ty,by decide,by decide,by decide⟩);have aP:=c.out.mod.aq D.out;have aJ:Hid (o6 w (.returned (.tuple #[.pointer (some ⟨h,0,none⟩), .agg ms.toArray])) ah):=⟨h,b,ms,E,L,T,rfl,(c.out.uQ.aq D.out).kb r m (fun j l e=>by have aT:j=g5:=e;have:=c.out.new j l;have:=d.out;omega),aP.kb r m (fun v z j l e=>by
      have aT:j=g5:=e;have o:=aP.lt v z j l;rw[aT]at o;exact absurd (o.one aR.out.ty) (by decide)),a8.out,c.out.run,(fun j l=>by have:=c.out.new j l;have:=d.out;have:=H.out;omega),(c.out.fr.trans D.out).aw r (fun i aV e=>by have aT:i=g5:=e;have:=H.out;omega),c.out.rows⟩;clear U r aP m;go_wp2;exact bodyPost_ret (fG (fn:=Tryz.f14) (p:=5) (q:=4) (ty:=28) Tryz.results14 _ ah _ 28 ms.toArray (0,0) _ rfl bK.out Tryz.underlying28 rfl ad.out _ rfl) rfl aJ.out
end Go.Proofs.YtphjagkehiklkaaGreatDoor
namespace Go.Proofs.YtphjagkehiklkaaGreatDoor
open Go.ChangeShapes Go.WideShapes Go.ChangeAt Go.RowKit Go.Deep
theorem xg:Tryz.prog.cellsOf 72=6:=by kernel_rfl
theorem Ig:Tryz.prog.cellsOf 55=1:=by kernel_rfl
theorem xA{H:Type}{enc:TypeId×Value→H}{w:World}{fuel:Nat}{v:Value}{x:DataW H×List MemPlace}
  (h:DataW.trod enc Tryz.prog w 0 (fun _=>true) true fuel 55 [v]=some x):
  ∃(A:Option Addr)(n c:Nat)(xs:List CV),v= .slice A n c∧CL w (Old w) A n xs∧n≤9223372036854775807∧n≤c:=by
 rcases open_slice Tryz.underlying55 h with⟨a,_⟩|⟨g,j,i,m,n,D,f,a,_⟩;·simp only[List.cons.injEq,and_true]at a;subst a;obtain⟨cs,b,_,d,e⟩:=An h;exact⟨_,_,_,cs,rfl,b,by omega,d⟩
 ·simp only[List.cons.injEq,and_true]at a;subst a;obtain⟨cs,b,_,d,e⟩:=An h;exact⟨_,_,_,cs,rfl,b,by omega,d⟩
theorem Gv{H:Type}{enc:TypeId×Value→H}{w:World}{fuel:Nat}{l:List Value}{x:DataW H×List MemPlace}
  (h:DataW.trod enc Tryz.prog w 0 (fun _=>true) true fuel 72 l=some x):qK w l:=by
 obtain⟨s,t,_,rfl,b,c,a⟩:=DataW.trod_struct Tryz.underlying72 h;rw[xg]at b;match l,b with
 |[v,y,z,x3,A,B],_=>
  have g0:=a 0 _ rfl;have g1:=a 1 _ rfl;have g2:=a 2 _ rfl;have g3:=a 3 _ rfl;have g4:=a 4 _ rfl;have g5:=a 5 _ rfl;match s,c with
  |[C,D,E,y3,y4,F],_=>
   simp[pf,qS,Ig]at g0 g1 g2 g3 g4 g5;obtain⟨a0,f,rfl,b0⟩:=DataW.trod_int Tryz.underlying3 g0;obtain⟨n,g,rfl,b1⟩:=DataW.trod_int Tryz.underlying3 g1;obtain⟨a2,i,rfl,b2⟩:=DataW.trod_int Tryz.underlying3 g2;obtain⟨a3,j,rfl,b3⟩:=DataW.trod_int Tryz.underlying5 g3;obtain⟨k,n4,o,d,rfl,p,m4,o4⟩:=xA g4;obtain⟨m,n5,c5,e,rfl,q,m5,r⟩:=xA g5;simp only[List.cons.injEq,and_true]at f g i j;subst f g i j;have u:=bounds_u8 b3;exact⟨a0,n,a2,a3,k,n4,o,d,_,m,n5,c5,e,_,by omega,by omega,rfl,⟨p,m4,o4⟩,⟨q,m5,r⟩⟩
theorem Df{H:Type}{enc:TypeId×Value→H}{w:World}{fuel:Nat}{a:Option Addr}{len cap:Nat}{x:DataW H×List MemPlace}
  (h:DataW.trod enc Tryz.prog w 0 (fun _=>true) true fuel 22 [.slice a len cap]=some x):ug w a len:=by
 rcases open_slice Tryz.underlying22 h with⟨b,_⟩|⟨l,z,t,m,n,D,s,b,_,y,hm,d,_,f⟩;·simp only[List.cons.injEq,Value.slice.injEq,and_true]at b;obtain⟨rfl,rfl,rfl⟩:=b;intro k v;omega
 ·simp only[List.cons.injEq,Value.slice.injEq,and_true]at b;obtain⟨rfl,rfl,rfl⟩:=b;simp only[if_true]at d;rw[xg]at f;intro i q;obtain⟨cs',o,e⟩:=f i (by omega);have g:=Gv e;obtain⟨_,p,c⟩:=World.cells?_some o;refine⟨l,cs',rfl,g,fun j u hu=>?_⟩;have r:j<6:=by
   have:=(List.getElem?_eq_some_iff.1 hu).1;rw[g.len]at this;exact this
  rw[c j r,←hu]
theorem De{H:Type}{enc:TypeId×Value→H}{w:World}{fuel:Nat}{a:Option Addr}{len cap:Nat}{x:DataW H×List MemPlace}
  (h:DataW.trod enc Tryz.prog w 0 (fun _=>true) true fuel 22 [.slice a len cap]=some x):
  ∃e:Unit,ug w a len∧True∧len≤cap∧cap≤9223372036854775807:=by
 refine⟨(),Df h,trivial,?_⟩;rcases open_slice Tryz.underlying22 h with⟨b,_⟩|⟨f,i,g,m,n,D,d,b,_,c,hm,_⟩;·simp only[List.cons.injEq,Value.slice.injEq,and_true]at b;obtain⟨rfl,rfl,rfl⟩:=b;exact⟨Nat.le_refl _,Nat.zero_le _⟩
 ·simp only[List.cons.injEq,Value.slice.injEq,and_true]at b;obtain⟨rfl,rfl,rfl⟩:=b;exact⟨c,by unfold maxLen at hm;exact hm⟩
end Go.Proofs.YtphjagkehiklkaaGreatDoor
namespace Go.Proofs.YtphjagkehiklkaaGreatDoor
open Go.RowKit Go.Shelf
theorem IG{E:List Ent}{L:List ActV}{k:Nat}{a:ActV}(h:L[k]? =some a):(dq E L).getD (k+1) []=bQ (db a):=by
 simp[dq,h]
theorem EF(E:List Ent)(L:List ActV)(c:gg L){k m:Nat}{a:ActV}(j:k<m)(hm:m≤L.length)(h:L[k]? =some a):
  oW (Lt.fW (dq E (L.take m))) (k:Int) (m:Int) (db a) (Lt.cR (dq E (L.take m)) (k+1))=0:=by
 have l:(dq E (L.take m)).length=m+1:=by rw[jS,List.length_take,Nat.min_eq_left hm]
 have i:=c.len;have e:=List.mem_of_getElem? h;have d:(L.take m)[k]? =some a:=by rw[List.getElem?_take,if_pos j];exact h
 have b:=Lt.Dm (m+1) (dq E (L.take m)) (k+1) l (by omega) (by omega);rw[IG d]at b;have f:(((k+1:Nat)):Int)=(k:Int)+1:=by omega
 have g:(((m+1:Nat)):Int)=(m:Int)+1:=by omega
 rw[f,g]at b;unfold oW;rw[if_neg (by omega),if_neg (by rw[(c.small a e).dec (c.ok a e)];simp),if_pos];unfold jl;rw[b.2,b.1,show Lt.fW (dq E (L.take m))=Lt.cS (dq E (L.take m))from if_neg (by simp[dq])];simp
theorem uy:gA clockA=true:=by kernel_rfl
theorem gV:gJ clockA:=⟨by decide,by simp[clockA],by
 intro c a;simp only[clockA,List.mem_singleton]at a;subst a;exact⟨by decide,by decide,by decide⟩,by decide,by decide⟩
theorem sK:eI [] clockA=(0,[clockA]):=by
 unfold eI;rw[if_neg (by rw[uy];decide)];rfl
theorem kf:gg [clockA]:=by
 have:=gg.nil.append gV (by decide);rw[sK]at this;exact this
theorem zD:Kt (eW nt (fS [clockA] []))= .tuple #[.string ⟨#[53]⟩, .bool true]:=by kernel_rfl
theorem zE:oW (Lt.fW (dq [] [clockA])) 0 1 (db clockA) (Lt.cR (dq [] [clockA]) 1)=0:=EF [] [clockA] kf (k:=0) (m:=1) (a:=clockA) (by decide) (by decide) rfl
theorem Ct(w:World)(b6:eG w)(b5:bH w):Calls Tryz.prog 13 #[] w (ui w):=by
 have an:=af b6;have K:=af b5;clear b6 b5;have bx:Hid (∀w' b,Fr ag w w'→fD w' b []→Calls Tryz.prog 29 #[.pointer (some ⟨b,0,none⟩)] w' (Eb w' [])):=fun w' b f h=>wW [] b w' h (an.out.aq f) (K.out.aq f) (cY.nil.more (by decide));have Y:Hid (∀w' h T cs,Fr ag w w'→fY w' h [] [] T→cT w' cs clockA→(∀k,T k→w.heap.size≤k)→Calls Tryz.prog 32 #[.pointer (some ⟨h,0,none⟩), .agg cs.toArray] w' (fun e l=>∃T',e= .returned (.int .i64 0)∧fY l h [] [clockA] T'∧Fr ag w l∧∀k,T' k→w.heap.size≤k)):=fun w' h T cs f n b4 I=>by
  refine(qB h [] [] T clockA cs w' n b4 (an.out.aq f) (K.out.aq f) gV.sz (fun b ce=>by cases ce) (by decide) (fun _=>by have:=gV.len;omega) (fun k P ch=>?_) (fun cr w2 s f2 aS=>?_)).mono ?_;·have N:=I k ch;have be:=K.out.Gr;have cq:=K.out.Gs;rcases P with rfl|rfl<;>omega
  ·exact lX _ clockA cs 0 s w2 (b4.aq f2) aS (an.out.aq (f.trans f2)) cY.nil gV.writes (by decide)
  ·rintro e w2⟨T',rfl,ax,f2,bi⟩;rw[sK]at ax⊢;exact⟨T',rfl,ax,f.aw f2 (fun i bk e=>by have:=I i e;omega),fun k P=>by
    rcases bi k P with N|N;·exact I k N
    ·have:=f.size;omega⟩
 have bB:Hid (∀w' h T,fY w' h [] [clockA] T→Calls Tryz.prog 38 #[.pointer (some ⟨h,0,none⟩), .int .i64 1] w' (Hl w' [] [clockA])):=fun w' h T n=>xP h [] [clockA] T w' n;obtain⟨C,E⟩:∃C,Lt.fW (dq [] [clockA])=C:=⟨_,rfl⟩;have y:C.length=32:=by rw[←E];exact Lt.j6 2 _ rfl (by decide) (nI _ _)
 have bA:Hid (∀w' h T,Fr ag w w'→fY w' h [] [clockA] T→Calls Tryz.prog 16 #[.pointer (some ⟨h,0,none⟩), .int .i64 1] w' (aK w' (.tuple #[.agg (C.map aT).toArray, .int .i64 0]))):=fun w' h T f n=>by
  have q:=tZ h [] [clockA] T 1 w' n (K.out.aq f) (by decide);have e:qD [] [clockA] 1= .tuple #[.agg (C.map aT).toArray, .int .i64 0]:=by rw[←E];rfl
  rw[e]at q;exact q
 obtain⟨p,D⟩:∃p,Lt.cR (dq [] [clockA]) 1=p:=⟨_,rfl⟩;obtain⟨J,M⟩:∃J:ByteArray,⟨(db clockA).toArray⟩=J:=⟨_,rfl⟩;have B:Hid (aJ J=db clockA∧J.size≤16777216):=by
  rw[Hid,←M];exact⟨AW _,by have:=gV.len;simp only[ByteArray.size,List.size_toArray];omega⟩
 have am:Hid (p.length≤1∧∀d∈p,d.length=32):=by
  rw[Hid,←D];exact⟨Lt.jy 1 _ _ (by decide) (by decide),Lt.tc 2 _ _ rfl (by decide) (nI _ _)⟩
 have bz:Hid (∀w' h T,Fr ag w w'→fY w' h [] [clockA] T→Calls Tryz.prog 15 #[.pointer (some ⟨h,0,none⟩), .int .i64 0, .int .i64 1] w' (fun e l=>∃A c,e= .returned (.tuple #[.agg [Value.int .i64 0, .int .i64 1, .string J, .slice A p.length c].toArray, .int .i64 0])∧Lt.ed l (fun _=>True) A p.length p∧Fr ag w' l)):=fun w' h T f n=>by
  refine(sD h [] [clockA] T 0 1 w' n (an.out.aq f) (K.out.aq f) (by decide) kf.ok (fun a bj=>(kf.small a bj).sz)).mono ?_;rintro e w2(⟨ay,_⟩|⟨k,m,a,v,P,hm,cf,cg,bg,rfl,bf⟩);·exact absurd ⟨by decide,by decide,by decide,by decide⟩ ay
  ·obtain rfl:k=0:=by omega
   obtain rfl:m=1:=by omega
   obtain rfl:clockA=a:=by simpa using bg
   have cc:Lt.cR (dq [] ([clockA].take 1)) (0+1)=p:=D;rw[cc]at bf;obtain⟨A,c,rfl,H,N,be,_⟩:=Lt.ed.iA bf rfl am.out.2;rw[M];exact⟨A,c,rfl,⟨H.rd.any,H.len,H.each⟩,bf.aq⟩
 have CV:Hid (∀w' A c,Fr ag w w'→Lt.ed w' (fun _=>True) A p.length p→Calls Tryz.prog 17 #[.agg (C.map aT).toArray, .agg [Value.int .i64 0, .int .i64 1, .string J, .slice A p.length c].toArray] w' (fun e l=>∃cs,e= .returned (.tuple #[.agg cs.toArray, .int .i64 0])∧cT l cs clockA∧Fr ag w' l)):=fun w' A c f H=>by
  refine(qE C y 0 1 J p p.length A c _ w' H (by have:=am.out.1;omega) (an.out.aq f) (K.out.aq f) B.out.2).mono ?_;rintro e w2⟨cs,a,cp,rfl,bj,f2,aG,cd,_⟩;rw[B.out.1,←E,←D,zE]at aG;subst aG;have:=cd rfl;rw[B.out.1,gV.dec uy]at this;obtain rfl:=Option.some.inj this;exact⟨cs,rfl,bj,f2⟩
 have ca:Hid (∀w' cs ds,cT w' cs clockA→cT w' ds clockA→Calls Tryz.prog 19 #[.agg cs.toArray, .agg ds.toArray] w' (aK w' (.bool true))):=fun w' cs ds N be=>by
  have q:=om clockA clockA cs ds w' N be (by decide) (by decide);rw[(uI clockA clockA).2 rfl]at q;exact q
 have bw:Hid (∀w' s,fD w' s (fS [clockA] [])→Calls Tryz.prog 53 #[.pointer (some ⟨s,0,none⟩), .agg kO] w' (aK w' (.tuple #[.string ⟨#[53]⟩, .bool true]))):=fun w' s h=>by
  have G:=(lR [clockA] [] 0 cY.nil kf.ok kf.small).kE (by decide);have q:=Hk (fS [clockA] []) nt s w' h G ⟨by decide,by decide⟩;rw[zD]at q;exact q
 have CL:Hid (∀w' h T,fY w' h [] [clockA] T→Calls Tryz.prog 46 #[.pointer (some ⟨h,0,none⟩)] w' (bG w' (.int .i64 1))):=fun w' h T n=>EN h [] [clockA] T w' n;have aO:Hid (Lt.cX (C.map aT).toArray):=Lt.cX.of y;generalize C.map aT=ap at*;clear E D M y B;go_enter Tryz.func13,Tryz.ntmps13;go_wp2_with fail;refine(qG _).mono ?_;rintro e w1⟨ci,rfl,aM,f1⟩;have aP:=af f1;have bS:Hid (fD w1 ci []):=⟨_,aM,rfl⟩;clear aM f1;go_wp2_with fail;refine(bx.out _ _ aP.out bS.out).mono ?_;rintro e w2⟨h,T,rfl,n,f2,I⟩;have bD:=af (aP.out.trans f2);have bK:=af n;have b0:Hid (∀k,T k→w.heap.size≤k):=fun k P=>by have:=I k P;have:=aP.out.size;omega
 clear n f2 I bx bS aP;go_wp2_with fail;refine(uz _).mono ?_;rintro e ct⟨cs,rfl,aE,f3,_⟩;have bE:=af (bD.out.trans f3);have bL:=af (bK.out.aq f3);have br:=af aE;clear aE f3 bK bD;go_wp2_with fail;refine(Y.out _ _ _ _ bE.out bL.out br.out b0.out).mono ?_;rintro e bm⟨T',rfl,n,f4,I⟩;have aX:=af f4;have aQ:=af n;clear n f4 I Y bL bE br b0;go_wp2_with fail;refine(bB.out _ _ _ aQ.out).mono ?_;rintro e bn⟨s,rfl,rfl,aS⟩;have bU:=af aS;clear aS bB;go_wp2_with fail;refine(bA.out _ _ _ aX.out aQ.out).mono ?_;rintro e bn⟨rfl,f5⟩;have bF:=af (aX.out.trans f5);have bM:=af (aQ.out.aq f5);have bV:=af (bU.out.aq f5);clear f5 bA aQ bU aX;go_wp2_with(refine ak rfl 38 rfl aR fV aD rfl ?_);intro bq aN;have L:=af aN;clear aN;generalize aH:bn.heap.size=g5 at*;have ah:=af aH;clear aH;have X:Hid (ao bq g5 38 aD):=by have h:=L.out.aF;rw[ah.out]at h;exact h
 go_wp2_with(refine ai rfl 38 (.tmp 5) _ rfl g5 ap.toArray rfl rfl _ _ X.out aO.out.info aO.out.zero aO.out.one ?_);intro cl b1 f6;have bt:=af b1;have f56:Fr ag bn cl:=L.out.fr.aw f6 (fun i bk e=>by have b2:i=g5:=e;have:=ah.out;omega);have aY:=af (bF.out.trans f56);have a1:=af (bM.out.aq f56);have bW:=af (bV.out.aq f56);clear b1 f6 f56 L X bF bM bV;go_wp2_with fail;refine(bz.out _ _ _ aY.out a1.out).mono ?_;rintro e bo⟨A,c,rfl,H,f7⟩;have aZ:=af (aY.out.trans f7);have bN:=af (a1.out.aq f7);have bX:=af (bW.out.aq f7);have bu:=af (bt.out.fr f7 (fun x=>x));have bC:=af H;clear f7 H bz aY a1 bW bt;obtain⟨z,o⟩:∃z,[Value.int .i64 0, .int .i64 1, .string J, .slice A p.length c]=z:=⟨_,rfl⟩;have a9:Hid (z.toArray.all (·.oneCell')=true):=by rw[Hid,←o];simp[Value.oneCell']
 have a4:Hid ((Tryz.prog.info? 33).map (·.size)=some z.toArray.size):=by rw[Hid,←o];exact iH
 have a5:Hid ((Tryz.prog.info? 33).map (·.size)=some z.length):=by rw[Hid,←o];exact iH
 have bb:Hid (df.toArray.size=z.toArray.size):=by rw[Hid,←o];rfl
 have Z:Hid (∀w',Fr ag bo w'→Calls Tryz.prog 17 #[.agg ap.toArray, .agg z.toArray] w' (fun e l=>∃cs,e= .returned (.tuple #[.agg cs.toArray, .int .i64 0])∧cT l cs clockA∧Fr ag w' l)):=fun w' f=>by rw[←o];exact CV.out w' A c (aZ.out.trans f) (bC.out.aq f)
 rw[o];clear o CV bC;go_wp2_with(refine ak rfl 33 rfl (.agg df.toArray) EK df.toArray rfl ?_);intro bq aN;have L:=af aN;clear aN;generalize aI:bo.heap.size=g7 at*;have aj:=af aI;clear aI;have X:Hid (ao bq g7 33 df.toArray):=by have h:=L.out.aF;rw[aj.out]at h;exact h
 go_wp2_with(refine ai rfl 33 (.tmp 7) _ rfl g7 z.toArray rfl rfl _ _ X.out a4.out bb.out a9.out ?_);intro bp b8 f8;have W:=af b8;have f78:Fr ag bo bp:=L.out.fr.aw f8 (fun i bk e=>by have b2:i=g7:=e;have:=aj.out;omega);have bI:=af (aZ.out.trans f78);have bO:=af (bN.out.aq f78);have bY:=af (bX.out.aq f78);have V:=af (bu.out.fr f78 (fun x=>x));have aa:=af (Z.out _ f78);have bR:Hid (∀j x,ap[j]? =some x→bp.cell? ((⟨g5,0,none⟩:Addr).add j)=some x):=kH V.out;have bQ:Hid (∀j x,z[j]? =some x→bp.cell? ((⟨g7,0,none⟩:Addr).add j)=some x):=kH W.out;have a6:Hid ((Tryz.prog.info? 38).map (·.size)=some ap.length):=by have q:=aO.out.info;rw[List.size_toArray]at q;exact q
 clear b8 f8 f78 L X aZ bN bX bu Z;go_wp2_with(refine aB rfl 38 (.tmp 5) rfl ⟨g5,0,none⟩ rfl ap _ ?zV Tryz.underlying38 rfl a6.out (bh.go ?zX));case zV=>exact bR.out
 unfold bh;go_wp2_with(refine aB rfl 33 (.tmp 7) rfl ⟨g7,0,none⟩ rfl z _ ?zU Tryz.underlying33 rfl a5.out (bh.go ?zW));case zU=>exact bQ.out
 unfold bh;go_wp2_with fail;refine aa.out.mono ?_;rintro e b7⟨ds,rfl,r,f9⟩;have bJ:=af (bI.out.trans f9);have bP:=af (bO.out.aq f9);have bZ:=af (bY.out.aq f9);have bs:=af r;have a3:Hid ((Tryz.prog.info? 46).map (·.size)=some ds.toArray.size):=by rw[Hid,List.size_toArray,r.len];exact bT
 have a2:Hid ((Tryz.prog.info? 46).map (·.size)=some ds.length):=by rw[Hid,r.len];exact bT
 have ba:Hid (6=ds.toArray.size):=by rw[Hid,List.size_toArray,r.len]
 have a8:=af (ActV.one r);clear r f9 aa bI bO bY V W bR bQ;go_wp2_with(refine ak rfl 46 rfl fH mJ #[.int .i64 0, .int .i64 0, .int .i64 0, .string ByteArray.empty, .slice none 0 0, .slice none 0 0] rfl ?_);intro cm nb;have a7:=af nb;clear nb;generalize aL:b7.heap.size=g9 at*;have al:=af aL;clear aL;have bv:Hid (ao cm g9 46 #[.int .i64 0, .int .i64 0, .int .i64 0, .string ByteArray.empty, .slice none 0 0, .slice none 0 0]):=by have h:=a7.out.aF;rw[al.out]at h;exact h
 go_wp2_with(refine ai rfl 46 (.tmp 9) _ rfl g9 ds.toArray rfl rfl _ _ bv.out a3.out ba.out a8.out ?_);intro bl gR f10;have S:=af gR;have t:Fr ag b7 bl:=a7.out.fr.aw f10 (fun i bk e=>by have b2:i=g9:=e;have:=al.out;omega);have ab:=af (bJ.out.trans t);have ad:=af (bP.out.aq t);have ar:=af (bZ.out.aq t);have Q:=af (bs.out.aq t);clear gR f10 t a7 bv bJ bP bZ bs;go_wp2_with fail;refine(qI _).mono ?_;rintro e cj⟨rfl,f11⟩;have av:=af (ar.out.aq f11);have ac:=af (ab.out.trans f11);have ae:=af (ad.out.aq f11);have R:=af (Q.out.aq f11);have U:=af (S.out.fr f11 (fun x=>x));have F:=af (bw.out _ _ av.out);generalize kO=b9 at*;clear f11 ar ab ad Q S av bw;go_wp2_with fail;refine F.out.mono ?_;rintro e ck⟨rfl,f12⟩;have aW:=af (ac.out.trans f12);have a0:=af (ae.out.aq f12);have aU:=af (R.out.aq f12);have aV:=af (U.out.fr f12 (fun x=>x));clear f12 ac ae R U F;go_upto_region 11 with fail;refine vR 28 [iS (.int .i64 0),iS (.bool true),iS (.bool true),iS (.int .i64 0),iS (.bool true),iS (.bool true),iS (.bool true),iS (.int .i64 0),iS (.bool true),iS (.bool true),iS (.bool true),iS (.agg ds.toArray),⟨fun co cn=>∃es:List Value,co= .agg es.toArray∧cT cn es clockA,fun _ _ _ f⟨es,e,h⟩=>⟨es,e,h.aq f⟩⟩,iS (.bool true),iS (.bool true),iS (.bool true),iS (.bool true),iS (.bool true),iS (.bool true),iS (.string ⟨#[53]⟩),iS (.bool true),iS (.bool true),iS (.bool true),iS (.pointer (some ⟨h,0,none⟩)),iS (.int .i64 1),iS (.bool true),iS (.bool true),iS (.bool true)] ?zY ?_;case zY=>
  refine⟨?yI,?zZ,?yA,?yB,?yC,?yD,?yE,?yF,?yG,?yH,?zA,?zB,?zC,?zF,?zG,?zH,?zI,?zJ,?zK,?zL,?zM,?zN,?zO,?zP,?zQ,?zR,?zS,?zT,trivial⟩;all_goals intro u w' O g
  all_goals simp only[z1,z2,z3,z4,au,Act.put,z5,z6,z7,Nat.reduceAdd,Nat.zero_add]
  case zZ=>
   simp only[show u 0=_ from g 0];refine aC ?_;go_simp;exact⟨_,rfl,aA,rfl⟩
  case' yA=>simp only[show u 1=_ from g 1]
  case' yB=>simp only[show u 2=_ from g 2]
  case yC=>
   simp only[show u 3=_ from g 3,show u 2=_ from g 2];refine aC ?_;go_simp;exact⟨_,rfl,aA,rfl⟩
  case' yD=>simp only[show u 2=_ from g 2,show u 4=_ from g 4]
  case' yE=>simp only[show u 5=_ from g 5]
  case' yF=>simp only[show u 6=_ from g 6]
  case yG=>
   simp only[show u 7=_ from g 7,show u 6=_ from g 6];refine aC ?_;go_simp;exact⟨_,rfl,aA,rfl⟩
  case' yH=>simp only[show u 6=_ from g 6,show u 8=_ from g 8]
  case' zA=>simp only[show u 9=_ from g 9]
  case zB=>
   simp only[show u 10=_ from g 10];refine aC ?_;exact az _ _ rfl ⟨g9,0,none⟩ rfl ds _ (kH (aV.out.fr O (fun x=>x))) Tryz.underlying46 rfl a2.out ⟨_,rfl,aA,rfl⟩
  case zC=>
   simp only[show u 10=_ from g 10];refine aC ?_;go_simp;refine(uz _).mono ?_;rintro e bm⟨es,rfl,he,f4,_⟩;exact⟨_,rfl,f4,⟨es,rfl,he⟩⟩
  case zF=>
   obtain⟨b3,bc,bd⟩:=g 12;simp only[show u 11=_ from g 11,bc,show u 10=_ from g 10];refine aC ?_;go_simp;refine(ca.out _ _ _ (aU.out.aq O) bd).mono ?_;rintro e bm⟨rfl,f4⟩;exact⟨_,rfl,f4,rfl⟩
  case' zG=>simp only[show u 10=_ from g 10,show u 13=_ from g 13]
  case' zH=>simp only[show u 14=_ from g 14]
  case' zI=>simp only[show u 15=_ from g 15]
  case' zJ=>simp only[show u 15=_ from g 15,show u 16=_ from g 16]
  case' zK=>simp only[show u 17=_ from g 17]
  case' zL=>simp only[show u 18=_ from g 18]
  case zM=>
   simp only[show u 19=_ from g 19,show u 18=_ from g 18];refine aC ?_;go_simp;exact⟨_,rfl,aA,rfl⟩
  case' zN=>simp only[show u 18=_ from g 18,show u 20=_ from g 20]
  case' zO=>simp only[show u 21=_ from g 21]
  case' zP=>simp only[show u 22=_ from g 22]
  case zQ=>
   simp only[show u 23=_ from g 23,show u 22=_ from g 22];refine aC ?_;go_simp;refine(CL.out _ _ _ (a0.out.aq O)).mono ?_;rintro e bm⟨rfl,rfl⟩;exact⟨_,rfl,aA,rfl⟩
  case zR=>
   simp only[show u 24=_ from g 24,show u 22=_ from g 22];refine aC ?_;go_simp;exact⟨_,rfl,aA,rfl⟩
  case' zS=>simp only[show u 22=_ from g 22,show u 25=_ from g 25]
  case' zT=>simp only[show u 26=_ from g 26]
  all_goals
   refine aC ?_;go_simp;exact⟨_,rfl,aA,rfl⟩
 intro u w' O g;simp only[z1,z2,z3,z4,au,Act.put,z5,z6,z7,z8,z9,Nat.reduceAdd,Nat.zero_add,show u 27=_ from g 27 (by omega)];clear g;have cb:=af (aW.out.trans O);clear O;go_wp2;go_ret;exact⟨rfl,cb.out⟩
theorem qg(s:ByteArray)(w:World)(j:bH w)(y:s.size<4294960000):Calls Tryz.prog 25 #[.string s] w (aK w (aP (bQ (aJ s)))):=by
 have CL:Hid (∀w',Fr ag w w'→Calls Tryz.prog 76 #[.string ({data:=#[1]}++s)] w' (aK w' (aP (bQ (aJ s))))):=fun w' f=>by
  have e:aJ ({data:=#[1]}++s)=1::aJ s:=so _ _;have h:=Lt.rJ ({data:=#[1]}++s) w' (j.aq f) (by have:=aL ({data:=#[1]}++s);rw[e,List.length_cons,aL]at this;omega);have t:dG ({data:=#[1]}++s)=1::aJ s:=e;rw[t]at h;exact h
 have a:=af (Lt.cX.of (ew (aJ s)));unfold aP at*;generalize((bQ (aJ s)).map aT).toArray=d at*;clear j;go_enter Tryz.func25,Tryz.ntmps25;go_wp2_with(refine ak rfl 38 rfl aR fV aD rfl ?_);intro w1 n1;have b:=af n1.fr;have c:=af n1.aF;clear n1;generalize k:w.heap.size=g at*;have o:=af k;clear k;go_wp2_with fail;refine(CL.out _ b.out).mono ?_;rintro e w2⟨rfl,f2⟩;have n:=af (b.out.trans f2);have m:=af (c.out.fr f2 (fun x=>x));clear f2 CL b c;go_wp2_with(refine ai rfl 38 (.tmp 2) _ rfl g d rfl rfl _ _ m.out a.out.info a.out.zero a.out.one ?_);intro l b5 f5;have q:=af b5;have r:Hid (Fr ag w l):=n.out.aw f5 (fun i v e=>by have u:i=g:=e;have:=o.out;omega);clear b5 f5;go_wp2;exact bodyPost_ret (results_cell_row (fn:=Tryz.f25) (p:=2) (ty:=38) Tryz.results25 _ l _ 38 d (0,0) _ rfl q.out Tryz.underlying38 rfl a.out.info) rfl ⟨rfl,r.out⟩
theorem uW(rt:List UInt8)(s:rt.length=32)(k m:Nat)(aH:k≤65536)(hm:m≤65536)(i:ByteArray)(path:List (List UInt8))(len:Nat)(A:Option Addr)(c:Nat)(S:Nat→Prop)(w:World)(ad:Lt.ed w S A len path)(o:len≤1048576)(ak:bH w)(a9:i.size≤16777216):
  Calls Tryz.prog 21 #[aP rt, .agg [Value.int .i64 (k:Int), .int .i64 (m:Int), .string i, .slice A len c].toArray] w (aK w (.bool (jl rt (k:Int) (m:Int) (aJ i) path))):=by
 have CL:Hid (∀w',Fr ag w w'→Calls Tryz.prog 25 #[.string i] w' (aK w' (aP (bQ (aJ i))))):=fun w' f=>qg i w' (ak.aq f) (by omega);have p:Hid (∀w',Fr ag w w'→Calls Tryz.prog 58 #[aP (bQ (aJ i)), .int .i64 ((k:Int)+1), .int .i64 ((m:Int)+1), .slice A len c] w' (aK w' (.tuple #[aP (Lt.bj (bQ (aJ i)) ((k:Int)+1) ((m:Int)+1) path).1, .int .i64 (Lt.bj (bQ (aJ i)) ((k:Int)+1) ((m:Int)+1) path).2.2]))):=fun w' f=>
  Lt.wV (bQ (aJ i)) (ew _) _ _ (by omega) path len A c S w' (ad.aq f) o (ak.aq f);have z:Hid ((Lt.bj (bQ (aJ i)) ((k:Int)+1) ((m:Int)+1) path).1.length=32):=Lt.iy (bQ (aJ i)) (ew _) _ _ path ad.each;have N:Hid (jl rt (k:Int) (m:Int) (aJ i) path=(decide ((Lt.bj (bQ (aJ i)) ((k:Int)+1) ((m:Int)+1) path).2.2=0)&&decide ((Lt.bj (bQ (aJ i)) ((k:Int)+1) ((m:Int)+1) path).1=rt))):=rfl;have aM:Hid (Lt.cX (rt.map aT).toArray):=Lt.cX.of s;have O:=af s;have G:Hid (Lt.cX ((Lt.bj (bQ (aJ i)) ((k:Int)+1) ((m:Int)+1) path).1.map aT).toArray):=Lt.cX.of z.out;have aA:Hid (m≤65536∧k≤65536):=⟨hm,aH⟩;generalize jl rt (k:Int) (m:Int) (aJ i) path=aS at*;unfold aP at CL p⊢;generalize ae:(bQ (aJ i)).map aT=aQ at*;generalize(Lt.bj (bQ (aJ i)) ((k:Int)+1) ((m:Int)+1) path).2.2=l at*;generalize(Lt.bj (bQ (aJ i)) ((k:Int)+1) ((m:Int)+1) path).1=fr at*;generalize C:fr.map aT=j at*;have K:=af C;generalize D:rt.map aT=t at*;have R:=af D;have aB:Hid (∀w:World,(binOp .eql 38 (.agg j.toArray) (.agg t.toArray)).run Tryz.prog w= .ok (.bool (decide (fr=rt))) w):=fun w=>by
  rw[←K.out,←R.out];exact vG w _ Tryz.underlying38 fr rt z.out O.out
 have T:Hid ((Tryz.prog.info? 38).map (·.size)=some j.length):=by have q:=G.out.info;rw[List.size_toArray]at q;exact q
 have U:Hid ((Tryz.prog.info? 38).map (·.size)=some t.length):=by have q:=aM.out.info;rw[List.size_toArray]at q;exact q
 have aU:Hid (IntKind.i64.wrap ((k:Int)+1)=(k:Int)+1):=IntWalk.i64_in _ (by have:=aA.out;omega);have aV:Hid (IntKind.i64.wrap ((m:Int)+1)=(m:Int)+1):=IntWalk.i64_in _ (by have:=aA.out;omega);clear ad o ak a9 s ae D C aH hm;go_enter Tryz.func21,Tryz.ntmps21;go_wp2_with(refine ay rfl 38 (.tmp 0) rfl t.toArray rfl ?_);intro w1 n1;have V:=af n1;clear n1;generalize E:w.heap.size=g2 at*;have aw:Hid (ao w1 g2 38 t.toArray):=by have q:=V.out.aF;rw[E]at q;exact q
 clear E;go_wp2_with(refine ay rfl 33 (.tmp 1) rfl [Value.int .i64 (k:Int), .int .i64 (m:Int), .string i, .slice A len c].toArray rfl ?_);intro w2 aI;have I:=af aI;clear aI;generalize F:w1.heap.size=n at*;have B:Hid (ao w2 n 33 [Value.int .i64 (k:Int), .int .i64 (m:Int), .string i, .slice A len c].toArray):=by have q:=I.out.aF;rw[F]at q;exact q
 clear F;have H:Hid (Fr ag w w2):=V.out.fr.trans I.out.fr;have ax:=af (aw.out.fr I.out.fr (fun x=>x));have y:Hid (∀W,Fr ag w2 W→W.cell? {block:=n,off:=0}=some (.int .i64 (k:Int))∧W.cell? {block:=n,off:=1}=some (.int .i64 (m:Int))∧W.cell? {block:=n,off:=2}=some (.string i)∧W.cell? {block:=n,off:=3}=some (.slice A len c)):=fun W f=>⟨(B.out.fr f (fun x=>x)).cell 0,(B.out.fr f (fun x=>x)).cell 1,(B.out.fr f (fun x=>x)).cell 2,(B.out.fr f (fun x=>x)).cell 3⟩;clear V I aw B;go_upto_region 1 with fail;refine lV 18 38 [fun v=>v= .pointer (some ⟨n,2,none⟩),fun v=>v= .string i,fun v=>v= .agg aQ.toArray,fun v=>v= .pointer (some ⟨n,0,none⟩),fun v=>v= .int .i64 (k:Int),fun v=>v= .int .i64 ((k:Int)+1),fun v=>v= .pointer (some ⟨n,1,none⟩),fun v=>v= .int .i64 (m:Int),fun v=>v= .int .i64 ((m:Int)+1),fun v=>v= .pointer (some ⟨n,3,none⟩),fun v=>v= .slice A len c,fun v=>v= .tuple #[.agg j.toArray, .int .i64 l],fun v=>v= .tuple #[.agg j.toArray, .int .i64 l],fun v=>v= .agg j.toArray,fun v=>v= .int .i64 l,fun _=>True,fun _=>True,fun v=>v= .int .i64 l] [] [(15,aD)] [(16,15,j.toArray)] (by kernel_rfl) (by kernel_rfl) (by kernel_rfl) trivial ?_ ?_
 ·refine⟨fun u w' b a d=>?_,fun u w' b a d=>?_,fun u w' b a d=>?_,fun u w' b a d=>?_,fun u w' b a d=>?_,fun u w' b a d=>?_,fun u w' b a d=>?_,fun u w' b a d=>?_,fun u w' b a d=>?_,fun u w' b a d=>?_,fun u w' b a d=>?_,fun u w' b a d=>?_,fun u w' b a d=>?_,fun u w' b a d=>?_,fun u w' b a d=>?_,fun u w' b a=>?_,fun u w' g b a a8 al=>?_,fun u w' b a d=>?_,trivial⟩;all_goals simp only[bJ,bK,bL,bM,au,Act.put,bN,bO,bP,Nat.reduceAdd,Nat.zero_add]
  ·clear a d;refine aj ?_;go_simp;exact⟨_,rfl,da⟩
  ·have aX:u 0=_:=a 0 (by kernel_rfl);clear a d;simp only[aX];refine aj ?_;have q:=y.out _ b;obtain⟨am,an,ap,ar⟩:=q;go_simp;exact⟨_,rfl,da⟩
  ·have aY:u 1=_:=a 1 (by kernel_rfl);clear a d;simp only[aY];refine aj ?_;go_simp;refine(CL.out _ (H.out.trans b)).mono ?_;rintro e av⟨rfl,f4⟩;exact⟨_,rfl,rfl,trivial,f4⟩
  ·clear a d;refine aj ?_;go_simp;exact⟨_,rfl,da⟩
  ·have a0:u 3=_:=a 3 (by kernel_rfl);clear a d;simp only[a0];refine aj ?_;have q:=y.out _ b;obtain⟨am,an,ap,ar⟩:=q;go_simp;exact⟨_,rfl,da⟩
  ·have a1:u 4=_:=a 4 (by kernel_rfl);clear a d;simp only[a1];refine aj ?_;have bc:=aU.out;go_simp;exact⟨_,rfl,da⟩
  ·clear a d;refine aj ?_;go_simp;exact⟨_,rfl,da⟩
  ·have a3:u 6=_:=a 6 (by kernel_rfl);clear a d;simp only[a3];refine aj ?_;have q:=y.out _ b;obtain⟨am,an,ap,ar⟩:=q;go_simp;exact⟨_,rfl,da⟩
  ·have a4:u 7=_:=a 7 (by kernel_rfl);clear a d;simp only[a4];refine aj ?_;have bd:=aV.out;go_simp;exact⟨_,rfl,da⟩
  ·clear a d;refine aj ?_;go_simp;exact⟨_,rfl,da⟩
  ·have a6:u 9=_:=a 9 (by kernel_rfl);clear a d;simp only[a6];refine aj ?_;have q:=y.out _ b;obtain⟨am,an,ap,ar⟩:=q;go_simp;exact⟨_,rfl,da⟩
  ·have aZ:u 2=_:=a 2 (by kernel_rfl);have a2:u 5=_:=a 5 (by kernel_rfl);have a5:u 8=_:=a 8 (by kernel_rfl);have X:u 10=_:=a 10 (by kernel_rfl);clear a d;simp only[aZ,a2,a5,X];refine aj ?_;go_simp;refine(p.out _ (H.out.trans b)).mono ?_;rintro e av⟨rfl,f4⟩;exact⟨_,rfl,rfl,trivial,f4⟩
  ·have Y:u 11=_:=a 11 (by kernel_rfl);clear a d;simp only[Y];refine aj ?_;go_simp;exact⟨_,rfl,da⟩
  ·have r:u 12=_:=a 12 (by kernel_rfl);clear a d;simp only[r];refine aj ?_;go_simp;exact⟨_,rfl,da⟩
  ·have r:u 12=_:=a 12 (by kernel_rfl);clear a d;simp only[r];refine aj ?_;go_simp;exact⟨_,rfl,da⟩
  ·clear a;refine aj ?_;refine fT 38 rfl aR fV aD rfl ?_;intro av n4;exact⟨_,rfl,trivial,trivial,rfl,n4⟩
  ·have Z:u 13=_:=a 13 (by kernel_rfl);clear a;simp only[Z,a8];refine aj ?_;obtain⟨cs,hm,al⟩:=al;obtain rfl:cs=aD:=by simpa using hm
   refine Lt.iM 38 (.tmp 5) (.tmp 20) rfl g j.toArray rfl rfl _ _ al G.out.info G.out.zero G.out.one ?_;intro av b4 f4;exact⟨_,rfl,trivial,b4,f4⟩
  ·have aa:u 14=_:=a 14 (by kernel_rfl);clear a d;simp only[aa];refine aj ?_;go_simp;exact⟨_,rfl,da⟩
 intro u w' b a aE a7;have ac:u 17=_:=a 17 (by omega);obtain⟨g8,ab,ba,b8⟩:=aE 15 aD (by simp);have aL:Hid (ao w' g8 38 j.toArray):=b8;have aN:=af (H.out.trans b);have J:=af (ax.out.fr b (fun x=>x));clear a aE a7 b b8 ba CL p y H ax;simp only[bJ,bK,bL,bM,au,Act.put,bN,bO,bP,dL,dM,Nat.reduceAdd,Nat.zero_add,ac,ab];generalize w'=bb at*;obtain⟨P,ah⟩:∃P,(l==0)=P:=⟨_,rfl⟩;have L:=af ah;obtain⟨Q,ai⟩:∃Q,(decide (fr=rt))=Q:=⟨_,rfl⟩;have M:Hid (aS=(bif P then Q else false)):=by
  rw[Hid,N.out,ai,←ah];have aW:decide (l=0)=(l==0):=by by_cases h:l=0<;>simp[h]
  rw[aW];cases(l==0)<;>rfl
 rw[ai]at aB;clear ah ai;go_upto_region 2 with fail;refine gZ 8 [.int .i64 l, .bool P, .bool P,bif P then .agg j.toArray else undef,bif P then .agg t.toArray else undef,bif P then .bool Q else undef,bif P then .bool Q else .bool false,bif P then .bool Q else .bool false] ?zA ?_;case zA=>
  refine⟨?zI,?zB,?zC,?zD,?zE,?zF,?zG,?zH,trivial⟩;all_goals intro u w' b a
  all_goals simp only[z1,z2,z3,z4,au,Act.put,z5,z6,z7,Nat.reduceAdd,Nat.zero_add]
  case zB=>
   simp only[show u 0=_ from a 0];refine aC ?_;have t1:=L.out;go_simp;exact aG
  case' zC=>simp only[show u 1=_ from a 1]
  case zD=>
   simp only[show u 2=_ from a 2];cases P;case false=>exact bR
   refine aC ?_;exact az _ _ rfl ⟨g8,0,none⟩ rfl j _ (kH (aL.out.fr b (fun x=>x))) Tryz.underlying38 rfl T.out aG
  case zE=>
   simp only[show u 2=_ from a 2];cases P;case false=>exact bR
   refine aC ?_;exact az _ _ rfl ⟨g2,0,none⟩ rfl t _ (kH (J.out.fr b (fun x=>x))) Tryz.underlying38 rfl U.out aG
  case zF=>
   simp only[show u 3=_ from a 3,show u 4=_ from a 4,show u 2=_ from a 2];cases P;case false=>exact bR
   refine aC ?_;exact eS _ _ _ _ _ rfl _ _ rfl rfl Tryz.eqGuardType38 _ (aB.out _) aG
  case' zG=>
   simp only[show u 2=_ from a 2,show u 5=_ from a 5];cases P
  case' zH=>
   simp only[show u 6=_ from a 6];cases P
  all_goals
   try simp only[cond]
   refine aC ?_;go_simp;exact aG
 intro w' b;simp only[z1,z2,z3,z4,au,Act.put,z5,z6,z7,z8,z9,iO,iP,Nat.reduceAdd,Nat.zero_add];have aO:=af (aN.out.trans b);clear b;go_wp2;go_ret;exact⟨by rw[M.out];first|rfl|(cases P<;>rfl),aO.out⟩
end Go.Proofs.YtphjagkehiklkaaGreatDoor
namespace Go.Proofs.YtphjagkehiklkaaGreatDoor
open Go.RowKit Go.ChangeShapes Go.WideShapes Go.Deep
structure Jt where
 index:Int
 n:Int
 text:ByteArray
 A:Option Addr
 len:Nat
 cap:Nat
 path:List (List UInt8)
def Jt.val(p:Jt):Value:= .agg [Value.int .i64 p.index, .int .i64 p.n, .string p.text, .slice p.A p.len p.cap].toArray
structure Jt.kE(p:Jt)(w:World):Prop where
 path:Lt.ed w (Old w) p.A p.len p.path
 le:p.len≤p.cap
 cap:p.cap≤9223372036854775807
 text:p.text.size≤9223372036854775807
end Go.Proofs.YtphjagkehiklkaaGreatDoor
namespace Go.Proofs.YtphjagkehiklkaaGreatDoor.Lt
open Go.RowKit Go.ChangeMaps
def qO(w:World)(b r n:Nat)(ds:List (List UInt8))(C X:Nat→Nat→Prop):Prop:=
 ∃es clock seen,w.heap[b]? =some (.map es clock)∧w.heap[r]? =some (.mapIter (some b) clock seen clock)∧(∀e∈es.toList,qA ds C e)∧
  (∀l i,C l i→(i+1)*2^l≤n→∃e∈es.toList,e.key=gE l i)∧ou es clock∧(∀e∈es.toList,seen.contains e.born=true→∃l i,e.key=gE l i∧((i+1)*2^l≤n∨X l i))
theorem qO.fr{w w':World}{T:Nat→Prop}{b r n:Nat}{ds:List (List UInt8)}{C X:Nat→Nat→Prop}(h:qO w b r n ds C X)(d:Fr T w w')(j:¬T b)(k:¬T r):qO w' b r n ds C X:=by
 obtain⟨es,clock,seen,a,c,e,f,g,i⟩:=h;exact⟨es,clock,seen,(d.block b (Array.getElem?_eq_some_iff.1 a).1 j).trans a,(d.block r (Array.getElem?_eq_some_iff.1 c).1 k).trans c,e,f,g,i⟩
theorem qO.lt{w:World}{b r n:Nat}{ds:List (List UInt8)}{C X:Nat→Nat→Prop}(h:qO w b r n ds C X):b<w.heap.size∧r<w.heap.size:=by
 obtain⟨es,clock,seen,a,c,_⟩:=h;exact⟨(Array.getElem?_eq_some_iff.1 a).1,(Array.getElem?_eq_some_iff.1 c).1⟩
theorem oP(ds:List (List UInt8))(n:Nat):∀l i,(i+1)*2^l≤n→aH (ds.take n) l i=aH ds l i
 |0,i,h=>by
  have b:i<n:=by omega
  simp only[aH];rw[List.getD_eq_getElem?_getD,List.getD_eq_getElem?_getD,List.getElem?_take_of_lt b]
 |l+1,i,h=>by
  have c:2^(l+1)=2*2^l:=by rw[Nat.pow_succ];omega
  have a:(i+1)*2^(l+1)=(2*i+1+1)*2^l:=by rw[c,←Nat.mul_assoc];congr 1;omega
  have d:(2*i+1+1)*2^l=(2*i+1)*2^l+2^l:=by rw[Nat.add_mul,Nat.one_mul]
  rw[a]at h;rw[aH,aH,oP ds n l (2*i) (by omega),oP ds n l (2*i+1) h]
theorem dO.take{w:World}{b n m:Nat}{ds:List (List UInt8)}(h:dO w b ds (fun l i=>bC m l i∧(i+1)*2^l≤n))(c:n≤m):dO w b (ds.take n) (bC n):=by
 obtain⟨es,clock,f,g,j,k⟩:=h;refine⟨es,clock,f,fun e he=>?_,fun l i a=>?_,k⟩;·obtain⟨l,i,o,p,q,d⟩:=g e he;exact⟨l,i,o,by rw[p,oP ds n l i d],q.1,d⟩
 ·exact j l i ⟨⟨a.1,Nat.le_trans a.2 c⟩,a.2⟩
end Go.Proofs.YtphjagkehiklkaaGreatDoor.Lt
