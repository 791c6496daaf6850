/- Texts. -/
import Derived.Test.YtphjagkehiklkaaGreatDoorWK30
import Derived.Test.YtphjagkehiklkaaGreatDoorWK35
set_option linter.unusedVariables false
set_option linter.unusedSimpArgs false
set_option maxRecDepth 100000
set_option maxHeartbeats 8000000
namespace Go.Proofs.YtphjagkehiklkaaGreatDoor
open Go.RowKit Go.Shelf
def uM(rt:List UInt8)(i n:Int)(l:List UInt8)(path:List (List UInt8)):Bool:=decide ((Lt.dn (dV l) (i+1) (n+1) path).2.2=0)&&decide ((Lt.dn (dV l) (i+1) (n+1) path).1=rt)
def rk(rt:List UInt8)(i n:Int)(l:List UInt8)(path:List (List UInt8)):Int:=
 if n<1∨65536<n∨i<0∨n≤i then 2 else if mJ l=none then 3 else if uM rt i n l path=true then 0 else 35
def mW(w:World)(rt:List UInt8)(i n:Int)(l:List UInt8)(path:List (List UInt8))(e:Ending)(w':World):Prop:=
 ∃cs a b,e= .returned (.tuple #[.agg cs.toArray, .int .i64 b])∧df w' cs a∧Fr ag w w'∧b=rk rt i n l path∧(b=0→mJ l=some a)∧(b≠0→a=oa)
theorem xo(rt:List UInt8)(av:rt.length=32)(i n:Int)(d:ByteArray)(path:List (List UInt8))(len:Nat)(A:Option Addr)(c:Nat)(S:Nat→Prop)(w:World)(bA:Lt.eM w S A len path)(V:len≤1048576)(ci:eE w)(bF:bB w)(cj:d.size≤16777216):
  Calls Tryz.prog 17 #[aE rt, .agg [Value.int .i64 i, .int .i64 n, .string d, .slice A len c].toArray] w (mW w rt i n (aR d) path):=by
 have D:Hid (rk rt i n (aR d) path=if n<1∨65536<n∨i<0∨n≤i then 2 else if mJ (aR d)=none then 3 else if uM rt i n (aR d) path=true then 0 else 35):=rfl;have b3:Hid (∀w',Fr ag w w'→Calls Tryz.prog 20 #[.string d] w' (xk w' (aR d))):=fun w' f=>D0 d w' (ci.ar f) cj;have CL:Hid (∀w',Fr ag w w'→Calls Tryz.prog 59 #[.string d] w' (aJ w' (aE (dV (aR d))))):=fun w' f=>uz d w' (bF.ar f) (by omega);have Y:Hid (∀(k m:Nat)w',Fr ag w w'→m≤65536→Calls Tryz.prog 58 #[aE (dV (aR d)), .int .i64 ((k:Int)+1), .int .i64 ((m:Int)+1), .slice A len c] w' (aJ w' (.tuple #[aE (Lt.dn (dV (aR d)) ((k:Int)+1) ((m:Int)+1) path).1, .int .i64 (Lt.dn (dV (aR d)) ((k:Int)+1) ((m:Int)+1) path).2.2]))):=fun k m w' f hm=>
  Lt.D3 (dV (aR d)) (jL _) _ _ (by omega) path len A c S w' (bA.ar f) V (bF.ar f);have aU:Hid (∀k m:Int,(Lt.dn (dV (aR d)) k m path).1.length=32):=fun k m=>Lt.oO (dV (aR d)) (jL _) k m path bA.each;have l:Hid (∀ae:Int,rk rt i n (aR d) path=ae→ae≠0→∀w',Fr ag w w'→mW w rt i n (aR d) path (.returned (.tuple #[.agg ca.toArray, .int .i64 ae])) w'):=fun ae R T w' f=>⟨_,_,_,rfl,qt w',f,R.symm,fun h=>absurd h T,fun _=>rfl⟩;have r:Hid (∀cs a w',rk rt i n (aR d) path=0→mJ (aR d)=some a→df w' cs a→Fr ag w w'→mW w rt i n (aR d) path (.returned (.tuple #[.agg cs.toArray, .int .i64 0])) w'):=fun cs a w' R T al f=>⟨_,_,_,rfl,al,f,R.symm,fun _=>T,fun h=>absurd rfl h⟩;have aX:Hid (∀k m:Nat,uM rt (k:Int) (m:Int) (aR d) path=(decide ((Lt.dn (dV (aR d)) ((k:Int)+1) ((m:Int)+1) path).2.2=0)&&decide ((Lt.dn (dV (aR d)) ((k:Int)+1) ((m:Int)+1) path).1=rt))):=fun _ _=>rfl;have cq:Hid (Lt.bT (rt.map aS).toArray):=Lt.bT.of av;have bk:=af av;have cp:Hid (Lt.bT ((dV (aR d)).map aS).toArray):=Lt.bT.of (jL _);unfold aE at CL Y⊢;generalize bC:(dV (aR d)).map aS=cv at*;generalize a5:rt.map aS=aC at*;have bl:=af a5;generalize mW w rt i n (aR d) path=PP at*;clear bA V ci bF cj av bC a5;go_enter Tryz.func17,Tryz.ntmps17;go_wp2_with(refine aA rfl 38 (.tmp 0) rfl aC.toArray rfl ?_);intro w1 n1;have bc:=af n1;clear n1;generalize ap:w.heap.size=g2 at*;have bX:Hid (aq w1 g2 38 aC.toArray):=by have q:=bc.out.aH;rw[ap]at q;exact q
 have ct:Hid (w.heap.size≤g2):=by rw[Hid,ap];exact Nat.le_refl _
 clear ap;go_wp2_with(refine aA rfl 33 (.tmp 1) rfl [Value.int .i64 i, .int .i64 n, .string d, .slice A len c].toArray rfl ?_);intro w2 ck;have a0:=af ck;clear ck;generalize a9:w1.heap.size=H at*;have cd:Hid (aq w2 H 33 [Value.int .i64 i, .int .i64 n, .string d, .slice A len c].toArray):=by have q:=a0.out.aH;rw[a9]at q;exact q
 clear a9;go_wp2_with(refine ak rfl 46 rfl fH oc ca.toArray rfl ?_);intro w3 n3;have a1:=af n3;clear n3;generalize a7:w2.heap.size=g4 at*;have aK:Hid (aq w3 g4 46 ca.toArray):=by have q:=a1.out.aH;rw[a7]at q;exact q
 have Z:Hid (Fr ag w w3):=(bc.out.fr.trans a0.out.fr).trans a1.out.fr;have E:Hid (w.heap.size≤g4):=by have:=(bc.out.fr.trans a0.out.fr).size;simp only[Hid];omega
 clear a7;have bY:=af ((bX.out.fr a0.out.fr (fun x=>x)).fr a1.out.fr (fun x=>x));have a2:=af (cd.out.fr a1.out.fr (fun x=>x));clear bc a0 a1 bX cd;have M:Hid (∀W,Fr ag w3 W→W.cell? {block:=H,off:=0}=some (.int .i64 i)∧W.cell? {block:=H,off:=1}=some (.int .i64 n)∧W.cell? {block:=H,off:=2}=some (.string d)∧W.cell? {block:=H,off:=3}=some (.slice A len c)):=fun W f=>⟨(a2.out.fr f (fun x=>x)).cell 0,(a2.out.fr f (fun x=>x)).cell 1,(a2.out.fr f (fun x=>x)).cell 2,(a2.out.fr f (fun x=>x)).cell 3⟩;obtain⟨cO,cP,cQ,x3⟩:=M.out _ aD;by_cases R:n<1;·have t1:decide (n<1)=true:=decide_eq_true R;have G:=af (l.out 2 (by rw[D.out,if_pos (by omega)]) (by decide));clear l r;go_wp2_with(first|(refine wpList_buildTo rfl 46 #[] rfl ca.toArray fO ?_)|(refine ai rfl 46 (.tmp 4) _ rfl g4 ca.toArray rfl rfl _ _ aK.out bZ rfl fU ?_));intro t C y;have I:=af C;have J:Hid (Fr ag w t):=Z.out.aw y (fun i au e=>by have ad:i=g4:=e;have:=E.out;omega);clear C y;go_wp2;exact bodyPost_ret (aZ (fn:=Tryz.f17) (p:=4) (q:=5) (ty:=46) Tryz.results17 _ t _ 46 ca.toArray (0,0) _ rfl I.out Tryz.underlying46 rfl bZ _ rfl) rfl (G.out t J.out)
 have t1:decide (n<1)=false:=decide_eq_false R;by_cases T:65536<n;·have t2:decide (65536<n)=true:=decide_eq_true T;have G:=af (l.out 2 (by rw[D.out,if_pos (by omega)]) (by decide));clear l r;go_wp2_with(first|(refine wpList_buildTo rfl 46 #[] rfl ca.toArray fO ?_)|(refine ai rfl 46 (.tmp 4) _ rfl g4 ca.toArray rfl rfl _ _ aK.out bZ rfl fU ?_));intro t C y;have I:=af C;have J:Hid (Fr ag w t):=Z.out.aw y (fun i au e=>by have ad:i=g4:=e;have:=E.out;omega);clear C y;go_wp2;exact bodyPost_ret (aZ (fn:=Tryz.f17) (p:=4) (q:=5) (ty:=46) Tryz.results17 _ t _ 46 ca.toArray (0,0) _ rfl I.out Tryz.underlying46 rfl bZ _ rfl) rfl (G.out t J.out)
 have t2:decide (65536<n)=false:=decide_eq_false T;by_cases al:i<0;·have t3:decide (i<0)=true:=decide_eq_true al;have G:=af (l.out 2 (by rw[D.out,if_pos (by omega)]) (by decide));clear l r;go_wp2_with(first|(refine wpList_buildTo rfl 46 #[] rfl ca.toArray fO ?_)|(refine ai rfl 46 (.tmp 4) _ rfl g4 ca.toArray rfl rfl _ _ aK.out bZ rfl fU ?_));intro t C y;have I:=af C;have J:Hid (Fr ag w t):=Z.out.aw y (fun i au e=>by have ad:i=g4:=e;have:=E.out;omega);clear C y;go_wp2;exact bodyPost_ret (aZ (fn:=Tryz.f17) (p:=4) (q:=5) (ty:=46) Tryz.results17 _ t _ 46 ca.toArray (0,0) _ rfl I.out Tryz.underlying46 rfl bZ _ rfl) rfl (G.out t J.out)
 have t3:decide (i<0)=false:=decide_eq_false al;by_cases a3:n≤i;·have t4:decide (n≤i)=true:=decide_eq_true a3;have G:=af (l.out 2 (by rw[D.out,if_pos (by omega)]) (by decide));clear l r;go_wp2_with(first|(refine wpList_buildTo rfl 46 #[] rfl ca.toArray fO ?_)|(refine ai rfl 46 (.tmp 4) _ rfl g4 ca.toArray rfl rfl _ _ aK.out bZ rfl fU ?_));intro t C y;have I:=af C;have J:Hid (Fr ag w t):=Z.out.aw y (fun i au e=>by have ad:i=g4:=e;have:=E.out;omega);clear C y;go_wp2;exact bodyPost_ret (aZ (fn:=Tryz.f17) (p:=4) (q:=5) (ty:=46) Tryz.results17 _ t _ 46 ca.toArray (0,0) _ rfl I.out Tryz.underlying46 rfl bZ _ rfl) rfl (G.out t J.out)
 have t4:decide (n≤i)=false:=decide_eq_false a3;have ac:Hid (¬(n<1∨65536<n∨i<0∨n≤i)):=by simp only[Hid];omega
 go_wp2_with fail;refine(b3.out _ Z.out).mono ?_;rintro e X⟨cs,a,ae,rfl,an,f4,K⟩;have b9:=af (Z.out.trans f4);have bd:=af an;have bq:=af (aK.out.fr f4 (fun x=>x));have b0:=af (bY.out.fr f4 (fun x=>x));have aO:Hid (∀W,Fr ag X W→W.cell? {block:=H,off:=0}=some (.int .i64 i)∧W.cell? {block:=H,off:=1}=some (.int .i64 n)∧W.cell? {block:=H,off:=2}=some (.string d)∧W.cell? {block:=H,off:=3}=some (.slice A len c)):=fun W f=>M.out W (f4.trans f);have N:=af K;have ba:=an.len;have F:=af ba;clear K an f4 cO cP cQ x3 M a2 Z aK bY b3 ba;go_wp2_with(refine ak rfl 46 rfl fH oc ca.toArray rfl ?_);intro cL cl;have bo:=af cl;clear cl;generalize a8:X.heap.size=g6 at*;have b5:Hid (aq cL g6 46 ca.toArray):=by have q:=bo.out.aH;rw[a8]at q;exact q
 have bh:Hid (X.heap.size≤g6∧g4<g6∧w.heap.size≤g6):=by have:=bq.out.lt;have:=b9.out.size;simp only[Hid];omega
 clear a8;go_wp2_with(refine ai rfl 46 (.tmp 6) _ rfl g6 cs.toArray rfl rfl _ _ b5.out (py _ F.out) (by rw[List.size_toArray,List.size_toArray,F.out];rfl) (ActV.one bd.out) ?_);intro cM cf f6;have b6:=af cf;have ax:Hid (Fr ag X cM):=bo.out.fr.aw f6 (fun i au e=>by have ad:i=g6:=e;have:=bh.out;omega);have aP:=af (b9.out.trans ax.out);have aQ:=af ax.out;have bU:=af (bd.out.ar ax.out);have br:=af (bq.out.fr ax.out (fun x=>x));have b1:=af (b0.out.fr ax.out (fun x=>x));clear cf f6 bo b5 ax bq b0 bd;by_cases ao:ae=0;case neg=>
  obtain⟨rfl,a6,_⟩:ae=3∧mJ (aR d)=none∧a=oa:=by
   rcases N.out with⟨h,_⟩|h;·exact absurd h ao
   ·exact h
  have be:=af a6;have t5:((3:Int)!=0)=true:=rfl;clear ao a6 N;have G:=af (l.out 3 (by rw[D.out,if_neg ac.out,if_pos be.out]) (by decide));clear l r;go_wp2_with(first|(refine wpList_buildTo rfl 46 #[] rfl ca.toArray fO ?_)|(refine ai rfl 46 (.tmp 4) _ rfl g4 ca.toArray rfl rfl _ _ br.out bZ rfl fU ?_));intro t C y;have I:=af C;have J:Hid (Fr ag w t):=aP.out.aw y (fun i au e=>by have ad:i=g4:=e;have:=E.out;omega);clear C y;go_wp2;exact bodyPost_ret (aZ (fn:=Tryz.f17) (p:=4) (q:=5) (ty:=46) Tryz.results17 _ t _ 46 ca.toArray (0,0) _ rfl I.out Tryz.underlying46 rfl bZ _ rfl) rfl (G.out t J.out)
 subst ao;have t5:((0:Int)!=0)=false:=rfl;have aa:Hid (mJ (aR d)=some a):=by
  rcases N.out with⟨_,h⟩|⟨h,_⟩;·exact h
  ·cases h
 clear N;obtain⟨m,rfl⟩:∃m:Nat,n=m:=⟨n.toNat,by omega⟩;obtain⟨k,rfl⟩:∃k:Nat,i=k:=⟨i.toNat,by omega⟩;have bi:Hid (m≤65536∧k≤65536):=by simp only[Hid];omega
 have cx:Hid (IntKind.i64.wrap ((k:Int)+1)=(k:Int)+1):=IntWalk.i64_in _ (by have:=bi.out;omega);have cy:Hid (IntKind.i64.wrap ((m:Int)+1)=(m:Int)+1):=IntWalk.i64_in _ (by have:=bi.out;omega);have aN:=af (fun w' f=>Y.out k m w' f bi.out.1);have aV:=af (aU.out ((k:Int)+1) ((m:Int)+1));have aW:=af (aX.out k m);have bb:Hid (Lt.bT ((Lt.dn (dV (aR d)) ((k:Int)+1) ((m:Int)+1) path).1.map aS).toArray):=Lt.bT.of aV.out;generalize(Lt.dn (dV (aR d)) ((k:Int)+1) ((m:Int)+1) path).2.2=U at*;generalize(Lt.dn (dV (aR d)) ((k:Int)+1) ((m:Int)+1) path).1=fr at*;generalize a4:fr.map aS=L at*;have bg:=af a4;clear a4 Y aU aX t1 t2 t3 t4 R T al a3;have M:=af (fun W f=>aO.out W f);have bp:Hid (∀w:World,(binOp .neq 38 (.agg L.toArray) (.agg aC.toArray)).run Tryz.prog w= .ok (.bool (!decide (fr=rt))) w):=fun w=>by
  rw[←bg.out,←bl.out];exact Ig w _ Tryz.underlying38 fr rt aV.out bk.out
 have bm:Hid ((Tryz.prog.info? 38).map (·.size)=some L.length):=by have q:=bb.out.info;rw[List.size_toArray]at q;exact q
 have bn:Hid ((Tryz.prog.info? 38).map (·.size)=some aC.length):=by have q:=cq.out.info;rw[List.size_toArray]at q;exact q
 go_upto_region 6 with fail;refine vy 18 38 [fun v=>v= .pointer (some ⟨H,2,none⟩),fun v=>v= .string d,fun v=>v= .agg cv.toArray,fun v=>v= .pointer (some ⟨H,0,none⟩),fun v=>v= .int .i64 (k:Int),fun v=>v= .int .i64 ((k:Int)+1),fun v=>v= .pointer (some ⟨H,1,none⟩),fun v=>v= .int .i64 (m:Int),fun v=>v= .int .i64 ((m:Int)+1),fun v=>v= .pointer (some ⟨H,3,none⟩),fun v=>v= .slice A len c,fun v=>v= .tuple #[.agg L.toArray, .int .i64 U],fun v=>v= .tuple #[.agg L.toArray, .int .i64 U],fun v=>v= .agg L.toArray,fun v=>v= .int .i64 U,fun _=>True,fun _=>True,fun v=>v= .int .i64 U] [] [(15,aB)] [(16,15,L.toArray)] (by kernel_rfl) (by kernel_rfl) (by kernel_rfl) trivial ?_ ?_
 ·refine⟨fun u w' o b s=>?_,fun u w' o b s=>?_,fun u w' o b s=>?_,fun u w' o b s=>?_,fun u w' o b s=>?_,fun u w' o b s=>?_,fun u w' o b s=>?_,fun u w' o b s=>?_,fun u w' o b s=>?_,fun u w' o b s=>?_,fun u w' o b s=>?_,fun u w' o b s=>?_,fun u w' o b s=>?_,fun u w' o b s=>?_,fun u w' o b s=>?_,fun u w' o b=>?_,fun u w' g o b cI bG=>?_,fun u w' o b s=>?_,trivial⟩;all_goals simp only[bH,bI,bJ,bK,ay,Act.put,bL,bM,bN,Nat.reduceAdd,Nat.zero_add]
  ·clear b s;refine aj ?_;go_simp;exact⟨_,rfl,fX⟩
  ·have cB:u 0=_:=b 0 (by kernel_rfl);clear b s;simp only[cB];refine aj ?_;have q:=M.out _ (aQ.out.trans o);obtain⟨bO,bP,bQ,bS⟩:=q;go_simp;exact⟨_,rfl,fX⟩
  ·have R:u 1=_:=b 1 (by kernel_rfl);clear b s;simp only[R];refine aj ?_;go_simp;refine(CL.out _ (aP.out.trans o)).mono ?_;rintro e X⟨rfl,f4⟩;exact⟨_,rfl,rfl,trivial,f4⟩
  ·clear b s;refine aj ?_;go_simp;exact⟨_,rfl,fX⟩
  ·have al:u 3=_:=b 3 (by kernel_rfl);clear b s;simp only[al];refine aj ?_;have q:=M.out _ (aQ.out.trans o);obtain⟨bO,bP,bQ,bS⟩:=q;go_simp;exact⟨_,rfl,fX⟩
  ·have a3:u 4=_:=b 4 (by kernel_rfl);clear b s;simp only[a3];refine aj ?_;have cT:=cx.out;go_simp;exact⟨_,rfl,fX⟩
  ·clear b s;refine aj ?_;go_simp;exact⟨_,rfl,fX⟩
  ·have cD:u 6=_:=b 6 (by kernel_rfl);clear b s;simp only[cD];refine aj ?_;have q:=M.out _ (aQ.out.trans o);obtain⟨bO,bP,bQ,bS⟩:=q;go_simp;exact⟨_,rfl,fX⟩
  ·have cE:u 7=_:=b 7 (by kernel_rfl);clear b s;simp only[cE];refine aj ?_;have cU:=cy.out;go_simp;exact⟨_,rfl,fX⟩
  ·clear b s;refine aj ?_;go_simp;exact⟨_,rfl,fX⟩
  ·have cG:u 9=_:=b 9 (by kernel_rfl);clear b s;simp only[cG];refine aj ?_;have q:=M.out _ (aQ.out.trans o);obtain⟨bO,bP,bQ,bS⟩:=q;go_simp;exact⟨_,rfl,fX⟩
  ·have T:u 2=_:=b 2 (by kernel_rfl);have cC:u 5=_:=b 5 (by kernel_rfl);have cF:u 8=_:=b 8 (by kernel_rfl);have bt:u 10=_:=b 10 (by kernel_rfl);clear b s;simp only[T,cC,cF,bt];refine aj ?_;go_simp;refine(aN.out _ (aP.out.trans o)).mono ?_;rintro e X⟨rfl,f4⟩;exact⟨_,rfl,rfl,trivial,f4⟩
  ·have bu:u 11=_:=b 11 (by kernel_rfl);clear b s;simp only[bu];refine aj ?_;go_simp;exact⟨_,rfl,fX⟩
  ·have ah:u 12=_:=b 12 (by kernel_rfl);clear b s;simp only[ah];refine aj ?_;go_simp;exact⟨_,rfl,fX⟩
  ·have ah:u 12=_:=b 12 (by kernel_rfl);clear b s;simp only[ah];refine aj ?_;go_simp;exact⟨_,rfl,fX⟩
  ·clear b;refine aj ?_;refine kL 38 rfl aI dW aB rfl ?_;intro X n4;exact⟨_,rfl,trivial,trivial,rfl,n4⟩
  ·have bv:u 13=_:=b 13 (by kernel_rfl);clear b;simp only[bv,cI];refine aj ?_;obtain⟨cs,hm,bG⟩:=bG;obtain rfl:cs=aB:=by simpa using hm
   refine Lt.db 38 (.tmp 8) (.tmp 53) rfl g L.toArray rfl rfl _ _ bG bb.out.info bb.out.zero bb.out.one ?_;intro X b4 f4;exact⟨_,rfl,trivial,b4,f4⟩
  ·have bw:u 14=_:=b 14 (by kernel_rfl);clear b s;simp only[bw];refine aj ?_;go_simp;exact⟨_,rfl,fX⟩
 intro u w' o b cg cH;have bz:u 17=_:=b 17 (by omega);obtain⟨g8,bx,cK,b8⟩:=cg 15 aB (by simp);have b2:Hid (aq w' g8 38 L.toArray):=b8;have cR:=af o;have cb:=af (aP.out.trans o);have aL:=af (b1.out.fr o (fun x=>x));have ce:=af (br.out.fr o (fun x=>x));have b7:=af (b6.out.fr o (fun x=>x));have bV:=af (bU.out.ar o);clear b cg cH o b8 cK CL aN M aO aQ aP b1 br b6 bU;simp only[bH,bI,bJ,bK,ay,Act.put,bL,bM,bN,dD,dE,Nat.reduceAdd,Nat.zero_add,bz,bx];generalize w'=cS at*;obtain⟨P,ch⟩:∃P,(U !=0)=P:=⟨_,rfl⟩;have ab:=af ch;obtain⟨Q,bD⟩:∃Q,(!decide (fr=rt))=Q:=⟨_,rfl⟩;have aY:=af bD;rw[bD]at bp;clear ch bD;obtain⟨B,am⟩:∃z:Bool,(bif P then true else Q)=z:=⟨_,rfl⟩;have HB:=af am;clear am;go_upto_region 7 with fail;refine iQ 7 [.int .i64 U, .bool P, .bool P,bif P then undef else .agg L.toArray,bif P then undef else .agg aC.toArray,bif P then undef else .bool Q, .bool B] ?zC ?_;case zC=>
  refine⟨?zJ,?zD,?zE,?zF,?zG,?zH,?zI,trivial⟩;all_goals intro u w' o b
  all_goals simp only[z1,z2,z3,z4,ay,Act.put,z5,z6,z7,Nat.reduceAdd,Nat.zero_add]
  case zD=>
   simp only[show u 0=_ from b 0];refine aG ?_;have t1:=ab.out;go_simp;exact aM
  case' zE=>simp only[show u 1=_ from b 1]
  case zF=>
   simp only[show u 2=_ from b 2];cases P;case true=>exact bE
   refine aG ?_;exact az _ _ rfl ⟨g8,0,none⟩ rfl L _ (fE (b2.out.fr o (fun x=>x))) Tryz.underlying38 rfl bm.out aM
  case zG=>
   simp only[show u 2=_ from b 2];cases P;case true=>exact bE
   refine aG ?_;exact az _ _ rfl ⟨g2,0,none⟩ rfl aC _ (fE (aL.out.fr o (fun x=>x))) Tryz.underlying38 rfl bn.out aM
  case zH=>
   simp only[show u 3=_ from b 3,show u 4=_ from b 4,show u 2=_ from b 2];cases P;case true=>exact bE
   refine aG ?_;exact fD _ _ _ _ _ rfl _ _ rfl rfl Tryz.eqGuardType38 _ (bp.out _) aM
  case zI=>
   simp only[show u 2=_ from b 2,show u 5=_ from b 5];cases P<;>exact aG (by go_simp;exact⟨by rw[←HB.out];rfl,aD⟩)
  all_goals
   try simp only[cond]
   refine aG ?_;go_simp;exact aM
 intro w' o;simp only[z1,z2,z3,z4,ay,Act.put,z5,z6,z7,z8,z9,jx,jy,Nat.reduceAdd,Nat.zero_add];have cc:=af (cb.out.trans o);have bs:=af (ce.out.fr o (fun x=>x));have co:=af (b7.out.fr o (fun x=>x));have bW:=af (bV.out.ar o);have O:Hid (uM rt (k:Int) (m:Int) (aR d) path=!B):=by
  rw[Hid,aW.out,←HB.out];have cz:decide (U=0)=!P:=by
   rw[←ab.out,bne,Bool.not_not];by_cases h:U=0<;>simp[h]
  have cA:decide (fr=rt)=!Q:=by rw[←aY.out,Bool.not_not]
  rw[cz,cA];cases P<;>cases Q<;>rfl
 clear o HB aW ab aY bp cb ce b7 bV b2 aL;cases am:B;case true=>
  have aT:Hid (rk rt (k:Int) (m:Int) (aR d) path=35):=by
   rw[D.out,if_neg ac.out,if_neg (by rw[aa.out];simp),O.out,am];rfl
  clear am O D;have G:=af (l.out 35 aT.out (by decide));clear l r;go_wp2_with(first|(refine wpList_buildTo rfl 46 #[] rfl ca.toArray fO ?_)|(refine ai rfl 46 (.tmp 4) _ rfl g4 ca.toArray rfl rfl _ _ bs.out bZ rfl fU ?_));intro t C y;have I:=af C;have J:Hid (Fr ag w t):=cc.out.aw y (fun i au e=>by have ad:i=g4:=e;have:=E.out;omega);clear C y;go_wp2;exact bodyPost_ret (aZ (fn:=Tryz.f17) (p:=4) (q:=5) (ty:=46) Tryz.results17 _ t _ 46 ca.toArray (0,0) _ rfl I.out Tryz.underlying46 rfl bZ _ rfl) rfl (G.out t J.out)
 have bf:Hid (rk rt (k:Int) (m:Int) (aR d) path=0):=by
  rw[D.out,if_neg ac.out,if_neg (by rw[aa.out];simp),O.out,am];rfl
 clear am O D l;have cu:Hid ((Tryz.prog.info? 46).map (·.size)=some cs.length):=by rw[Hid,F.out];exact bZ
 have cw:Hid (cs.toArray.all (·.oneCell')=true):=ActV.one bW.out;go_wp2_with(refine aF rfl 46 (.tmp 6) rfl ⟨g6,0,none⟩ rfl cs _ ?zA Tryz.underlying46 rfl cu.out (bj.go ?zB));case zA=>
  intro j x cJ;rw[Addr.add_mid,Nat.zero_add,co.out.cell j,bR];exact cJ
 unfold bj;go_wp2_with(refine ai rfl 46 (.tmp 4) _ rfl g4 cs.toArray rfl rfl _ _ bs.out (py _ F.out) (by rw[List.size_toArray,List.size_toArray,F.out];rfl) cw.out ?_);intro t C y;have cn:=af C;have cr:Hid (Fr ag w t):=cc.out.aw y (fun i au e=>by have ad:i=g4:=e;have:=E.out;omega);have cm:Hid (df t cs a):=bW.out.cN y (oJ bs.out (by decide) (by decide) (by decide));have G:=af (r.out cs a t bf.out aa.out cm.out cr.out);clear C y;go_wp2;exact bodyPost_ret (aZ (fn:=Tryz.f17) (p:=4) (q:=5) (ty:=46) Tryz.results17 _ t _ 46 cs.toArray (0,0) _ rfl cn.out Tryz.underlying46 rfl (py _ F.out) _ rfl) rfl G.out
end Go.Proofs.YtphjagkehiklkaaGreatDoor
