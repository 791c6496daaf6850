/- Texts. -/
import Derived.Test.YtphjagkehiklkaaGreatDoorUK28
import Derived.Test.YtphjagkehiklkaaGreatDoorUK33
set_option linter.unusedVariables false
set_option linter.unusedSimpArgs false
set_option maxRecDepth 100000
set_option maxHeartbeats 8000000
namespace Go.Proofs.YtphjagkehiklkaaGreatDoor
open Go.RowKit Go.Shelf
def iG(rt:List UInt8)(i n:Int)(l:List UInt8)(path:List (List UInt8)):Bool:=decide ((Lt.bL (bM l) (i+1) (n+1) path).2.2=0)&&decide ((Lt.bL (bM l) (i+1) (n+1) path).1=rt)
def oM(rt:List UInt8)(i n:Int)(l:List UInt8)(path:List (List UInt8)):Int:=
 if n<1∨65536<n∨i<0∨n≤i then 2 else if iw l=none then 3 else if iG rt i n l path=true then 0 else 35
def iW(w:World)(rt:List UInt8)(i n:Int)(l:List UInt8)(path:List (List UInt8))(e:Ending)(w':World):Prop:=
 ∃cs a b,e= .returned (.tuple #[.agg cs.toArray, .int .i64 b])∧ck w' cs a∧Fr af w w'∧b=oM rt i n l path∧(b=0→iw l=some a)∧(b≠0→a=iQ)
theorem lV(rt:List UInt8)(aA:rt.length=32)(i n:Int)(d:ByteArray)(path:List (List UInt8))(len:Nat)(A:Option Addr)(c:Nat)(S:Nat→Prop)(w:World)(bx:Lt.eF w S A len path)(V:len≤1048576)(cb:dy w)(bD:bp w)(cc:d.size≤16777216):
  Calls Tryz.prog 17 #[aL rt, .agg [Value.int .i64 i, .int .i64 n, .string d, .slice A len c].toArray] w (iW w rt i n (aC d) path):=by
 have D:Hid (oM rt i n (aC d) path=if n<1∨65536<n∨i<0∨n≤i then 2 else if iw (aC d)=none then 3 else if iG rt i n (aC d) path=true then 0 else 35):=rfl;have bX:Hid (∀w',Fr af w w'→Calls Tryz.prog 20 #[.string d] w' (sf w' (aC d))):=fun w' f=>uF d w' (cb.al f) cc;have CL:Hid (∀w',Fr af w w'→Calls Tryz.prog 59 #[.string d] w' (aH w' (aL (bM (aC d))))):=fun w' f=>tf d w' (bD.al f) (by omega);have Y:Hid (∀(k m:Nat)w',Fr af w w'→m≤65536→Calls Tryz.prog 58 #[aL (bM (aC d)), .int .i64 ((k:Int)+1), .int .i64 ((m:Int)+1), .slice A len c] w' (aH w' (.tuple #[aL (Lt.bL (bM (aC d)) ((k:Int)+1) ((m:Int)+1) path).1, .int .i64 (Lt.bL (bM (aC d)) ((k:Int)+1) ((m:Int)+1) path).2.2]))):=fun k m w' f hm=>
  Lt.uG (bM (aC d)) (fG _) _ _ (by omega) path len A c S w' (bx.al f) V (bD.al f);have aO:Hid (∀k m:Int,(Lt.bL (bM (aC d)) k m path).1.length=32):=fun k m=>Lt.ks (bM (aC d)) (fG _) k m path bx.each;have l:Hid (∀ae:Int,oM rt i n (aC d) path=ae→ae≠0→∀w',Fr af w w'→iW w rt i n (aC d) path (.returned (.tuple #[.agg bC.toArray, .int .i64 ae])) w'):=fun ae R T w' f=>⟨_,_,_,rfl,mL w',f,R.symm,fun h=>absurd h T,fun _=>rfl⟩;have r:Hid (∀cs a w',oM rt i n (aC d) path=0→iw (aC d)=some a→ck w' cs a→Fr af w w'→iW w rt i n (aC d) path (.returned (.tuple #[.agg cs.toArray, .int .i64 0])) w'):=fun cs a w' R T aj f=>⟨_,_,_,rfl,aj,f,R.symm,fun _=>T,fun h=>absurd rfl h⟩;have aV:Hid (∀k m:Nat,iG rt (k:Int) (m:Int) (aC d) path=(decide ((Lt.bL (bM (aC d)) ((k:Int)+1) ((m:Int)+1) path).2.2=0)&&decide ((Lt.bL (bM (aC d)) ((k:Int)+1) ((m:Int)+1) path).1=rt))):=fun _ _=>rfl;have cj:Hid (Lt.cy (rt.map aU).toArray):=Lt.cy.of aA;have bg:=Lib.hid aA;have ci:Hid (Lt.cy ((bM (aC d)).map aU).toArray):=Lt.cy.of (fG _);unfold aL at CL Y⊢;generalize bz:(bM (aC d)).map aU=co at*;generalize a2:rt.map aU=aE at*;have bh:=Lib.hid a2;generalize iW w rt i n (aC d) path=PP at*;clear bx V cb bD cc aA bz a2;go_enter Tryz.func17,Tryz.ntmps17;go_wp2_with(refine au rfl 38 (.tmp 0) rfl aE.toArray rfl ?_);intro w1 n1;have a9:=Lib.hid n1;clear n1;generalize av:w.heap.size=g2 at*;have bR:Hid (ak w1 g2 38 aE.toArray):=by have q:=a9.out.az;rw[av]at q;exact q
 have cm:Hid (w.heap.size≤g2):=by rw[Hid,av];exact Nat.le_refl _
 clear av;go_wp2_with(refine au rfl 33 (.tmp 1) rfl [Value.int .i64 i, .int .i64 n, .string d, .slice A len c].toArray rfl ?_);intro w2 cd;have aX:=Lib.hid cd;clear cd;generalize a6:w1.heap.size=H at*;have b5:Hid (ak w2 H 33 [Value.int .i64 i, .int .i64 n, .string d, .slice A len c].toArray):=by have q:=aX.out.az;rw[a6]at q;exact q
 clear a6;go_wp2_with(refine ai rfl 46 rfl dU jN bC.toArray rfl ?_);intro bN n3;have aY:=Lib.hid n3;clear n3;generalize a4:w2.heap.size=g4 at*;have aF:Hid (ak bN g4 46 bC.toArray):=by have q:=aY.out.az;rw[a4]at q;exact q
 have Z:Hid (Fr af w bN):=(a9.out.fr.trans aX.out.fr).trans aY.out.fr;have E:Hid (w.heap.size≤g4):=by have:=(a9.out.fr.trans aX.out.fr).size;simp only[Hid];omega
 clear a4;have bS:=Lib.hid ((bR.out.fr aX.out.fr (fun x=>x)).fr aY.out.fr (fun x=>x));have aZ:=Lib.hid (b5.out.fr aY.out.fr (fun x=>x));clear a9 aX aY bR b5;have M:Hid (∀W,Fr af bN W→W.cell? {block:=H,off:=0}=some (.int .i64 i)∧W.cell? {block:=H,off:=1}=some (.int .i64 n)∧W.cell? {block:=H,off:=2}=some (.string d)∧W.cell? {block:=H,off:=3}=some (.slice A len c)):=fun W f=>⟨(aZ.out.fr f (fun x=>x)).cell 0,(aZ.out.fr f (fun x=>x)).cell 1,(aZ.out.fr f (fun x=>x)).cell 2,(aZ.out.fr f (fun x=>x)).cell 3⟩;obtain⟨cI,cJ,cK,x3⟩:=M.out _ (Fr.refl _ _);by_cases R:n<1;·have t1:decide (n<1)=true:=decide_eq_true R;have G:=Lib.hid (l.out 2 (by rw[D.out,if_pos (by omega)]) (by decide));clear l r;go_wp2_with(first|(refine wpList_buildTo rfl 46 #[] rfl bC.toArray ef ?_)|(refine ah rfl 46 (.tmp 4) _ rfl g4 bC.toArray rfl rfl _ _ aF.out bm rfl eV ?_));intro t C y;have I:=Lib.hid C;have J:Hid (Fr af w t):=Z.out.ao y (fun i ax e=>by have ad:i=g4:=e;have:=E.out;omega);clear C y;go_wp2;exact bodyPost_ret (aS (fn:=Tryz.f17) (p:=4) (q:=5) (ty:=46) Tryz.results17 _ t _ 46 bC.toArray (0,0) _ rfl I.out Tryz.underlying46 rfl bm _ rfl) rfl (G.out t J.out)
 have t1:decide (n<1)=false:=decide_eq_false R;by_cases T:65536<n;·have t2:decide (65536<n)=true:=decide_eq_true T;have G:=Lib.hid (l.out 2 (by rw[D.out,if_pos (by omega)]) (by decide));clear l r;go_wp2_with(first|(refine wpList_buildTo rfl 46 #[] rfl bC.toArray ef ?_)|(refine ah rfl 46 (.tmp 4) _ rfl g4 bC.toArray rfl rfl _ _ aF.out bm rfl eV ?_));intro t C y;have I:=Lib.hid C;have J:Hid (Fr af w t):=Z.out.ao y (fun i ax e=>by have ad:i=g4:=e;have:=E.out;omega);clear C y;go_wp2;exact bodyPost_ret (aS (fn:=Tryz.f17) (p:=4) (q:=5) (ty:=46) Tryz.results17 _ t _ 46 bC.toArray (0,0) _ rfl I.out Tryz.underlying46 rfl bm _ rfl) rfl (G.out t J.out)
 have t2:decide (65536<n)=false:=decide_eq_false T;by_cases aj:i<0;·have t3:decide (i<0)=true:=decide_eq_true aj;have G:=Lib.hid (l.out 2 (by rw[D.out,if_pos (by omega)]) (by decide));clear l r;go_wp2_with(first|(refine wpList_buildTo rfl 46 #[] rfl bC.toArray ef ?_)|(refine ah rfl 46 (.tmp 4) _ rfl g4 bC.toArray rfl rfl _ _ aF.out bm rfl eV ?_));intro t C y;have I:=Lib.hid C;have J:Hid (Fr af w t):=Z.out.ao y (fun i ax e=>by have ad:i=g4:=e;have:=E.out;omega);clear C y;go_wp2;exact bodyPost_ret (aS (fn:=Tryz.f17) (p:=4) (q:=5) (ty:=46) Tryz.results17 _ t _ 46 bC.toArray (0,0) _ rfl I.out Tryz.underlying46 rfl bm _ rfl) rfl (G.out t J.out)
 have t3:decide (i<0)=false:=decide_eq_false aj;by_cases a0:n≤i;·have t4:decide (n≤i)=true:=decide_eq_true a0;have G:=Lib.hid (l.out 2 (by rw[D.out,if_pos (by omega)]) (by decide));clear l r;go_wp2_with(first|(refine wpList_buildTo rfl 46 #[] rfl bC.toArray ef ?_)|(refine ah rfl 46 (.tmp 4) _ rfl g4 bC.toArray rfl rfl _ _ aF.out bm rfl eV ?_));intro t C y;have I:=Lib.hid C;have J:Hid (Fr af w t):=Z.out.ao y (fun i ax e=>by have ad:i=g4:=e;have:=E.out;omega);clear C y;go_wp2;exact bodyPost_ret (aS (fn:=Tryz.f17) (p:=4) (q:=5) (ty:=46) Tryz.results17 _ t _ 46 bC.toArray (0,0) _ rfl I.out Tryz.underlying46 rfl bm _ rfl) rfl (G.out t J.out)
 have t4:decide (n≤i)=false:=decide_eq_false a0;have ac:Hid (¬(n<1∨65536<n∨i<0∨n≤i)):=by simp only[Hid];omega
 go_wp2_with fail;refine(bX.out _ Z.out).mono ?_;rintro e X⟨cs,a,ae,rfl,ap,f4,K⟩;have b1:=Lib.hid (Z.out.trans f4);have ba:=Lib.hid ap;have bn:=Lib.hid (aF.out.fr f4 (fun x=>x));have bT:=Lib.hid (bS.out.fr f4 (fun x=>x));have aJ:Hid (∀W,Fr af X W→W.cell? {block:=H,off:=0}=some (.int .i64 i)∧W.cell? {block:=H,off:=1}=some (.int .i64 n)∧W.cell? {block:=H,off:=2}=some (.string d)∧W.cell? {block:=H,off:=3}=some (.slice A len c)):=fun W f=>M.out W (f4.trans f);have N:=Lib.hid K;have a7:=ap.len;have F:=Lib.hid a7;clear K ap f4 cI cJ cK x3 M aZ Z aF bS bX a7;go_wp2_with(refine ai rfl 46 rfl dU jN bC.toArray rfl ?_);intro cG ce;have bk:=Lib.hid ce;clear ce;generalize a5:X.heap.size=g6 at*;have bY:Hid (ak cG g6 46 bC.toArray):=by have q:=bk.out.az;rw[a5]at q;exact q
 have be:Hid (X.heap.size≤g6∧g4<g6∧w.heap.size≤g6):=by have:=bn.out.lt;have:=b1.out.size;simp only[Hid];omega
 clear a5;go_wp2_with(refine ah rfl 46 (.tmp 6) _ rfl g6 cs.toArray rfl rfl _ _ bY.out (ot _ F.out) (by rw[List.size_toArray,List.size_toArray,F.out];rfl) (ActV.one ba.out) ?_);intro cH b7 f6;have bZ:=Lib.hid b7;have aD:Hid (Fr af X cH):=bk.out.fr.ao f6 (fun i ax e=>by have ad:i=g6:=e;have:=be.out;omega);have aK:=Lib.hid (b1.out.trans aD.out);have aM:=Lib.hid aD.out;have bO:=Lib.hid (ba.out.al aD.out);have bo:=Lib.hid (bn.out.fr aD.out (fun x=>x));have bU:=Lib.hid (bT.out.fr aD.out (fun x=>x));clear b7 f6 bk bY aD bn bT ba;by_cases aq:ae=0;case neg=>
  obtain⟨rfl,a3,_⟩:ae=3∧iw (aC d)=none∧a=iQ:=by
   rcases N.out with⟨h,_⟩|h;·exact absurd h aq
   ·exact h
  have bb:=Lib.hid a3;have t5:((3:Int)!=0)=true:=rfl;clear aq a3 N;have G:=Lib.hid (l.out 3 (by rw[D.out,if_neg ac.out,if_pos bb.out]) (by decide));clear l r;go_wp2_with(first|(refine wpList_buildTo rfl 46 #[] rfl bC.toArray ef ?_)|(refine ah rfl 46 (.tmp 4) _ rfl g4 bC.toArray rfl rfl _ _ bo.out bm rfl eV ?_));intro t C y;have I:=Lib.hid C;have J:Hid (Fr af w t):=aK.out.ao y (fun i ax e=>by have ad:i=g4:=e;have:=E.out;omega);clear C y;go_wp2;exact bodyPost_ret (aS (fn:=Tryz.f17) (p:=4) (q:=5) (ty:=46) Tryz.results17 _ t _ 46 bC.toArray (0,0) _ rfl I.out Tryz.underlying46 rfl bm _ rfl) rfl (G.out t J.out)
 subst aq;have t5:((0:Int)!=0)=false:=rfl;have aa:Hid (iw (aC d)=some a):=by
  rcases N.out with⟨_,h⟩|⟨h,_⟩;·exact h
  ·cases h
 clear N;obtain⟨m,rfl⟩:∃m:Nat,n=m:=⟨n.toNat,by omega⟩;obtain⟨k,rfl⟩:∃k:Nat,i=k:=⟨i.toNat,by omega⟩;have bf:Hid (m≤65536∧k≤65536):=by simp only[Hid];omega
 have cq:Hid (IntKind.i64.wrap ((k:Int)+1)=(k:Int)+1):=IntWalk.i64_in _ (by have:=bf.out;omega);have cr:Hid (IntKind.i64.wrap ((m:Int)+1)=(m:Int)+1):=IntWalk.i64_in _ (by have:=bf.out;omega);have aI:=Lib.hid (fun w' f=>Y.out k m w' f bf.out.1);have aP:=Lib.hid (aO.out ((k:Int)+1) ((m:Int)+1));have aT:=Lib.hid (aV.out k m);have a8:Hid (Lt.cy ((Lt.bL (bM (aC d)) ((k:Int)+1) ((m:Int)+1) path).1.map aU).toArray):=Lt.cy.of aP.out;generalize(Lt.bL (bM (aC d)) ((k:Int)+1) ((m:Int)+1) path).2.2=U at*;generalize(Lt.bL (bM (aC d)) ((k:Int)+1) ((m:Int)+1) path).1=fr at*;generalize a1:fr.map aU=L at*;have bd:=Lib.hid a1;clear a1 Y aO aV t1 t2 t3 t4 R T aj a0;have M:=Lib.hid (fun W f=>aJ.out W f);have bl:Hid (∀w:World,(binOp .neq 38 (.agg L.toArray) (.agg aE.toArray)).run Tryz.prog w= .ok (.bool (!decide (fr=rt))) w):=fun w=>by
  rw[←bd.out,←bh.out];exact FJ w _ Tryz.underlying38 fr rt aP.out bg.out
 have bi:Hid ((Tryz.prog.info? 38).map (·.size)=some L.length):=by have q:=a8.out.info;rw[List.size_toArray]at q;exact q
 have bj:Hid ((Tryz.prog.info? 38).map (·.size)=some aE.length):=by have q:=cj.out.info;rw[List.size_toArray]at q;exact q
 go_upto_region 6 with fail;refine nQ 18 38 [fun v=>v= .pointer (some ⟨H,2,none⟩),fun v=>v= .string d,fun v=>v= .agg co.toArray,fun v=>v= .pointer (some ⟨H,0,none⟩),fun v=>v= .int .i64 (k:Int),fun v=>v= .int .i64 ((k:Int)+1),fun v=>v= .pointer (some ⟨H,1,none⟩),fun v=>v= .int .i64 (m:Int),fun v=>v= .int .i64 ((m:Int)+1),fun v=>v= .pointer (some ⟨H,3,none⟩),fun v=>v= .slice A len c,fun v=>v= .tuple #[.agg L.toArray, .int .i64 U],fun v=>v= .tuple #[.agg L.toArray, .int .i64 U],fun v=>v= .agg L.toArray,fun v=>v= .int .i64 U,fun _=>True,fun _=>True,fun v=>v= .int .i64 U] [] [(15,ay)] [(16,15,L.toArray)] (by kernel_rfl) (by kernel_rfl) (by kernel_rfl) trivial ?_ ?_
 ·refine⟨fun u w' o b s=>?_,fun u w' o b s=>?_,fun u w' o b s=>?_,fun u w' o b s=>?_,fun u w' o b s=>?_,fun u w' o b s=>?_,fun u w' o b s=>?_,fun u w' o b s=>?_,fun u w' o b s=>?_,fun u w' o b s=>?_,fun u w' o b s=>?_,fun u w' o b s=>?_,fun u w' o b s=>?_,fun u w' o b s=>?_,fun u w' o b s=>?_,fun u w' o b=>?_,fun u w' g o b cD bE=>?_,fun u w' o b s=>?_,trivial⟩;all_goals simp only[List.take_succ_cons,List.take_zero,List.map_cons,List.map_nil,an,Act.put,List.setIfInBounds_toArray,List.set_cons_zero,List.set_cons_succ,Nat.reduceAdd,Nat.zero_add]
  ·clear b s;refine .inl ⟨by kernel_rfl,?_⟩;go_simp;exact⟨_,rfl,rfl,trivial,Fr.refl _ _⟩
  ·have cv:u 0=_:=b 0 (by kernel_rfl);clear b s;simp only[cv];refine .inl ⟨by kernel_rfl,?_⟩;have q:=M.out _ (aM.out.trans o);obtain⟨bH,bI,bJ,bK⟩:=q;go_simp;exact⟨_,rfl,rfl,trivial,Fr.refl _ _⟩
  ·have R:u 1=_:=b 1 (by kernel_rfl);clear b s;simp only[R];refine .inl ⟨by kernel_rfl,?_⟩;go_simp;refine(CL.out _ (aK.out.trans o)).mono ?_;rintro e X⟨rfl,f4⟩;exact⟨_,rfl,rfl,trivial,f4⟩
  ·clear b s;refine .inl ⟨by kernel_rfl,?_⟩;go_simp;exact⟨_,rfl,rfl,trivial,Fr.refl _ _⟩
  ·have aj:u 3=_:=b 3 (by kernel_rfl);clear b s;simp only[aj];refine .inl ⟨by kernel_rfl,?_⟩;have q:=M.out _ (aM.out.trans o);obtain⟨bH,bI,bJ,bK⟩:=q;go_simp;exact⟨_,rfl,rfl,trivial,Fr.refl _ _⟩
  ·have a0:u 4=_:=b 4 (by kernel_rfl);clear b s;simp only[a0];refine .inl ⟨by kernel_rfl,?_⟩;have cN:=cq.out;go_simp;exact⟨_,rfl,rfl,trivial,Fr.refl _ _⟩
  ·clear b s;refine .inl ⟨by kernel_rfl,?_⟩;go_simp;exact⟨_,rfl,rfl,trivial,Fr.refl _ _⟩
  ·have cx:u 6=_:=b 6 (by kernel_rfl);clear b s;simp only[cx];refine .inl ⟨by kernel_rfl,?_⟩;have q:=M.out _ (aM.out.trans o);obtain⟨bH,bI,bJ,bK⟩:=q;go_simp;exact⟨_,rfl,rfl,trivial,Fr.refl _ _⟩
  ·have cz:u 7=_:=b 7 (by kernel_rfl);clear b s;simp only[cz];refine .inl ⟨by kernel_rfl,?_⟩;have cO:=cr.out;go_simp;exact⟨_,rfl,rfl,trivial,Fr.refl _ _⟩
  ·clear b s;refine .inl ⟨by kernel_rfl,?_⟩;go_simp;exact⟨_,rfl,rfl,trivial,Fr.refl _ _⟩
  ·have cB:u 9=_:=b 9 (by kernel_rfl);clear b s;simp only[cB];refine .inl ⟨by kernel_rfl,?_⟩;have q:=M.out _ (aM.out.trans o);obtain⟨bH,bI,bJ,bK⟩:=q;go_simp;exact⟨_,rfl,rfl,trivial,Fr.refl _ _⟩
  ·have T:u 2=_:=b 2 (by kernel_rfl);have cw:u 5=_:=b 5 (by kernel_rfl);have cA:u 8=_:=b 8 (by kernel_rfl);have br:u 10=_:=b 10 (by kernel_rfl);clear b s;simp only[T,cw,cA,br];refine .inl ⟨by kernel_rfl,?_⟩;go_simp;refine(aI.out _ (aK.out.trans o)).mono ?_;rintro e X⟨rfl,f4⟩;exact⟨_,rfl,rfl,trivial,f4⟩
  ·have bs:u 11=_:=b 11 (by kernel_rfl);clear b s;simp only[bs];refine .inl ⟨by kernel_rfl,?_⟩;go_simp;exact⟨_,rfl,rfl,trivial,Fr.refl _ _⟩
  ·have ag:u 12=_:=b 12 (by kernel_rfl);clear b s;simp only[ag];refine .inl ⟨by kernel_rfl,?_⟩;go_simp;exact⟨_,rfl,rfl,trivial,Fr.refl _ _⟩
  ·have ag:u 12=_:=b 12 (by kernel_rfl);clear b s;simp only[ag];refine .inl ⟨by kernel_rfl,?_⟩;go_simp;exact⟨_,rfl,rfl,trivial,Fr.refl _ _⟩
  ·clear b;refine .inl ⟨by kernel_rfl,?_⟩;refine iO 38 rfl aQ fW ay rfl ?_;intro X n4;exact⟨_,rfl,trivial,trivial,rfl,n4⟩
  ·have bt:u 13=_:=b 13 (by kernel_rfl);clear b;simp only[bt,cD];refine .inl ⟨by kernel_rfl,?_⟩;obtain⟨cs,hm,bE⟩:=bE;obtain rfl:cs=ay:=by simpa using hm
   refine Lt.j6 38 (.tmp 8) (.tmp 53) rfl g L.toArray rfl rfl _ _ bE a8.out.info a8.out.zero a8.out.one ?_;intro X b4 f4;exact⟨_,rfl,trivial,b4,f4⟩
  ·have bu:u 14=_:=b 14 (by kernel_rfl);clear b s;simp only[bu];refine .inl ⟨by kernel_rfl,?_⟩;go_simp;exact⟨_,rfl,rfl,trivial,Fr.refl _ _⟩
 intro u w' o b b9 cC;have bw:u 17=_:=b 17 (by omega);obtain⟨g8,bv,cF,b8⟩:=b9 15 ay (by simp);have bW:Hid (ak w' g8 38 L.toArray):=b8;have cL:=Lib.hid o;have b2:=Lib.hid (aK.out.trans o);have aG:=Lib.hid (bU.out.fr o (fun x=>x));have b6:=Lib.hid (bo.out.fr o (fun x=>x));have b0:=Lib.hid (bZ.out.fr o (fun x=>x));have bP:=Lib.hid (bO.out.al o);clear b b9 cC o b8 cF CL aI M aJ aM aK bU bo bZ bO;simp only[List.take_succ_cons,List.take_zero,List.map_cons,List.map_nil,an,Act.put,List.setIfInBounds_toArray,List.set_cons_zero,List.set_cons_succ,List.drop_succ_cons,List.drop_zero,Nat.reduceAdd,Nat.zero_add,bw,bv];generalize w'=cM at*;obtain⟨P,ca⟩:∃P,(U !=0)=P:=⟨_,rfl⟩;have ab:=Lib.hid ca;obtain⟨Q,bA⟩:∃Q,(!decide (fr=rt))=Q:=⟨_,rfl⟩;have aW:=Lib.hid bA;rw[bA]at bl;clear ca bA;obtain⟨B,am⟩:∃z:Bool,(bif P then true else Q)=z:=⟨_,rfl⟩;have HB:=Lib.hid am;clear am;go_upto_region 7 with fail;refine jk 7 [.int .i64 U, .bool P, .bool P,bif P then undef else .agg L.toArray,bif P then undef else .agg aE.toArray,bif P then undef else .bool Q, .bool B] ?zC ?_;case zC=>
  refine⟨?zJ,?zD,?zE,?zF,?zG,?zH,?zI,trivial⟩;all_goals intro u w' o b
  all_goals simp only[z1,z2,z3,z4,an,Act.put,z5,z6,z7,Nat.reduceAdd,Nat.zero_add]
  case zD=>
   simp only[show u 0=_ from b 0];refine aB ?_;have t1:=ab.out;go_simp;exact⟨rfl,Fr.refl _ _⟩
  case' zE=>simp only[show u 1=_ from b 1]
  case zF=>
   simp only[show u 2=_ from b 2];cases P;case true=>exact bB
   refine aB ?_;exact ar _ _ rfl ⟨g8,0,none⟩ rfl L _ (fun bG v bF=>by rw[Addr.add_mid,Nat.zero_add,(bW.out.fr o (fun x=>x)).cell bG,List.getElem?_toArray];exact bF) Tryz.underlying38 rfl bi.out ⟨rfl,Fr.refl _ _⟩
  case zG=>
   simp only[show u 2=_ from b 2];cases P;case true=>exact bB
   refine aB ?_;exact ar _ _ rfl ⟨g2,0,none⟩ rfl aE _ (fun bG v bF=>by rw[Addr.add_mid,Nat.zero_add,(aG.out.fr o (fun x=>x)).cell bG,List.getElem?_toArray];exact bF) Tryz.underlying38 rfl bj.out ⟨rfl,Fr.refl _ _⟩
  case zH=>
   simp only[show u 3=_ from b 3,show u 4=_ from b 4,show u 2=_ from b 2];cases P;case true=>exact bB
   refine aB ?_;exact ji _ _ _ _ _ rfl _ _ rfl rfl Tryz.eqGuardType38 _ (bl.out _) ⟨rfl,Fr.refl _ _⟩
  case zI=>
   simp only[show u 2=_ from b 2,show u 5=_ from b 5];cases P<;>exact aB (by go_simp;exact⟨by rw[←HB.out];rfl,Fr.refl _ _⟩)
  all_goals
   try simp only[cond]
   refine aB ?_;go_simp;exact⟨rfl,Fr.refl _ _⟩
 intro w' o;simp only[z1,z2,z3,z4,an,Act.put,z5,z6,z7,z8,z9,jl,jm,Nat.reduceAdd,Nat.zero_add];have b3:=Lib.hid (b2.out.trans o);have bq:=Lib.hid (b6.out.fr o (fun x=>x));have ch:=Lib.hid (b0.out.fr o (fun x=>x));have bQ:=Lib.hid (bP.out.al o);have O:Hid (iG rt (k:Int) (m:Int) (aC d) path=!B):=by
  rw[Hid,aT.out,←HB.out];have ct:decide (U=0)=!P:=by
   rw[←ab.out,bne,Bool.not_not];by_cases h:U=0<;>simp[h]
  have cu:decide (fr=rt)=!Q:=by rw[←aW.out,Bool.not_not]
  rw[ct,cu];cases P<;>cases Q<;>rfl
 clear o HB aT ab aW bl b2 b6 b0 bP bW aG;cases am:B;case true=>
  have aN:Hid (oM rt (k:Int) (m:Int) (aC d) path=35):=by
   rw[D.out,if_neg ac.out,if_neg (by rw[aa.out];simp),O.out,am];rfl
  clear am O D;have G:=Lib.hid (l.out 35 aN.out (by decide));clear l r;go_wp2_with(first|(refine wpList_buildTo rfl 46 #[] rfl bC.toArray ef ?_)|(refine ah rfl 46 (.tmp 4) _ rfl g4 bC.toArray rfl rfl _ _ bq.out bm rfl eV ?_));intro t C y;have I:=Lib.hid C;have J:Hid (Fr af w t):=b3.out.ao y (fun i ax e=>by have ad:i=g4:=e;have:=E.out;omega);clear C y;go_wp2;exact bodyPost_ret (aS (fn:=Tryz.f17) (p:=4) (q:=5) (ty:=46) Tryz.results17 _ t _ 46 bC.toArray (0,0) _ rfl I.out Tryz.underlying46 rfl bm _ rfl) rfl (G.out t J.out)
 have bc:Hid (oM rt (k:Int) (m:Int) (aC d) path=0):=by
  rw[D.out,if_neg ac.out,if_neg (by rw[aa.out];simp),O.out,am];rfl
 clear am O D l;have cn:Hid ((Tryz.prog.info? 46).map (·.size)=some cs.length):=by rw[Hid,F.out];exact bm
 have cp:Hid (cs.toArray.all (·.oneCell')=true):=ActV.one bQ.out;go_wp2_with(refine aw rfl 46 (.tmp 6) rfl ⟨g6,0,none⟩ rfl cs _ ?zA Tryz.underlying46 rfl cn.out (aR.go ?zB));case zA=>
  intro j x cE;rw[Addr.add_mid,Nat.zero_add,ch.out.cell j,List.getElem?_toArray];exact cE
 unfold aR;go_wp2_with(refine ah rfl 46 (.tmp 4) _ rfl g4 cs.toArray rfl rfl _ _ bq.out (ot _ F.out) (by rw[List.size_toArray,List.size_toArray,F.out];rfl) cp.out ?_);intro t C y;have cg:=Lib.hid C;have cl:Hid (Fr af w t):=b3.out.ao y (fun i ax e=>by have ad:i=g4:=e;have:=E.out;omega);have cf:Hid (ck t cs a):=bQ.out.bV y (nt bq.out (by decide) (by decide) (by decide));have G:=Lib.hid (r.out cs a t bc.out aa.out cf.out cl.out);clear C y;go_wp2;exact bodyPost_ret (aS (fn:=Tryz.f17) (p:=4) (q:=5) (ty:=46) Tryz.results17 _ t _ 46 cs.toArray (0,0) _ rfl cg.out Tryz.underlying46 rfl (ot _ F.out) _ rfl) rfl G.out
end Go.Proofs.YtphjagkehiklkaaGreatDoor
namespace Go.Proofs.YtphjagkehiklkaaGreatDoor
open Go.RowKit Go.Shelf
def Bd(w:World)(E:List Ent)(e:Ending)(w':World):Prop:=∃h T,e= .returned (.tuple #[.pointer (some ⟨h,0,none⟩), .int .i64 0])∧eZ w' h E [] T∧Fr af w w'∧∀k,T k→w.heap.size≤k
theorem DY{w:World}{p:Nat}(h:ak w p 180 #[.slice none 0 0, .map none]):Lt.dQ w p none 0 0 none [] (Lt.aZ 0):=
 ⟨h,⟨rfl, .inl ⟨rfl,rfl⟩⟩,rfl,(fun _ b=>by cases b), .inr ⟨rfl,fun l i a=>by
  have c:=a.2;have:1≤(i+1)*2^l:=Nat.mul_pos (by omega) (Nat.two_pow_pos l);omega⟩⟩
theorem uH(E:List Ent)(b:Nat)(w:World)(ad:ew w b E)(aV:dy w)(z:bp w)(aS:ct 24 E):
  Calls Tryz.prog 29 #[.pointer (some ⟨b,0,none⟩)] w (Bd w E):=by
 have aE:=Lib.hid ad;have bc:=Lib.hid z;have L:Hid (∀w',Fr af w w'→Calls Tryz.prog 75 #[.pointer (some ⟨b,0,none⟩)] w' (aH w' (aL (dL (ey E))))):=fun w' f=>Ch E b w' (ad.al f) (aV.al f) (z.al f) aS;have a:=fJ (ey E);have c:=Lib.hid a;have CL:Hid (∀w',Fr af w w'→Calls Tryz.prog 76 #[.string ({data:=#[0]}++⟨(dL (ey E)).toArray⟩)] w' (aH w' (aL (mr E)))):=fun w' f=>by
  have aR:dM ({data:=#[0]}++⟨(dL (ey E)).toArray⟩)=0::dL (ey E):=by
   have h:aC ({data:=#[0]}++⟨(dL (ey E)).toArray⟩)=aC ⟨#[0]⟩++aC ⟨(dL (ey E)).toArray⟩:=qN _ _;have a6:aC ⟨(dL (ey E)).toArray⟩=dL (ey E):=ox _;rw[a6]at h;exact h
  have h:=Lt.qj ({data:=#[0]}++⟨(dL (ey E)).toArray⟩) w' (z.al f) (by
   have:=dc ({data:=#[0]}++⟨(dL (ey E)).toArray⟩);rw[aR,List.length_cons,a]at this;omega);rw[aR]at h;exact h
 have a2:Hid (Lt.cy ((mr E).map aU).toArray):=Lt.cy.of (oZ E);have l:Hid (Lt.cy ((dL (ey E)).map aU).toArray):=Lt.cy.of a;have av:Hid (∀p w',w.heap.size≤p→Lt.dQ w' p none 0 0 none [] (Lt.aZ 0)→Fr af w w'→Calls Tryz.prog 84 #[.pointer (some ⟨p,0,none⟩),aL (mr E)] w' (Lt.lG w' p none 0 0 none [] (mr E))):=fun p w' ag aj f=>
  Lt.qV p none 0 0 none [] (mr E) w' aj (oZ E) (by omega) (z.al f) (fun k B aj=>by
   have a8:k<w.heap.size:=by first|(rcases B with rfl|rfl;exact z.yk;exact z.yl)
   rcases aj with rfl|h|h;·omega
   ·cases h
   ·simp[Value.ownBlock]at h);have W:Hid (cL E []=[mr E]):=rfl;have aM:Hid (∀j v,((dL (ey E)).map bv)[j]? =some v→(((dL (ey E)).map aU).toArray)[j]? =some v):=fun j v h=>by rw[List.getElem?_toArray];exact h
 obtain⟨dl,I⟩:∃dl,dL (ey E)=dl:=⟨_,rfl⟩;rw[I]at L c CL l aM;obtain⟨xs,n⟩:∃x:ByteArray,x=⟨dl.toArray⟩:=⟨_,rfl⟩;have aa:=Lib.hid n;rw[←n]at CL;have ab:Hid (xs.size=32):=by rw[Hid,n];simp only[ByteArray.size,List.size_toArray];exact c.out
 generalize mr E=ba at*;unfold aL at L CL;generalize G:(dl.map aU).toArray=a4 at*;have a3:=Lib.hid G;generalize H:(ba.map aU).toArray=a5 at*;have Y:=Lib.hid H;clear ad aV z aS I n a G H;go_enter Tryz.func29,Tryz.ntmps29;go_wp2_with fail;refine(Lt.py _).mono ?_;rintro e w1⟨rfl,m⟩;have t:Hid (ak w1 w.heap.size 180 #[.slice none 0 0, .map none]):=by rw[m];exact ak.new _ _ _
 have aA:Hid (Fr af w w1):=by rw[m];exact(Fr.refl _ _).alloc _
 have s:Hid (w1.heap.size=w.heap.size+1):=by rw[m];simp[Hid]
 clear m;have X:Hid (w.heap.size≤w.heap.size):=Nat.le_refl _;generalize ag:w.heap.size=p at t s⊢;have N:=Lib.hid ag;clear ag X;go_wp2_with(refine au rfl 111 (.tmp 12) rfl #[.pointer (some ⟨b,0,none⟩), .slice none 0 0, .slice none 0 0, .pointer (some ⟨b,0,none⟩), .pointer (some ⟨p,0,none⟩)] rfl ?_);intro w2 aX;have O:=Lib.hid aX;clear aX;generalize aW:w1.heap.size=h at*;have aq:Hid (ak w2 h 111 #[.pointer (some ⟨b,0,none⟩), .slice none 0 0, .slice none 0 0, .pointer (some ⟨b,0,none⟩), .pointer (some ⟨p,0,none⟩)]):=by have q:=O.out.az;rw[aW]at q;exact q
 have aF:Hid (p<h):=by have:=s.out;simp only[Hid];omega
 clear aW;have R:=Lib.hid (aA.out.trans O.out.fr);have aI:=Lib.hid (t.out.fr O.out.fr (fun x=>x));clear O aA t s;go_wp2_with fail;refine(L.out _ R.out).mono ?_;rintro e bb⟨rfl,f3⟩;have S:=Lib.hid (R.out.trans f3);have P:=Lib.hid (aq.out.fr f3 (fun x=>x));have ac:=Lib.hid (aI.out.fr f3 (fun x=>x));clear f3 L R aq aI;go_wp2_with(refine ai rfl 37 rfl aQ Hn ay rfl ?_);intro aY n4;have F:=Lib.hid n4;clear n4;generalize J:bb.heap.size=g5 at*;have aw:Hid (ak aY g5 37 ay):=by have q:=F.out.az;rw[J]at q;exact q
 have r:Hid (w.heap.size≤g5∧p<g5∧h<g5):=by have:=S.out.size;have:=P.out.lt;have:=ac.out.lt;simp only[Hid];omega
 clear J;go_wp2_with(refine ah rfl 37 (.tmp 5) _ rfl g5 a4 rfl rfl _ _ aw.out l.out.Ia l.out.zero l.out.one ?_);intro am b5 f5;have ax:=Lib.hid b5;have Q:=Lib.hid ((P.out.fr F.out.fr (fun x=>x)).fr f5 (fun e=>by have aP:h=g5:=e;have:=r.out;omega));have aJ:=Lib.hid ((ac.out.fr F.out.fr (fun x=>x)).fr f5 (fun e=>by have aP:p=g5:=e;have:=r.out;omega));have T:Hid (Fr af w am):=(S.out.trans F.out.fr).ao f5 (fun i a7 e=>by have aP:i=g5:=e;have:=r.out;omega);clear b5 f5 F aw S P ac;have aO:Hid (∀w',Fr af am w'→w'.cell? {block:=h,off:=4}=some (.pointer (some ⟨p,0,none⟩))):=fun w' f=>(Q.out.fr f (fun x=>x)).cell 4;have aG:Hid (∀w',Fr af am w'→Rd w' (fun _=>True) 1 (some ⟨g5,0,none⟩) 32 (dl.map bv)):=fun w' f=>⟨by rw[List.length_map,c.out],fun _=>⟨_,rfl,trivial,fun j v a9=>by
  rw[Addr.add_mid,Nat.zero_add,(ax.out.fr f (fun x=>x)).cell j];exact aM.out j v a9⟩⟩;go_upto_region 5 with fail;refine iP 8 [.pointer (some ⟨h,0,none⟩), .pointer (some ⟨h,0,none⟩), .pointer (some ⟨h,4,none⟩), .pointer (some ⟨p,0,none⟩), .slice (some ⟨g5,0,none⟩) 32 32, .string xs, .string ({data:=#[0]}++xs), .agg a5] ?zA ?_;case zA=>
  refine⟨?zH,?zB,?zC,?zD,?zI,?zE,?zF,?zG,trivial⟩;all_goals intro u w' o C
  all_goals simp only[z1,z2,z3,z4,an,Act.put,z5,z6,z7,Nat.reduceAdd,Nat.zero_add]
  case' zB=>simp only[show u 0=_ from C 0]
  case' zC=>simp only[show u 1=_ from C 1]
  case zD=>
   simp only[show u 2=_ from C 2];refine aB ?_;have q:=aO.out _ o;go_simp;exact⟨rfl,Fr.refl _ _⟩
  case zE=>
   simp only[show u 4=_ from C 4];refine aB ?_;have ae:=lR w' _ _ 32 32 _ (aG.out _ o);rw[←aa.out]at ae;go_simp;exact⟨rfl,Fr.refl _ _⟩
  case zF=>
   simp only[show u 5=_ from C 5];refine aB ?_;have y:¬9223372036854775807<1+xs.size:=by have:=ab.out;omega
   go_simp;exact⟨rfl,Fr.refl _ _⟩
  case zG=>
   simp only[show u 6=_ from C 6];refine aB ?_;go_simp;refine(CL.out _ (T.out.trans o)).mono ?_;rintro e aY⟨rfl,f4⟩;exact⟨rfl,f4⟩
  all_goals
   refine aB ?_;go_simp;exact⟨rfl,Fr.refl _ _⟩
 intro w' o;simp only[z1,z2,z3,z4,an,Act.put,z5,z6,z7,z8,z9,jl,jm,Nat.reduceAdd,Nat.zero_add];have M:=Lib.hid (T.out.trans o);have ar:=Lib.hid (Q.out.fr o (fun x=>x));have aK:=Lib.hid (aJ.out.fr o (fun x=>x));have U:=Lib.hid (aE.out.al M.out);clear o T Q aJ aO aG CL ax;have g:=Lib.hid (av.out p _ (by have:=N.out;omega) (DY aK.out) M.out);unfold aL at g;rw[Y.out]at g;go_wp2_with fail;refine g.out.mono ?_;rintro e a0⟨rfl,ap,aN,K,aT,A,d⟩;have aD:Hid (Fr af w a0):=M.out.ao A (fun i a7 e=>by
  have:=N.out;rcases e with e|e|e;·omega
  ·cases e
  ·simp[Value.ownBlock]at e);have a1:=Lib.hid (ar.out.fr A (fun e=>by
  have:=aF.out;rcases e with e|e|e;·omega
  ·cases e
  ·simp[Value.ownBlock]at e));have Z:=Lib.hid aT;have V:Hid (∀k,Lt.TB p ap (0+1) aN K k→w.heap.size≤k):=fun k B=>by
  have:=N.out;rcases d k B with h|h
  ·rcases h with h|h|h;·omega
   ·cases h
   ·simp[Value.ownBlock]at h
  ·have:=M.out.size;omega
 have D:Hid (ew a0 b E):=aE.out.al aD.out;clear aT A d g av ar aK U;go_wp2;go_ret2;refine⟨h,_,rfl,⟨b,b,p, .slice none 0 0, .slice none 0 0,[],ap,aN,K,⟨a1.out,D.out,jO.nil _,⟨rfl, .inl ⟨rfl,rfl⟩⟩,rfl,(fun i k B=>by simp at B),D.out,?_⟩,rfl⟩,aD.out,fun k B=>?_⟩;·rw[W.out];exact Z.out
 ·rcases B with y|y|y|y;·have:=aF.out;have:=N.out;omega
  ·simp[Value.ownBlock]at y
  ·simp[Value.ownBlock]at y
  ·exact V.out k y
end Go.Proofs.YtphjagkehiklkaaGreatDoor
namespace Go.Proofs.YtphjagkehiklkaaGreatDoor
open Go.RowKit Go.ChangeShapes Go.WideShapes Go.Deep
theorem xM:Tryz.prog.cellsOf 141=8:=by kernel_rfl
theorem uO:Tryz.prog.cellsOf 242=64:=by kernel_rfl
theorem sH:Tryz.prog.cellsOf 140=1:=by kernel_rfl
theorem oW:Tryz.prog.globalNamed "replevin/sha256.initial"=some 1:=by kernel_rfl
theorem rM:(Tryz.prog.globals[1]?).map (·.type)=some 141:=by kernel_rfl
theorem mm:Tryz.prog.globalNamed "replevin/sha256.constants"=some 2:=by kernel_rfl
theorem oL:(Tryz.prog.globals[2]?).map (·.type)=some 242:=by kernel_rfl
theorem BH{W:World}{rest:List (String×DataW Unit)}(h:laidMet Tryz.prog (("replevin/sha256.initial",Rows.laid_replevin_sha256_initial)::("replevin/sha256.constants",Rows.laid_replevin_sha256_constants)::rest) W):bp W:=by
 have c:Lib.TabIs Tryz.prog W "replevin/sha256.initial" .u32 wT:=Lib.tabIs_of_head oW rM Tryz.underlying141 Tryz.underlying140 sH xM (show laidMet Tryz.prog (_::_) W from h);have d:Lib.TabIs Tryz.prog W "replevin/sha256.constants" .u32 IM:=Lib.tabIs_of_head mm oL Tryz.underlying242 Tryz.underlying140 sH uO (show laidMet Tryz.prog (_::_) W from laidMet.tail h);refine⟨fun j u hu=>?_,fun j a=>?_⟩
 ·have a:j<8:=(List.getElem?_eq_some_iff.1 hu).1;rw[c.cell oW j a,←hu];rcases j with _|_|_|_|_|_|_|_|j;·rfl
  ·rfl
  ·rfl
  ·rfl
  ·rfl
  ·rfl
  ·rfl
  ·rfl
  ·omega
 ·have b:j<rz.length:=a;rw[d.cell mm j (by rw[IM,List.length_map];exact b)];unfold iK IM;rw[List.getD_eq_getElem?_getD,List.getElem?_map,List.getElem?_eq_getElem b];rfl
end Go.Proofs.YtphjagkehiklkaaGreatDoor
