/- Texts. -/
import Derived.Deep.CutBlock
import Derived.Test.YtphjagkehiklkaaGreatDoorUK35
set_option linter.unusedVariables false
set_option linter.unusedSimpArgs false
set_option maxRecDepth 100000
set_option maxHeartbeats 8000000
namespace Go.Proofs.YtphjagkehiklkaaGreatDoor
open Go.RowKit Go.Shelf
theorem yH(st:dP)(h:(aF false bH st).2.2.2=0):st.2.2=0∧st.1=gZ (aF false bH st).1++(aF false bH st).2.1:=by
 by_cases f:st.2.2=0
 ·refine⟨f,?_⟩;unfold aF at h⊢;rw[if_neg (by omega)]at h⊢;by_cases a:(bH st.1).2.2=0
  ·rw[if_neg (by omega)];simp only;unfold bH at a⊢;by_cases d:st.1.length=0;·rw[if_pos d]at a;cases a
   rw[if_neg d]at a⊢;by_cases e:1<(st.1[0]?.getD 0).toNat;·rw[if_pos e]at a;cases a
   rw[if_neg e];simp only;cases g:st.1 with
   |nil=>rw[g]at d;simp at d
   |cons b r=>
    rw[g]at e;simp only[List.getElem?_cons_zero,Option.getD_some]at e⊢;simp only[gZ,List.drop_succ_cons,List.drop_zero,List.cons_append,List.nil_append,List.cons.injEq,and_true];have c:b.toNat=0∨b.toNat=1:=by omega
    rcases c with c|c;·rw[c];exact UInt8.toNat_inj.1 (by rw[c];rfl)
    ·rw[c];exact UInt8.toNat_inj.1 (by rw[c];rfl)
  ·rw[if_pos a]at h;exact absurd h a
 ·rw[lF _ _ _ f]at h;exact absurd h f
theorem vC:∀(n:Nat)(st:dP)(L M:List CV)(a:dP),iU n st L=some (M,a)→a.2.2=0→∃K,M=L++K∧K.length=n∧st.2.2=0∧st.1=K.flatMap lz++a.1
 |0,st,L,M,a,h,b=>by
  simp only[iU,Option.some.injEq,Prod.mk.injEq]at h;obtain⟨rfl,rfl⟩:=h;exact⟨[],by simp,rfl,b,by simp⟩
 |n+1,st,L,M,a,h,b=>by
  rw[iU]at h;by_cases c:(eL (gv st).1).2≠0;·rw[if_pos c]at h;cases h
  rw[if_neg c]at h;obtain⟨K,g,i,j,k⟩:=vC n _ _ _ _ h b;obtain⟨f,s2⟩:=gF 65536 (aF false bH (gv st).2).2 j;obtain⟨e,s1⟩:=yH (gv st).2 f;obtain⟨d,p⟩:=gF 16777216 st e;obtain⟨_,l⟩:=uS (show(eL (gv st).1).2=0 by omega);refine⟨_::K,by rw[g,List.append_assoc];rfl,by simp[i],d,?_⟩;rw[List.flatMap_cons,lz];simp only;rw[l];have m:st.1=aY (gv st).1++(gv st).2.1:=p;have o:(aF false bH (gv st).2).2.1=aY (cY (aF false bH (gv st).2).2).1++(cY (aF false bH (gv st).2).2).2.1:=s2;rw[m,s1,o,k];simp only[List.append_assoc];rfl
theorem tK{st a:dP}{M:List CV}(h:fH st=some (M,a))(c:a.2.2=0):st.2.2=0∧st.1=dp M++a.1:=by
 unfold fH at h;obtain⟨K,b,d,f,g⟩:=vC _ _ _ _ _ h c;obtain⟨e,s⟩:=iq _ st f;rw[List.nil_append]at b;subst b;refine⟨e,?_⟩;rw[s,g,dp,d,List.append_assoc]
theorem CU{l:List UInt8}{a:ActV}(h:iw l=some a):eW a=true∧bY a=l:=by
 unfold iw at h;cases b:fH (fo l).2 with
 |none=>rw[b]at h;cases h
 |some x=>
  obtain⟨z,st⟩:=x;rw[b]at h;simp only at h;cases d:fH st with
  |none=>rw[d]at h;cases h
  |some y=>
   obtain⟨W,st2⟩:=y;rw[d]at h;simp only at h;by_cases c:eK st2=0∧eW ⟨(fo l).1,z,W⟩=true
   ·rw[if_pos c]at h;cases h;refine⟨c.2,?_⟩;obtain⟨g,r⟩:=pK c.1;obtain⟨f,s1⟩:=tK d g;obtain⟨e,s⟩:=tK b f;obtain⟨i,t⟩:=gF 16777216 (rdNum l).2 e;obtain⟨j,u⟩:=iq 999999 (gG l).2 i;obtain⟨k,v⟩:=iq 2 (fj l).2 j;obtain⟨_,w⟩:=iq 1073741824 (l,0,0) k;have q:l=enc (fj l).1.toNat++(fj l).2.1:=w;have p:(fj l).2.1=enc (gG l).1.toNat++(gG l).2.1:=v;have o:(gG l).2.1=enc (rdNum l).1.toNat++(rdNum l).2.1:=u;have n:(rdNum l).2.1=aY (fI l).1++(fI l).2.1:=t;have m:(fI l).2.1=dp z++st.1:=s;rw[bY,oG];simp only[fo];rw[ox,r,List.append_nil]at*;conv=>rhs;rw[q,p,o,n,m,s1]
    simp only[List.append_assoc]
   ·rw[if_neg c]at h;cases h
end Go.Proofs.YtphjagkehiklkaaGreatDoor
namespace Go.Proofs.YtphjagkehiklkaaGreatDoor
open Go.RowKit
theorem FH(w:World)(t:TypeId)(hu:Tryz.prog.underlying t=some (.array 32 5))(l r:List UInt8)(a:l.length=32)(b:r.length=32):
  (binOp .eql t (aL l) (aL r)).run Tryz.prog w= .ok (.bool (decide (l=r))) w:=by
 have:=nJ w t hu l r a b;unfold aL at*;rw[run_eql_struct,this];rfl
end Go.Proofs.YtphjagkehiklkaaGreatDoor
namespace Go.Proofs.YtphjagkehiklkaaGreatDoor.Lt
open Go.RowKit Go.ChangeShapes Go.WideShapes Go.Deep
theorem uN:∀cs:List Value,(∀v∈cs,∃b:UInt8,v=aU b)→∃d:List UInt8,cs=aq d
 |[],_=>⟨[],rfl⟩
 |v::r,h=>by
  obtain⟨b,rfl⟩:=h v (by simp);obtain⟨d,rfl⟩:=uN r (fun x a=>h x (by simp[a]));exact⟨b::d,rfl⟩
end Go.Proofs.YtphjagkehiklkaaGreatDoor.Lt
namespace Go.Proofs.YtphjagkehiklkaaGreatDoor
open Go.RowKit Go.Shelf
theorem Ac(s:ByteArray)(w:World)(j:bp w)(y:s.size<4294960000):Calls Tryz.prog 25 #[.string s] w (aH w (aL (bM (aC s)))):=by
 have CL:Hid (∀w',Fr af w w'→Calls Tryz.prog 76 #[.string ({data:=#[1]}++s)] w' (aH w' (aL (bM (aC s))))):=fun w' f=>by
  have e:aC ({data:=#[1]}++s)=1::aC s:=qN _ _;have h:=Lt.qj ({data:=#[1]}++s) w' (j.al f) (by have:=aG ({data:=#[1]}++s);rw[e,List.length_cons,aG]at this;omega);have t:dM ({data:=#[1]}++s)=1::aC s:=e;rw[t]at h;exact h
 have a:=Lib.hid (Lt.cy.of (fG (aC s)));unfold aL at*;generalize((bM (aC s)).map aU).toArray=d at*;clear j;go_enter Tryz.func25,Tryz.ntmps25;go_wp2_with(refine ai rfl 38 rfl aQ fW ay rfl ?_);intro w1 n1;have b:=Lib.hid n1.fr;have c:=Lib.hid n1.az;clear n1;generalize k:w.heap.size=g at*;have o:=Lib.hid k;clear k;go_wp2_with fail;refine(CL.out _ b.out).mono ?_;rintro e w2⟨rfl,f2⟩;have n:=Lib.hid (b.out.trans f2);have m:=Lib.hid (c.out.fr f2 (fun x=>x));clear f2 CL b c;go_wp2_with(refine ah rfl 38 (.tmp 2) _ rfl g d rfl rfl _ _ m.out a.out.info a.out.zero a.out.one ?_);intro l b5 f5;have q:=Lib.hid b5;have r:Hid (Fr af w l):=n.out.ao f5 (fun i v e=>by have u:i=g:=e;have:=o.out;omega);clear b5 f5;go_wp2;exact bodyPost_ret (results_cell_row (fn:=Tryz.f25) (p:=2) (ty:=38) Tryz.results25 _ l _ 38 d (0,0) _ rfl q.out Tryz.underlying38 rfl a.out.info) rfl ⟨rfl,r.out⟩
end Go.Proofs.YtphjagkehiklkaaGreatDoor
namespace Go.Proofs.YtphjagkehiklkaaGreatDoor
open Go.RowKit Go.Shelf
theorem tm(rt:List UInt8)(s:rt.length=32)(k m:Nat)(aI:k≤65536)(hm:m≤65536)(i:ByteArray)(path:List (List UInt8))(len:Nat)(A:Option Addr)(c:Nat)(S:Nat→Prop)(w:World)(ad:Lt.eF w S A len path)(o:len≤1048576)(ai:bp w)(a8:i.size≤16777216):
  Calls Tryz.prog 21 #[aL rt, .agg [Value.int .i64 (k:Int), .int .i64 (m:Int), .string i, .slice A len c].toArray] w (aH w (.bool (iG rt (k:Int) (m:Int) (aC i) path))):=by
 have CL:Hid (∀w',Fr af w w'→Calls Tryz.prog 25 #[.string i] w' (aH w' (aL (bM (aC i))))):=fun w' f=>Ac i w' (ai.al f) (by omega);have p:Hid (∀w',Fr af w w'→Calls Tryz.prog 58 #[aL (bM (aC i)), .int .i64 ((k:Int)+1), .int .i64 ((m:Int)+1), .slice A len c] w' (aH w' (.tuple #[aL (Lt.bL (bM (aC i)) ((k:Int)+1) ((m:Int)+1) path).1, .int .i64 (Lt.bL (bM (aC i)) ((k:Int)+1) ((m:Int)+1) path).2.2]))):=fun w' f=>
  Lt.uG (bM (aC i)) (fG _) _ _ (by omega) path len A c S w' (ad.al f) o (ai.al f);have z:Hid ((Lt.bL (bM (aC i)) ((k:Int)+1) ((m:Int)+1) path).1.length=32):=Lt.ks (bM (aC i)) (fG _) _ _ path ad.each;have N:Hid (iG rt (k:Int) (m:Int) (aC i) path=(decide ((Lt.bL (bM (aC i)) ((k:Int)+1) ((m:Int)+1) path).2.2=0)&&decide ((Lt.bL (bM (aC i)) ((k:Int)+1) ((m:Int)+1) path).1=rt))):=rfl;have aM:Hid (Lt.cy (rt.map aU).toArray):=Lt.cy.of s;have O:=Lib.hid s;have G:Hid (Lt.cy ((Lt.bL (bM (aC i)) ((k:Int)+1) ((m:Int)+1) path).1.map aU).toArray):=Lt.cy.of z.out;have aE:Hid (m≤65536∧k≤65536):=⟨hm,aI⟩;generalize iG rt (k:Int) (m:Int) (aC i) path=aR at*;unfold aL at CL p⊢;generalize ae:(bM (aC i)).map aU=aP at*;generalize(Lt.bL (bM (aC i)) ((k:Int)+1) ((m:Int)+1) path).2.2=l at*;generalize(Lt.bL (bM (aC i)) ((k:Int)+1) ((m:Int)+1) path).1=fr at*;generalize C:fr.map aU=j at*;have K:=Lib.hid C;generalize D:rt.map aU=t at*;have R:=Lib.hid D;have aF:Hid (∀w:World,(binOp .eql 38 (.agg j.toArray) (.agg t.toArray)).run Tryz.prog w= .ok (.bool (decide (fr=rt))) w):=fun w=>by
  rw[←K.out,←R.out];exact FH w _ Tryz.underlying38 fr rt z.out O.out
 have T:Hid ((Tryz.prog.info? 38).map (·.size)=some j.length):=by have q:=G.out.info;rw[List.size_toArray]at q;exact q
 have U:Hid ((Tryz.prog.info? 38).map (·.size)=some t.length):=by have q:=aM.out.info;rw[List.size_toArray]at q;exact q
 have aS:Hid (IntKind.i64.wrap ((k:Int)+1)=(k:Int)+1):=IntWalk.i64_in _ (by have:=aE.out;omega);have aT:Hid (IntKind.i64.wrap ((m:Int)+1)=(m:Int)+1):=IntWalk.i64_in _ (by have:=aE.out;omega);clear ad o ai a8 s ae D C aI hm;go_enter Tryz.func21,Tryz.ntmps21;go_wp2_with(refine au rfl 38 (.tmp 0) rfl t.toArray rfl ?_);intro w1 n1;have V:=Lib.hid n1;clear n1;generalize E:w.heap.size=g2 at*;have aA:Hid (ak w1 g2 38 t.toArray):=by have q:=V.out.az;rw[E]at q;exact q
 clear E;go_wp2_with(refine au rfl 33 (.tmp 1) rfl [Value.int .i64 (k:Int), .int .i64 (m:Int), .string i, .slice A len c].toArray rfl ?_);intro w2 aJ;have I:=Lib.hid aJ;clear aJ;generalize F:w1.heap.size=n at*;have B:Hid (ak w2 n 33 [Value.int .i64 (k:Int), .int .i64 (m:Int), .string i, .slice A len c].toArray):=by have q:=I.out.az;rw[F]at q;exact q
 clear F;have H:Hid (Fr af w w2):=V.out.fr.trans I.out.fr;have aD:=Lib.hid (aA.out.fr I.out.fr (fun x=>x));have y:Hid (∀W,Fr af w2 W→W.cell? {block:=n,off:=0}=some (.int .i64 (k:Int))∧W.cell? {block:=n,off:=1}=some (.int .i64 (m:Int))∧W.cell? {block:=n,off:=2}=some (.string i)∧W.cell? {block:=n,off:=3}=some (.slice A len c)):=fun W f=>⟨(B.out.fr f (fun x=>x)).cell 0,(B.out.fr f (fun x=>x)).cell 1,(B.out.fr f (fun x=>x)).cell 2,(B.out.fr f (fun x=>x)).cell 3⟩;clear V I aA B;go_upto_region 1 with fail;refine nQ 18 38 [fun v=>v= .pointer (some ⟨n,2,none⟩),fun v=>v= .string i,fun v=>v= .agg aP.toArray,fun v=>v= .pointer (some ⟨n,0,none⟩),fun v=>v= .int .i64 (k:Int),fun v=>v= .int .i64 ((k:Int)+1),fun v=>v= .pointer (some ⟨n,1,none⟩),fun v=>v= .int .i64 (m:Int),fun v=>v= .int .i64 ((m:Int)+1),fun v=>v= .pointer (some ⟨n,3,none⟩),fun v=>v= .slice A len c,fun v=>v= .tuple #[.agg j.toArray, .int .i64 l],fun v=>v= .tuple #[.agg j.toArray, .int .i64 l],fun v=>v= .agg j.toArray,fun v=>v= .int .i64 l,fun _=>True,fun _=>True,fun v=>v= .int .i64 l] [] [(15,ay)] [(16,15,j.toArray)] (by kernel_rfl) (by kernel_rfl) (by kernel_rfl) trivial ?_ ?_
 ·refine⟨fun u w' b a d=>?_,fun u w' b a d=>?_,fun u w' b a d=>?_,fun u w' b a d=>?_,fun u w' b a d=>?_,fun u w' b a d=>?_,fun u w' b a d=>?_,fun u w' b a d=>?_,fun u w' b a d=>?_,fun u w' b a d=>?_,fun u w' b a d=>?_,fun u w' b a d=>?_,fun u w' b a d=>?_,fun u w' b a d=>?_,fun u w' b a d=>?_,fun u w' b a=>?_,fun u w' g b a a7 aj=>?_,fun u w' b a d=>?_,trivial⟩;all_goals simp only[List.take_succ_cons,List.take_zero,List.map_cons,List.map_nil,an,Act.put,List.setIfInBounds_toArray,List.set_cons_zero,List.set_cons_succ,Nat.reduceAdd,Nat.zero_add]
  ·clear a d;refine .inl ⟨by kernel_rfl,?_⟩;go_simp;exact⟨_,rfl,rfl,trivial,Fr.refl _ _⟩
  ·have aW:u 0=_:=a 0 (by kernel_rfl);clear a d;simp only[aW];refine .inl ⟨by kernel_rfl,?_⟩;have q:=y.out _ b;obtain⟨ap,aq,av,aw⟩:=q;go_simp;exact⟨_,rfl,rfl,trivial,Fr.refl _ _⟩
  ·have aX:u 1=_:=a 1 (by kernel_rfl);clear a d;simp only[aX];refine .inl ⟨by kernel_rfl,?_⟩;go_simp;refine(CL.out _ (H.out.trans b)).mono ?_;rintro e ax⟨rfl,f4⟩;exact⟨_,rfl,rfl,trivial,f4⟩
  ·clear a d;refine .inl ⟨by kernel_rfl,?_⟩;go_simp;exact⟨_,rfl,rfl,trivial,Fr.refl _ _⟩
  ·have aZ:u 3=_:=a 3 (by kernel_rfl);clear a d;simp only[aZ];refine .inl ⟨by kernel_rfl,?_⟩;have q:=y.out _ b;obtain⟨ap,aq,av,aw⟩:=q;go_simp;exact⟨_,rfl,rfl,trivial,Fr.refl _ _⟩
  ·have a0:u 4=_:=a 4 (by kernel_rfl);clear a d;simp only[a0];refine .inl ⟨by kernel_rfl,?_⟩;have bb:=aS.out;go_simp;exact⟨_,rfl,rfl,trivial,Fr.refl _ _⟩
  ·clear a d;refine .inl ⟨by kernel_rfl,?_⟩;go_simp;exact⟨_,rfl,rfl,trivial,Fr.refl _ _⟩
  ·have a2:u 6=_:=a 6 (by kernel_rfl);clear a d;simp only[a2];refine .inl ⟨by kernel_rfl,?_⟩;have q:=y.out _ b;obtain⟨ap,aq,av,aw⟩:=q;go_simp;exact⟨_,rfl,rfl,trivial,Fr.refl _ _⟩
  ·have a3:u 7=_:=a 7 (by kernel_rfl);clear a d;simp only[a3];refine .inl ⟨by kernel_rfl,?_⟩;have bc:=aT.out;go_simp;exact⟨_,rfl,rfl,trivial,Fr.refl _ _⟩
  ·clear a d;refine .inl ⟨by kernel_rfl,?_⟩;go_simp;exact⟨_,rfl,rfl,trivial,Fr.refl _ _⟩
  ·have a5:u 9=_:=a 9 (by kernel_rfl);clear a d;simp only[a5];refine .inl ⟨by kernel_rfl,?_⟩;have q:=y.out _ b;obtain⟨ap,aq,av,aw⟩:=q;go_simp;exact⟨_,rfl,rfl,trivial,Fr.refl _ _⟩
  ·have aY:u 2=_:=a 2 (by kernel_rfl);have a1:u 5=_:=a 5 (by kernel_rfl);have a4:u 8=_:=a 8 (by kernel_rfl);have X:u 10=_:=a 10 (by kernel_rfl);clear a d;simp only[aY,a1,a4,X];refine .inl ⟨by kernel_rfl,?_⟩;go_simp;refine(p.out _ (H.out.trans b)).mono ?_;rintro e ax⟨rfl,f4⟩;exact⟨_,rfl,rfl,trivial,f4⟩
  ·have Y:u 11=_:=a 11 (by kernel_rfl);clear a d;simp only[Y];refine .inl ⟨by kernel_rfl,?_⟩;go_simp;exact⟨_,rfl,rfl,trivial,Fr.refl _ _⟩
  ·have r:u 12=_:=a 12 (by kernel_rfl);clear a d;simp only[r];refine .inl ⟨by kernel_rfl,?_⟩;go_simp;exact⟨_,rfl,rfl,trivial,Fr.refl _ _⟩
  ·have r:u 12=_:=a 12 (by kernel_rfl);clear a d;simp only[r];refine .inl ⟨by kernel_rfl,?_⟩;go_simp;exact⟨_,rfl,rfl,trivial,Fr.refl _ _⟩
  ·clear a;refine .inl ⟨by kernel_rfl,?_⟩;refine iO 38 rfl aQ fW ay rfl ?_;intro ax n4;exact⟨_,rfl,trivial,trivial,rfl,n4⟩
  ·have Z:u 13=_:=a 13 (by kernel_rfl);clear a;simp only[Z,a7];refine .inl ⟨by kernel_rfl,?_⟩;obtain⟨cs,hm,aj⟩:=aj;obtain rfl:cs=ay:=by simpa using hm
   refine Lt.j6 38 (.tmp 5) (.tmp 20) rfl g j.toArray rfl rfl _ _ aj G.out.info G.out.zero G.out.one ?_;intro ax b4 f4;exact⟨_,rfl,trivial,b4,f4⟩
  ·have aa:u 14=_:=a 14 (by kernel_rfl);clear a d;simp only[aa];refine .inl ⟨by kernel_rfl,?_⟩;go_simp;exact⟨_,rfl,rfl,trivial,Fr.refl _ _⟩
 intro u w' b a aG a6;have ac:u 17=_:=a 17 (by omega);obtain⟨g8,ab,a9,b8⟩:=aG 15 ay (by simp);have aK:Hid (ak w' g8 38 j.toArray):=b8;have aN:=Lib.hid (H.out.trans b);have J:=Lib.hid (aD.out.fr b (fun x=>x));clear a aG a6 b b8 a9 CL p y H aD;simp only[List.take_succ_cons,List.take_zero,List.map_cons,List.map_nil,an,Act.put,List.setIfInBounds_toArray,List.set_cons_zero,List.set_cons_succ,List.drop_succ_cons,List.drop_zero,Nat.reduceAdd,Nat.zero_add,ac,ab];generalize w'=ba at*;obtain⟨P,ag⟩:∃P,(l==0)=P:=⟨_,rfl⟩;have L:=Lib.hid ag;obtain⟨Q,ah⟩:∃Q,(decide (fr=rt))=Q:=⟨_,rfl⟩;have M:Hid (aR=(bif P then Q else false)):=by
  rw[Hid,N.out,ah,←ag];have aV:decide (l=0)=(l==0):=by by_cases h:l=0<;>simp[h]
  rw[aV];cases(l==0)<;>rfl
 rw[ah]at aF;clear ag ah;go_upto_region 2 with fail;refine jk 8 [.int .i64 l, .bool P, .bool P,bif P then .agg j.toArray else undef,bif P then .agg t.toArray else undef,bif P then .bool Q else undef,bif P then .bool Q else .bool false,bif P then .bool Q else .bool false] ?zA ?_;case zA=>
  refine⟨?zI,?zB,?zC,?zD,?zE,?zF,?zG,?zH,trivial⟩;all_goals intro u w' b a
  all_goals simp only[z1,z2,z3,z4,an,Act.put,z5,z6,z7,Nat.reduceAdd,Nat.zero_add]
  case zB=>
   simp only[show u 0=_ from a 0];refine aB ?_;have t1:=L.out;go_simp;exact⟨rfl,Fr.refl _ _⟩
  case' zC=>simp only[show u 1=_ from a 1]
  case zD=>
   simp only[show u 2=_ from a 2];cases P;case false=>exact bB
   refine aB ?_;exact ar _ _ rfl ⟨g8,0,none⟩ rfl j _ (fun ao v am=>by rw[Addr.add_mid,Nat.zero_add,(aK.out.fr b (fun x=>x)).cell ao,List.getElem?_toArray];exact am) Tryz.underlying38 rfl T.out ⟨rfl,Fr.refl _ _⟩
  case zE=>
   simp only[show u 2=_ from a 2];cases P;case false=>exact bB
   refine aB ?_;exact ar _ _ rfl ⟨g2,0,none⟩ rfl t _ (fun ao v am=>by rw[Addr.add_mid,Nat.zero_add,(J.out.fr b (fun x=>x)).cell ao,List.getElem?_toArray];exact am) Tryz.underlying38 rfl U.out ⟨rfl,Fr.refl _ _⟩
  case zF=>
   simp only[show u 3=_ from a 3,show u 4=_ from a 4,show u 2=_ from a 2];cases P;case false=>exact bB
   refine aB ?_;exact ji _ _ _ _ _ rfl _ _ rfl rfl Tryz.eqGuardType38 _ (aF.out _) ⟨rfl,Fr.refl _ _⟩
  case' zG=>
   simp only[show u 2=_ from a 2,show u 5=_ from a 5];cases P
  case' zH=>
   simp only[show u 6=_ from a 6];cases P
  all_goals
   try simp only[cond]
   refine aB ?_;go_simp;exact⟨rfl,Fr.refl _ _⟩
 intro w' b;simp only[z1,z2,z3,z4,an,Act.put,z5,z6,z7,z8,z9,jl,jm,Nat.reduceAdd,Nat.zero_add];have aO:=Lib.hid (aN.out.trans b);clear b;go_wp2;go_ret;exact⟨by rw[M.out];first|rfl|(cases P<;>rfl),aO.out⟩
end Go.Proofs.YtphjagkehiklkaaGreatDoor
namespace Go.Proofs.YtphjagkehiklkaaGreatDoor
open Go.RowKit Go.Shelf
theorem xW{l:List UInt8}{a:ActV}(h:iw l=some a):a.reads.length≤l.length∧a.writes.length≤l.length:=by
 obtain⟨_,e⟩:=CU h;have b:=pJ a.reads;have c:=pJ a.writes;rw[←e];simp only[bY,dp,List.length_append];omega
theorem mT(rt:List UInt8)(N:rt.length=32)(i n:Int)(l:ByteArray)(path:List (List UInt8))(len:Nat)(A:Option Addr)(c:Nat)(S:Nat→Prop)(w:World)(b6:Lt.eF w S A len path)(bM:len≤c)(D:l.size≤9223372036854775807)(co:c≤9223372036854775807)(bj:dy w)(bi:bp w):
  Calls Tryz.prog 4 #[aL rt, .agg [Value.int .i64 i, .int .i64 n, .string l, .slice A len c].toArray] w (pE w):=by
 have b3:Hid (∀w',Fr af w w'→Calls Tryz.prog 13 #[] w' (pE w')):=fun w' f=>tj w' (bj.al f) (bi.al f);have Y:=b6.take (k:=min len 24) (by omega);have CV:Hid (∀w'(g:ByteArray),Fr af w w'→g.size≤400→Calls Tryz.prog 17 #[aL rt, .agg [Value.int .i64 i, .int .i64 n, .string g, .slice A (min len 24) c].toArray] w' (iW w' rt i n (aC g) (path.take (min len 24)))):=fun w' g f h=>lV rt N i n g _ _ A c S w' (Y.al f) (by omega) (bj.al f) (bi.al f) (by omega);have b2:Hid (∀w'(g:ByteArray),Fr af w w'→g.size≤400→Calls Tryz.prog 20 #[.string g] w' (sf w' (aC g))):=fun w' g f h=>uF g w' (bj.al f) (by omega);have bs:Hid (∀w'(g:ByteArray),Fr af w w'→g.size≤400→¬(n<1∨65536<n∨i<0∨n≤i)→Calls Tryz.prog 21 #[aL rt, .agg [Value.int .i64 i, .int .i64 n, .string g, .slice A (min len 24) c].toArray] w' (aH w' (.bool (iG rt i n (aC g) (path.take (min len 24)))))):=fun w' g f h cx=>by
  obtain⟨m,rfl⟩:∃m:Nat,n=m:=⟨n.toNat,by omega⟩;obtain⟨k,rfl⟩:∃k:Nat,i=k:=⟨i.toNat,by omega⟩;exact tm rt N k m (by omega) (by omega) g _ _ A c S w' (Y.al f) (by omega) (bi.al f) (by omega)
 have L:Hid (∀g:ByteArray,oM rt i n (aC g) (path.take (min len 24))=if n<1∨65536<n∨i<0∨n≤i then 2 else if iw (aC g)=none then 3 else if iG rt i n (aC g) (path.take (min len 24))=true then 0 else 35):=fun _=>rfl;have aJ:Hid (min (l.size:Int) 400=((min l.size 400:Nat):Int)):=by simp only[Hid];omega
 have aK:Hid (min (len:Int) 24=((min len 24:Nat):Int)):=by simp only[Hid];omega
 have bc:Hid (min l.size 400≤400∧min l.size 400≤l.size∧min len 24≤len∧min len 24≤c∧len≤c):=by simp only[Hid];omega
 generalize path.take (min len 24)=a7 at*;generalize min l.size 400=bP at*;generalize min len 24=pn at*;have cg:Hid (Lt.cy (rt.map aU).toArray):=Lt.cy.of N;unfold aL at CV bs⊢;generalize rt.map aU=O at*;have aP:Hid ((Tryz.prog.info? 38).map (·.size)=some O.length):=by have q:=cg.out.info;rw[List.size_toArray]at q;exact q
 clear b6 Y bM D co N bj bi;go_enter Tryz.func4,Tryz.ntmps4;go_wp2_with(refine au rfl 38 (.tmp 0) rfl O.toArray rfl ?_);intro w1 n1;have bf:=Lib.hid n1;clear n1;generalize aa:w.heap.size=g2 at*;have bn:Hid (ak w1 g2 38 O.toArray):=by have q:=bf.out.az;rw[aa]at q;exact q
 have cj:Hid (w.heap.size=g2):=aa;clear aa;go_wp2_with(refine au rfl 33 (.tmp 1) rfl [Value.int .i64 i, .int .i64 n, .string l, .slice A len c].toArray rfl ?_);intro w2 b9;have bg:=Lib.hid b9;clear b9;generalize a1:w1.heap.size=o at*;have ac:Hid (ak w2 o 33 [Value.int .i64 i, .int .i64 n, .string l, .slice A len c].toArray):=by have q:=bg.out.az;rw[a1]at q;exact q
 have bW:=Lib.hid (bn.out.fr bg.out.fr (fun x=>x));have aI:Hid (w.heap.size≤o∧g2<o):=by have:=bf.out.fr.size;have:=bn.out.lt;simp only[Hid];omega
 have b4:Hid (Fr af w w2):=bf.out.fr.trans bg.out.fr;clear a1 bf bg bn;go_upto_region 1 with fail;refine xp 18 (fun k=>k=o) (fun i=>i==15||i==17) (fun i j=>(i==17&&(j==15))) [iS (.pointer (some ⟨o,2,none⟩)),iS (.string l),iS (.pointer (some ⟨o,2,none⟩)),iS (.string l),iS (.int .i64 (l.size:Nat)),iS (.int .i64 (bP:Int)),⟨fun cu _=>∃s:ByteArray,s.size≤400∧cu= .string s,fun _ _ _ _ h=>h⟩,iS (.pointer (some ⟨o,3,none⟩)),iS (.slice A len c),iS (.pointer (some ⟨o,3,none⟩)),iS (.slice A len c),iS (.int .i64 (len:Nat)),iS (.int .i64 (pn:Int)),iS (.slice A pn c),iS (.pointer (some ⟨o,2,none⟩)),⟨fun _ bQ=>∃s:ByteArray,s.size≤400∧ak bQ o 33 #[.int .i64 i, .int .i64 n, .string s, .slice A len c],fun _ _ _ f⟨s,h,b⟩=>⟨s,h,b.fr f (fun x=>x)⟩⟩,iS (.pointer (some ⟨o,3,none⟩)),⟨fun _ bQ=>∃s:ByteArray,s.size≤400∧ak bQ o 33 #[.int .i64 i, .int .i64 n, .string s, .slice A pn c],fun _ _ _ f⟨s,h,b⟩=>⟨s,h,b.fr f (fun x=>x)⟩⟩] ?zU ?_;case zU=>
  refine⟨?yN,?zW,?yO,?zX,?zY,?zZ,?yA,?yP,?yB,?yQ,?zA,?zB,?zC,?zD,?yL,?zE,?yM,?zF,trivial⟩;all_goals intro u w' y d a2
  all_goals simp only[z1,z2,z3,z4,an,Act.put,z5,z6,z7,Nat.reduceAdd,Nat.zero_add]
  case zW=>
   simp only[show u 0=_ from d 0];refine aB ?_;have q:_=some _:=(ac.out.fr a2 (fun x=>x)).cell 2;go_simp;exact⟨_,rfl,Fr.refl _ _,rfl⟩
  case zX=>
   simp only[show u 2=_ from d 2];refine aB ?_;have q:_=some _:=(ac.out.fr a2 (fun x=>x)).cell 2;go_simp;exact⟨_,rfl,Fr.refl _ _,rfl⟩
  case' zY=>simp only[show u 3=_ from d 3]
  case zZ=>
   simp only[show u 4=_ from d 4];refine aB ?_;have q:=aJ.out;go_simp;exact⟨_,rfl,Fr.refl _ _,rfl⟩
  case yA=>
   simp only[show u 1=_ from d 1,show u 5=_ from d 5];refine aB ?_;have bK:(bP:Int)≤(l.size:Int):=by have:=bc.out;omega
   have cm:(0:Int)≤(bP:Int):=by omega
   go_simp;exact⟨_,rfl,Fr.refl _ _,⟨_,by simp only[ByteArray.size_extract];have:=bc.out;omega,rfl⟩⟩
  case yB=>
   simp only[show u 7=_ from d 7];refine aB ?_;have q:_=some _:=(ac.out.fr a2 (fun x=>x)).cell 3;go_simp;exact⟨_,rfl,Fr.refl _ _,rfl⟩
  case zA=>
   simp only[show u 9=_ from d 9];refine aB ?_;have q:_=some _:=(ac.out.fr a2 (fun x=>x)).cell 3;go_simp;exact⟨_,rfl,Fr.refl _ _,rfl⟩
  case' zB=>simp only[show u 10=_ from d 10]
  case zC=>
   simp only[show u 11=_ from d 11];refine aB ?_;have q:=aK.out;go_simp;exact⟨_,rfl,Fr.refl _ _,rfl⟩
  case zD=>
   simp only[show u 8=_ from d 8,show u 12=_ from d 12];refine aB ?_;have bK:(pn:Int)≤(c:Int):=by have:=bc.out;omega
   have cm:(0:Int)≤(pn:Int):=by omega
   go_simp;exact⟨_,rfl,Fr.refl _ _,rfl⟩
  case zE=>
   obtain⟨bO,bN,bK⟩:=d 6;simp only[show u 14=_ from d 14,bK];refine aB ?_;refine gP 9 (.tmp 24) (.tmp 16) rfl o 2 (.string bO) rfl rfl rfl rfl 33 _ #[.int .i64 i, .int .i64 n, .string bO, .slice A len c] (ac.out.fr a2 (fun x=>x)) (show 2<4 by decide) rfl ?_;intro bk ad f6;exact⟨_,rfl,⟨y.trans f6,fun _ h=>h,fun _ h=>h,fun _ h=>h,fun _ h=>h,fun _ h=>h,fun _ h=>h,fun _ h=>h,fun _ h=>h,fun _ h=>h,fun _ h=>h,fun _ h=>h,fun _ h=>h,fun _ h=>h,fun _ h=>h,fun _ h=>h,jJ,jJ,jJ,trivial⟩,⟨bO,bN,ad⟩⟩
  case zF=>
   simp only[show u 16=_ from d 16,show u 13=_ from d 13];refine aB ?_;obtain⟨a8,a3,aV⟩:=d 15;refine gP 31 (.tmp 25) (.tmp 23) rfl o 3 (.slice A pn c) rfl rfl rfl rfl 33 _ #[.int .i64 i, .int .i64 n, .string a8, .slice A pn c] aV (show 3<4 by decide) rfl ?_;intro bk ad f6;exact⟨_,rfl,⟨y.trans f6,fun _ h=>h,fun _ h=>h,fun _ h=>h,fun _ h=>h,fun _ h=>h,fun _ h=>h,fun _ h=>h,fun _ h=>h,fun _ h=>h,fun _ h=>h,fun _ h=>h,fun _ h=>h,fun _ h=>h,fun _ h=>h,fun _ h=>h,jJ,fun _ h=>h,jJ,trivial⟩,⟨a8,a3,ad⟩⟩
  all_goals
   refine aB ?_;go_simp;exact⟨_,rfl,Fr.refl _ _,rfl⟩
 intro u w' y d;obtain⟨g,a4,aW⟩:=d 17 (by omega);simp only[z1,z2,z3,z4,an,Act.put,z5,z6,z7,z8,z9,Nat.reduceAdd,Nat.zero_add];clear d;have K:=Lib.hid a4;have b5:=Lib.hid aW;have bX:=Lib.hid (bW.out.fr y (fun e=>by have bJ:g2=o:=e;have:=aI.out;omega));have bt:Hid (Fr af w w'):=b4.out.ao y (fun j cv e=>by have bJ:j=o:=e;have:=aI.out;omega);clear y a4 aW ac bW b4 aJ aK bc;generalize w'=cB at*;go_wp2_with fail;refine(b3.out _ bt.out).mono ?_;rintro e a9⟨rfl,f4⟩;have ba:=Lib.hid (bt.out.trans f4);have ce:=Lib.hid (bX.out.fr f4 (fun x=>x));have bh:=Lib.hid (b5.out.fr f4 (fun x=>x));clear f4 b3 b5 bX bt;obtain⟨M,C⟩:∃M,[Value.int .i64 i, .int .i64 n, .string g, .slice A pn c]=M:=⟨_,rfl⟩;have bI:Hid (ak a9 o 33 M.toArray):=by rw[Hid,←C];exact bh.out
 have aO:Hid ((Tryz.prog.info? 33).map (·.size)=some M.length):=by rw[Hid,←C];exact gg
 have ax:Hid (∀w',Fr af w w'→Calls Tryz.prog 17 #[.agg O.toArray, .agg M.toArray] w' (iW w' rt i n (aC g) a7)):=fun w' f=>by rw[←C];exact CV.out w' g f K.out
 have R:Hid (∀w',Fr af w w'→¬(n<1∨65536<n∨i<0∨n≤i)→Calls Tryz.prog 21 #[.agg O.toArray, .agg M.toArray] w' (aH w' (.bool (iG rt i n (aC g) a7)))):=fun w' f=>by rw[←C];exact bs.out w' g f K.out
 clear C CV bs;have be:Hid (∀W,Fr af a9 W→∀j x,O[j]? =some x→W.cell? ((⟨g2,0,none⟩:Addr).add j)=some x):=fun W f j x ab=>by rw[Addr.add_mid,Nat.zero_add,(ce.out.fr f (fun x=>x)).cell j,List.getElem?_toArray];exact ab
 have bd:Hid (∀W,Fr af a9 W→∀j x,M[j]? =some x→W.cell? ((⟨o,0,none⟩:Addr).add j)=some x):=fun W f j x ab=>by rw[Addr.add_mid,Nat.zero_add,(bI.out.fr f (fun x=>x)).cell j,List.getElem?_toArray];exact ab
 go_wp2_with(refine aw rfl 38 (.tmp 2) rfl ⟨g2,0,none⟩ rfl O _ ?zO Tryz.underlying38 rfl aP.out (aR.go ?zS));case zO=>exact be.out _ (Fr.refl _ _)
 unfold aR;go_wp2_with(refine aw rfl 33 (.tmp 3) rfl ⟨o,0,none⟩ rfl M _ ?zN Tryz.underlying33 rfl aO.out (aR.go ?zR));case zN=>exact bd.out _ (Fr.refl _ _)
 unfold aR;go_wp2_with fail;refine(ax.out _ ba.out).mono ?_;rintro e cc⟨cs,a,t,rfl,F,f5,aX,ae,b7⟩;have bR:=Lib.hid F;have ay:=Lib.hid f5;have I:=Lib.hid aX;have T:=Lib.hid ae;have U:=Lib.hid b7;have ch:=Lib.hid F.len;have bz:Hid ((Tryz.prog.info? 46).map (·.size)=some cs.toArray.size):=by rw[Hid,List.size_toArray,F.len];exact bm
 have aN:Hid ((Tryz.prog.info? 46).map (·.size)=some cs.length):=by rw[Hid,F.len];exact bm
 have bw:Hid (6=cs.toArray.size):=by rw[Hid,List.size_toArray,F.len]
 have bG:=Lib.hid (ActV.one F);clear F f5 aX ae b7 ax;go_wp2_with(refine ai rfl 46 rfl dU jN #[.int .i64 0, .int .i64 0, .int .i64 0, .string ByteArray.empty, .slice none 0 0, .slice none 0 0] rfl ?_);intro cr ca;have bE:=Lib.hid ca;clear ca;generalize aZ:cc.heap.size=g5 at*;have aE:=Lib.hid aZ;clear aZ;have bZ:Hid (ak cr g5 46 #[.int .i64 0, .int .i64 0, .int .i64 0, .string ByteArray.empty, .slice none 0 0, .slice none 0 0]):=by have h:=bE.out.az;rw[aE.out]at h;exact h
 go_wp2_with(refine ah rfl 46 (.tmp 5) _ rfl g5 cs.toArray rfl rfl _ _ bZ.out bz.out bw.out bG.out ?_);intro bk ad f6;have aj:=Lib.hid ad;have f56:Fr af cc bk:=bE.out.fr.ao f6 (fun i cp e=>by have bJ:i=g5:=e;have:=aE.out;omega);have G:=Lib.hid (ay.out.trans f56);have bS:=Lib.hid (bR.out.al f56);clear ad f6 f56 bE bZ ay bR;have m2:bk.cell? ⟨o,2,none⟩=some (.string g):=(bh.out.fr G.out (fun x=>x)).cell 2;go_wp2_with fail;refine(b2.out _ g (ba.out.trans G.out) K.out).mono ?_;rintro e cd⟨ds,b,aS,rfl,D,f7,E⟩;have bY:=Lib.hid D;have bT:=Lib.hid (bS.out.al f7);have am:=Lib.hid (aj.out.fr f7 (fun x=>x));have aA:=Lib.hid (G.out.trans f7);have H:=Lib.hid E;have bD:Hid ((Tryz.prog.info? 46).map (·.size)=some ds.toArray.size):=by rw[Hid,List.size_toArray,D.len];exact bm
 have bA:Hid ((Tryz.prog.info? 46).map (·.size)=some ds.length):=by rw[Hid,D.len];exact bm
 have bx:Hid (6=ds.toArray.size):=by rw[Hid,List.size_toArray,D.len]
 have bH:=Lib.hid (ActV.one D);clear D f7 E b2 m2 bS aj G;go_wp2_with(refine ai rfl 46 rfl dU jN #[.int .i64 0, .int .i64 0, .int .i64 0, .string ByteArray.empty, .slice none 0 0, .slice none 0 0] rfl ?_);intro wd cb;have bF:=Lib.hid cb;clear cb;generalize a0:cd.heap.size=g8 at*;have aF:=Lib.hid a0;clear a0;have b0:Hid (ak wd g8 46 #[.int .i64 0, .int .i64 0, .int .i64 0, .string ByteArray.empty, .slice none 0 0, .slice none 0 0]):=by have h:=bF.out.az;rw[aF.out]at h;exact h
 go_wp2_with(refine ah rfl 46 (.tmp 8) _ rfl g8 ds.toArray rfl rfl _ _ b0.out bD.out bx.out bH.out ?_);intro bl b8 f8;have av:=Lib.hid b8;have f78:Fr af cd bl:=bF.out.fr.ao f8 (fun i cp e=>by have bJ:i=g8:=e;have:=aF.out;omega);have p:=Lib.hid (aA.out.trans f78);have bU:=Lib.hid (bT.out.al f78);have b1:=Lib.hid (bY.out.al f78);have ap:=Lib.hid (am.out.fr f78 (fun x=>x));clear b8 f8 f78 bF b0 aA bT bY am;go_upto_block 0 with fail;go_cut[7](fun v ct=>v= .int .i64 t∧Fr af bl ct);case first=>
  have cz:bl.cell? ⟨o,0,none⟩=some (.int .i64 i):=(bh.out.fr p.out (fun x=>x)).cell 0;have cA:bl.cell? ⟨o,1,none⟩=some (.int .i64 n):=(bh.out.fr p.out (fun x=>x)).cell 1;have r:Hid (n<1∨65536<n∨i<0∨n≤i→t=2):=fun h=>by rw[I.out,L.out,if_pos h]
  by_cases Q:n<1;·have t1:decide (n<1)=true:=decide_eq_true Q;obtain rfl:=r.out (.inl Q);clear Q;go_wp2;go_meet;exact⟨rfl,Fr.refl _ _⟩
  have t1:decide (n<1)=false:=decide_eq_false Q;by_cases X:65536<n;·have t2:decide (65536<n)=true:=decide_eq_true X;obtain rfl:=r.out (.inr (.inl X));clear Q X;go_wp2;go_meet;exact⟨rfl,Fr.refl _ _⟩
  have t2:decide (65536<n)=false:=decide_eq_false X;by_cases ag:i<0;·have t3:decide (i<0)=true:=decide_eq_true ag;obtain rfl:=r.out (.inr (.inr (.inl ag)));clear Q X ag;go_wp2;go_meet;exact⟨rfl,Fr.refl _ _⟩
  have t3:decide (i<0)=false:=decide_eq_false ag;by_cases aT:n≤i;·have t4:decide (n≤i)=true:=decide_eq_true aT;obtain rfl:=r.out (.inr (.inr (.inr aT)));clear Q X ag aT;go_wp2;go_meet;exact⟨rfl,Fr.refl _ _⟩
  have t4:decide (n≤i)=false:=decide_eq_false aT;have aM:Hid (¬(n<1∨65536<n∨i<0∨n≤i)):=by simp only[Hid];omega
  clear Q X ag aT r;have B:Hid (t=if iw (aC g)=none then 3 else if iG rt i n (aC g) a7=true then 0 else 35):=by rw[Hid,I.out,L.out,if_neg aM.out]
  by_cases he:aS=0;case neg=>
   have bL:aS=3∧iw (aC g)=none:=by
    rcases H.out with⟨h,_⟩|⟨h,cn,_⟩;·exact absurd h he
    ·exact⟨h,cn⟩
   obtain rfl:t=3:=by rw[B.out,if_pos bL.2]
   obtain rfl:=bL.1;have t5:((3:Int)!=0)=true:=rfl;clear he bL;go_wp2;go_meet;exact⟨rfl,Fr.refl _ _⟩
  subst he;have aD:Hid (iw (aC g)≠none):=by
   rcases H.out with⟨_,h⟩|⟨h,_⟩;·rw[Hid,h];simp
   ·cases h
  have t5:((0:Int)!=0)=false:=rfl;go_wp2_with(refine aw rfl 38 (.tmp 2) rfl ⟨g2,0,none⟩ rfl O _ ?zP Tryz.underlying38 rfl aP.out (aR.go ?holds));case zP=>first|exact be.out _ p.out|exact fun j x ab=>by have q:=be.out _ p.out j x ab;rw[Addr.add_mid,Nat.zero_add]at q;exact q
  unfold aR;go_wp2_with(refine aw rfl 33 (.tmp 3) rfl ⟨o,0,none⟩ rfl M _ ?zQ Tryz.underlying33 rfl aO.out (aR.go ?zT));case zQ=>first|exact bd.out _ p.out|exact fun j x ab=>by have q:=bd.out _ p.out j x ab;rw[Addr.add_mid,Nat.zero_add]at q;exact q
  unfold aR;go_wp2_with fail;refine(R.out _ (ba.out.trans p.out) aM.out).mono ?_;rintro e cC⟨rfl,f9⟩;have bb:=Lib.hid f9;clear f9;have J:Hid (t=if iG rt i n (aC g) a7=true then 0 else 35):=by rw[Hid,B.out,if_neg aD.out]
  clear I B L aD T U R;generalize iG rt i n (aC g) a7=ck at*;cases ck;·obtain rfl:t=35:=J.out;clear J;go_wp2;go_meet;exact⟨rfl,bb.out⟩
  ·obtain rfl:t=0:=J.out;clear J;go_wp2;go_meet;exact⟨rfl,bb.out⟩
 case rest=>
  obtain⟨rfl,aY⟩:=hcut;have z:=Lib.hid aY;clear aY;have cq:(t !=t)=false:=by simp
  have aq:=Lib.hid (ap.out.fr z.out (fun x=>x));have bo:=Lib.hid (av.out.fr z.out (fun x=>x));have bV:=Lib.hid (bU.out.al z.out);have cf:=Lib.hid (b1.out.al z.out);have bb:Hid (Fr af w wc):=ba.out.trans (p.out.trans z.out);obtain⟨P,Z⟩:∃P,(t==0)=P:=⟨_,rfl⟩;have bu:=Lib.hid Z;have V:Hid ((aC g).length≤400):=by rw[Hid,aG];exact K.out
  have bq:Hid (P=true→∀w',Fr af wc w'→Calls Tryz.prog 19 #[.agg cs.toArray, .agg ds.toArray] w' (aH w' (.bool true))):=fun h w' f=>by
   have ae:t=0:=by rw[h]at Z;simpa using Z
   have aQ:=T.out ae;have cl:b=a:=by
    rcases H.out with⟨_,q⟩|⟨_,q,_⟩;·rw[aQ]at q;exact(Option.some.inj q).symm
    ·rw[aQ]at q;cases q
   have D:=cf.out.al f;rw[cl]at D;have cw:=xW aQ;have q:=kJ a a cs ds w' (bV.out.al f) D (by have:=V.out;omega) (by have:=V.out;omega);rw[(pO a a).2 rfl]at q;exact q
  have br:Hid (P=false→∀w',Fr af wc w'→Calls Tryz.prog 19 #[.agg cs.toArray, .agg bC.toArray] w' (aH w' (.bool true))):=fun h w' f=>by
   have ae:t≠0:=by rw[h]at Z;simpa using Z
   have aQ:=U.out ae;have F:=bV.out.al f;rw[aQ]at F;have q:=kJ iQ iQ cs bC w' F (mL w') (by decide) (by decide);rw[(pO iQ iQ).2 rfl]at q;exact q
  have bv:Hid ((t !=0)=!P):=by rw[Hid,←Z];rfl
  clear Z T U H I L R V p z ap av bU b1 be bd;go_upto_region 15 with fail;refine jk 17 [.int .i64 t, .bool P, .bool P,bif P then .agg cs.toArray else undef,bif P then .agg ds.toArray else undef,bif P then .bool true else undef,bif P then .bool true else .bool false,bif P then .bool true else .bool false,bif P then undef else .int .i64 t,bif P then undef else .bool (!P),bif P then undef else .bool true,bif P then undef else .agg cs.toArray,bif P then undef else .agg bC.toArray,bif P then undef else .bool true,bif P then undef else .bool true, .bool true, .bool true] ?zV ?_;case zV=>
   refine⟨?yR,?yC,?yD,?yE,?yF,?yG,?yH,?yI,?yJ,?yK,?zG,?zH,?zI,?zJ,?zK,?zL,?zM,trivial⟩;all_goals intro u w' y d
   all_goals simp only[z1,z2,z3,z4,an,Act.put,z5,z6,z7,Nat.reduceAdd,Nat.zero_add]
   case yC=>
    simp only[show u 0=_ from d 0];refine aB ?_;have t1:=bu.out;go_simp;exact⟨rfl,Fr.refl _ _⟩
   case' yD=>simp only[show u 1=_ from d 1]
   case yE=>
    simp only[show u 2=_ from d 2];cases P;case false=>exact bB
    refine aB ?_;exact ar _ _ rfl ⟨g5,0,none⟩ rfl cs _ (fun a6 v a5=>by rw[Addr.add_mid,Nat.zero_add,(aq.out.fr y (fun x=>x)).cell a6,List.getElem?_toArray];exact a5) Tryz.underlying46 rfl aN.out ⟨rfl,Fr.refl _ _⟩
   case yF=>
    simp only[show u 2=_ from d 2];cases P;case false=>exact bB
    refine aB ?_;exact ar _ _ rfl ⟨g8,0,none⟩ rfl ds _ (fun a6 v a5=>by rw[Addr.add_mid,Nat.zero_add,(bo.out.fr y (fun x=>x)).cell a6,List.getElem?_toArray];exact a5) Tryz.underlying46 rfl bA.out ⟨rfl,Fr.refl _ _⟩
   case yG=>
    simp only[show u 3=_ from d 3,show u 4=_ from d 4,show u 2=_ from d 2];cases P;case false=>exact bB
    refine aB ?_;go_simp;refine(bq.out rfl _ y).mono ?_;rintro e a9⟨rfl,f4⟩;exact⟨rfl,f4⟩
   case' yH=>
    simp only[show u 2=_ from d 2,show u 5=_ from d 5];cases P
   case' yI=>
    simp only[show u 6=_ from d 6];cases P
   case' yJ=>
    simp only[show u 7=_ from d 7];cases P;case true=>exact bB
   case yK=>
    simp only[show u 8=_ from d 8,show u 7=_ from d 7];cases P;case true=>exact bB
    refine aB ?_;have t1:=bv.out;go_simp;exact⟨rfl,Fr.refl _ _⟩
   case' zG=>
    simp only[show u 9=_ from d 9,show u 7=_ from d 7];cases P;case true=>exact bB
   case zH=>
    simp only[show u 10=_ from d 10];cases P;case true=>exact bB
    refine aB ?_;exact ar _ _ rfl ⟨g5,0,none⟩ rfl cs _ (fun a6 v a5=>by rw[Addr.add_mid,Nat.zero_add,(aq.out.fr y (fun x=>x)).cell a6,List.getElem?_toArray];exact a5) Tryz.underlying46 rfl aN.out ⟨rfl,Fr.refl _ _⟩
   case zI=>
    simp only[show u 10=_ from d 10];cases P;case true=>exact bB
    refine aB ?_;exact iu 46 _ rfl bC.toArray _ (by simp only[List.map_toArray,List.map_nil]) ef ⟨rfl,Fr.refl _ _⟩
   case zJ=>
    simp only[show u 11=_ from d 11,show u 12=_ from d 12,show u 10=_ from d 10];cases P;case true=>exact bB
    refine aB ?_;go_simp;refine(br.out rfl _ y).mono ?_;rintro e a9⟨rfl,f4⟩;exact⟨rfl,f4⟩
   case' zK=>
    simp only[show u 10=_ from d 10,show u 13=_ from d 13,show u 7=_ from d 7];cases P;case true=>exact bB
   case' zL=>
    simp only[show u 7=_ from d 7,show u 14=_ from d 14];cases P
   case' zM=>simp only[show u 15=_ from d 15]
   all_goals
    try simp only[cond]
    refine aB ?_;go_simp;exact⟨rfl,Fr.refl _ _⟩
  intro w' y;simp only[z1,z2,z3,z4,an,Act.put,z5,z6,z7,z8,z9,jl,jm,Nat.reduceAdd,Nat.zero_add];have ci:=Lib.hid (bb.out.trans y);clear y;go_wp2;go_ret;exact⟨rfl,ci.out⟩
end Go.Proofs.YtphjagkehiklkaaGreatDoor
