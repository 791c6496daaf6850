/- Texts. -/
import Derived.Test.YtphjagkehiklkaaGreatDoorWK29
set_option linter.unusedVariables false
set_option linter.unusedSimpArgs false
set_option maxRecDepth 100000
set_option maxHeartbeats 8000000
namespace Go.Proofs.YtphjagkehiklkaaGreatDoor.Lt
open Go.RowKit
theorem oO(leaf:List UInt8)(a:leaf.length=32)(index n:Int)(path:List (List UInt8))(he:∀d∈path,d.length=32):(dn leaf index n path).1.length=32:=by
 unfold dn;split
 ·split;·rename_i h;exact(uW leaf a path he _ _ rfl (by omega)).root
  ·exact ck
 ·exact ck
theorem qg(leaf:List UInt8)(d:leaf.length=32)(index n:Int)(e:-9223372036854775808≤n∧n≤9223372036854775807)(path:List (List UInt8))(len:Nat)(A:Option Addr)(c:Nat)(S:Nat→Prop)(w:World)(f:eM w S A len path)(a:len≤1048576)(g:bB w):
  Calls Tryz.prog 77 #[aE leaf, .int .i64 index, .int .i64 n, .slice A len c] w (jT w (dn leaf index n path)):=by
 by_cases h:1≤n∧n≤1048576∧0≤index∧index<n;·obtain⟨b,rfl⟩:∃b:Nat,n=b:=⟨n.toNat,by omega⟩;obtain⟨i',rfl⟩:∃i':Nat,index=i':=⟨index.toNat,by omega⟩;exact BY leaf d i' b (by omega) (by omega) path len A c S w f a g
 ·have:=ye leaf d index n A len c w h e;unfold dn;rw[if_neg h];exact this
theorem D3(leaf:List UInt8)(k:leaf.length=32)(index n:Int)(V:-9223372036854775808≤n∧n≤9223372036854775807)(path:List (List UInt8))(len:Nat)(A:Option Addr)(c:Nat)(S:Nat→Prop)(w:World)(z:eM w S A len path)(g:len≤1048576)(L:bB w):
  Calls Tryz.prog 58 #[aE leaf, .int .i64 index, .int .i64 n, .slice A len c] w (aJ w (.tuple #[aE (dn leaf index n path).1, .int .i64 (dn leaf index n path).2.2])):=by
 have t:Hid (∀w',Fr ag w w'→Calls Tryz.prog 77 #[aE leaf, .int .i64 index, .int .i64 n, .slice A len c] w' (jT w' (dn leaf index n path))):=fun w' M=>qg leaf k index n V path len A c S w' (z.ar M) g (L.ar M);have C:=oO leaf k index n path z.each;have u:Hid ((Tryz.prog.info? 38).map (·.size)=some (ao leaf).length):=by rw[ao,List.length_map,k];exact cg
 unfold jT at t;generalize(dn leaf index n path).2.1=Y at*;generalize(dn leaf index n path).2.2=E at*;generalize(dn leaf index n path).1=r at*;have a:Hid (bT (ao r).toArray):=bT.of C;have y:Hid ((Tryz.prog.info? 38).map (·.size)=some (ao r).length):=by rw[ao,List.length_map,C];exact cg
 clear k z L C;unfold aE at*;simp only[show∀l:List UInt8,l.map aS=ao l from fun _=>rfl]at*;generalize ao leaf=U at*;generalize ao r=j at*;go_enter Tryz.func58,Tryz.ntmps58;go_wp2_with(refine aA rfl 38 (.tmp 0) rfl _ rfl ?_);intro w1 n1;have h:=af n1;clear n1;go_wp2_with(refine ak rfl 38 rfl aI dW aB rfl ?_);intro w2 m;have D:=af (h.out.aH.fr m.fr (fun x=>x));have F:=af m.aH;have G:=af (h.out.fr.trans m.fr);have z1:Hid (w.heap.size≤w1.heap.size):=h.out.fr.size;clear m h;generalize K:w.heap.size=g4 at*;have H:=af K;clear K;generalize w1.heap.size=g8 at*;go_wp2_with(refine dZ rfl 38 (.tmp 4) rfl g4 rfl _ U D.out _ Tryz.underlying38 rfl u.out ?_);refine(t.out _ G.out).mono ?_;rintro e w3⟨v,rfl,B⟩;have O:=af (G.out.trans B.ar);have f:=af (F.out.fr B.ar (fun x=>x));clear B t F D;go_wp2_with(refine ak rfl 38 rfl aI dW aB rfl ?_);intro Z n4;have P:=af (O.out.trans n4.fr);have o:=af (f.out.fr n4.fr (fun x=>x));have b:=af n4.aH;have z2:Hid (g8<w3.heap.size):=f.out.lt;clear n4;generalize w3.heap.size=g10 at*;go_wp2_with(refine ai rfl 38 (.tmp 10) _ rfl g10 j.toArray rfl rfl _ _ b.out a.out.info a.out.zero a.out.one ?_);intro X b5 f5;have d:=af b5;have s:=af (o.out.fr f5 (fun e=>by have J:g8=g10:=e;have:=z2.out;omega));have Q:Hid (Fr ag w X):=P.out.aw f5 (fun i W e=>by have J:i=g10:=e;have:=z2.out;have:=z1.out;have:=H.out;omega);clear b5 f5;go_wp2_with(first|(refine dZ rfl 38 (.tmp 10) rfl g10 rfl _ j d.out _ Tryz.underlying38 rfl y.out ?_)|(refine ai rfl 38 (.tmp 8) _ rfl g8 j.toArray rfl rfl _ _ s.out a.out.info a.out.zero a.out.one ?_));intro N I f6;have R:=af I;have T:Hid (Fr ag w N):=Q.out.aw f6 (fun i W e=>by have J:i=g8:=e;have:=z1.out;have:=H.out;omega);clear I f6;go_wp2;exact bodyPost_ret (dK (fn:=Tryz.f58) (p:=8) (q:=9) (ty:=38) Tryz.results58 _ N _ 38 j.toArray (0,0) _ rfl R.out Tryz.underlying38 rfl a.out.info _ rfl) rfl ⟨rfl,T.out⟩
end Go.Proofs.YtphjagkehiklkaaGreatDoor.Lt
namespace Go.Proofs.YtphjagkehiklkaaGreatDoor
open Go.RowKit Go.Shelf
def oa:ActV:=⟨⟨0,0,0,ByteArray.empty⟩,[],[]⟩
def ca:List Value:=[.int .i64 0, .int .i64 0, .int .i64 0, .string ByteArray.empty, .slice none 0 0, .slice none 0 0]
theorem qt(w:World):df w ca oa:=⟨_,_,rfl,dO.nil _,dO.nil _⟩
def xk(w:World)(l:List UInt8)(e:Ending)(w':World):Prop:=
 ∃cs a b,e= .returned (.tuple #[.agg cs.toArray, .int .i64 b])∧df w' cs a∧Fr ag w w'∧((b=0∧mJ l=some a)∨(b=3∧mJ l=none∧a=oa))
theorem Ah(st:fp):(jR st).1.length≤st.1.length∧(jR st).2.1.length≤st.1.length:=by
 unfold jR aN;split;·simp
 ·split;·simp
  ·refine⟨?_,by simp⟩;simp only[cq];repeat' split
   all_goals simp
   all_goals omega
theorem Ir(st:fp):(dG st).1.length≤st.1.length∧(dG st).2.1.length≤st.1.length:=by
 unfold dG aN;split;·simp
 ·split;·simp
  ·refine⟨?_,by simp⟩;simp only[cq];repeat' split
   all_goals simp
   all_goals omega
theorem EN(st:fp):(aN false cY st).2.1.length≤st.1.length:=zV st
theorem rR(B:Nat)(f:B≤16777216):∀(n:Nat)(st:fp)(L M:List CV)(a:fp),lH n st L=some (M,a)→st.1.length≤B→(∀c∈L,c.nm.owner.size≤16777216∧c.nm.text.size≤16777216)→(∀c∈M,c.nm.owner.size≤16777216∧c.nm.text.size≤16777216)∧a.1.length≤B
 |0,st,L,M,a,h,e,d=>by
  simp only[lH,Option.some.injEq,Prod.mk.injEq]at h;obtain⟨rfl,rfl⟩:=h;exact⟨d,e⟩
 |n+1,st,L,M,a,h,e,d=>by
  rw[lH]at h;by_cases c:(gh (jR st).1).2≠0;·rw[if_pos c]at h;cases h
  rw[if_neg c]at h;have g:=Ah st;have i:=EN (jR st).2;have j:=Ir (aN false cY (jR st).2).2;refine rR B f n _ _ _ _ h (by omega) (fun x b=>?_);rcases List.mem_append.1 b with b|b;·exact d x b
  ·rw[List.mem_singleton]at b;subst b;have:=sx (jR st).1;simp only;omega
theorem zY(l:List UInt8):(iz l).2.1.length≤l.length∧(iz l).1.fA.size≤l.length:=by
 have a:∀(aP:Int)(st:fp),(aN 0 (bp aP) st).2.1.length≤st.1.length:=fun aP st=>by
  unfold aN;split;·simp
  ·split;·simp
   ·simp
 have b:=a 1073741824 (l,0,0);have a2:=a 2 (ja l).2;have a3:=a 999999 (jO l).2;have a4:=Ah (rdNum l).2;have c:(ja l).2.1.length≤l.length:=b;have d:(jO l).2.1.length≤(ja l).2.1.length:=a2;have e:(rdNum l).2.1.length≤(jO l).2.1.length:=a3;refine⟨?_,?_⟩;·show(iP l).2.1.length≤l.length;have:(iP l).2.1.length≤(rdNum l).2.1.length:=a4.2;omega
 ·show(⟨(iP l).1.toArray⟩:ByteArray).size≤l.length;have f:(iP l).1.length≤(rdNum l).2.1.length:=a4.1;have:(⟨(iP l).1.toArray⟩:ByteArray).size=(iP l).1.length:=by simp[ByteArray.size]
  omega
def IA(a:fp)(k:Nat)(d Wr:List CV)(c b:Value)(st:fp):Prop:=
 (k=0∧d=[]∧Wr=[]∧c= .slice none 0 0∧b= .slice none 0 0∧st=a)∨(k=1∧jk a=some (d,st)∧Wr=[]∧b= .slice none 0 0)∨(k=2∧∃s1,jk a=some (d,s1)∧jk s1=some (Wr,st))
def Js(w:World)(c:List Value)(g d g2:Nat)(S:Nat→Prop)(e:fp)(i:Value)(wr:World):Prop:=
 ∃(k:Nat)(f Wr:List CV)(a b:Value)(st:fp),k≤2∧i= .int .i64 (k:Int)∧aq wr d 46 (c++[a,b]).toArray∧aq wr g2 46 ca.toArray∧dO wr a f∧dO wr b Wr∧f.length≤1099511627776∧Wr.length≤1099511627776∧Ri w wr g S st∧IA e k f Wr a b st
theorem AT(t c n:Int)(s:ByteArray):Tryz.prog.built 46 [(0, .agg [Value.int .i64 t, .int .i64 c, .int .i64 n, .string s].toArray)]=some ([Value.int .i64 t, .int .i64 c, .int .i64 n, .string s]++[Value.slice none 0 0, .slice none 0 0]).toArray:=by kernel_rfl
theorem fO:Tryz.prog.built 46 []=some ca.toArray:=by kernel_rfl
theorem zq(a b:Addr)(w:World):(Instr.index 128 (.agg #[.pointer (some a), .pointer (some b)]) (.int .i64 ((0:Nat):Int))).run Tryz.prog w= .ok (.pointer (some a)) w:=by kernel_rfl
theorem zr(a b:Addr)(w:World):(Instr.index 128 (.agg #[.pointer (some a), .pointer (some b)]) (.int .i64 ((1:Nat):Int))).run Tryz.prog w= .ok (.pointer (some b)) w:=by kernel_rfl
theorem zx:(Tryz.prog.info? 44).map (·.size)=some 1:=by kernel_rfl
theorem py(cs:List Value)(h:cs.length=6):(Tryz.prog.info? 46).map (·.size)=some cs.toArray.size:=by rw[List.size_toArray,h];exact bZ
theorem fU:ca.toArray.all (·.oneCell')=true:=by simp[ca,Value.oneCell']
theorem dO.jZ{W W':World}{g:Nat}{t:TypeId}{cs:Array Value}{v:Value}{l:List CV}(h:dO W v l)(a:aq W g t cs)(e:Fr (fun k=>k=g) W W')(b:t≠177)(c:t≠174)(d:t≠119):dO W' v l:=
 h.cN e (fun k f=>by
  obtain rfl:k=g:=f;exact⟨fun x=>b (a.ty.one x),fun x=>c (a.ty.one x),fun x=>d (a.ty.one x)⟩)
theorem FH(a:List Value)(c b v:Value)(h:a.length=4):(a++[c,b]).set (4+0) v=a++[v,b]:=by
 rw[List.set_append_right _ _ (by omega),h];rfl
theorem FG(a:List Value)(b c v:Value)(h:a.length=4):(a++[b,c]).set (4+1) v=a++[b,v]:=by
 rw[List.set_append_right _ _ (by omega),h];rfl
theorem D0(s:ByteArray)(w:World)(cw:eE w)(cy:s.size≤16777216):Calls Tryz.prog 20 #[.string s] w (xk w (aR s)):=by
 obtain⟨l,bH⟩:∃l,aR s=l:=⟨_,rfl⟩;have ba:Hid (l.length=s.size):=by rw[Hid,←bH];exact aO s
 have bS:Hid (aR s=l):=bH;rw[bH];have cc:=af cw;have bQ:=af cy;have b6:Hid (∀W g S,Ri w W g S (l,0,0)→Calls Tryz.prog 70 #[.pointer (some ⟨g,0,none⟩)] W (qF w W g S (.agg (iz l).1.cells.toArray) (iz l).2)):=fun W g S h=>ym w W g S l h;have N:Hid (mJ l=match jk (iz l).2 with
  |none=>none
  |some (R,st)=>match jk st with
   |none=>none
   |some (W,st2)=>if fZ st2=0∧gm ⟨(iz l).1,R,W⟩=true then some ⟨(iz l).1,R,W⟩else none):=rfl;have a8:=af (zY l);obtain⟨A,J⟩:∃O,mJ l=O:=⟨_,rfl⟩;have y:Hid (∀cs a bg w',df w' cs a→Fr ag w w'→((bg=0∧A=some a)∨(bg=3∧A=none∧a=oa))→xk w l (.returned (.tuple #[.agg cs.toArray, .int .i64 bg])) w'):=fun cs a bg w' U al bi=>⟨cs,a,bg,rfl,U,al,by rw[J];exact bi⟩;rw[J]at N;generalize xk w l=PP at*;generalize b1:(iz l).1=r at*;generalize(iz l).2=aL at*;clear cw cy bH J b1;have ad:Hid (r.cells.length=4):=rfl;have aN:Hid (Tryz.prog.built 46 [(0, .agg r.cells.toArray)]=some (r.cells++[Value.slice none 0 0, .slice none 0 0]).toArray):=AT _ _ _ _;have bO:Hid (∀m n:Value,m.oneCell'=true→n.oneCell'=true→(r.cells++[m,n]).toArray.all (·.oneCell')=true):=fun m n U al=>by simp only[eN.cells,List.cons_append,List.nil_append,List.all_toArray,List.all_cons,List.all_nil,U,al];rfl
 have a5:Hid (∀(W:World)(m n:Value)(R Wr:List CV),dO W m R→dO W n Wr→df W (r.cells++[m,n]) ⟨r,R,Wr⟩):=fun W m n R Wr U al=>⟨m,n,rfl,U,al⟩;have bc:Hid (∀(W:World)(m n:Value)(R Wr:List CV),Fr ag w W→dO W m R→dO W n Wr→R.length≤1099511627776→Wr.length≤1099511627776→(∀c∈R,mx c)→(∀c∈Wr,mx c)→Calls Tryz.prog 60 #[.agg (r.cells++[m,n]).toArray] W (aJ W (.bool (gm ⟨r,R,Wr⟩)))):=fun W m n R Wr f U al bi cD bW bk=>
  oi ⟨r,R,Wr⟩ _ W (cc.out.ar f) ⟨m,n,rfl,U,al⟩ (by show r.fA.size≤1099511627776;have:=a8.out.2;have:=ba.out;have:=bQ.out;omega) bW bk bi cD;generalize r.cells=t at*;go_enter Tryz.func20,Tryz.ntmps20;go_wp2_with(refine ak rfl 46 rfl fH oc ca.toArray rfl ?_);intro w1 n1;have b7:=af n1.fr;have cn:=af n1.aH;clear n1;generalize bt:w.heap.size=g2 at*;have HG2:=af bt;clear bt;obtain⟨cC,w2,bX,av,bz⟩:=sv w1 s;have bD:=af (b7.out.trans av);have co:=af (cn.out.fr av (fun x=>x));have ci:=af bz;clear av bz cn b7;generalize w1.heap.size=gc at*;go_wp2_with fail;refine(ov _ _ cC l _ _ (by have h:=ci.out;rw[bS.out]at h;exact h) (by have:=bQ.out;omega)).mono ?_;rintro e w3⟨g,S,rfl,bA,f3,bY,ap⟩;have bT:Hid (Ri w w3 g S (l,0,0)):=⟨bD.out.trans f3,bA,by have:=bD.out.size;omega,fun k bu=>⟨by have:=(ap k bu).1;have:=bD.out.size;omega,(ap k bu).2⟩⟩;have cp:=af (co.out.fr f3 (fun x=>x));clear bA f3 bY ap bX ci co bD;go_wp2_with fail;refine(b6.out _ g S bT.out).mono ?_;rintro e bB⟨rfl,cA,f4⟩;have bU:=af cA;have bV:=af (cp.out.only bT.out f4 (by decide));clear cA f4 bT cp b6;go_wp2_with(first|(refine wpList_buildTo rfl 46 #[(0, .tmp 13)] rfl (t++[Value.slice none 0 0, .slice none 0 0]).toArray (by simp only[List.map_toArray,List.map_cons,List.map_nil];exact aN.out) ?_)|(refine ak rfl 46 rfl fH oc ca.toArray rfl ?_));intro cG cz;have bd:=af cz;clear cz;generalize aA:bB.heap.size=o at*;have b4:Hid (aq cG o 46 ca.toArray):=by have h:=bd.out.aH;rw[aA]at h;exact h
 have ac:Hid (bB.heap.size≤o):=by rw[Hid,aA];exact Nat.le_refl _
 clear aA;have d:Hid (∀m n:Value,(t++[m,n]).length=6):=fun m n=>by rw[bh,ad.out];rfl
 have C:Hid (g2<o):=by have:=bV.out.lt;have:=ac.out;simp only[Hid];omega
 go_wp2_with(refine ai rfl 46 (.tmp 5) _ rfl o (t++[Value.slice none 0 0, .slice none 0 0]).toArray rfl rfl _ _ b4.out (py _ (d.out _ _)) (by rw[List.size_toArray,List.size_toArray,d.out];rfl) (bO.out _ _ rfl rfl) ?_);intro b2 ct f6;have b5:=af ct;have cj:=af (bU.out.later bd.out.fr);have cq:=af ((bV.out.fr bd.out.fr (fun x=>x)).fr f6 (fun e=>by have aK:g2=o:=e;have:=C.out;omega));have ck:Hid (Ri w b2 g S aL):=bU.out.uF cj.out f6 ac.out;have a9:Hid (Js w t g o g2 S aL (.int .i64 0) b2):=⟨0,[],[],_,_,aL,by omega,rfl,b5.out,cq.out,dO.nil _,dO.nil _,by simp,by simp,ck.out, .inl ⟨rfl,rfl,rfl,rfl,rfl,rfl⟩⟩;have cB:Hid (bB.heap.size≤b2.heap.size):=Nat.le_trans bd.out.fr.size f6.size;clear ct f6 bd b4 cj bV b5 cq ck aN;go_wp2;go_loopw[18](fun i wr=>Js w t g o g2 S aL i wr)(fun i _=>2-(intOf i).toNat);case atStart=>exact a9.out
 case round=>
  obtain⟨k,R,Wr,m,n,st,bu,rfl,cu,cx,br,bs,bw,bx,F,bp⟩:=hrel;have aC:=af cu;have bf:=af cx;have aE:=af br;have aI:=af bs;have cg:=af bw;have ch:=af bx;have I:=af F;have ST:=af bp;clear cu cx br bs bw bx F bp a9;by_cases cE:k<2
  ·have t0:decide ((k:Int)<2)=true:=dh (by omega);have a7:Hid (∀W,(Instr.index 128 (.agg #[.pointer (some ⟨o,4,none⟩), .pointer (some ⟨o,5,none⟩)]) (.int .i64 (k:Int))).run Tryz.prog W= .ok (.pointer (some ⟨o,4+k,none⟩)) W):=fun W=>by
    by_cases Z:k=0;·subst Z;exact zq _ _ W
    ·obtain rfl:k=1:=by omega
     exact zr _ _ W
   have am:=a7.out;have bK:Hid (Calls Tryz.prog 71 #[.pointer (some ⟨g,0,none⟩)] wr (JX w wr g S (jk st))):=rS w wr g S st I.out cc.out;obtain⟨f4,ax⟩:∃f,f=4+k:=⟨_,rfl⟩;have Q:=af ax;rw[←ax]at am;clear ax a7;go_wp2_with fail;refine bK.out.mono ?_;rintro e cH⟨v,b,rfl,f7,au⟩;have aa:=af (aC.out.only I.out f7 (by decide));have be:=af (bf.out.only I.out f7 (by decide));have aU:=af (aE.out.only I.out f7);have aV:=af (aI.out.only I.out f7);rcases au with⟨rfl,L,aB,J,bG,bm,bo,_⟩|⟨rfl,J,rfl,_,bl⟩
   ·obtain⟨bC,bI,cv,rfl,bG⟩:=bG.form;have cb:=af J;have aQ:=af bG;have cf:=af bm;have cl:=af bo;clear J bG bm bo f7 am bK aC bf aE aI I;go_wp2_with(refine aT rfl 44 (.tmp 27) (.tmp 25) rfl o f4 (.slice bC bI cv) rfl rfl rfl zx _ _ ((t++[m,n]).toArray.setIfInBounds f4 (.slice bC bI cv)) aa.out (by rw[List.size_toArray,d.out];have:=Q.out;omega) rfl ?_);intro b3 b8 f8;have bJ:=af b8;have H:=af (be.out.fr f8 (fun e=>by have aK:g2=o:=e;have:=C.out;omega));have bL:=af (aU.out.jZ aa.out f8 (by decide) (by decide) (by decide));have bM:=af (aV.out.jZ aa.out f8 (by decide) (by decide) (by decide));have aS:=af (aQ.out.jZ aa.out f8 (by decide) (by decide) (by decide));have cm:Hid (Ri w b3 g S aB):=bU.out.uF cl.out f8 ac.out;clear b8 f8 aa be aU aV aQ cl;go_wp2;go_roundw;case rel=>
     by_cases Z:k=0
     ·subst Z;refine⟨1,L,Wr, .slice bC bI cv,n,aB,by omega,rfl,?_,H.out,aS.out,bM.out,cf.out,ch.out,cm.out, .inr (.inl ⟨rfl,?_⟩)⟩
      ·have h:=bJ.out;rw[Q.out]at h;try rw[List.setIfInBounds_toArray]at h
       rw[FH _ _ _ _ ad.out]at h;exact h
      ·rcases ST.out with⟨_,_,bi,_,bW,bk⟩|⟨h,_⟩|⟨h,_⟩;·subst bk;exact⟨cb.out,bi,bW⟩
       ·cases h
       ·cases h
     ·obtain rfl:k=1:=by omega
      refine⟨2,R,L,m, .slice bC bI cv,aB,by omega,rfl,?_,H.out,bL.out,aS.out,cg.out,cf.out,cm.out, .inr (.inr ⟨rfl,st,?_⟩)⟩
      ·have h:=bJ.out;rw[Q.out]at h;try rw[List.setIfInBounds_toArray]at h
       rw[FG _ _ _ _ ad.out]at h;exact h
      ·rcases ST.out with⟨h,_⟩|⟨_,h,_⟩|⟨h,_⟩;·cases h
       ·exact⟨h,cb.out⟩
       ·cases h
    case measure=>simp[intOf];omega
   ·have G:Hid (A=none):=by
     rw[Hid,N.out];rcases ST.out with⟨_,_,_,_,_,bk⟩|⟨_,h,_⟩|⟨h,_⟩;·subst bk;rw[J]
     ·rw[h];simp only;rw[J]
     ·omega
    have b9:=af bl;clear J bl f7 am bK aC bf aE aI I;go_wp2_with(first|(refine wpList_buildTo rfl 46 #[] rfl ca.toArray fO ?_)|(refine ai rfl 46 (.tmp 2) _ rfl g2 ca.toArray rfl rfl _ _ be.out bZ rfl fU ?_)|(refine aT rfl 44 (.tmp 27) (.tmp 25) rfl o f4 (.slice none 0 0) rfl rfl rfl zx _ _ ((t++[m,n]).toArray.setIfInBounds f4 (.slice none 0 0)) aa.out (by rw[List.size_toArray,d.out];have:=Q.out;omega) rfl ?_));intro b3 b8 f8;have H:=af (be.out.fr f8 (fun e=>by have aK:g2=o:=e;have:=C.out;omega));have aX:Hid (Fr ag w b3):=b9.out.aw f8 (fun i b0 e=>by have aK:i=o:=e;have:=C.out;have:=HG2.out;omega);clear b8 f8 aa be b9;go_wp2_with(first|(refine wpList_buildTo rfl 46 #[] rfl ca.toArray fO ?_)|(refine ai rfl 46 (.tmp 2) _ rfl g2 ca.toArray rfl rfl _ _ H.out bZ rfl fU ?_));intro E Y T;have aP:=af Y;have a0:Hid (Fr ag w E):=aX.out.aw T (fun i b0 e=>by have aK:i=g2:=e;have:=HG2.out;omega);have bb:=af (y.out ca oa 3 E (qt E) a0.out (.inr ⟨rfl,G.out,rfl⟩));clear Y T H aX;go_wp2;exact bodyPost_ret (aZ (fn:=Tryz.f20) (p:=2) (q:=3) (ty:=46) Tryz.results20 _ E _ 46 ca.toArray (0,0) _ rfl aP.out Tryz.underlying46 rfl bZ _ rfl) rfl bb.out
  ·obtain rfl:k=2:=by omega
   obtain⟨s1,an,ao⟩:∃s1,jk aL=some (R,s1)∧jk s1=some (Wr,st):=by
    rcases ST.out with⟨h,_⟩|⟨h,_⟩|⟨_,h⟩;·cases h
    ·cases h
    ·exact h
   have ae:Hid (A=if fZ st=0∧gm ⟨r,R,Wr⟩=true then some ⟨r,R,Wr⟩else none):=by
    rw[Hid,N.out,an];simp only;rw[ao]
   have a6:Hid ((∀c∈R,mx c)∧∀c∈Wr,mx c):=by
    have bF:aL.1.length≤l.length:=a8.out.1;have bv:l.length≤16777216:=by have:=ba.out;have:=bQ.out;omega
    obtain⟨cr,a2⟩:=rR _ bv _ _ _ _ _ an (Nat.le_trans (lF _ _) bF) (fun c V=>by cases V);obtain⟨a3,_⟩:=rR _ bv _ _ _ _ _ ao (Nat.le_trans (lF _ _) a2) (fun c V=>by cases V);exact⟨fun c V=>⟨by have:=cr c V;omega,by have:=cr c V;omega⟩,fun c V=>⟨by have:=a3 c V;omega,by have:=a3 c V;omega⟩⟩
   have ab:Hid (∀W,Fr ag wr W→Calls Tryz.prog 72 #[.pointer (some ⟨g,0,none⟩)] W (aY W (.int .i64 (fZ st)))):=fun W f=>(I.out.later f).close;clear an ao N ST;have aj:Hid (Fr ag w wr):=I.out.fr;have a4:=af (a5.out wr m n R Wr aE.out aI.out);obtain⟨ce,bq⟩:∃ce,fZ st=ce:=⟨_,rfl⟩;rw[bq]at ae ab;clear bq;have aW:Hid (∀W,Fr ag wr W→Calls Tryz.prog 60 #[.agg (t++[m,n]).toArray] W (aJ W (.bool (gm ⟨r,R,Wr⟩)))):=fun W f=>bc.out W m n R Wr (aj.out.trans f) (aE.out.ar f) (aI.out.ar f) cg.out ch.out a6.out.1 a6.out.2;generalize gm ⟨r,R,Wr⟩=ok at*;clear bc a5;obtain⟨P,bn⟩:∃P,(ce !=0)=P:=⟨_,rfl⟩;have ah:=af bn;clear bn;have M:Hid (∀W,Fr ag wr W→∀j x,(t++[m,n])[j]? =some x→W.cell? ((⟨o,0,none⟩:Addr).add j)=some x):=fun W f j x cF=>by
    rw[Addr.add_mid,Nat.zero_add,(aC.out.fr f (fun x=>x)).cell j,bR];exact cF
   have cd:Hid ((Tryz.prog.info? 46).map (·.size)=some (t++[m,n]).length):=by rw[Hid,d.out];exact bZ
   obtain⟨B,bF⟩:∃z:Bool,(bif P then true else(!ok))=z:=⟨_,rfl⟩;have HB:=af bF;clear bF;go_upto_region 11 with fail;refine iQ 8 [.pointer (some ⟨g,0,none⟩), .int .i64 ce, .bool P, .bool P,bif P then undef else .agg (t++[m,n]).toArray,bif P then undef else .bool ok,bif P then undef else .bool (!ok), .bool B] ?zC ?_;case zC=>
    refine⟨?zK,?zD,?zE,?zF,?zG,?zH,?zI,?zJ,trivial⟩;all_goals intro u w' K F
    all_goals simp only[z1,z2,z3,z4,ay,Act.put,z5,z6,z7,Nat.reduceAdd,Nat.zero_add]
    case zD=>
     simp only[show u 0=_ from F 0];refine aG ?_;go_simp;refine(ab.out _ K).mono ?_;rintro e bB⟨rfl,rfl⟩;exact aM
    case zE=>
     simp only[show u 1=_ from F 1];refine aG ?_;have t1:=ah.out;go_simp;exact aM
    case' zF=>simp only[show u 2=_ from F 2]
    case zG=>
     simp only[show u 3=_ from F 3];cases P;case true=>exact bE
     refine aG ?_;exact az _ _ rfl ⟨o,0,none⟩ rfl (t++[m,n]) _ (M.out _ K) Tryz.underlying46 rfl cd.out aM
    case zH=>
     simp only[show u 4=_ from F 4,show u 3=_ from F 3];cases P;case true=>exact bE
     refine aG ?_;go_simp;refine(aW.out _ K).mono ?_;rintro e bB⟨rfl,f4⟩;exact⟨rfl,f4⟩
    case' zI=>
     simp only[show u 5=_ from F 5,show u 3=_ from F 3];cases P;case true=>exact bE
    case zJ=>
     simp only[show u 3=_ from F 3,show u 6=_ from F 6];cases P<;>exact aG (by go_simp;exact⟨by rw[←HB.out];rfl,aD⟩)
    all_goals
     try simp only[cond]
     refine aG ?_;go_simp;exact aM
   intro w' K;simp only[z1,z2,z3,z4,ay,Act.put,z5,z6,z7,z8,z9,jx,jy,Nat.reduceAdd,Nat.zero_add];have D:Hid (A=if B=false then some ⟨r,R,Wr⟩else none):=by
    rw[Hid,ae.out,←HB.out];have Z:(ce=0)↔P=false:=by rw[←ah.out,bne_eq_false_iff_eq]
    cases bn:P
    ·rw[bn]at Z;have U:ce=0:=Z.2 rfl;cases ok;·rw[if_neg (fun h=>by cases h.2)];rfl
     ·rw[if_pos ⟨U,rfl⟩];rfl
    ·rw[bn]at Z;rw[if_neg (fun h=>by cases(Z.1 h.1))];rfl
   have aX:=af (aj.out.trans K);have H:=af (bf.out.fr K (fun x=>x));have bJ:=af (aC.out.fr K (fun x=>x));have a1:=af (a4.out.ar K);have M:=af (M.out _ K);clear K aW aj bf aC a4 aE aI I ab ae HB ah;cases X:B;case true=>
    have G:Hid (A=none):=by rw[Hid,D.out,X];rfl
    clear X D;go_wp2_with(first|(refine wpList_buildTo rfl 46 #[] rfl ca.toArray fO ?_)|(refine ai rfl 46 (.tmp 2) _ rfl g2 ca.toArray rfl rfl _ _ H.out bZ rfl fU ?_));intro E Y T;have aP:=af Y;have a0:Hid (Fr ag w E):=aX.out.aw T (fun i b0 e=>by have aK:i=g2:=e;have:=HG2.out;omega);have bb:=af (y.out ca oa 3 E (qt E) a0.out (.inr ⟨rfl,G.out,rfl⟩));clear Y T;go_wp2;exact bodyPost_ret (aZ (fn:=Tryz.f20) (p:=2) (q:=3) (ty:=46) Tryz.results20 _ E _ 46 ca.toArray (0,0) _ rfl aP.out Tryz.underlying46 rfl bZ _ rfl) rfl bb.out
   case false=>
    have G:Hid (A=some ⟨r,R,Wr⟩):=by rw[Hid,D.out,X];rfl
    have bP:Hid ((t++[m,n]).toArray.all (·.oneCell')=true):=ActV.one a1.out;clear X D;go_wp2_with(refine aF rfl 46 (.tmp 5) rfl ⟨o,0,none⟩ rfl (t++[m,n]) _ ?zA Tryz.underlying46 rfl cd.out (bj.go ?zB));case zA=>exact M.out
    unfold bj;go_wp2_with(refine ai rfl 46 (.tmp 2) _ rfl g2 (t++[m,n]).toArray rfl rfl _ _ H.out (py _ (d.out _ _)) (by rw[List.size_toArray,List.size_toArray,d.out];rfl) bP.out ?_);intro E Y T;have aP:=af Y;have a0:Hid (Fr ag w E):=aX.out.aw T (fun i b0 e=>by have aK:i=g2:=e;have:=HG2.out;omega);have bN:Hid (df E (t++[m,n]) ⟨r,R,Wr⟩):=a1.out.cN T (fun k bu=>by
     obtain rfl:k=g2:=bu;exact⟨fun x=>absurd (x.one H.out.ty) (by decide),fun x=>absurd (x.one H.out.ty) (by decide),fun x=>absurd (x.one H.out.ty) (by decide)⟩);have bb:=af (y.out _ _ 0 E bN.out a0.out (.inl ⟨rfl,G.out⟩));clear Y T;go_wp2;exact bodyPost_ret (aZ (fn:=Tryz.f20) (p:=2) (q:=3) (ty:=46) Tryz.results20 _ E _ 46 (t++[m,n]).toArray (0,0) _ rfl aP.out Tryz.underlying46 rfl (py _ (d.out _ _)) _ rfl) rfl bb.out
end Go.Proofs.YtphjagkehiklkaaGreatDoor
