/- Texts. -/
import Derived.Test.YtphjagkehiklkaaGreatDoorUK27
set_option linter.unusedVariables false
set_option linter.unusedSimpArgs false
set_option maxRecDepth 100000
set_option maxHeartbeats 8000000
namespace Go.Proofs.YtphjagkehiklkaaGreatDoor.Lt
open Go.RowKit
theorem ks(leaf:List UInt8)(a:leaf.length=32)(index n:Int)(path:List (List UInt8))(he:∀d∈path,d.length=32):(bL leaf index n path).1.length=32:=by
 unfold bL;split
 ·split;·rename_i h;exact(tT leaf a path he _ _ rfl (by omega)).root
  ·exact jt
 ·exact jt
theorem pb(leaf:List UInt8)(d:leaf.length=32)(index n:Int)(e:-9223372036854775808≤n∧n≤9223372036854775807)(path:List (List UInt8))(len:Nat)(A:Option Addr)(c:Nat)(S:Nat→Prop)(w:World)(f:eF w S A len path)(a:len≤1048576)(g:bp w):
  Calls Tryz.prog 77 #[aL leaf, .int .i64 index, .int .i64 n, .slice A len c] w (jn w (bL leaf index n path)):=by
 by_cases h:1≤n∧n≤1048576∧0≤index∧index<n;·obtain⟨b,rfl⟩:∃b:Nat,n=b:=⟨n.toNat,by omega⟩;obtain⟨i',rfl⟩:∃i':Nat,index=i':=⟨index.toNat,by omega⟩;exact Ah leaf d i' b (by omega) (by omega) path len A c S w f a g
 ·have:=wZ leaf d index n A len c w h e;unfold bL;rw[if_neg h];exact this
theorem uG(leaf:List UInt8)(k:leaf.length=32)(index n:Int)(W:-9223372036854775808≤n∧n≤9223372036854775807)(path:List (List UInt8))(len:Nat)(A:Option Addr)(c:Nat)(S:Nat→Prop)(w:World)(z:eF w S A len path)(g:len≤1048576)(L:bp w):
  Calls Tryz.prog 58 #[aL leaf, .int .i64 index, .int .i64 n, .slice A len c] w (aH w (.tuple #[aL (bL leaf index n path).1, .int .i64 (bL leaf index n path).2.2])):=by
 have t:Hid (∀w',Fr af w w'→Calls Tryz.prog 77 #[aL leaf, .int .i64 index, .int .i64 n, .slice A len c] w' (jn w' (bL leaf index n path))):=fun w' M=>pb leaf k index n W path len A c S w' (z.al M) g (L.al M);have C:=ks leaf k index n path z.each;have u:Hid ((Tryz.prog.info? 38).map (·.size)=some (aq leaf).length):=by rw[aq,List.length_map,k];exact dZ
 unfold jn at t;generalize(bL leaf index n path).2.1=Z at*;generalize(bL leaf index n path).2.2=E at*;generalize(bL leaf index n path).1=r at*;have a:Hid (cy (aq r).toArray):=cy.of C;have y:Hid ((Tryz.prog.info? 38).map (·.size)=some (aq r).length):=by rw[aq,List.length_map,C];exact dZ
 clear k z L C;unfold aL at*;simp only[show∀l:List UInt8,l.map aU=aq l from fun _=>rfl]at*;generalize aq leaf=V at*;generalize aq r=j at*;go_enter Tryz.func58,Tryz.ntmps58;go_wp2_with(refine au rfl 38 (.tmp 0) rfl _ rfl ?_);intro w1 n1;have h:=Lib.hid n1;clear n1;go_wp2_with(refine ai rfl 38 rfl aQ fW ay rfl ?_);intro w2 m;have D:=Lib.hid (h.out.az.fr m.fr (fun x=>x));have F:=Lib.hid m.az;have G:=Lib.hid (h.out.fr.trans m.fr);have z1:Hid (w.heap.size≤w1.heap.size):=h.out.fr.size;clear m h;generalize K:w.heap.size=g4 at*;have H:=Lib.hid K;clear K;generalize w1.heap.size=g8 at*;go_wp2_with(refine dS rfl 38 (.tmp 4) rfl g4 rfl _ V D.out _ Tryz.underlying38 rfl u.out ?_);refine(t.out _ G.out).mono ?_;rintro e N⟨v,rfl,B⟩;have P:=Lib.hid (G.out.trans B.al);have f:=Lib.hid (F.out.fr B.al (fun x=>x));clear B t F D;go_wp2_with(refine ai rfl 38 rfl aQ fW ay rfl ?_);intro aa n4;have Q:=Lib.hid (P.out.trans n4.fr);have o:=Lib.hid (f.out.fr n4.fr (fun x=>x));have b:=Lib.hid n4.az;have z2:Hid (g8<N.heap.size):=f.out.lt;clear n4;generalize N.heap.size=g10 at*;go_wp2_with(refine ah rfl 38 (.tmp 10) _ rfl g10 j.toArray rfl rfl _ _ b.out a.out.info a.out.zero a.out.one ?_);intro Y b5 f5;have d:=Lib.hid b5;have s:=Lib.hid (o.out.fr f5 (fun e=>by have J:g8=g10:=e;have:=z2.out;omega));have R:Hid (Fr af w Y):=Q.out.ao f5 (fun i X e=>by have J:i=g10:=e;have:=z2.out;have:=z1.out;have:=H.out;omega);clear b5 f5;go_wp2_with(first|(refine dS rfl 38 (.tmp 10) rfl g10 rfl _ j d.out _ Tryz.underlying38 rfl y.out ?_)|(refine ah rfl 38 (.tmp 8) _ rfl g8 j.toArray rfl rfl _ _ s.out a.out.info a.out.zero a.out.one ?_));intro O I f6;have T:=Lib.hid I;have U:Hid (Fr af w O):=R.out.ao f6 (fun i X e=>by have J:i=g8:=e;have:=z1.out;have:=H.out;omega);clear I f6;go_wp2;exact bodyPost_ret (db (fn:=Tryz.f58) (p:=8) (q:=9) (ty:=38) Tryz.results58 _ O _ 38 j.toArray (0,0) _ rfl T.out Tryz.underlying38 rfl a.out.info _ rfl) rfl ⟨rfl,U.out⟩
end Go.Proofs.YtphjagkehiklkaaGreatDoor.Lt
namespace Go.Proofs.YtphjagkehiklkaaGreatDoor
open Go.RowKit Go.Shelf
def iQ:ActV:=⟨⟨0,0,0,ByteArray.empty⟩,[],[]⟩
def bC:List Value:=[.int .i64 0, .int .i64 0, .int .i64 0, .string ByteArray.empty, .slice none 0 0, .slice none 0 0]
theorem mL(w:World):ck w bC iQ:=⟨_,_,rfl,dh.nil _,dh.nil _⟩
def sf(w:World)(l:List UInt8)(e:Ending)(w':World):Prop:=
 ∃cs a b,e= .returned (.tuple #[.agg cs.toArray, .int .i64 b])∧ck w' cs a∧Fr af w w'∧((b=0∧iw l=some a)∨(b=3∧iw l=none∧a=iQ))
theorem yU(st:dP):(gv st).1.length≤st.1.length∧(gv st).2.1.length≤st.1.length:=by
 unfold gv aF;split;·simp
 ·split;·simp
  ·refine⟨?_,by simp⟩;simp only[bJ];repeat' split
   all_goals simp
   all_goals omega
theorem Gc(st:dP):(cY st).1.length≤st.1.length∧(cY st).2.1.length≤st.1.length:=by
 unfold cY aF;split;·simp
 ·split;·simp
  ·refine⟨?_,by simp⟩;simp only[bJ];repeat' split
   all_goals simp
   all_goals omega
theorem Di(st:dP):(aF false bH st).2.1.length≤st.1.length:=yI st
theorem qG(B:Nat)(f:B≤16777216):∀(n:Nat)(st:dP)(L M:List CV)(a:dP),iU n st L=some (M,a)→st.1.length≤B→(∀c∈L,c.nm.owner.size≤16777216∧c.nm.text.size≤16777216)→(∀c∈M,c.nm.owner.size≤16777216∧c.nm.text.size≤16777216)∧a.1.length≤B
 |0,st,L,M,a,h,e,d=>by
  simp only[iU,Option.some.injEq,Prod.mk.injEq]at h;obtain⟨rfl,rfl⟩:=h;exact⟨d,e⟩
 |n+1,st,L,M,a,h,e,d=>by
  rw[iU]at h;by_cases c:(eL (gv st).1).2≠0;·rw[if_pos c]at h;cases h
  rw[if_neg c]at h;have g:=yU st;have i:=Di (gv st).2;have j:=Gc (aF false bH (gv st).2).2;refine qG B f n _ _ _ _ h (by omega) (fun x b=>?_);rcases List.mem_append.1 b with b|b;·exact d x b
  ·rw[List.mem_singleton]at b;subst b;have:=rm (gv st).1;simp only;omega
theorem yK(l:List UInt8):(fo l).2.1.length≤l.length∧(fo l).1.ez.size≤l.length:=by
 have a:∀(aJ:Int)(st:dP),(aF 0 (aT aJ) st).2.1.length≤st.1.length:=fun aJ st=>by
  unfold aF;split;·simp
  ·split;·simp
   ·simp
 have b:=a 1073741824 (l,0,0);have a2:=a 2 (fj l).2;have a3:=a 999999 (gG l).2;have a4:=yU (rdNum l).2;have c:(fj l).2.1.length≤l.length:=b;have d:(gG l).2.1.length≤(fj l).2.1.length:=a2;have e:(rdNum l).2.1.length≤(gG l).2.1.length:=a3;refine⟨?_,?_⟩;·show(fI l).2.1.length≤l.length;have:(fI l).2.1.length≤(rdNum l).2.1.length:=a4.2;omega
 ·show(⟨(fI l).1.toArray⟩:ByteArray).size≤l.length;have f:(fI l).1.length≤(rdNum l).2.1.length:=a4.1;have:(⟨(fI l).1.toArray⟩:ByteArray).size=(fI l).1.length:=by simp[ByteArray.size]
  omega
def Gk(a:dP)(k:Nat)(d Wr:List CV)(c b:Value)(st:dP):Prop:=
 (k=0∧d=[]∧Wr=[]∧c= .slice none 0 0∧b= .slice none 0 0∧st=a)∨(k=1∧fH a=some (d,st)∧Wr=[]∧b= .slice none 0 0)∨(k=2∧∃s1,fH a=some (d,s1)∧fH s1=some (Wr,st))
def Hf(w:World)(c:List Value)(g d g2:Nat)(S:Nat→Prop)(e:dP)(i:Value)(wr:World):Prop:=
 ∃(k:Nat)(f Wr:List CV)(a b:Value)(st:dP),k≤2∧i= .int .i64 (k:Int)∧ak wr d 46 (c++[a,b]).toArray∧ak wr g2 46 bC.toArray∧dh wr a f∧dh wr b Wr∧f.length≤1099511627776∧Wr.length≤1099511627776∧Ri w wr g S st∧Gk e k f Wr a b st
theorem zB(t c n:Int)(s:ByteArray):Tryz.prog.built 46 [(0, .agg [Value.int .i64 t, .int .i64 c, .int .i64 n, .string s].toArray)]=some ([Value.int .i64 t, .int .i64 c, .int .i64 n, .string s]++[Value.slice none 0 0, .slice none 0 0]).toArray:=by kernel_rfl
theorem ef:Tryz.prog.built 46 []=some bC.toArray:=by kernel_rfl
theorem yc(a b:Addr)(w:World):(Instr.index 128 (.agg #[.pointer (some a), .pointer (some b)]) (.int .i64 ((0:Nat):Int))).run Tryz.prog w= .ok (.pointer (some a)) w:=by kernel_rfl
theorem yd(a b:Addr)(w:World):(Instr.index 128 (.agg #[.pointer (some a), .pointer (some b)]) (.int .i64 ((1:Nat):Int))).run Tryz.prog w= .ok (.pointer (some b)) w:=by kernel_rfl
theorem yg:(Tryz.prog.info? 44).map (·.size)=some 1:=by kernel_rfl
theorem ot(cs:List Value)(h:cs.length=6):(Tryz.prog.info? 46).map (·.size)=some cs.toArray.size:=by rw[List.size_toArray,h];exact bm
theorem eV:bC.toArray.all (·.oneCell')=true:=by simp[bC,Value.oneCell']
theorem dh.jv{W W':World}{g:Nat}{t:TypeId}{cs:Array Value}{v:Value}{l:List CV}(h:dh W v l)(a:ak W g t cs)(e:Fr (fun k=>k=g) W W')(b:t≠177)(c:t≠174)(d:t≠119):dh W' v l:=
 h.bV e (fun k f=>by
  obtain rfl:k=g:=f;exact⟨fun x=>b (a.ty.one x),fun x=>c (a.ty.one x),fun x=>d (a.ty.one x)⟩)
theorem DU(a:List Value)(c b v:Value)(h:a.length=4):(a++[c,b]).set (4+0) v=a++[v,b]:=by
 rw[List.set_append_right _ _ (by omega),h];rfl
theorem DT(a:List Value)(b c v:Value)(h:a.length=4):(a++[b,c]).set (4+1) v=a++[b,v]:=by
 rw[List.set_append_right _ _ (by omega),h];rfl
theorem uF(s:ByteArray)(w:World)(cr:dy w)(cu:s.size≤16777216):Calls Tryz.prog 20 #[.string s] w (sf w (aC s)):=by
 obtain⟨l,bF⟩:∃l,aC s=l:=⟨_,rfl⟩;have a7:Hid (l.length=s.size):=by rw[Hid,←bF];exact aG s
 have bP:Hid (aC s=l):=bF;rw[bF];have b7:=Lib.hid cr;have bO:=Lib.hid cu;have b3:Hid (∀W g S,Ri w W g S (l,0,0)→Calls Tryz.prog 70 #[.pointer (some ⟨g,0,none⟩)] W (pC w W g S (.agg (fo l).1.cells.toArray) (fo l).2)):=fun W g S h=>xh w W g S l h;have N:Hid (iw l=match fH (fo l).2 with
  |none=>none
  |some (R,st)=>match fH st with
   |none=>none
   |some (W,st2)=>if eK st2=0∧eW ⟨(fo l).1,R,W⟩=true then some ⟨(fo l).1,R,W⟩else none):=rfl;have a5:=Lib.hid (yK l);obtain⟨A,J⟩:∃O,iw l=O:=⟨_,rfl⟩;have y:Hid (∀cs a bd w',ck w' cs a→Fr af w w'→((bd=0∧A=some a)∨(bd=3∧A=none∧a=iQ))→sf w l (.returned (.tuple #[.agg cs.toArray, .int .i64 bd])) w'):=fun cs a bd w' U am be=>⟨cs,a,bd,rfl,U,am,by rw[J];exact be⟩;rw[J]at N;generalize sf w l=PP at*;generalize bY:(fo l).1=r at*;generalize(fo l).2=aL at*;clear cr cu bF J bY;have ad:Hid (r.cells.length=4):=rfl;have aN:Hid (Tryz.prog.built 46 [(0, .agg r.cells.toArray)]=some (r.cells++[Value.slice none 0 0, .slice none 0 0]).toArray):=zB _ _ _ _;have bM:Hid (∀m n:Value,m.oneCell'=true→n.oneCell'=true→(r.cells++[m,n]).toArray.all (·.oneCell')=true):=fun m n U am=>by simp only[dV.cells,List.cons_append,List.nil_append,List.all_toArray,List.all_cons,List.all_nil,U,am];rfl
 have a0:Hid (∀(W:World)(m n:Value)(R Wr:List CV),dh W m R→dh W n Wr→ck W (r.cells++[m,n]) ⟨r,R,Wr⟩):=fun W m n R Wr U am=>⟨m,n,rfl,U,am⟩;have a9:Hid (∀(W:World)(m n:Value)(R Wr:List CV),Fr af w W→dh W m R→dh W n Wr→R.length≤1099511627776→Wr.length≤1099511627776→(∀c∈R,ly c)→(∀c∈Wr,ly c)→Calls Tryz.prog 60 #[.agg (r.cells++[m,n]).toArray] W (aH W (.bool (eW ⟨r,R,Wr⟩)))):=fun W m n R Wr f U am be cA bT bf=>
  mP ⟨r,R,Wr⟩ _ W (b7.out.al f) ⟨m,n,rfl,U,am⟩ (by show r.ez.size≤1099511627776;have:=a5.out.2;have:=a7.out;have:=bO.out;omega) bT bf be cA;generalize r.cells=t at*;go_enter Tryz.func20,Tryz.ntmps20;go_wp2_with(refine ai rfl 46 rfl dU jN bC.toArray rfl ?_);intro w1 n1;have b4:=Lib.hid n1.fr;have cj:=Lib.hid n1.az;clear n1;generalize bq:w.heap.size=g2 at*;have HG2:=Lib.hid bq;clear bq;obtain⟨cz,w2,bU,ay,bv⟩:=rj w1 s;have bA:=Lib.hid (b4.out.trans ay);have cl:=Lib.hid (cj.out.fr ay (fun x=>x));have cd:=Lib.hid bv;clear ay bv cj b4;generalize w1.heap.size=gc at*;go_wp2_with fail;refine(mU _ _ cz l _ _ (by have h:=cd.out;rw[bP.out]at h;exact h) (by have:=bO.out;omega)).mono ?_;rintro e cD⟨g,S,rfl,bw,f3,bW,av⟩;have bQ:Hid (Ri w cD g S (l,0,0)):=⟨bA.out.trans f3,bw,by have:=bA.out.size;omega,fun k br=>⟨by have:=(av k br).1;have:=bA.out.size;omega,(av k br).2⟩⟩;have cm:=Lib.hid (cl.out.fr f3 (fun x=>x));clear bw f3 bW av bU cd cl bA;go_wp2_with fail;refine(b3.out _ g S bQ.out).mono ?_;rintro e bx⟨rfl,cx,f4⟩;have bR:=Lib.hid cx;have bS:=Lib.hid (cm.out.only bQ.out f4 (by decide));clear cx f4 bQ cm b3;go_wp2_with(first|(refine wpList_buildTo rfl 46 #[(0, .tmp 13)] rfl (t++[Value.slice none 0 0, .slice none 0 0]).toArray (by simp only[List.map_toArray,List.map_cons,List.map_nil];exact aN.out) ?_)|(refine ai rfl 46 rfl dU jN bC.toArray rfl ?_));intro cE cw;have ba:=Lib.hid cw;clear cw;generalize aD:bx.heap.size=o at*;have b1:Hid (ak cE o 46 bC.toArray):=by have h:=ba.out.az;rw[aD]at h;exact h
 have ac:Hid (bx.heap.size≤o):=by rw[Hid,aD];exact Nat.le_refl _
 clear aD;have d:Hid (∀m n:Value,(t++[m,n]).length=6):=fun m n=>by rw[List.length_append,ad.out];rfl
 have C:Hid (g2<o):=by have:=bS.out.lt;have:=ac.out;simp only[Hid];omega
 go_wp2_with(refine ah rfl 46 (.tmp 5) _ rfl o (t++[Value.slice none 0 0, .slice none 0 0]).toArray rfl rfl _ _ b1.out (ot _ (d.out _ _)) (by rw[List.size_toArray,List.size_toArray,d.out];rfl) (bM.out _ _ rfl rfl) ?_);intro bZ cp f6;have b2:=Lib.hid cp;have cf:=Lib.hid (bR.out.later ba.out.fr);have cn:=Lib.hid ((bS.out.fr ba.out.fr (fun x=>x)).fr f6 (fun e=>by have aK:g2=o:=e;have:=C.out;omega));have cg:Hid (Ri w bZ g S aL):=bR.out.tp cf.out f6 ac.out;have a6:Hid (Hf w t g o g2 S aL (.int .i64 0) bZ):=⟨0,[],[],_,_,aL,by omega,rfl,b2.out,cn.out,dh.nil _,dh.nil _,by simp,by simp,cg.out, .inl ⟨rfl,rfl,rfl,rfl,rfl,rfl⟩⟩;have cy:Hid (bx.heap.size≤bZ.heap.size):=Nat.le_trans ba.out.fr.size f6.size;clear cp f6 ba b1 cf bS b2 cn cg aN;go_wp2;go_loopw[18](fun i wr=>Hf w t g o g2 S aL i wr)(fun i _=>2-(intOf i).toNat);case atStart=>exact a6.out
 case round=>
  obtain⟨k,R,Wr,m,n,st,br,rfl,cq,ct,bo,bp,bt,bu,F,bl⟩:=hrel;have aF:=Lib.hid cq;have bc:=Lib.hid ct;have aI:=Lib.hid bo;have aJ:=Lib.hid bp;have cb:=Lib.hid bt;have cc:=Lib.hid bu;have I:=Lib.hid F;have ST:=Lib.hid bl;clear cq ct bo bp bt bu F bl a6;by_cases cB:k<2
  ·have t0:decide ((k:Int)<2)=true:=decide_eq_true (by omega);have a4:Hid (∀W,(Instr.index 128 (.agg #[.pointer (some ⟨o,4,none⟩), .pointer (some ⟨o,5,none⟩)]) (.int .i64 (k:Int))).run Tryz.prog W= .ok (.pointer (some ⟨o,4+k,none⟩)) W):=fun W=>by
    by_cases Z:k=0;·subst Z;exact yc _ _ W
    ·obtain rfl:k=1:=by omega
     exact yd _ _ W
   have ap:=a4.out;have bI:Hid (Calls Tryz.prog 71 #[.pointer (some ⟨g,0,none⟩)] wr (Ij w wr g S (fH st))):=qH w wr g S st I.out b7.out;obtain⟨f4,aA⟩:∃f,f=4+k:=⟨_,rfl⟩;have Q:=Lib.hid aA;rw[←aA]at ap;clear aA a4;go_wp2_with fail;refine bI.out.mono ?_;rintro e cF⟨v,b,rfl,f7,ax⟩;have aa:=Lib.hid (aF.out.only I.out f7 (by decide));have bb:=Lib.hid (bc.out.only I.out f7 (by decide));have aT:=Lib.hid (aI.out.only I.out f7);have aU:=Lib.hid (aJ.out.only I.out f7);rcases ax with⟨rfl,L,aE,J,bE,bh,bk,_⟩|⟨rfl,J,rfl,_,bg⟩
   ·obtain⟨bz,bG,cv,rfl,bE⟩:=bE.form;have b6:=Lib.hid J;have aP:=Lib.hid bE;have ca:=Lib.hid bh;have ch:=Lib.hid bk;clear J bE bh bk f7 ap bI aF bc aI aJ I;go_wp2_with(refine aM rfl 44 (.tmp 27) (.tmp 25) rfl o f4 (.slice bz bG cv) rfl rfl rfl yg _ _ ((t++[m,n]).toArray.setIfInBounds f4 (.slice bz bG cv)) aa.out (by rw[List.size_toArray,d.out];have:=Q.out;omega) rfl ?_);intro b0 b8 f8;have bH:=Lib.hid b8;have H:=Lib.hid (bb.out.fr f8 (fun e=>by have aK:g2=o:=e;have:=C.out;omega));have bJ:=Lib.hid (aT.out.jv aa.out f8 (by decide) (by decide) (by decide));have bK:=Lib.hid (aU.out.jv aa.out f8 (by decide) (by decide) (by decide));have aQ:=Lib.hid (aP.out.jv aa.out f8 (by decide) (by decide) (by decide));have ci:Hid (Ri w b0 g S aE):=bR.out.tp ch.out f8 ac.out;clear b8 f8 aa bb aT aU aP ch;go_wp2;go_roundw;case rel=>
     by_cases Z:k=0
     ·subst Z;refine⟨1,L,Wr, .slice bz bG cv,n,aE,by omega,rfl,?_,H.out,aQ.out,bK.out,ca.out,cc.out,ci.out, .inr (.inl ⟨rfl,?_⟩)⟩
      ·have h:=bH.out;rw[Q.out]at h;try rw[List.setIfInBounds_toArray]at h
       rw[DU _ _ _ _ ad.out]at h;exact h
      ·rcases ST.out with⟨_,_,be,_,bT,bf⟩|⟨h,_⟩|⟨h,_⟩;·subst bf;exact⟨b6.out,be,bT⟩
       ·cases h
       ·cases h
     ·obtain rfl:k=1:=by omega
      refine⟨2,R,L,m, .slice bz bG cv,aE,by omega,rfl,?_,H.out,bJ.out,aQ.out,cb.out,ca.out,ci.out, .inr (.inr ⟨rfl,st,?_⟩)⟩
      ·have h:=bH.out;rw[Q.out]at h;try rw[List.setIfInBounds_toArray]at h
       rw[DT _ _ _ _ ad.out]at h;exact h
      ·rcases ST.out with⟨h,_⟩|⟨_,h,_⟩|⟨h,_⟩;·cases h
       ·exact⟨h,b6.out⟩
       ·cases h
    case measure=>simp[intOf];omega
   ·have G:Hid (A=none):=by
     rw[Hid,N.out];rcases ST.out with⟨_,_,_,_,_,bf⟩|⟨_,h,_⟩|⟨h,_⟩;·subst bf;rw[J]
     ·rw[h];simp only;rw[J]
     ·omega
    have b5:=Lib.hid bg;clear J bg f7 ap bI aF bc aI aJ I;go_wp2_with(first|(refine wpList_buildTo rfl 46 #[] rfl bC.toArray ef ?_)|(refine ah rfl 46 (.tmp 2) _ rfl g2 bC.toArray rfl rfl _ _ bb.out bm rfl eV ?_)|(refine aM rfl 44 (.tmp 27) (.tmp 25) rfl o f4 (.slice none 0 0) rfl rfl rfl yg _ _ ((t++[m,n]).toArray.setIfInBounds f4 (.slice none 0 0)) aa.out (by rw[List.size_toArray,d.out];have:=Q.out;omega) rfl ?_));intro b0 b8 f8;have H:=Lib.hid (bb.out.fr f8 (fun e=>by have aK:g2=o:=e;have:=C.out;omega));have aW:Hid (Fr af w b0):=b5.out.ao f8 (fun i bX e=>by have aK:i=o:=e;have:=C.out;have:=HG2.out;omega);clear b8 f8 aa bb b5;go_wp2_with(first|(refine wpList_buildTo rfl 46 #[] rfl bC.toArray ef ?_)|(refine ah rfl 46 (.tmp 2) _ rfl g2 bC.toArray rfl rfl _ _ H.out bm rfl eV ?_));intro E Y T;have aO:=Lib.hid Y;have aX:Hid (Fr af w E):=aW.out.ao T (fun i bX e=>by have aK:i=g2:=e;have:=HG2.out;omega);have a8:=Lib.hid (y.out bC iQ 3 E (mL E) aX.out (.inr ⟨rfl,G.out,rfl⟩));clear Y T H aW;go_wp2;exact bodyPost_ret (aS (fn:=Tryz.f20) (p:=2) (q:=3) (ty:=46) Tryz.results20 _ E _ 46 bC.toArray (0,0) _ rfl aO.out Tryz.underlying46 rfl bm _ rfl) rfl a8.out
  ·obtain rfl:k=2:=by omega
   obtain⟨s1,aq,au⟩:∃s1,fH aL=some (R,s1)∧fH s1=some (Wr,st):=by
    rcases ST.out with⟨h,_⟩|⟨h,_⟩|⟨_,h⟩;·cases h
    ·cases h
    ·exact h
   have ae:Hid (A=if eK st=0∧eW ⟨r,R,Wr⟩=true then some ⟨r,R,Wr⟩else none):=by
    rw[Hid,N.out,aq];simp only;rw[au]
   have a1:Hid ((∀c∈R,ly c)∧∀c∈Wr,ly c):=by
    have bD:aL.1.length≤l.length:=a5.out.1;have bs:l.length≤16777216:=by have:=a7.out;have:=bO.out;omega
    obtain⟨co,a2⟩:=qG _ bs _ _ _ _ _ aq (Nat.le_trans (kA _ _) bD) (fun c V=>by cases V);obtain⟨a3,_⟩:=qG _ bs _ _ _ _ _ au (Nat.le_trans (kA _ _) a2) (fun c V=>by cases V);exact⟨fun c V=>⟨by have:=co c V;omega,by have:=co c V;omega⟩,fun c V=>⟨by have:=a3 c V;omega,by have:=a3 c V;omega⟩⟩
   have ab:Hid (∀W,Fr af wr W→Calls Tryz.prog 72 #[.pointer (some ⟨g,0,none⟩)] W (bj W (.int .i64 (eK st)))):=fun W f=>(I.out.later f).close;clear aq au N ST;have aj:Hid (Fr af w wr):=I.out.fr;have aZ:=Lib.hid (a0.out wr m n R Wr aI.out aJ.out);obtain⟨ce,bn⟩:∃ce,eK st=ce:=⟨_,rfl⟩;rw[bn]at ae ab;clear bn;have aV:Hid (∀W,Fr af wr W→Calls Tryz.prog 60 #[.agg (t++[m,n]).toArray] W (aH W (.bool (eW ⟨r,R,Wr⟩)))):=fun W f=>a9.out W m n R Wr (aj.out.trans f) (aI.out.al f) (aJ.out.al f) cb.out cc.out a1.out.1 a1.out.2;generalize eW ⟨r,R,Wr⟩=ok at*;clear a9 a0;obtain⟨P,bi⟩:∃P,(ce !=0)=P:=⟨_,rfl⟩;have ag:=Lib.hid bi;clear bi;have M:Hid (∀W,Fr af wr W→∀j x,(t++[m,n])[j]? =some x→W.cell? ((⟨o,0,none⟩:Addr).add j)=some x):=fun W f j x cC=>by
    rw[Addr.add_mid,Nat.zero_add,(aF.out.fr f (fun x=>x)).cell j,List.getElem?_toArray];exact cC
   have b9:Hid ((Tryz.prog.info? 46).map (·.size)=some (t++[m,n]).length):=by rw[Hid,d.out];exact bm
   obtain⟨B,bD⟩:∃z:Bool,(bif P then true else(!ok))=z:=⟨_,rfl⟩;have HB:=Lib.hid bD;clear bD;go_upto_region 11 with fail;refine jk 8 [.pointer (some ⟨g,0,none⟩), .int .i64 ce, .bool P, .bool P,bif P then undef else .agg (t++[m,n]).toArray,bif P then undef else .bool ok,bif P then undef else .bool (!ok), .bool B] ?zD ?_;case zD=>
    refine⟨?zL,?zE,?zF,?zG,?zH,?zI,?zJ,?zK,trivial⟩;all_goals intro u w' K F
    all_goals simp only[z1,z2,z3,z4,an,Act.put,z5,z6,z7,Nat.reduceAdd,Nat.zero_add]
    case zE=>
     simp only[show u 0=_ from F 0];refine aB ?_;go_simp;refine(ab.out _ K).mono ?_;rintro e bx⟨rfl,rfl⟩;exact⟨rfl,Fr.refl _ _⟩
    case zF=>
     simp only[show u 1=_ from F 1];refine aB ?_;have t1:=ag.out;go_simp;exact⟨rfl,Fr.refl _ _⟩
    case' zG=>simp only[show u 2=_ from F 2]
    case zH=>
     simp only[show u 3=_ from F 3];cases P;case true=>exact bB
     refine aB ?_;exact ar _ _ rfl ⟨o,0,none⟩ rfl (t++[m,n]) _ (M.out _ K) Tryz.underlying46 rfl b9.out ⟨rfl,Fr.refl _ _⟩
    case zI=>
     simp only[show u 4=_ from F 4,show u 3=_ from F 3];cases P;case true=>exact bB
     refine aB ?_;go_simp;refine(aV.out _ K).mono ?_;rintro e bx⟨rfl,f4⟩;exact⟨rfl,f4⟩
    case' zJ=>
     simp only[show u 5=_ from F 5,show u 3=_ from F 3];cases P;case true=>exact bB
    case zK=>
     simp only[show u 3=_ from F 3,show u 6=_ from F 6];cases P<;>exact aB (by go_simp;exact⟨by rw[←HB.out];rfl,Fr.refl _ _⟩)
    all_goals
     try simp only[cond]
     refine aB ?_;go_simp;exact⟨rfl,Fr.refl _ _⟩
   intro w' K;simp only[z1,z2,z3,z4,an,Act.put,z5,z6,z7,z8,z9,jl,jm,Nat.reduceAdd,Nat.zero_add];have D:Hid (A=if B=false then some ⟨r,R,Wr⟩else none):=by
    rw[Hid,ae.out,←HB.out];have Z:(ce=0)↔P=false:=by rw[←ag.out,bne_eq_false_iff_eq]
    cases bi:P
    ·rw[bi]at Z;have U:ce=0:=Z.2 rfl;cases ok;·rw[if_neg (fun h=>by cases h.2)];rfl
     ·rw[if_pos ⟨U,rfl⟩];rfl
    ·rw[bi]at Z;rw[if_neg (fun h=>by cases(Z.1 h.1))];rfl
   have aW:=Lib.hid (aj.out.trans K);have H:=Lib.hid (bc.out.fr K (fun x=>x));have bH:=Lib.hid (aF.out.fr K (fun x=>x));have aY:=Lib.hid (aZ.out.al K);have M:=Lib.hid (M.out _ K);clear K aV aj bc aF aZ aI aJ I ab ae HB ag;cases X:B;case true=>
    have G:Hid (A=none):=by rw[Hid,D.out,X];rfl
    clear X D;go_wp2_with(first|(refine wpList_buildTo rfl 46 #[] rfl bC.toArray ef ?_)|(refine ah rfl 46 (.tmp 2) _ rfl g2 bC.toArray rfl rfl _ _ H.out bm rfl eV ?_));intro E Y T;have aO:=Lib.hid Y;have aX:Hid (Fr af w E):=aW.out.ao T (fun i bX e=>by have aK:i=g2:=e;have:=HG2.out;omega);have a8:=Lib.hid (y.out bC iQ 3 E (mL E) aX.out (.inr ⟨rfl,G.out,rfl⟩));clear Y T;go_wp2;exact bodyPost_ret (aS (fn:=Tryz.f20) (p:=2) (q:=3) (ty:=46) Tryz.results20 _ E _ 46 bC.toArray (0,0) _ rfl aO.out Tryz.underlying46 rfl bm _ rfl) rfl a8.out
   case false=>
    have G:Hid (A=some ⟨r,R,Wr⟩):=by rw[Hid,D.out,X];rfl
    have bN:Hid ((t++[m,n]).toArray.all (·.oneCell')=true):=ActV.one aY.out;clear X D;go_wp2_with(refine aw rfl 46 (.tmp 5) rfl ⟨o,0,none⟩ rfl (t++[m,n]) _ ?zA Tryz.underlying46 rfl b9.out (aR.go ?zC));case zA=>exact M.out
    unfold aR;go_wp2_with(refine ah rfl 46 (.tmp 2) _ rfl g2 (t++[m,n]).toArray rfl rfl _ _ H.out (ot _ (d.out _ _)) (by rw[List.size_toArray,List.size_toArray,d.out];rfl) bN.out ?_);intro E Y T;have aO:=Lib.hid Y;have aX:Hid (Fr af w E):=aW.out.ao T (fun i bX e=>by have aK:i=g2:=e;have:=HG2.out;omega);have bL:Hid (ck E (t++[m,n]) ⟨r,R,Wr⟩):=aY.out.bV T (fun k br=>by
     obtain rfl:k=g2:=br;exact⟨fun x=>absurd (x.one H.out.ty) (by decide),fun x=>absurd (x.one H.out.ty) (by decide),fun x=>absurd (x.one H.out.ty) (by decide)⟩);have a8:=Lib.hid (y.out _ _ 0 E bL.out aX.out (.inl ⟨rfl,G.out⟩));clear Y T;go_wp2;exact bodyPost_ret (aS (fn:=Tryz.f20) (p:=2) (q:=3) (ty:=46) Tryz.results20 _ E _ 46 (t++[m,n]).toArray (0,0) _ rfl aO.out Tryz.underlying46 rfl (ot _ (d.out _ _)) _ rfl) rfl a8.out
end Go.Proofs.YtphjagkehiklkaaGreatDoor
namespace Go.Proofs.YtphjagkehiklkaaGreatDoor
open Go.RowKit Go.Shelf
theorem rq:∀(L:List Ent),(∀x∈L,(nk x).length≤500)→(L.flatMap nk).length≤500*L.length
 |[],_=>by simp
 |x::L,h=>by
  have b:=h x (by simp);have c:=rq L (fun y a=>h y (by simp[a]));simp only[List.flatMap_cons,List.length_append,List.length_cons];omega
theorem ct.ID{k:Nat}{L:List Ent}(h:ct k L):∀x∈L,(nk x).length≤500:=fun x a=>by
 have b:=h.owner x a;have c:=h.text x a;have d:=h.value x a;have e:=ej x.1;have f:=aO (bT x.1).length;have g:=aO (aC x.2).length;have i:=aG x.2;simp only[nk,aY,List.length_append];omega
theorem ct.EN{k:Nat}{L:List Ent}(h:ct k L):(ey L).length≤10+500*L.length∧1≤(ey L).length:=by
 have a:=rq L h.ID;have b:=aO L.length;have c:=pN 9 L.length;simp only[ey,List.length_append];refine⟨by omega,?_⟩;show 1≤(cJ 9 L.length).length+_;omega
theorem yT(l:List UInt8):aC ⟨l.toArray⟩=l:=rfl
def Dg(w:World)(l:List UInt8)(e:Ending)(w':World):Prop:=aH w (aL (dL l)) e w'
theorem GV(l:List UInt8):dM ⟨l.toArray⟩=l:=rfl
theorem Ch(L:List Ent)(s:Nat)(w:World)(E:ew w s L)(G:dy w)(F:bp w)(m:ct 24 L):
  Calls Tryz.prog 75 #[.pointer (some ⟨s,0,none⟩)] w (Dg w (ey L)):=by
 have y:Hid (∀w',Fr af w w'→Calls Tryz.prog 102 #[.pointer (some ⟨s,0,none⟩)] w' (po w' (ey L))):=fun w' f=>Ci L s w' (E.al f) (G.al f) (m.small (by omega));have Q:=m.EN;have q:=m.len;obtain⟨x,j⟩:∃x:ByteArray,x=⟨(ey L).toArray⟩:=⟨_,rfl⟩;have r:x.size=(ey L).length:=by rw[j];simp[ByteArray.size]
 have z:Hid (∀w',Fr af w w'→Calls Tryz.prog 27 #[.string x] w' (aH w' (aL (dL (ey L))))):=fun w' f=>by
  have h:=xx x w' (F.al f) (by omega) (by omega);rw[j,GV]at h;rw[j];exact h
 unfold Dg;have b:=fJ (ey L);have M:=Lib.hid j;generalize ey L=l at*;unfold aL at*;generalize dL l=c at*;have o:Hid ((c.map aU).toArray.size=32∧(c.map aU).toArray.all (·.oneCell')=true):=⟨by simp[b],kg c⟩;have C:Hid ((Tryz.prog.info? 37).map (·.size)=some (c.map aU).toArray.size):=by
  rw[o.out.1];exact Bt
 generalize(c.map aU).toArray=D at*;clear E G F m Q q j r b;go_enter Tryz.func75,Tryz.ntmps75;go_wp2_with(refine ai rfl 37 rfl aQ Hn ay rfl ?_);intro w1 n1;have k:=Lib.hid n1;clear n1;generalize H:w.heap.size=g at*;have B:=Lib.hid H;clear H;have t:Hid (ak w1 g 37 ay):=by have h:=k.out.az;rw[B.out]at h;exact h
 go_wp2_with fail;refine(y.out _ k.out.fr).mono ?_;rintro e w2⟨v,rfl,a⟩;obtain⟨R,U,P,rfl,A,_⟩:=aP a.own;have d:=lR w2 _ _ _ P _ (oz.rd a.own A.out);rw[←M.out]at d;have n:=Lib.hid (k.out.fr.trans a.al);have u:=Lib.hid (t.out.fr a.al (fun x=>x));clear a A y t k;go_wp2_with fail;refine(z.out _ n.out).mono ?_;rintro e V⟨rfl,f3⟩;have K:=Lib.hid (n.out.trans f3);have J:=Lib.hid (u.out.fr f3 (fun x=>x));clear f3 z n u d;go_wp2_with(refine ah rfl 37 (.tmp 2) _ rfl g D rfl rfl _ _ J.out C.out (by rw[o.out.1];rfl) o.out.2 ?_);intro I b5 f5;have N:=Lib.hid b5;have O:Hid (Fr af w I):=K.out.ao f5 (fun i T e=>by have S:i=g:=e;have:=B.out;omega);clear b5 f5;go_wp2;exact bodyPost_ret (results_cell_row (fn:=Tryz.f75) (p:=2) (ty:=37) Tryz.results75 _ I _ 37 D (0,0) _ rfl N.out Tryz.underlying37 rfl C.out) rfl ⟨rfl,O.out⟩
end Go.Proofs.YtphjagkehiklkaaGreatDoor
