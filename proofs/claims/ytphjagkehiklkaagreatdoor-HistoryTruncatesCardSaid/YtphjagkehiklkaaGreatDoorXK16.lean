/- Texts. -/
import Derived.Test.YtphjagkehiklkaaGreatDoorXK12
import Derived.Test.YtphjagkehiklkaaGreatDoorXK13
set_option linter.unusedVariables false
set_option linter.unusedSimpArgs false
set_option maxRecDepth 100000
set_option maxHeartbeats 8000000
namespace Go.Proofs.YtphjagkehiklkaaGreatDoor
open Go.RowKit Go.Shelf
def oi:ActV:=⟨⟨0,0,0,ByteArray.empty⟩,[],[]⟩
def bX:List Value:=[.int .i64 0, .int .i64 0, .int .i64 0, .string ByteArray.empty, .slice none 0 0, .slice none 0 0]
theorem qI(w:World):cy w bX oi:=⟨_,_,rfl,dU.nil _,dU.nil _⟩
def xN(w:World)(l:List UInt8)(e:Ending)(w':World):Prop:=
 ∃cs a b,e= .returned (.tuple #[.agg cs.toArray, .int .i64 b])∧cy w' cs a∧Fr ah w w'∧((b=0∧mN l=some a)∨(b=3∧mN l=none∧a=oi))
theorem Bk(st:fD):(j6 st).1.length≤st.1.length∧(j6 st).2.1.length≤st.1.length:=by
 unfold j6 aO;split;·simp
 ·split;·simp
  ·refine⟨?_,by simp⟩;simp only[cq];repeat' split
   all_goals simp
   all_goals omega
theorem Jm(st:fD):(dI st).1.length≤st.1.length∧(dI st).2.1.length≤st.1.length:=by
 unfold dI aO;split;·simp
 ·split;·simp
  ·refine⟨?_,by simp⟩;simp only[cq];repeat' split
   all_goals simp
   all_goals omega
theorem Gh(st:fD):(aO false cW st).2.1.length≤st.1.length:=AU st
theorem si(B:Nat)(f:B≤16777216):∀(n:Nat)(st:fD)(L M:List CV)(a:fD),lW n st L=some (M,a)→st.1.length≤B→(∀c∈L,c.nm.owner.size≤16777216∧c.nm.text.size≤16777216)→(∀c∈M,c.nm.owner.size≤16777216∧c.nm.text.size≤16777216)∧a.1.length≤B
 |0,st,L,M,a,h,e,d=>by
  simp only[lW,Option.some.injEq,Prod.mk.injEq]at h;obtain⟨rfl,rfl⟩:=h;exact⟨d,e⟩
 |n+1,st,L,M,a,h,e,d=>by
  rw[lW]at h;by_cases c:(gm (j6 st).1).2≠0;·rw[if_pos c]at h;cases h
  rw[if_neg c]at h;have g:=Bk st;have i:=Gh (j6 st).2;have j:=Jm (aO false cW (j6 st).2).2;refine si B f n _ _ _ _ h (by omega) (fun x b=>?_);rcases List.mem_append.1 b with b|b;·exact d x b
  ·rw[List.mem_singleton]at b;subst b;have:=sR (j6 st).1;simp only;omega
theorem AW(l:List UInt8):(iD l).2.1.length≤l.length∧(iD l).1.fA.size≤l.length:=by
 have a:∀(aP:Int)(st:fD),(aO 0 (bj aP) st).2.1.length≤st.1.length:=fun aP st=>by
  unfold aO;split;·simp
  ·split;·simp
   ·simp
 have b:=a 1073741824 (l,0,0);have a2:=a 2 (jd l).2;have a3:=a 999999 (jY l).2;have a4:=Bk (rdNum l).2;have c:(jd l).2.1.length≤l.length:=b;have d:(jY l).2.1.length≤(jd l).2.1.length:=a2;have e:(rdNum l).2.1.length≤(jY l).2.1.length:=a3;refine⟨?_,?_⟩;·show(iV l).2.1.length≤l.length;have:(iV l).2.1.length≤(rdNum l).2.1.length:=a4.2;omega
 ·show(⟨(iV l).1.toArray⟩:ByteArray).size≤l.length;have f:(iV l).1.length≤(rdNum l).2.1.length:=a4.1;have:(⟨(iV l).1.toArray⟩:ByteArray).size=(iV l).1.length:=by simp[ByteArray.size]
  omega
def Jz(a:fD)(k:Nat)(d Wr:List CV)(c b:Value)(st:fD):Prop:=
 (k=0∧d=[]∧Wr=[]∧c= .slice none 0 0∧b= .slice none 0 0∧st=a)∨(k=1∧jl a=some (d,st)∧Wr=[]∧b= .slice none 0 0)∨(k=2∧∃s1,jl a=some (d,s1)∧jl s1=some (Wr,st))
def Kr(w:World)(c:List Value)(g d g2:Nat)(S:Nat→Prop)(e:fD)(i:Value)(wr:World):Prop:=
 ∃(k:Nat)(f Wr:List CV)(a b:Value)(st:fD),k≤2∧i= .int .i64 (k:Int)∧aq wr d 46 (c++[a,b]).toArray∧aq wr g2 46 bX.toArray∧dU wr a f∧dU wr b Wr∧f.length≤1099511627776∧Wr.length≤1099511627776∧Ri w wr g S st∧Jz e k f Wr a b st
theorem Ck(t c n:Int)(s:ByteArray):Tryz.prog.built 46 [(0, .agg [Value.int .i64 t, .int .i64 c, .int .i64 n, .string s].toArray)]=some ([Value.int .i64 t, .int .i64 c, .int .i64 n, .string s]++[Value.slice none 0 0, .slice none 0 0]).toArray:=by kernel_rfl
theorem fP:Tryz.prog.built 46 []=some bX.toArray:=by kernel_rfl
theorem Ad(a b:Addr)(w:World):(Instr.index 128 (.agg #[.pointer (some a), .pointer (some b)]) (.int .i64 ((0:Nat):Int))).run Tryz.prog w= .ok (.pointer (some a)) w:=by kernel_rfl
theorem Ae(a b:Addr)(w:World):(Instr.index 128 (.agg #[.pointer (some a), .pointer (some b)]) (.int .i64 ((1:Nat):Int))).run Tryz.prog w= .ok (.pointer (some b)) w:=by kernel_rfl
theorem Ah:(Tryz.prog.info? 44).map (·.size)=some 1:=by kernel_rfl
theorem pJ(cs:List Value)(h:cs.length=6):(Tryz.prog.info? 46).map (·.size)=some cs.toArray.size:=by rw[List.size_toArray,h];exact bM
theorem fU:bX.toArray.all (·.oneCell')=true:=by simp[bX,Value.oneCell']
theorem dU.jx{W W':World}{g:Nat}{t:TypeId}{cs:Array Value}{v:Value}{l:List CV}(h:dU W v l)(a:aq W g t cs)(e:Fr (fun k=>k=g) W W')(b:t≠177)(c:t≠174)(d:t≠119):dU W' v l:=
 h.cu e (fun k f=>by
  obtain rfl:k=g:=f;exact⟨fun x=>b (a.ty.one x),fun x=>c (a.ty.one x),fun x=>d (a.ty.one x)⟩)
theorem GV(a:List Value)(c b v:Value)(h:a.length=4):(a++[c,b]).set (4+0) v=a++[v,b]:=by
 rw[List.set_append_right _ _ (by omega),h];rfl
theorem GU(a:List Value)(b c v:Value)(h:a.length=4):(a++[b,c]).set (4+1) v=a++[b,v]:=by
 rw[List.set_append_right _ _ (by omega),h];rfl
theorem EZ(s:ByteArray)(w:World)(cx:ed w)(cA:s.size≤16777216):Calls Tryz.prog 20 #[.string s] w (xN w (aS s)):=by
 obtain⟨l,bF⟩:∃l,aS s=l:=⟨_,rfl⟩;have ba:Hid (l.length=s.size):=by rw[Hid,←bF];exact aQ s
 have bT:Hid (aS s=l):=bF;rw[bF];have cc:=af cx;have bR:=af cA;have b7:Hid (∀W g S,Ri w W g S (l,0,0)→Calls Tryz.prog 70 #[.pointer (some ⟨g,0,none⟩)] W (qU w W g S (.agg (iD l).1.cells.toArray) (iD l).2)):=fun W g S h=>yR w W g S l h;have N:Hid (mN l=match jl (iD l).2 with
  |none=>none
  |some (R,st)=>match jl st with
   |none=>none
   |some (W,st2)=>if gg st2=0∧gv ⟨(iD l).1,R,W⟩=true then some ⟨(iD l).1,R,W⟩else none):=rfl;have a8:=af (AW l);obtain⟨A,J⟩:∃O,mN l=O:=⟨_,rfl⟩;have y:Hid (∀cs a bg w',cy w' cs a→Fr ah w w'→((bg=0∧A=some a)∨(bg=3∧A=none∧a=oi))→xN w l (.returned (.tuple #[.agg cs.toArray, .int .i64 bg])) w'):=fun cs a bg w' U aj bi=>⟨cs,a,bg,rfl,U,aj,by rw[J];exact bi⟩;rw[J]at N;generalize xN w l=PP at*;generalize b2:(iD l).1=r at*;generalize(iD l).2=aN at*;clear cx cA bF J b2;have ad:Hid (r.cells.length=4):=rfl;have aO:Hid (Tryz.prog.built 46 [(0, .agg r.cells.toArray)]=some (r.cells++[Value.slice none 0 0, .slice none 0 0]).toArray):=Ck _ _ _ _;have bO:Hid (∀m n:Value,m.oneCell'=true→n.oneCell'=true→(r.cells++[m,n]).toArray.all (·.oneCell')=true):=fun m n U aj=>by simp only[dH.cells,List.cons_append,List.nil_append,List.all_toArray,List.all_cons,List.all_nil,U,aj];rfl
 have a5:Hid (∀(W:World)(m n:Value)(R Wr:List CV),dU W m R→dU W n Wr→cy W (r.cells++[m,n]) ⟨r,R,Wr⟩):=fun W m n R Wr U aj=>⟨m,n,rfl,U,aj⟩;have bc:Hid (∀(W:World)(m n:Value)(R Wr:List CV),Fr ah w W→dU W m R→dU W n Wr→R.length≤1099511627776→Wr.length≤1099511627776→(∀c∈R,mD c)→(∀c∈Wr,mD c)→Calls Tryz.prog 60 #[.agg (r.cells++[m,n]).toArray] W (aK W (.bool (gv ⟨r,R,Wr⟩)))):=fun W m n R Wr f U aj bi cE bY bj=>
  ot ⟨r,R,Wr⟩ _ W (cc.out.ao f) ⟨m,n,rfl,U,aj⟩ (by show r.fA.size≤1099511627776;have:=a8.out.2;have:=ba.out;have:=bR.out;omega) bY bj bi cE;generalize r.cells=t at*;go_enter Tryz.func20,Tryz.ntmps20;go_wp2_with(refine an rfl 46 rfl eC j8 bX.toArray rfl ?_);intro w1 n1;have b9:=af n1.fr;have cn:=af n1.aD;clear n1;generalize bs:w.heap.size=g2 at*;have HG2:=af bs;clear bs;obtain⟨cD,w2,bZ,ay,bx⟩:=sQ w1 s;have bC:=af (b9.out.trans ay);have co:=af (cn.out.fr ay (fun x=>x));have ci:=af bx;clear ay bx cn b9;generalize w1.heap.size=gc at*;go_wp2_with fail;refine(oE _ _ cD l _ _ (by have h:=ci.out;rw[bT.out]at h;exact h) (by have:=bR.out;omega)).mono ?_;rintro e w3⟨g,S,rfl,bz,f3,b0,av⟩;have bU:Hid (Ri w w3 g S (l,0,0)):=⟨bC.out.trans f3,bz,by have:=bC.out.size;omega,fun k bt=>⟨by have:=(av k bt).1;have:=bC.out.size;omega,(av k bt).2⟩⟩;have cp:=af (co.out.fr f3 (fun x=>x));clear bz f3 b0 av bZ ci co bC;go_wp2_with fail;refine(b7.out _ g S bU.out).mono ?_;rintro e bA⟨rfl,cB,f4⟩;have bV:=af cB;have bW:=af (cp.out.only bU.out f4 (by decide));clear cB f4 bU cp b7;go_wp2_with(first|(refine wpList_buildTo rfl 46 #[(0, .tmp 13)] rfl (t++[Value.slice none 0 0, .slice none 0 0]).toArray (by simp only[List.map_toArray,List.map_cons,List.map_nil];exact aO.out) ?_)|(refine an rfl 46 rfl eC j8 bX.toArray rfl ?_));intro cH n5;have bd:=af n5;clear n5;generalize aB:bA.heap.size=o at*;have b5:Hid (aq cH o 46 bX.toArray):=by have h:=bd.out.aD;rw[aB]at h;exact h
 have ac:Hid (bA.heap.size≤o):=by rw[Hid,aB];exact Nat.le_refl _
 clear aB;have d:Hid (∀m n:Value,(t++[m,n]).length=6):=fun m n=>by rw[aW,ad.out];rfl
 have C:Hid (g2<o):=by have:=bW.out.lt;have:=ac.out;simp only[Hid];omega
 go_wp2_with(refine ak rfl 46 (.tmp 5) _ rfl o (t++[Value.slice none 0 0, .slice none 0 0]).toArray rfl rfl _ _ b5.out (pJ _ (d.out _ _)) (by rw[List.size_toArray,List.size_toArray,d.out];rfl) (bO.out _ _ rfl rfl) ?_);intro b3 ct f6;have b6:=af ct;have cj:=af (bV.out.later bd.out.fr);have cq:=af ((bW.out.fr bd.out.fr (fun x=>x)).fr f6 (fun e=>by have aJ:g2=o:=e;have:=C.out;omega));have ck:Hid (Ri w b3 g S aN):=bV.out.uX cj.out f6 ac.out;have a9:Hid (Kr w t g o g2 S aN (.int .i64 0) b3):=⟨0,[],[],_,_,aN,by omega,rfl,b6.out,cq.out,dU.nil _,dU.nil _,by simp,by simp,ck.out, .inl ⟨rfl,rfl,rfl,rfl,rfl,rfl⟩⟩;have cC:Hid (bA.heap.size≤b3.heap.size):=Nat.le_trans bd.out.fr.size f6.size;clear ct f6 bd b5 cj bW b6 cq ck aO;go_wp2;go_loopw[18](fun i wr=>Kr w t g o g2 S aN i wr)(fun i _=>2-(intOf i).toNat);case atStart=>exact a9.out
 case round=>
  obtain⟨k,R,Wr,m,n,st,bt,rfl,cw,cz,bq,br,bv,bw,F,bo⟩:=hrel;have aG:=af cw;have bf:=af cz;have aH:=af bq;have aI:=af br;have cg:=af bv;have ch:=af bw;have I:=af F;have ST:=af bo;clear cw cz bq br bv bw F bo a9;by_cases cF:k<2
  ·have t0:decide ((k:Int)<2)=true:=cT (by omega);have a7:Hid (∀W,(Instr.index 128 (.agg #[.pointer (some ⟨o,4,none⟩), .pointer (some ⟨o,5,none⟩)]) (.int .i64 (k:Int))).run Tryz.prog W= .ok (.pointer (some ⟨o,4+k,none⟩)) W):=fun W=>by
    by_cases Z:k=0;·subst Z;exact Ad _ _ W
    ·obtain rfl:k=1:=by omega
     exact Ae _ _ W
   have al:=a7.out;have bJ:Hid (Calls Tryz.prog 71 #[.pointer (some ⟨g,0,none⟩)] wr (Lj w wr g S (jl st))):=sj w wr g S st I.out cc.out;obtain⟨f4,aA⟩:∃f,f=4+k:=⟨_,rfl⟩;have Q:=af aA;rw[←aA]at al;clear aA a7;go_wp2_with fail;refine bJ.out.mono ?_;rintro e cI⟨v,b,rfl,f7,ax⟩;have aa:=af (aG.out.only I.out f7 (by decide));have be:=af (bf.out.only I.out f7 (by decide));have aV:=af (aH.out.only I.out f7);have aX:=af (aI.out.only I.out f7);rcases ax with⟨rfl,L,aE,J,bE,bl,bn,_⟩|⟨rfl,J,rfl,_,bk⟩
   ·obtain⟨bB,bH,cv,rfl,bE⟩:=bE.form;have cb:=af J;have aT:=af bE;have cf:=af bl;have cl:=af bn;clear J bE bl bn f7 al bJ aG bf aH aI I;go_wp2_with(refine aM rfl 44 (.tmp 27) (.tmp 25) rfl o f4 (.slice bB bH cv) rfl rfl rfl Ah _ _ ((t++[m,n]).toArray.setIfInBounds f4 (.slice bB bH cv)) aa.out (by rw[List.size_toArray,d.out];have:=Q.out;omega) rfl ?_);intro b4 b8 f8;have bI:=af b8;have H:=af (be.out.fr f8 (fun e=>by have aJ:g2=o:=e;have:=C.out;omega));have bK:=af (aV.out.jx aa.out f8 (by decide) (by decide) (by decide));have bL:=af (aX.out.jx aa.out f8 (by decide) (by decide) (by decide));have aU:=af (aT.out.jx aa.out f8 (by decide) (by decide) (by decide));have cm:Hid (Ri w b4 g S aE):=bV.out.uX cl.out f8 ac.out;clear b8 f8 aa be aV aX aT cl;go_wp2;go_roundw;case rel=>
     by_cases Z:k=0
     ·subst Z;refine⟨1,L,Wr, .slice bB bH cv,n,aE,by omega,rfl,?_,H.out,aU.out,bL.out,cf.out,ch.out,cm.out, .inr (.inl ⟨rfl,?_⟩)⟩
      ·have h:=bI.out;rw[Q.out]at h;try rw[List.setIfInBounds_toArray]at h
       rw[GV _ _ _ _ ad.out]at h;exact h
      ·rcases ST.out with⟨_,_,bi,_,bY,bj⟩|⟨h,_⟩|⟨h,_⟩;·subst bj;exact⟨cb.out,bi,bY⟩
       ·cases h
       ·cases h
     ·obtain rfl:k=1:=by omega
      refine⟨2,R,L,m, .slice bB bH cv,aE,by omega,rfl,?_,H.out,bK.out,aU.out,cg.out,cf.out,cm.out, .inr (.inr ⟨rfl,st,?_⟩)⟩
      ·have h:=bI.out;rw[Q.out]at h;try rw[List.setIfInBounds_toArray]at h
       rw[GU _ _ _ _ ad.out]at h;exact h
      ·rcases ST.out with⟨h,_⟩|⟨_,h,_⟩|⟨h,_⟩;·cases h
       ·exact⟨h,cb.out⟩
       ·cases h
    case measure=>simp[intOf];omega
   ·have G:Hid (A=none):=by
     rw[Hid,N.out];rcases ST.out with⟨_,_,_,_,_,bj⟩|⟨_,h,_⟩|⟨h,_⟩;·subst bj;rw[J]
     ·rw[h];simp only;rw[J]
     ·omega
    have ca:=af bk;clear J bk f7 al bJ aG bf aH aI I;go_wp2_with(first|(refine wpList_buildTo rfl 46 #[] rfl bX.toArray fP ?_)|(refine ak rfl 46 (.tmp 2) _ rfl g2 bX.toArray rfl rfl _ _ be.out bM rfl fU ?_)|(refine aM rfl 44 (.tmp 27) (.tmp 25) rfl o f4 (.slice none 0 0) rfl rfl rfl Ah _ _ ((t++[m,n]).toArray.setIfInBounds f4 (.slice none 0 0)) aa.out (by rw[List.size_toArray,d.out];have:=Q.out;omega) rfl ?_));intro b4 b8 f8;have H:=af (be.out.fr f8 (fun e=>by have aJ:g2=o:=e;have:=C.out;omega));have aZ:Hid (Fr ah w b4):=ca.out.au f8 (fun i b1 e=>by have aJ:i=o:=e;have:=C.out;have:=HG2.out;omega);clear b8 f8 aa be ca;go_wp2_with(first|(refine wpList_buildTo rfl 46 #[] rfl bX.toArray fP ?_)|(refine ak rfl 46 (.tmp 2) _ rfl g2 bX.toArray rfl rfl _ _ H.out bM rfl fU ?_));intro E Y T;have aP:=af Y;have a0:Hid (Fr ah w E):=aZ.out.au T (fun i b1 e=>by have aJ:i=g2:=e;have:=HG2.out;omega);have bb:=af (y.out bX oi 3 E (qI E) a0.out (.inr ⟨rfl,G.out,rfl⟩));clear Y T H aZ;go_wp2;exact bodyPost_ret (bh (fn:=Tryz.f20) (p:=2) (q:=3) (ty:=46) Tryz.results20 _ E _ 46 bX.toArray (0,0) _ rfl aP.out Tryz.underlying46 rfl bM _ rfl) rfl bb.out
  ·obtain rfl:k=2:=by omega
   obtain⟨s1,am,ap⟩:∃s1,jl aN=some (R,s1)∧jl s1=some (Wr,st):=by
    rcases ST.out with⟨h,_⟩|⟨h,_⟩|⟨_,h⟩;·cases h
    ·cases h
    ·exact h
   have ae:Hid (A=if gg st=0∧gv ⟨r,R,Wr⟩=true then some ⟨r,R,Wr⟩else none):=by
    rw[Hid,N.out,am];simp only;rw[ap]
   have a6:Hid ((∀c∈R,mD c)∧∀c∈Wr,mD c):=by
    have bD:aN.1.length≤l.length:=a8.out.1;have bu:l.length≤16777216:=by have:=ba.out;have:=bR.out;omega
    obtain⟨cr,a2⟩:=si _ bu _ _ _ _ _ am (Nat.le_trans (lU _ _) bD) (fun c V=>by cases V);obtain⟨a3,_⟩:=si _ bu _ _ _ _ _ ap (Nat.le_trans (lU _ _) a2) (fun c V=>by cases V);exact⟨fun c V=>⟨by have:=cr c V;omega,by have:=cr c V;omega⟩,fun c V=>⟨by have:=a3 c V;omega,by have:=a3 c V;omega⟩⟩
   have ab:Hid (∀W,Fr ah wr W→Calls Tryz.prog 72 #[.pointer (some ⟨g,0,none⟩)] W (bG W (.int .i64 (gg st)))):=fun W f=>(I.out.later f).close;clear am ap N ST;have ai:Hid (Fr ah w wr):=I.out.fr;have a4:=af (a5.out wr m n R Wr aH.out aI.out);obtain⟨ce,bp⟩:∃ce,gg st=ce:=⟨_,rfl⟩;rw[bp]at ae ab;clear bp;have aY:Hid (∀W,Fr ah wr W→Calls Tryz.prog 60 #[.agg (t++[m,n]).toArray] W (aK W (.bool (gv ⟨r,R,Wr⟩)))):=fun W f=>bc.out W m n R Wr (ai.out.trans f) (aH.out.ao f) (aI.out.ao f) cg.out ch.out a6.out.1 a6.out.2;generalize gv ⟨r,R,Wr⟩=ok at*;clear bc a5;obtain⟨P,bm⟩:∃P,(ce !=0)=P:=⟨_,rfl⟩;have ag:=af bm;clear bm;have M:Hid (∀W,Fr ah wr W→∀j x,(t++[m,n])[j]? =some x→W.cell? ((⟨o,0,none⟩:Addr).add j)=some x):=fun W f j x cG=>by
    rw[Addr.add_mid,Nat.zero_add,(aG.out.fr f (fun x=>x)).cell j,bQ];exact cG
   have cd:Hid ((Tryz.prog.info? 46).map (·.size)=some (t++[m,n]).length):=by rw[Hid,d.out];exact bM
   obtain⟨B,bD⟩:∃z:Bool,(bif P then true else(!ok))=z:=⟨_,rfl⟩;have HB:=af bD;clear bD;go_upto_region 11 with fail;refine jm 8 [.pointer (some ⟨g,0,none⟩), .int .i64 ce, .bool P, .bool P,bif P then undef else .agg (t++[m,n]).toArray,bif P then undef else .bool ok,bif P then undef else .bool (!ok), .bool B] ?zC ?_;case zC=>
    refine⟨?zK,?zD,?zE,?zF,?zG,?zH,?zI,?zJ,trivial⟩;all_goals intro u w' K F
    all_goals simp only[z1,z2,z3,z4,ar,Act.put,z5,z6,z7,Nat.reduceAdd,Nat.zero_add]
    case zD=>
     simp only[show u 0=_ from F 0];refine aF ?_;go_simp;refine(ab.out _ K).mono ?_;rintro e bA⟨rfl,rfl⟩;exact aL
    case zE=>
     simp only[show u 1=_ from F 1];refine aF ?_;have t1:=ag.out;go_simp;exact aL
    case' zF=>simp only[show u 2=_ from F 2]
    case zG=>
     simp only[show u 3=_ from F 3];cases P;case true=>exact bS
     refine aF ?_;exact aw _ _ rfl ⟨o,0,none⟩ rfl (t++[m,n]) _ (M.out _ K) Tryz.underlying46 rfl cd.out aL
    case zH=>
     simp only[show u 4=_ from F 4,show u 3=_ from F 3];cases P;case true=>exact bS
     refine aF ?_;go_simp;refine(aY.out _ K).mono ?_;rintro e bA⟨rfl,f4⟩;exact⟨rfl,f4⟩
    case' zI=>
     simp only[show u 5=_ from F 5,show u 3=_ from F 3];cases P;case true=>exact bS
    case zJ=>
     simp only[show u 3=_ from F 3,show u 6=_ from F 6];cases P<;>exact aF (by go_simp;exact⟨by rw[←HB.out];rfl,az⟩)
    all_goals
     try simp only[cond]
     refine aF ?_;go_simp;exact aL
   intro w' K;simp only[z1,z2,z3,z4,ar,Act.put,z5,z6,z7,z8,z9,jn,jo,Nat.reduceAdd,Nat.zero_add];have D:Hid (A=if B=false then some ⟨r,R,Wr⟩else none):=by
    rw[Hid,ae.out,←HB.out];have Z:(ce=0)↔P=false:=by rw[←ag.out,bne_eq_false_iff_eq]
    cases bm:P
    ·rw[bm]at Z;have U:ce=0:=Z.2 rfl;cases ok;·rw[if_neg (fun h=>by cases h.2)];rfl
     ·rw[if_pos ⟨U,rfl⟩];rfl
    ·rw[bm]at Z;rw[if_neg (fun h=>by cases(Z.1 h.1))];rfl
   have aZ:=af (ai.out.trans K);have H:=af (bf.out.fr K (fun x=>x));have bI:=af (aG.out.fr K (fun x=>x));have a1:=af (a4.out.ao K);have M:=af (M.out _ K);clear K aY ai bf aG a4 aH aI I ab ae HB ag;cases X:B;case true=>
    have G:Hid (A=none):=by rw[Hid,D.out,X];rfl
    clear X D;go_wp2_with(first|(refine wpList_buildTo rfl 46 #[] rfl bX.toArray fP ?_)|(refine ak rfl 46 (.tmp 2) _ rfl g2 bX.toArray rfl rfl _ _ H.out bM rfl fU ?_));intro E Y T;have aP:=af Y;have a0:Hid (Fr ah w E):=aZ.out.au T (fun i b1 e=>by have aJ:i=g2:=e;have:=HG2.out;omega);have bb:=af (y.out bX oi 3 E (qI E) a0.out (.inr ⟨rfl,G.out,rfl⟩));clear Y T;go_wp2;exact bodyPost_ret (bh (fn:=Tryz.f20) (p:=2) (q:=3) (ty:=46) Tryz.results20 _ E _ 46 bX.toArray (0,0) _ rfl aP.out Tryz.underlying46 rfl bM _ rfl) rfl bb.out
   case false=>
    have G:Hid (A=some ⟨r,R,Wr⟩):=by rw[Hid,D.out,X];rfl
    have bP:Hid ((t++[m,n]).toArray.all (·.oneCell')=true):=ActV.one a1.out;clear X D;go_wp2_with(refine aC rfl 46 (.tmp 5) rfl ⟨o,0,none⟩ rfl (t++[m,n]) _ ?zA Tryz.underlying46 rfl cd.out (aR.go ?zB));case zA=>exact M.out
    unfold aR;go_wp2_with(refine ak rfl 46 (.tmp 2) _ rfl g2 (t++[m,n]).toArray rfl rfl _ _ H.out (pJ _ (d.out _ _)) (by rw[List.size_toArray,List.size_toArray,d.out];rfl) bP.out ?_);intro E Y T;have aP:=af Y;have a0:Hid (Fr ah w E):=aZ.out.au T (fun i b1 e=>by have aJ:i=g2:=e;have:=HG2.out;omega);have bN:Hid (cy E (t++[m,n]) ⟨r,R,Wr⟩):=a1.out.cu T (fun k bt=>by
     obtain rfl:k=g2:=bt;exact⟨fun x=>absurd (x.one H.out.ty) (by decide),fun x=>absurd (x.one H.out.ty) (by decide),fun x=>absurd (x.one H.out.ty) (by decide)⟩);have bb:=af (y.out _ _ 0 E bN.out a0.out (.inl ⟨rfl,G.out⟩));clear Y T;go_wp2;exact bodyPost_ret (bh (fn:=Tryz.f20) (p:=2) (q:=3) (ty:=46) Tryz.results20 _ E _ 46 (t++[m,n]).toArray (0,0) _ rfl aP.out Tryz.underlying46 rfl (pJ _ (d.out _ _)) _ rfl) rfl bb.out
end Go.Proofs.YtphjagkehiklkaaGreatDoor
namespace Go.Proofs.YtphjagkehiklkaaGreatDoor
open Go.RowKit
theorem vU{P:Program}{ops:Array Oper}{rest:List Oper}{p:Oper}{a:Act}{w:World}{Q:Exit→Act→World→Prop}(e:p.guard=none)(ty:TypeId)(x:Operand)(m:p.op= .load ty x)
  (b f:Nat)(o:a.eval x= .pointer (some ⟨b,f,none⟩))(i:TypeInfo)(g:P.info? ty=some i)(c:∀w,(isAgg ty).run P w= .ok true w)(d:List Value)(n:d.length=i.size)
  (l:∀k v,d[k]? =some v→w.cell? ⟨b,f+k,none⟩=some v)
  (h:wpList P ops Q rest (a.put p.dst (.agg d.toArray)) w):wpList P ops Q (p::rest) a w:=by
 refine wpList_plain e fun K j=>?_;unfold Oper.wp execOp;simp only[m,o,Instr.loadAt,Instr.sureAddr,Sem.run_bind,Sem.run_pure,Result.andThen_ok,Lib.rl_loadVar_cells ty i g c b f d n w l];exact j _ _ h
theorem ox{P:Program}{ops:Array Oper}{rest:List Oper}{u:Oper}{a:Act}{w:World}{Q:Exit→Act→World→Prop}(g:u.guard=none)(ty:TypeId)(x y:Operand)(o:u.op= .store ty x y)
  (b f:Nat)(q:a.eval x= .pointer (some ⟨b,f,none⟩))(j:TypeInfo)(i:P.info? ty=some j)(c:List Value)(r:a.eval y= .agg c.toArray)(p:c.length=j.size)(l:∀v∈c,v.oneCell'=true)
  (t:TypeId)(cs:List Value)(e:aq w b t cs.toArray)(n:f+c.length≤cs.length)
  (h:∀w',aq w' b t (cs.take f++c++cs.drop (f+c.length)).toArray→Fr (fun k=>k=b) w w'→wpList P ops Q rest (a.put u.dst undef) w'):wpList P ops Q (u::rest) a w:=by
 refine wpList_plain g fun K m=>?_;have d:=Lib.rl_storeVar_cells (P:=P) ty j i b f c p l w (fun k s=>by
  rw[e.cell,bQ,List.getElem?_eq_getElem (by omega)];rfl) (fun k _=>e.frozen _);unfold Oper.wp execOp;simp only[o,q,r,Instr.storeAt,Instr.sureAddr,Sem.run_bind,Sem.run_pure,Result.andThen_ok,d];exact m _ _ (h _ (aq.setCells c f w cs e n) (Fr.setCells (T:=fun k=>k=b) (fun _=>rfl) c f w (Fr.refl _ w)))
structure bU(w:World):Prop where
 init:∀j u,(fG dY)[j]? =some u→w.cell? ⟨1,j,none⟩=some u
 kk:∀j,j<64→w.cell? ⟨2,j,none⟩=some (jF (sZ[j]?.getD 0))
theorem bU.fr{w w':World}{T:Nat→Prop}(h:bU w)(a:Fr T w w')(b:¬T 1)(c:¬T 2):bU w':=
 ⟨fun j u hu=>a.aj (h.init j u hu) b,fun j d=>a.aj (h.kk j d) c⟩
theorem bU.ao{w w':World}(h:bU w)(a:Fr ah w w'):bU w':=h.fr a (fun x=>x) (fun x=>x)
def gN(n:Nat)(st:cS)(rest:List UInt8):List Value:=[.int .i64 n]++fG st++rest.map bL
theorem pV(n:Nat)(st:cS)(rest:List UInt8)(h:rest.length=64):(gN n st rest).length=73:=by simp[gN,fG,h]
theorem yw(n:Nat)(st a:cS)(rest:List UInt8):(gN n st rest).take 1++fG a++(gN n st rest).drop (1+(fG a).length)=gN n a rest:=rfl
theorem yv(n m:Nat)(st:cS)(rest:List UInt8):(gN n st rest).set 0 (.int .i64 m)=gN m st rest:=rfl
theorem Aa(n:Nat)(st:cS)(rest:List UInt8)(a:Nat)(Y:List UInt8):(gN n st rest).take (9+a)++Y.map bL++(gN n st rest).drop (9+a+(Y.map bL).length)=gN n st (cM rest a Y):=by
 have b:([Value.int .i64 n]++fG st).length=9:=rfl;unfold gN cM;generalize[Value.int .i64 n]++fG st=pre at*;rw[←b,List.take_length_add_append,Nat.add_assoc,List.drop_length_add_append];simp[List.map_take,List.map_drop,List.append_assoc]
theorem qo{w:World}{g n:Nat}{st:cS}{rest:List UInt8}(h:aq w g 144 (gN n st rest).toArray)(c:rest.length=64)(j:Nat)(b:j<64):w.cell? ⟨g,9+j,none⟩=some (bL (rest[j]?.getD 0)):=by
 have a:([Value.int .i64 n]++fG st).length=9:=rfl;rw[h.cell,bQ,gN,List.getElem?_append_right (by omega),a,Nat.add_sub_cancel_left,List.getElem?_map,List.getElem?_eq_getElem (by omega)];rfl
theorem Jj(w:World):(Go.sizeOf 5).run Tryz.prog w= .ok 1 w:=by kernel_rfl
theorem Jn(t:ByteArray)(n:Nat):eN (t.extract n t.size)=(eN t).drop n:=by
 simp[eN];exact List.take_of_length_le (by rw[List.length_drop];exact Nat.le_refl _)
def strSize:Value→Nat
 | .string t=>t.size
 |_=>0
structure ni(w:World)(g:Nat)(M rest:List UInt8):Prop where
 aD:aq w g 144 (gN M.length (gC dY M (M.length/64)) rest).toArray
 ok:kN M rest
def KW(w:World)(g:Nat)(M:List UInt8)(e:Ending)(w':World):Prop:=e= .returned (.int .i64 0)∧Fr (fun k=>k=g) w w'∧∃rest,ni w' g M rest
theorem JU:(Tryz.prog.info? 141).map (fun i=>(i.zero,i.size,i.bytes))=some (some (.agg (fG ⟨0,0,0,0,0,0,0,0⟩).toArray),8,32):=by kernel_rfl
theorem isAgg8(w:World):(isAgg 141).run Tryz.prog w= .ok true w:=by kernel_rfl
theorem Cd(s:ByteArray)(g:Nat)(st:cS)(rest:List UInt8)(f:rest.length=64)(w:World)(ae:aq w g 144 (gN 0 st rest).toArray)(ap:bU w)(E:g≠1)(zA:g≠2)(aP:s.size≤1099511627776)(aI:1≤s.size):
  Calls Tryz.prog 79 #[.pointer (some ⟨g,0,none⟩), .string s] w (KW w g (eN s)):=by
 obtain⟨i8,I,_,K,_⟩:=info_parts JU;have ao:=af ae;have Z:=af ap;have V:=af f;have m:Hid (g≠1∧g≠2):=⟨E,zA⟩;have aa:=af (dP s);have ad:w.cell? ⟨g,0,none⟩=some (.int .i64 0):=ae.cell 0;clear ae ap f E zA;generalize F:eN s=N at*;have B:Hid (N=eN s):=F.symm;clear F;go_enter Tryz.func79,Tryz.ntmps79;go_wp2_with(first|(refine vU rfl 141 (.global 1) rfl 1 0 rfl i8 I isAgg8 (fG dY) K.symm (fun k v Q=>by rw[Nat.zero_add];exact Z.out.init k v Q) ?_)|(refine ox rfl 141 _ _ rfl g 1 rfl i8 I (fG dY) rfl K.symm ?zA _ (gN 0 st rest) ao.out ?zB ?_));case zA=>intro v Q;simp only[fG,List.mem_cons,List.not_mem_nil,or_false]at Q;rcases Q with rfl|rfl|rfl|rfl|rfl|rfl|rfl|rfl<;>rfl
 case zB=>rw[pV _ _ _ V.out];simp[fG]
 intro w1 b1 f1;rw[←List.append_assoc,yw]at b1;have ak:Hid (ni w1 g [] rest):=⟨b1,Gj rest V.out⟩;have am:=af f1;clear b1 f1 ad ao V;go_wp2;go_loopw[1](fun v wr=>∃t X rest,v= .string t∧Hid (N=X++eN t)∧t.size≤s.size∧ni wr g X rest∧Fr (fun k=>k=g) w wr)(fun v _=>strSize v);case atStart=>exact⟨s,[],rest,rfl,B.out,Nat.le_refl _,ak.out,am.out⟩
 case round=>
  obtain⟨t,X,rest,rfl,d,aK,O,hF⟩:=hrel;have i:=af O;have ab:=af hF;have C:Hid (X.length+t.size=s.size):=by
   have h:=congrArg List.length d.out;rw[aW,dP,aa.out]at h;simp only[Hid];omega
  have aC:X.length≤1099511627776:=by have:=C.out;omega
  have ad:wr.cell? ⟨g,0,none⟩=some (.int .i64 (X.length:Nat)):=O.aD.cell 0;have f0:wr.frozen? ⟨g,0,none⟩=false:=O.aD.frozen 0;have ay:=af (A0 dY X xt (X.length/64));clear O hF ak am;by_cases aQ:1≤t.size
  ·obtain⟨a,ag⟩:∃a,a=X.length%64:=⟨_,rfl⟩;obtain⟨n,ai⟩:∃n,n=Nat.min t.size (64-a):=⟨_,rfl⟩;have aH:n≤t.size∧n≤64-a∧(n=t.size∨n=64-a):=by
    rw[ai];rcases Nat.le_total t.size (64-a)with h|h;·rw[show Nat.min t.size (64-a)=t.size from Nat.min_eq_left h];exact⟨Nat.le_refl _,h, .inl rfl⟩
    ·rw[show Nat.min t.size (64-a)=64-a from Nat.min_eq_right h];exact⟨h,Nat.le_refl _, .inr rfl⟩
   have au:a<64:=by omega
   have G:((eN t).take n).length=n:=by rw[List.length_take,dP];omega
   have H:=wO (P:=Tryz.prog) wr 61 9 3 5 g (9+a) (64-a) (64-a) t Tryz.underlying61 Jj n ai.symm
    (fun j ah=>by rw[show 9+a+j=9+(a+j)by omega,qo i.out.aD i.out.ok.1 (a+j) (by omega)];rfl) (fun j ah=>i.out.aD.frozen _);have J:(t.data.toList.map fun x=>Value.int .u8 (x.toNat:Int)).take n=((eN t).take n).map bL:=by
    rw[←List.map_take];rfl
   rw[J]at H;have R:=aq.setCells (((eN t).take n).map bL) (9+a) wr _ i.out.aD (by rw[pV _ _ _ i.out.ok.1,List.length_map,G];omega);rw[Aa]at R;have an:=Fr.setCells (T:=fun k=>k=g) (a:=w) (fun _=>rfl) (((eN t).take n).map bL) (9+a) wr ab.out;have q:=af R;have z:=af an;have M:=af ag;have D:=af G;have A:Hid (N=(X++(eN t).take n)++eN (t.extract n t.size)):=by
    simp only[Hid];rw[Jn,List.append_assoc,List.take_append_drop];exact d.out
   have o:Hid ((t.extract n t.size).size=t.size-n):=by simp only[Hid];simp
   generalize wr.setCells g (9+a) (((eN t).take n).map bL)=w2 at*;generalize aE:(eN t).take n=Y at*;clear R an J aE;have az:Hid (bU w2):=Z.out.fr z.out (fun e=>m.out.1 e.symm) (fun e=>m.out.2 e.symm);have d0:w2.cell? ⟨g,0,none⟩=some (.int .i64 (X.length:Nat)):=q.out.cell 0;have aA:w2.frozen? ⟨g,0,none⟩=false:=q.out.frozen 0;have l:Hid (aq (w2.setCell ⟨g,0,none⟩ (.int .i64 ((X.length+n:Nat):Int))) g 144 (gN (X.length+n) (gC dY X (X.length/64)) (cM rest a Y)).toArray):=by
    have h:=q.out.jM 0 (.int .i64 ((X.length+n:Nat):Int));rw[List.setIfInBounds_toArray,yv]at h;exact h
   have r:Hid (Fr (fun k=>k=g) w (w2.setCell ⟨g,0,none⟩ (.int .i64 ((X.length+n:Nat):Int)))):=z.out.setCell (p:=⟨g,0,none⟩) (fun _=>rfl) _;have aM:((X.length:Nat):Int)%64=(a:Int):=by rw[ag];omega
   have aj:((X.length:Nat):Int).tmod 64=(a:Int):=by rw[Int.tmod_eq_emod_of_nonneg (by omega)];exact aM
   have aR:(a:Int)≤64:=by omega
   have aS:(n:Int)≤(t.size:Int):=by omega
   have aT:IntKind.i64.wrap (((X.length:Nat):Int)+(n:Int))=((X.length+n:Nat):Int):=(IntWalk.i64_in _ (by omega)).trans (by omega);have aN:((X.length:Nat):Int)+(n:Int)=((X.length+n:Nat):Int):=by omega
   have aJ:(0:Int)<(t.size:Int):=by omega
   have c:Hid (a+n<64→ni (w2.setCell ⟨g,0,none⟩ (.int .i64 ((X.length+n:Nat):Int))) g (X++Y) (cM rest a Y)):=by
    intro h;obtain⟨zA,zB⟩:=Da (X:=Y) i.out.ok (by rw[D.out,←M.out];exact h);rw[←M.out]at zA;refine⟨?_,zA⟩;rw[zB,aW,D.out];exact l.out
   have b:Hid (a+n=64→kN (X++Y) (cM rest a Y)∧gC dY (X++Y) ((X++Y).length/64)=fO (gC dY X (X.length/64)) (cM rest a Y)∧(X++Y).length=X.length+n):=by
    intro h;obtain⟨zA,zB⟩:=CU (X:=Y) i.out.ok (by rw[D.out,←M.out];exact h);rw[←M.out]at zA zB;exact⟨zA,zB,by rw[aW,D.out]⟩
   have W:Hid ((cM rest a Y).length=64):=jU i.out.ok.1 (by rw[D.out];omega);generalize cM rest a Y=y at*;generalize gC dY X (X.length/64)=ST at*;generalize X.length=L at*;clear i ab Z ai ag C aj aN;by_cases u:a+n=64
   ·have aL:(((a:Int)+(n:Int))==64)=true:=by rw[beq_iff_eq];omega
    have aw:=af (b.out u);have ac:Hid (bU (w2.setCell ⟨g,0,none⟩ (.int .i64 ((L+n:Nat):Int)))):=az.out.fr ((Fr.refl (fun k=>k=g) w2).setCell (p:=⟨g,0,none⟩) (fun _=>rfl) _) (fun e=>m.out.1 e.symm) (fun e=>m.out.2 e.symm);clear c b;go_wp2;rw[show(L:Int)+(n:Int)=((L+n:Nat):Int)by omega];generalize w2.setCell ⟨g,0,none⟩ (.int .i64 ((L+n:Nat):Int))=w3 at*;have al:=af (mF g 1 g 9 144 [.int .i64 (L+n:Nat)] (y.map bL) ST ay.out y w3.drew l.out.drew rfl (fun j ah=>qo l.out.drew W.out j ah) ac.out.kk);generalize fO ST y=aO at*;clear ad f0 d0 aA H;go_still_tail 6,(by kernel_rfl);change wpList _ _ _ _ _ w3.drew;go_wp2_with fail;refine al.out.mono ?_;rintro e av⟨rfl,f4,b4⟩;have U:Hid (ni av g (X++Y) y):=by
     obtain⟨zA,zB,aB⟩:=aw.out;refine⟨?_,zA⟩;rw[zB,aB];exact b4
    have S:Hid (Fr (fun k=>k=g) w av):=r.out.drew.trans f4;clear f4 b4 al l r;go_wp2;go_roundw;case rel=>exact⟨t.extract n t.size,X++Y,y,rfl,A.out,by have:=o.out;omega,U.out,S.out⟩
    case measure=>have:=o.out;simp only[strSize];omega
   ·have aL:(((a:Int)+(n:Int))==64)=false:=by rw[beq_eq_false_iff_ne];omega
    have U:=af (c.out (by omega));clear c b;go_wp2;go_roundw;case rel=>exact⟨t.extract n t.size,X++Y,y,rfl,A.out,by have:=o.out;omega,U.out,r.out⟩
    case measure=>have:=o.out;simp only[strSize];omega
  ·have E:t.size=0:=by omega
   have aG:decide ((0:Int)<(t.size:Int))=false:=bZ (by omega);have aF:decide (0<t.size)=false:=bZ (by omega);have ar:N=X:=by
    rw[d.out];have:eN t=[]:=List.eq_nil_of_length_eq_zero (by rw[dP];exact E);rw[this,List.append_nil]
   have ax:=af ar;clear ar E;go_wp2;go_ret;refine⟨rfl,ab.out,rest,?_⟩;rw[ax.out];exact i.out
theorem iJ(w:World):(zeroValue 38).run Tryz.prog w= .ok aZ w:=by kernel_rfl
theorem K7(V:cS):(Tryz.prog.info? 141).map (·.size)=some (fG V).length:=by kernel_rfl
theorem IH:(Tryz.prog.info? 142).map (·.size)=some 64:=by kernel_rfl
theorem eW:(Tryz.prog.info? 38).map (·.size)=some 32:=by kernel_rfl
theorem Lw(w:World):(zeroValue 5).run Tryz.prog w= .ok (.int .u8 0) w:=by kernel_rfl
def mP(rest:List UInt8)(a:Nat):List UInt8:=rest.take a++128::List.replicate (63-a) 0
theorem jA(rest:List UInt8)(a:Nat)(b:rest.length=64)(c:a<64):(mP rest a).length=64:=by simp[mP,b];omega
theorem zU(rest:List UInt8)(a:Nat)(b:rest.length=64)(c:a<64):cM (rest.set a 128) (a+1) (List.replicate (63-a) 0)=mP rest a:=by
 unfold cM mP;rw[List.drop_of_length_le (by simp[b];omega),List.append_nil,List.take_set,List.take_succ_eq_append_getElem (by omega:a<rest.length),List.set_append_right _ _ (by simp;omega)];simp[b];rw[show a-min a 64=0 by omega];rfl
theorem Iy(rest:List UInt8)(a:rest.length=64):rest.set 63 128=mP rest 63:=by
 rw[←zU rest 63 a (by omega),cM];simp
def jL(B:List UInt8)(L k:Nat):List UInt8:=B.take (64-k)++(len8 L).drop (8-k)
theorem fR(B:List UInt8)(L k:Nat)(a:B.length=64)(b:k≤8):(jL B L k).length=64:=by simp[jL,a,iM];omega
theorem Dk(B:List UInt8)(L:Nat)(a:B.length=64):jL B L 0=B:=by
 unfold jL;rw[List.take_of_length_le (by omega),List.drop_of_length_le (by rw[iM];omega),List.append_nil]
theorem jv(B:List UInt8)(L k:Nat)(d:B.length=64)(e:k<8)(x:UInt8)(c:(len8 L)[7-k]? =some x):(jL B L k).set (63-k) x=jL B L (k+1):=by
 unfold jL;rw[show 64-k=(63-k)+1 by omega,List.take_succ_eq_append_getElem (by omega:63-k<B.length),List.set_append_left _ _ (by simp;omega),List.set_append_right _ _ (by simp;omega)];obtain⟨a,b⟩:=List.getElem?_eq_some_iff.1 c;rw[show 64-(k+1)=63-k by omega,show 8-(k+1)=7-k by omega,List.drop_eq_getElem_cons a,b,show 7-k+1=8-k by omega];rw[show 63-k-(B.take (63-k)).length=0 by simp;omega];simp
theorem Ji(M rest:List UInt8)(h:kN M rest)(a:Nat)(i:a=M.length%64):
  (a<56→dW (fO (gC dY M (M.length/64)) ((mP rest a).take 56++len8 M.length))=eJ M)∧
  (56≤a→dW (fO (fO (gC dY M (M.length/64)) (mP rest a)) ((List.replicate 64 0).take 56++len8 M.length))=eJ M):=by
 have e:=IG M rest h;obtain⟨q,g⟩:∃q,q=M.length/64:=⟨_,rfl⟩;have c:(M.take (64*q)).length=64*q:=by rw[List.length_take,g];omega
 rw[←i,←g]at e;have b:(rest.take a).length=a:=by rw[List.length_take,h.1,i];omega
 have j:M.length=64*q+a:=by omega
 have k:gC dY M q=gC dY (M.take (64*q)) q:=by
  rw(occs:= .pos [1])[e];exact jD dY _ _ q (by omega)
 rw[←g,k,j];constructor;·intro f;have d:=DX (M.take (64*q)) (rest.take a) q c (by omega);rw[←e,b]at d;rw[d];congr 2;unfold mP;rw[show 63-a=(55-a)+8 by omega,←List.replicate_append_replicate,←List.cons_append,←List.append_assoc,List.take_left' (by simp[b];omega)];simp
 ·intro f;have d:=GX (M.take (64*q)) (rest.take a) q c (by omega) (by omega);rw[←e,b]at d;rw[d];congr 2
structure eV(w w':World)(gs a:Nat)(s:cS)(B:List UInt8):Prop where
 fr:Fr ah w w'
 ss:aq w' gs 141 (fG s).toArray
 bb:aq w' a 142 (B.map bL).toArray
 os:w.heap.size≤gs
 ob:w.heap.size≤a
theorem eV.ne{w w':World}{gs a:Nat}{s:cS}{B:List UInt8}(h:eV w w' gs a s B):gs≠a:=h.ss.pN h.bb (by decide)
theorem eV.put{w w':World}{gs a:Nat}{s:cS}{B:List UInt8}(h:eV w w' gs a s B)(i:Nat)(x:UInt8):eV w (w'.setCell ⟨a,i,none⟩ (bL x)) gs a s (B.set i x):=by
 refine⟨h.fr.setCell (fun b=>absurd b (by have:=h.ob;simp only;omega)) _,h.ss.cu (p:=⟨a,i,none⟩) h.ne _,?_,h.os,h.ob⟩;have:=h.bb.jM i (bL x);rwa[List.setIfInBounds_toArray,←List.map_set]at this
theorem eV.val{w w':World}{gs a:Nat}{s:cS}{B:List UInt8}{p:Addr}{x y:Int}(e:x=y)(h:eV w (w'.setCell p (.int .u8 y)) gs a s B):eV w (w'.setCell p (.int .u8 x)) gs a s B:=e▸h
theorem eV.GS{w w':World}{gs a:Nat}{s:cS}{B:List UInt8}(h:eV w w' gs a s B)(d:Nat)(X:List UInt8)(c:d+X.length≤B.length):eV w (w'.setCells a d (X.map bL)) gs a s (cM B d X):=by
 refine⟨Fr.setCells (fun b=>absurd b (by have:=h.ob;omega)) _ _ _ h.fr,h.ss.fr (Fr.setCells (T:=fun k=>k=a) (fun _=>rfl) _ _ _ az) h.ne,?_,h.os,h.ob⟩;have:=aq.setCells (X.map bL) d _ _ h.bb (by simpa using c);unfold cM;simpa[List.map_take,List.map_drop]using this
theorem eV.clear{w w':World}{gs a:Nat}{s:cS}{B:List UInt8}(h:eV w w' gs a s B)(c n:Nat)(b:c+n≤B.length):eV w (w'.setCells a c (List.replicate n (.int .u8 0))) gs a s (cM B c (List.replicate n 0)):=by
 have:=h.GS c (List.replicate n 0) (by simpa using b);rwa[List.map_replicate]at this
theorem eV.ES{w w' a:World}{gs b:Nat}{s d:cS}{B:List UInt8}(h:eV w w' gs b s B)(c:Fr (fun k=>k=gs) w' a)(f:aq a gs 141 ([]++fG d++[]).toArray):eV w a gs b d B:=
 ⟨h.fr.au c (fun i j e=>by have g:i=gs:=e;have:=h.os;omega),by rwa[List.nil_append,List.append_nil]at f,h.bb.fr c (fun e=>h.ne (Eq.symm e)),h.os,h.ob⟩
theorem eV.state{w w':World}{gs a:Nat}{s:cS}{B:List UInt8}(h:eV w w' gs a s B):aq w' gs 141 ([]++fG s++[]).toArray:=by rw[List.nil_append,List.append_nil];exact h.ss
theorem eV.cell{w w':World}{gs a:Nat}{s:cS}{B:List UInt8}(h:eV w w' gs a s B)(b:B.length=64)(j:Nat)(c:j<64):w'.cell? ⟨a,j,none⟩=some (bL (B[j]?.getD 0)):=by
 rw[h.bb.cell,bQ,List.getElem?_map,List.getElem?_eq_getElem (by omega)];rfl
theorem eV.cell0{w w':World}{gs a:Nat}{s:cS}{B:List UInt8}(h:eV w w' gs a s B)(b:B.length=64)(j:Nat)(c:j<64):w'.cell? ⟨a,0+j,none⟩=some (bL (B[j]?.getD 0)):=by
 rw[Nat.zero_add];exact h.cell b j c
theorem tp{w w':World}{gs a:Nat}{s:cS}{B:List UInt8}(h:eV w w' gs a s B)(b:B.length=64)(g n c:Nat)(d:0<n)(f:g+n≤64)(ty:TypeId):
  (Builtin.clear_ #[61] ty #[.slice (some ⟨a,g,none⟩) n c]).run Tryz.prog w'= .ok (.tuple #[]) (w'.setCells a g (List.replicate n (.int .u8 0))):=
 Lib.run_clear_slice w' 61 5 ty (.int .u8 0) Tryz.underlying61 Lw rfl rfl a g n c d (fun j e=>by rw[h.cell b (g+j) (by omega)];rfl) (fun _ _=>h.bb.frozen _)
theorem Bb(w:World)(A:Option Addr)(c:Nat)(ty:TypeId):(Builtin.clear_ #[61] ty #[.slice A 0 c]).run Tryz.prog w= .ok (.tuple #[]) w:=by
 cases A<;>simp[Builtin.clear_,run_underlying Tryz.underlying61]
theorem lY{w:World}{g:Nat}{t:TypeId}{cs:Array Value}(h:aq w g t cs){n:Nat}(b:cs.size=n):w.there g 0 n:=fun j a=>by
 rw[Nat.zero_add,h.cell,h.frozen];rw[Array.getElem?_eq_getElem (by omega)];exact⟨rfl,rfl⟩
theorem mg{w:World}{g x:Nat}{c d:Obj}{a:List Value}{i:Nat}{v:Value}(h:w.cell? ⟨g,i,none⟩=some v)(e:w.heap.size≤x):(((w.alloc c).alloc d).drew.setCells x 0 a).cell? ⟨g,i,none⟩=some v:=by
 rw[World.cell?_setCells_out _ _ _ _ _ (fun b _=>absurd b (by have:=World.block_lt_of_cell? w _ h;simp only at this⊢;omega))];exact Lib.cell?_alloc_some _ (Lib.cell?_alloc_some _ h)
theorem qC{w:World}{g x f:Nat}{d e:Obj}{a CV:List Value}(h:w.rangeAt g f CV)(c:w.heap.size≤x):(((w.alloc d).alloc e).drew.setCells x 0 a).rangeAt g f CV:=fun j v b=>mg (h j v b) c
theorem rD{w:World}{g x:Nat}{c d:Obj}{b:List Value}(h:g<w.heap.size):g<(((w.alloc c).alloc d).drew.setCells x 0 b).heap.size:=by
 have:=(Fr.setCells (T:=fun _=>True) (a:=w) (g:=x) (fun _=>trivial) b 0 _ ((((Fr.refl _ w).alloc c).alloc d).drew)).size;omega
theorem xJ{w:World}(s:cS)(B:List UInt8)(d:B.length=64)(a:Array Value)(c:a.size=64):
  eV w (((w.alloc (.cells (fG s).toArray 141)).alloc (.cells a 142)).drew.setCells (w.heap.size+1) 0 (B.map bL)) w.heap.size (w.heap.size+1) s B∧
  eV w (((w.alloc (.cells a 142)).alloc (.cells (fG s).toArray 141)).drew.setCells w.heap.size 0 (B.map bL)) (w.heap.size+1) w.heap.size s B:=by
 have e:∀f:Obj,(w.alloc f).heap.size=w.heap.size+1:=fun f=>by simp
 have b:(B.map bL).length=64:=by rw[List.length_map,d]
 refine⟨⟨?_,?_,?_,Nat.le_refl _,by omega⟩,⟨?_,?_,?_,by omega,Nat.le_refl _⟩⟩;·exact Fr.setCells (fun h=>absurd h (by omega)) _ _ _ ((((Fr.refl _ w).alloc _).alloc _).drew)
 ·exact(((aq.new w _ _).alloc _).drew).fr (Fr.setCells (T:=fun k=>k=w.heap.size+1) (fun _=>rfl) _ _ _ az) (by omega)
 ·have b0:aq ((w.alloc (.cells (fG s).toArray 141)).alloc (.cells a 142)).drew (w.heap.size+1) 142 a.toList.toArray:=by
   have:=aq.new (w.alloc (.cells (fG s).toArray 141)) 142 a;rw[e]at this;simpa using this.drew
  have:=aq.setCells (B.map bL) 0 _ _ b0 (by simp[b,c]);rw[Nat.zero_add,List.drop_of_length_le (by simp[b,c]),List.take_zero,List.nil_append,List.append_nil]at this;exact this
 ·exact Fr.setCells (fun h=>absurd h (by omega)) _ _ _ ((((Fr.refl _ w).alloc _).alloc _).drew)
 ·have b0:aq ((w.alloc (.cells a 142)).alloc (.cells (fG s).toArray 141)).drew (w.heap.size+1) 141 (fG s).toArray:=by
   have:=aq.new (w.alloc (.cells a 142)) 141 (fG s).toArray;rw[e]at this;exact this.drew
  exact b0.fr (Fr.setCells (T:=fun k=>k=w.heap.size) (fun _=>rfl) _ _ _ az) (by omega)
 ·have b0:aq ((w.alloc (.cells a 142)).alloc (.cells (fG s).toArray 141)).drew w.heap.size 142 a.toList.toArray:=by
   have:=(aq.new w 142 a).alloc (.cells (fG s).toArray 141);simpa using this.drew
  have:=aq.setCells (B.map bL) 0 _ _ b0 (by simp[b,c]);rw[Nat.zero_add,List.drop_of_length_le (by simp[b,c]),List.take_zero,List.nil_append,List.append_nil]at this;exact this
structure KJ(M:List UInt8)(L:Nat)(B:List UInt8)(s:cS):Prop where
 len:B.length=64
 ok:s.ok
 eq:dW (fO s (B.take 56++len8 L))=eJ M
theorem uw(s:cS)(b:List UInt8):(fO s b).ok:=zu _ _
theorem Gr(B:List UInt8)(h:B.length=64):cM B 0 (List.replicate 64 0)=List.replicate 64 0:=by
 unfold cM;rw[List.drop_of_length_le (by simp[h]),List.take_zero,List.nil_append,List.append_nil]
theorem FU{w:World}{g:Nat}{t:TypeId}{V:cS}{k:Nat}(h:aq w g t ((ml V (4*k)).map bL).toArray)(a:k<8):
  aq ((((w.setCell ⟨g,4*k,none⟩ (.int .u8 ((fB V k/16777216%256:Nat):Int))).setCell ⟨g,4*k+1,none⟩ (.int .u8 ((fB V k/65536%256:Nat):Int))).setCell ⟨g,4*k+2,none⟩ (.int .u8 ((fB V k/256%256:Nat):Int))).setCell ⟨g,4*k+3,none⟩ (.int .u8 ((fB V k%256:Nat):Int))) g t ((ml V (4*k+4)).map bL).toArray:=by
 have f:(dW V)[4*k]? =some (im (fB V k/16777216)):=by simpa using tN V k 0 a (by omega)
 have i:(dW V)[4*k+1]? =some (im (fB V k/65536)):=by simpa using tN V k 1 a (by omega)
 have j:(dW V)[4*k+2]? =some (im (fB V k/256)):=by simpa using tN V k 2 a (by omega)
 have x3:(dW V)[4*k+3]? =some (im (fB V k)):=by simpa using tN V k 3 a (by omega)
 rw[←jb,←jb,←jb,←jb];have b:=h.jM (4*k) (bL (im (fB V k/16777216)));rw[List.setIfInBounds_toArray,pB V (4*k) _ (by omega) f]at b;have c:=b.jM (4*k+1) (bL (im (fB V k/65536)));rw[List.setIfInBounds_toArray,pB V (4*k+1) _ (by omega) i]at c;have d:=c.jM (4*k+2) (bL (im (fB V k/256)));rw[List.setIfInBounds_toArray,pB V (4*k+2) _ (by omega) j]at d;have e:=d.jM (4*k+3) (bL (im (fB V k)));rw[List.setIfInBounds_toArray,pB V (4*k+3) _ (by omega) x3]at e;exact e
theorem pC{w:World}{g:Nat}{t:TypeId}{V:cS}{k i:Nat}(h:aq w g t ((ml V k).map bL).toArray)(b:k≤32)(a:i<32):∃u,w.cell? ⟨g,i,none⟩=some u:=by
 have hlen:i<((ml V k).map bL).length:=by rw[List.length_map,yo V k b];exact a
 rw[h.cell,bQ];exact⟨_,List.getElem?_eq_getElem hlen⟩
theorem J2(B:List UInt8)(L:Nat):jL B L 8=B.take 56++len8 L:=rfl
theorem Fe(g:Nat)(M rest:List UInt8)(w:World)(H:ni w g M rest)(bi:bU w)(bT:M.length≤1099511627776)(a2:1≤M.length):
  Calls Tryz.prog 80 #[.pointer (some ⟨g,0,none⟩)] w (aK w (.agg ((eJ M).map bL).toArray)):=by
 have bM:=af H.ok;have aH:=af (Ji M rest H.ok (M.length%64) rfl);have ag:=af (A0 dY M xt (M.length/64));have R:=af bi;obtain⟨H,ab,a4⟩:=H;clear a4;generalize gC dY M (M.length/64)=ST at*;obtain⟨I,Y⟩:∃I,I=((eJ M).map bL).toArray:=⟨_,rfl⟩;rw[←Y];have U:=af Y;obtain⟨L,N⟩:∃L,L=M.length:=⟨_,rfl⟩;have bK:=af N;obtain⟨a,aI⟩:∃a,a=L%64:=⟨_,rfl⟩;have s:a<64:=by omega
 rw[←N,←aI]at aH;rw[←N]at H bT a2;have b5:=af aI;have hm:((L:Nat):Int).tmod 64=(a:Int):=by rw[Int.tmod_eq_emod_of_nonneg (by omega),aI];omega
 clear Y bi N aI;have bf:w.cell? ⟨g,0,none⟩=some (.int .i64 (L:Nat)):=H.cell 0;have Q:w.rangeAt g 1 (fG ST):=by
  intro j v P;rw[←P];exact H.jW (pre:=[.int .i64 L]) (os:=1) rfl (List.getElem?_eq_some_iff.1 P).1
 have bs:w.rangeAt g 9 (rest.map bL):=by
  intro j v P;have b1:j<64:=by have:=(List.getElem?_eq_some_iff.1 P).1;simpa[ab]using this
  rw[qo H ab j b1,←P,List.getElem?_map,List.getElem?_eq_getElem (by omega)];rfl
 have HB:=af H;have r:=af ab;have a7:=Tryz.underlying141;have aC:=Tryz.underlying142;have i8:=K7 ST;have i64:(Tryz.prog.info? 142).map (·.size)=some (rest.map bL).length:=by rw[List.length_map,ab];exact IH
 have hlen:(rest.map bL).length=64:=by rw[List.length_map,ab]
 have aw:∀v∈rest.map bL,v.oneCell'=true:=by
  intro v P;obtain⟨x,_,rfl⟩:=List.mem_map.1 P;rfl
 clear ab;generalize bh:rest.map bL=aQ at*;have W:Hid (aQ=rest.map bL):=bh.symm;clear bh H;go_enter Tryz.func80,Tryz.ntmps80;go_wp2_with(refine an rfl 38 rfl aZ iJ aE rfl ?_);intro w1 n1;have ai:=af n1;have am:=n1.fr.aj bf (fun x=>x);have bt:=n1.fr.aj (Q 0 _ rfl) (fun x=>x);have s1:=n1.fr.aj (Q 1 _ rfl) (fun x=>x);have s2:=n1.fr.aj (Q 2 _ rfl) (fun x=>x);have bu:=n1.fr.aj (Q 3 _ rfl) (fun x=>x);have bv:=n1.fr.aj (Q 4 _ rfl) (fun x=>x);have bw:=n1.fr.aj (Q 5 _ rfl) (fun x=>x);have bx:=n1.fr.aj (Q 6 _ rfl) (fun x=>x);have bz:=n1.fr.aj (Q 7 _ rfl) (fun x=>x);simp only[jF,Nat.reduceAdd]at bt s1 s2 bu bv bw bx bz;have a6:w1.rangeAt g 9 aQ:=fun j v P=>n1.fr.aj (bs j v P) (fun x=>x);have aT:g<w1.heap.size:=Nat.lt_of_lt_of_le HB.out.lt n1.fr.size;have bI:Hid (g<w1.heap.size∧w.heap.size<w1.heap.size):=⟨aT,by have:=n1.size;omega⟩;clear n1 bf Q bs;go_upto_region 3 with fail;have t1:((w1.alloc (.cells #[.int .u32 (ST.a:Nat), .int .u32 (ST.b:Nat), .int .u32 (ST.c:Nat), .int .u32 (ST.d:Nat), .int .u32 (ST.e:Nat), .int .u32 (ST.f:Nat), .int .u32 (ST.g:Nat), .int .u32 (ST.h:Nat)] 141)).alloc (.cells #[.int .u8 0, .int .u8 0, .int .u8 0, .int .u8 0, .int .u8 0, .int .u8 0, .int .u8 0, .int .u8 0, .int .u8 0, .int .u8 0, .int .u8 0, .int .u8 0, .int .u8 0, .int .u8 0, .int .u8 0, .int .u8 0, .int .u8 0, .int .u8 0, .int .u8 0, .int .u8 0, .int .u8 0, .int .u8 0, .int .u8 0, .int .u8 0, .int .u8 0, .int .u8 0, .int .u8 0, .int .u8 0, .int .u8 0, .int .u8 0, .int .u8 0, .int .u8 0, .int .u8 0, .int .u8 0, .int .u8 0, .int .u8 0, .int .u8 0, .int .u8 0, .int .u8 0, .int .u8 0, .int .u8 0, .int .u8 0, .int .u8 0, .int .u8 0, .int .u8 0, .int .u8 0, .int .u8 0, .int .u8 0, .int .u8 0, .int .u8 0, .int .u8 0, .int .u8 0, .int .u8 0, .int .u8 0, .int .u8 0, .int .u8 0, .int .u8 0, .int .u8 0, .int .u8 0, .int .u8 0, .int .u8 0, .int .u8 0, .int .u8 0, .int .u8 0] 142)).drew.there (w1.heap.size+1) 0 64:=by
  have h:=(aq.new (w1.alloc (.cells #[.int .u32 (ST.a:Nat), .int .u32 (ST.b:Nat), .int .u32 (ST.c:Nat), .int .u32 (ST.d:Nat), .int .u32 (ST.e:Nat), .int .u32 (ST.f:Nat), .int .u32 (ST.g:Nat), .int .u32 (ST.h:Nat)] 141)) 142 #[.int .u8 0, .int .u8 0, .int .u8 0, .int .u8 0, .int .u8 0, .int .u8 0, .int .u8 0, .int .u8 0, .int .u8 0, .int .u8 0, .int .u8 0, .int .u8 0, .int .u8 0, .int .u8 0, .int .u8 0, .int .u8 0, .int .u8 0, .int .u8 0, .int .u8 0, .int .u8 0, .int .u8 0, .int .u8 0, .int .u8 0, .int .u8 0, .int .u8 0, .int .u8 0, .int .u8 0, .int .u8 0, .int .u8 0, .int .u8 0, .int .u8 0, .int .u8 0, .int .u8 0, .int .u8 0, .int .u8 0, .int .u8 0, .int .u8 0, .int .u8 0, .int .u8 0, .int .u8 0, .int .u8 0, .int .u8 0, .int .u8 0, .int .u8 0, .int .u8 0, .int .u8 0, .int .u8 0, .int .u8 0, .int .u8 0, .int .u8 0, .int .u8 0, .int .u8 0, .int .u8 0, .int .u8 0, .int .u8 0, .int .u8 0, .int .u8 0, .int .u8 0, .int .u8 0, .int .u8 0, .int .u8 0, .int .u8 0, .int .u8 0, .int .u8 0]).drew;rw[show(w1.alloc (.cells #[.int .u32 (ST.a:Nat), .int .u32 (ST.b:Nat), .int .u32 (ST.c:Nat), .int .u32 (ST.d:Nat), .int .u32 (ST.e:Nat), .int .u32 (ST.f:Nat), .int .u32 (ST.g:Nat), .int .u32 (ST.h:Nat)] 141)).heap.size=w1.heap.size+1 by simp]at h;exact lY h rfl
 have t2:((w1.alloc (.cells #[.int .u8 0, .int .u8 0, .int .u8 0, .int .u8 0, .int .u8 0, .int .u8 0, .int .u8 0, .int .u8 0, .int .u8 0, .int .u8 0, .int .u8 0, .int .u8 0, .int .u8 0, .int .u8 0, .int .u8 0, .int .u8 0, .int .u8 0, .int .u8 0, .int .u8 0, .int .u8 0, .int .u8 0, .int .u8 0, .int .u8 0, .int .u8 0, .int .u8 0, .int .u8 0, .int .u8 0, .int .u8 0, .int .u8 0, .int .u8 0, .int .u8 0, .int .u8 0, .int .u8 0, .int .u8 0, .int .u8 0, .int .u8 0, .int .u8 0, .int .u8 0, .int .u8 0, .int .u8 0, .int .u8 0, .int .u8 0, .int .u8 0, .int .u8 0, .int .u8 0, .int .u8 0, .int .u8 0, .int .u8 0, .int .u8 0, .int .u8 0, .int .u8 0, .int .u8 0, .int .u8 0, .int .u8 0, .int .u8 0, .int .u8 0, .int .u8 0, .int .u8 0, .int .u8 0, .int .u8 0, .int .u8 0, .int .u8 0, .int .u8 0, .int .u8 0] 142)).alloc (.cells #[.int .u32 (ST.a:Nat), .int .u32 (ST.b:Nat), .int .u32 (ST.c:Nat), .int .u32 (ST.d:Nat), .int .u32 (ST.e:Nat), .int .u32 (ST.f:Nat), .int .u32 (ST.g:Nat), .int .u32 (ST.h:Nat)] 141)).drew.there w1.heap.size 0 64:=
  lY ((aq.new w1 142 #[.int .u8 0, .int .u8 0, .int .u8 0, .int .u8 0, .int .u8 0, .int .u8 0, .int .u8 0, .int .u8 0, .int .u8 0, .int .u8 0, .int .u8 0, .int .u8 0, .int .u8 0, .int .u8 0, .int .u8 0, .int .u8 0, .int .u8 0, .int .u8 0, .int .u8 0, .int .u8 0, .int .u8 0, .int .u8 0, .int .u8 0, .int .u8 0, .int .u8 0, .int .u8 0, .int .u8 0, .int .u8 0, .int .u8 0, .int .u8 0, .int .u8 0, .int .u8 0, .int .u8 0, .int .u8 0, .int .u8 0, .int .u8 0, .int .u8 0, .int .u8 0, .int .u8 0, .int .u8 0, .int .u8 0, .int .u8 0, .int .u8 0, .int .u8 0, .int .u8 0, .int .u8 0, .int .u8 0, .int .u8 0, .int .u8 0, .int .u8 0, .int .u8 0, .int .u8 0, .int .u8 0, .int .u8 0, .int .u8 0, .int .u8 0, .int .u8 0, .int .u8 0, .int .u8 0, .int .u8 0, .int .u8 0, .int .u8 0, .int .u8 0, .int .u8 0]).alloc _).drew rfl;go_cut[0,2,3,4,5](fun ax ay aA aB a5 aG=>∃gs m,ax= .pointer (some ⟨g,0,none⟩)∧ay= .pointer (some ⟨w.heap.size,0,none⟩)∧aA= .pointer (some ⟨gs,0,none⟩)∧aB= .pointer (some ⟨m,0,none⟩)∧a5= .int .i64 a∧eV w1 aG gs m ST rest);case first=>
  go_region_held3(fun w'=>w'.cell? ⟨g,0,none⟩=some (.int .i64 (L:Nat))∧w'.cell? ⟨g,1,none⟩=some (.int .u32 (ST.a:Nat))∧w'.cell? ⟨g,2,none⟩=some (.int .u32 (ST.b:Nat))∧w'.cell? ⟨g,3,none⟩=some (.int .u32 (ST.c:Nat))∧w'.cell? ⟨g,4,none⟩=some (.int .u32 (ST.d:Nat))∧w'.cell? ⟨g,5,none⟩=some (.int .u32 (ST.e:Nat))∧w'.cell? ⟨g,6,none⟩=some (.int .u32 (ST.f:Nat))∧w'.cell? ⟨g,7,none⟩=some (.int .u32 (ST.g:Nat))∧w'.cell? ⟨g,8,none⟩=some (.int .u32 (ST.h:Nat))∧w'.rangeAt g 9 aQ∧g<w'.heap.size)((go_split_ands;(repeat' constructor)<;>first|assumption|(refine mg (by assumption) (by omega))|(refine qC (by assumption) (by omega))|(refine rD (by assumption))|((repeat refine Lib.cell?_alloc_some _ ?_);assumption)|((repeat refine World.rangeAt_alloc ?_ _);assumption)|(simp;omega)))(first|fail);·go_wp2_with fail;go_meet;have h:=(xJ (w:=w1) ST rest r.out #[.int .u8 0, .int .u8 0, .int .u8 0, .int .u8 0, .int .u8 0, .int .u8 0, .int .u8 0, .int .u8 0, .int .u8 0, .int .u8 0, .int .u8 0, .int .u8 0, .int .u8 0, .int .u8 0, .int .u8 0, .int .u8 0, .int .u8 0, .int .u8 0, .int .u8 0, .int .u8 0, .int .u8 0, .int .u8 0, .int .u8 0, .int .u8 0, .int .u8 0, .int .u8 0, .int .u8 0, .int .u8 0, .int .u8 0, .int .u8 0, .int .u8 0, .int .u8 0, .int .u8 0, .int .u8 0, .int .u8 0, .int .u8 0, .int .u8 0, .int .u8 0, .int .u8 0, .int .u8 0, .int .u8 0, .int .u8 0, .int .u8 0, .int .u8 0, .int .u8 0, .int .u8 0, .int .u8 0, .int .u8 0, .int .u8 0, .int .u8 0, .int .u8 0, .int .u8 0, .int .u8 0, .int .u8 0, .int .u8 0, .int .u8 0, .int .u8 0, .int .u8 0, .int .u8 0, .int .u8 0, .int .u8 0, .int .u8 0, .int .u8 0, .int .u8 0] rfl).1;rw[←W.out]at h;exact⟨_,_,rfl,rfl,rfl,rfl,rfl,h⟩
  ·go_wp2_with fail;go_meet;have h:=(xJ (w:=w1) ST rest r.out #[.int .u8 0, .int .u8 0, .int .u8 0, .int .u8 0, .int .u8 0, .int .u8 0, .int .u8 0, .int .u8 0, .int .u8 0, .int .u8 0, .int .u8 0, .int .u8 0, .int .u8 0, .int .u8 0, .int .u8 0, .int .u8 0, .int .u8 0, .int .u8 0, .int .u8 0, .int .u8 0, .int .u8 0, .int .u8 0, .int .u8 0, .int .u8 0, .int .u8 0, .int .u8 0, .int .u8 0, .int .u8 0, .int .u8 0, .int .u8 0, .int .u8 0, .int .u8 0, .int .u8 0, .int .u8 0, .int .u8 0, .int .u8 0, .int .u8 0, .int .u8 0, .int .u8 0, .int .u8 0, .int .u8 0, .int .u8 0, .int .u8 0, .int .u8 0, .int .u8 0, .int .u8 0, .int .u8 0, .int .u8 0, .int .u8 0, .int .u8 0, .int .u8 0, .int .u8 0, .int .u8 0, .int .u8 0, .int .u8 0, .int .u8 0, .int .u8 0, .int .u8 0, .int .u8 0, .int .u8 0, .int .u8 0, .int .u8 0, .int .u8 0, .int .u8 0] rfl).2;rw[←W.out]at h;exact⟨_,_,rfl,rfl,rfl,rfl,rfl,h⟩
 case rest=>
  clear t1 t2;obtain⟨gs,m,rfl,rfl,rfl,rfl,rfl,o⟩:=hcut;clear bt s1 s2 bu bv bw bx bz a6 i8 i64 hlen aw hm a7 aC W;have bR:wc.cell? ⟨g,0,none⟩=some (.int .i64 (L:Nat)):=o.fr.aj am (fun x=>x);have cg:((L:Int)==0)=false:=by rw[beq_eq_false_iff_ne];omega
  have bV:(a:Int)<64:=by omega
  have t:=o.cell r.out a s;have u:wc.frozen? ⟨m,a,none⟩=false:=o.bb.frozen a;have al:Hid (eV w1 (wc.setCell ⟨m,a,none⟩ (.int .u8 128)) gs m ST (rest.set a 128)):=o.put a 128;clear o;go_upto_region 7 with fail;clear bR t u;generalize wc.setCell ⟨m,a,none⟩ (.int .u8 128)=w2 at*;obtain⟨p,a3⟩:∃p,p=w.heap.size:=⟨_,rfl⟩;rw[←a3];have aO:=af a3;clear a3;go_cut[0,2,3,4,5](fun ax ay aA aB a5 aG=>ax= .pointer (some ⟨g,0,none⟩)∧ay= .pointer (some ⟨p,0,none⟩)∧aA= .pointer (some ⟨gs,0,none⟩)∧aB= .pointer (some ⟨m,0,none⟩)∧a5= .int .i64 a∧eV w1 aG gs m ST (mP rest a));case first=>
   by_cases G:a=63
   ·have O:=fun A ty=>Bb w2 A 0 ty;rw[G,Iy rest r.out]at al;have bJ:=af G;have bB:IntKind.i64.wrap ((a:Int)+1)=64:=by rw[G];rfl
    have bC:(a:Int)+1=64:=by omega
    clear G;go_wp2_with(simp only[O]);go_meet;exact⟨rfl,rfl,rfl,rfl,rfl,by rw[bJ.out];exact al.out⟩
   ·obtain⟨C,Z⟩:∃C,C=a+1:=⟨_,rfl⟩;have O:=tp al.out (by simp[r.out]) C (64-C) (64-C) (by omega) (by omega);have q:Hid (eV w1 (w2.setCells m C (List.replicate (64-C) (.int .u8 0))) gs m ST (mP rest a)):=by
     have h:=al.out.clear C (64-C) (by simp[r.out];omega);rw[Z,show 64-(a+1)=63-a by omega,zU rest a r.out s]at h;rw[Z,show 64-(a+1)=63-a by omega];exact h
    have bB:IntKind.i64.wrap ((a:Int)+1)=(C:Int):=(IntWalk.i64_in _ (by omega)).trans (by omega);have bC:(a:Int)+1=(C:Int):=by omega
    have x3:(C:Int)≤64:=by omega
    have cj:¬64=C:=by omega
    have ck:C≤64:=by omega
    clear Z G;go_wp2_with(simp only[O]);go_meet;exact⟨rfl,rfl,rfl,rfl,rfl,q.out⟩
  case rest=>
   obtain⟨rfl,rfl,rfl,rfl,rfl,o⟩:=hcut;have aa:=af o;clear o al;go_upto_if 39 with fail;go_cut[0,2,3,4](fun ax ay aA aB aG=>ax= .pointer (some ⟨g,0,none⟩)∧ay= .pointer (some ⟨p,0,none⟩)∧aA= .pointer (some ⟨gs,0,none⟩)∧aB= .pointer (some ⟨m,0,none⟩)∧∃y B,eV w1 aG gs m y B∧KJ M L B y);case first=>
    have z:Hid (bU wc):=R.out.ao (ai.out.fr.trans aa.out.fr);by_cases a1:56≤a
    ·have ad:=af (mF gs 0 m 0 141 [] [] ST ag.out (mP rest a) wc aa.out.state rfl (aa.out.cell0 (jA rest a r.out s)) z.out.kk);have aL:=af (aH.out.2 a1);have aP:=af (uw ST (mP rest a));generalize fO ST (mP rest a)=bc at*;have bX:decide ((56:Int)≤(a:Int))=true:=by simp;omega
     go_wp2_with fail;refine ad.out.mono ?_;rintro e ac⟨rfl,f4,b4⟩;have bd:=af (aa.out.ES f4 b4);have O:=tp bd.out (jA rest a r.out s) 0 64 64 (by omega) (by omega);have bQ:Hid (eV w1 (ac.setCells m 0 (List.replicate 64 (.int .u8 0))) gs m bc (List.replicate 64 0)):=by
      have h:=bd.out.clear 0 64 (by rw[jA rest a r.out s];omega);rw[Gr _ (jA rest a r.out s)]at h;exact h
     clear f4 b4 ad;go_wp2;go_meet;exact⟨rfl,rfl,rfl,rfl,bc,_,bQ.out,by simp,aP.out,aL.out⟩
    ·have aJ:=af (aH.out.1 (by omega));have bX:decide ((56:Int)≤(a:Int))=false:=by simp;omega
     go_wp2;go_meet;exact⟨rfl,rfl,rfl,rfl,ST,_,aa.out,jA rest a r.out s,ag.out,aJ.out⟩
   case rest=>
    clear aH aa;obtain⟨rfl,rfl,rfl,rfl,y,B,o,K⟩:=hcut;have bS:wc.cell? ⟨g,0,none⟩=some (.int .i64 (L:Nat)):=o.fr.aj am (fun x=>x);have l:=af K.len;have ae:=af K;have be:Hid (eV w1 wc gs m y (jL B L 0)):=by simp only[Hid];rw[Dk B L K.len];exact o
    clear o K;have b3:(8:Int)*(L:Int)≤8796093022208:=by omega
    go_wp2;go_loopw[48](fun i wr=>∃k:Nat,k≤8∧i= .int .i64 k∧eV w1 wr gs m y (jL B L k))(fun i _=>8-(intOf i).toNat);case atStart=>exact⟨0,by omega,rfl,be.out⟩
    case round=>
    obtain⟨k,bl,rfl,o⟩:=hrel;have n:=af o;clear be bS o;have bW:k=0∨k=1∨k=2∨k=3∨k=4∨k=5∨k=6∨k=7∨k=8:=by omega
    clear bl;rcases bW with rfl|rfl|rfl|rfl|rfl|rfl|rfl|rfl|rfl
    ·have h:=n.out.put (63-0) (im (8*L));rw[jv B L 0 l.out (by omega) _ (by simp[len8]),jb]at h;have q:Hid (eV w1 (wr.setCell ⟨m,63-0,none⟩ (.int .u8 ((8*L%256:Nat):Int))) gs m y (jL B L (0+1))):=h;have t:wr.cell? ⟨m,63-0,none⟩=some _:=n.out.cell (fR _ _ _ l.out (by omega)) (63-0) (by omega);have u:wr.frozen? ⟨m,63-0,none⟩=false:=n.out.bb.frozen _;simp only[Nat.reduceSub]at t u q;clear h n;go_wp2;go_roundw;case rel=>exact⟨1,by omega,by go_num,eV.val (by omega) q.out⟩
     case measure=>simp[intOf]
    ·have h:=n.out.put (63-1) (im (8*L/256));rw[jv B L 1 l.out (by omega) _ (by simp[len8]),jb]at h;have q:Hid (eV w1 (wr.setCell ⟨m,63-1,none⟩ (.int .u8 ((8*L/256%256:Nat):Int))) gs m y (jL B L (1+1))):=h;have t:wr.cell? ⟨m,63-1,none⟩=some _:=n.out.cell (fR _ _ _ l.out (by omega)) (63-1) (by omega);have u:wr.frozen? ⟨m,63-1,none⟩=false:=n.out.bb.frozen _;simp only[Nat.reduceSub]at t u q;clear h n;go_wp2;go_roundw;case rel=>exact⟨2,by omega,by go_num,eV.val (by omega) q.out⟩
     case measure=>simp[intOf]
    ·have h:=n.out.put (63-2) (im (8*L/65536));rw[jv B L 2 l.out (by omega) _ (by simp[len8]),jb]at h;have q:Hid (eV w1 (wr.setCell ⟨m,63-2,none⟩ (.int .u8 ((8*L/65536%256:Nat):Int))) gs m y (jL B L (2+1))):=h;have t:wr.cell? ⟨m,63-2,none⟩=some _:=n.out.cell (fR _ _ _ l.out (by omega)) (63-2) (by omega);have u:wr.frozen? ⟨m,63-2,none⟩=false:=n.out.bb.frozen _;simp only[Nat.reduceSub]at t u q;clear h n;go_wp2;go_roundw;case rel=>exact⟨3,by omega,by go_num,eV.val (by omega) q.out⟩
     case measure=>simp[intOf]
    ·have h:=n.out.put (63-3) (im (8*L/16777216));rw[jv B L 3 l.out (by omega) _ (by simp[len8]),jb]at h;have q:Hid (eV w1 (wr.setCell ⟨m,63-3,none⟩ (.int .u8 ((8*L/16777216%256:Nat):Int))) gs m y (jL B L (3+1))):=h;have t:wr.cell? ⟨m,63-3,none⟩=some _:=n.out.cell (fR _ _ _ l.out (by omega)) (63-3) (by omega);have u:wr.frozen? ⟨m,63-3,none⟩=false:=n.out.bb.frozen _;simp only[Nat.reduceSub]at t u q;clear h n;go_wp2;go_roundw;case rel=>exact⟨4,by omega,by go_num,eV.val (by omega) q.out⟩
     case measure=>simp[intOf]
    ·have h:=n.out.put (63-4) (im (8*L/4294967296));rw[jv B L 4 l.out (by omega) _ (by simp[len8]),jb]at h;have q:Hid (eV w1 (wr.setCell ⟨m,63-4,none⟩ (.int .u8 ((8*L/4294967296%256:Nat):Int))) gs m y (jL B L (4+1))):=h;have t:wr.cell? ⟨m,63-4,none⟩=some _:=n.out.cell (fR _ _ _ l.out (by omega)) (63-4) (by omega);have u:wr.frozen? ⟨m,63-4,none⟩=false:=n.out.bb.frozen _;simp only[Nat.reduceSub]at t u q;clear h n;go_wp2;go_roundw;case rel=>exact⟨5,by omega,by go_num,eV.val (by omega) q.out⟩
     case measure=>simp[intOf]
    ·have h:=n.out.put (63-5) (im (8*L/1099511627776));rw[jv B L 5 l.out (by omega) _ (by simp[len8]),jb]at h;have q:Hid (eV w1 (wr.setCell ⟨m,63-5,none⟩ (.int .u8 ((8*L/1099511627776%256:Nat):Int))) gs m y (jL B L (5+1))):=h;have t:wr.cell? ⟨m,63-5,none⟩=some _:=n.out.cell (fR _ _ _ l.out (by omega)) (63-5) (by omega);have u:wr.frozen? ⟨m,63-5,none⟩=false:=n.out.bb.frozen _;simp only[Nat.reduceSub]at t u q;clear h n;go_wp2;go_roundw;case rel=>exact⟨6,by omega,by go_num,eV.val (by omega) q.out⟩
     case measure=>simp[intOf]
    ·have h:=n.out.put (63-6) (im (8*L/281474976710656));rw[jv B L 6 l.out (by omega) _ (by simp[len8]),jb]at h;have q:Hid (eV w1 (wr.setCell ⟨m,63-6,none⟩ (.int .u8 ((8*L/281474976710656%256:Nat):Int))) gs m y (jL B L (6+1))):=h;have t:wr.cell? ⟨m,63-6,none⟩=some _:=n.out.cell (fR _ _ _ l.out (by omega)) (63-6) (by omega);have u:wr.frozen? ⟨m,63-6,none⟩=false:=n.out.bb.frozen _;simp only[Nat.reduceSub]at t u q;clear h n;go_wp2;go_roundw;case rel=>exact⟨7,by omega,by go_num,eV.val (by omega) q.out⟩
     case measure=>simp[intOf]
    ·have h:=n.out.put (63-7) (im (8*L/72057594037927936));rw[jv B L 7 l.out (by omega) _ (by simp[len8]),jb]at h;have q:Hid (eV w1 (wr.setCell ⟨m,63-7,none⟩ (.int .u8 ((8*L/72057594037927936%256:Nat):Int))) gs m y (jL B L (7+1))):=h;have t:wr.cell? ⟨m,63-7,none⟩=some _:=n.out.cell (fR _ _ _ l.out (by omega)) (63-7) (by omega);have u:wr.frozen? ⟨m,63-7,none⟩=false:=n.out.bb.frozen _;simp only[Nat.reduceSub]at t u q;clear h n;go_wp2;go_roundw;case rel=>exact⟨8,by omega,by go_num,eV.val (by omega) q.out⟩
     case measure=>simp[intOf]
    ·rw[J2]at n;have z:Hid (bU wr):=R.out.ao (ai.out.fr.trans n.out.fr);have ar:(B.take 56++len8 L).length=64:=by simp[l.out,iM]
     have ad:=af (mF gs 0 m 0 141 [] [] y ae.out.ok (B.take 56++len8 L) wr n.out.state rfl (n.out.cell0 ar) z.out.kk);have S:=af ae.out.eq;have bN:=af (uw y (B.take 56++len8 L));generalize fO y (B.take 56++len8 L)=V at*;clear ar;go_wp2_with fail;refine ad.out.mono ?_;rintro e ac⟨rfl,f4,b4⟩;have J:=af (n.out.ES f4 b4);clear f4 b4 ad n;go_wp2_with(refine an rfl 38 rfl aZ iJ aE rfl ?_);intro aF n5;have aR:Hid (eV w1 aF gs m V (B.take 56++len8 L)):=⟨J.out.fr.trans n5.fr,J.out.ss.fr n5.fr (fun x=>x),J.out.bb.fr n5.fr (fun x=>x),J.out.os,J.out.ob⟩;have a9:=af n5.aD;have a8:Hid (aq aF p 38 aE):=by rw[aO.out];exact ai.out.aD.fr aR.out.fr (fun x=>x)
     have ba:Hid (Fr ah w aF):=ai.out.fr.trans aR.out.fr;have T:Hid (p<ac.heap.size∧gs<ac.heap.size∧w.heap.size≤ac.heap.size∧w.heap.size≤p):=⟨by have:=J.out.fr.size;have:=bI.out;have:=aO.out;omega,J.out.ss.lt,(ai.out.fr.trans J.out.fr).size,by have:=aO.out;omega⟩;clear n5 J z;generalize ac.heap.size=g6 at*;obtain⟨aS,ap,aU,aV,aW,aX,aY,a0⟩:=D0 aR.out.ss;go_wp2;go_loopw[62](fun i wr=>∃k:Nat,k≤8∧i= .int .i64 k∧aq wr g6 38 ((ml V (4*k)).map bL).toArray∧Fr (fun k=>k=g6) aF wr)(fun i _=>8-(intOf i).toNat);case atStart=>exact⟨0,by omega,rfl,by rw[Nat.mul_zero,Cw];exact a9.out,az⟩
     case round=>
     obtain⟨k,bl,rfl,bj,bk⟩:=hrel;have E:=af bj;have F:=af bk;clear bj bk a9 aS ap aU aV aW aX aY a0;by_cases av:k<8
     ·have b0:=xp wr V k av;have ca:=Kj V bN.out k;have D:=FU E.out av;have bD:Hid (Fr (fun k=>k=g6) aF ((((wr.setCell ⟨g6,4*k,none⟩ (.int .u8 ((fB V k/16777216%256:Nat):Int))).setCell ⟨g6,4*k+1,none⟩ (.int .u8 ((fB V k/65536%256:Nat):Int))).setCell ⟨g6,4*k+2,none⟩ (.int .u8 ((fB V k/256%256:Nat):Int))).setCell ⟨g6,4*k+3,none⟩ (.int .u8 ((fB V k%256:Nat):Int)))):=
       (((F.out.setCell (p:=⟨g6,4*k,none⟩) (fun _=>rfl) _).setCell (p:=⟨g6,4*k+1,none⟩) (fun _=>rfl) _).setCell (p:=⟨g6,4*k+2,none⟩) (fun _=>rfl) _).setCell (p:=⟨g6,4*k+3,none⟩) (fun _=>rfl) _;have bH:=af D;obtain⟨v0,b6⟩:=pC E.out (i:=4*k) (by omega) (by omega);obtain⟨v1,b7⟩:=pC E.out (i:=4*k+1) (by omega) (by omega);obtain⟨v2,b8⟩:=pC E.out (i:=4*k+2) (by omega) (by omega);obtain⟨v3,b9⟩:=pC E.out (i:=4*k+3) (by omega) (by omega);have f0:=E.out.frozen (4*k);have f1:=E.out.frozen (4*k+1);have f2:=E.out.frozen (4*k+2);have f3:=E.out.frozen (4*k+3);have m0:IntKind.i64.wrap (4*(k:Int))=((4*k:Nat):Int):=(IntWalk.i64_in _ (by omega)).trans (by omega);have m1:IntKind.i64.wrap (((4*k:Nat):Int)+1)=((4*k+1:Nat):Int):=(IntWalk.i64_in _ (by omega)).trans (by omega);have m2:IntKind.i64.wrap (((4*k:Nat):Int)+2)=((4*k+2:Nat):Int):=(IntWalk.i64_in _ (by omega)).trans (by omega);have m3:IntKind.i64.wrap (((4*k:Nat):Int)+3)=((4*k+3:Nat):Int):=(IntWalk.i64_in _ (by omega)).trans (by omega);have n0:4*(k:Int)=((4*k:Nat):Int):=by omega
      have n1:((4*k:Nat):Int)+1=((4*k+1:Nat):Int):=by omega
      have cb:((4*k:Nat):Int)+2=((4*k+2:Nat):Int):=by omega
      have n3:((4*k:Nat):Int)+3=((4*k+3:Nat):Int):=by omega
      have cc:((4*k:Nat):Int)<32:=by omega
      have cd:((4*k+1:Nat):Int)<32:=by omega
      have ce:((4*k+2:Nat):Int)<32:=by omega
      have cf:((4*k+3:Nat):Int)<32:=by omega
      have bm:¬4*k=4*k+1:=by omega
      have bn:¬4*k=4*k+2:=by omega
      have bo:¬4*k=4*k+3:=by omega
      have bp:¬4*k+1=4*k+2:=by omega
      have bq:¬4*k+1=4*k+3:=by omega
      have br:¬4*k+2=4*k+3:=by omega
      have z0:((fB V k:Nat):Int)/16777216=((fB V k/16777216%256:Nat):Int):=by omega
      have z1:((fB V k:Nat):Int)/65536%256=((fB V k/65536%256:Nat):Int):=by omega
      have z2:((fB V k:Nat):Int)/256%256=((fB V k/256%256:Nat):Int):=by omega
      have z3:((fB V k:Nat):Int)%256=((fB V k%256:Nat):Int):=by omega
      have aN:Hid (4*(k+1)=4*k+4):=by simp only[Hid];omega
      have b2:(k:Int)<8:=by omega
      clear D E F;generalize fB V k/16777216%256=ci at*;generalize fB V k/65536%256=bB at*;generalize fB V k/256%256=bC at*;generalize fB V k%256=x3 at*;generalize fB V k=ch at*;generalize 4*k+1=i1 at*;generalize 4*k+2=i2 at*;generalize 4*k+3=i3 at*;generalize 4*k=i0 at*;go_wp2;go_roundw;case rel=>exact⟨k+1,by omega,by go_num,by rw[aN.out];exact bH.out,bD.out⟩
      case measure=>simp[intOf];omega
     ·have bY:decide ((k:Int)<8)=false:=by simp;omega
      have bF:Hid (aq wr g6 38 I):=by
       have h:=E.out;rw[show k=8 by omega,It,S.out,←U.out]at h;exact h
      have bE:Hid (aq wr p 38 aE):=a8.out.fr F.out (fun e=>by have bg:p=g6:=e;have:=T.out;omega);have bG:Hid (Fr ah w wr):=ba.out.au F.out (fun i bZ e=>by have bg:i=g6:=e;have:=T.out;omega);have X:Hid (I.size=32∧I.all (·.oneCell')=true):=by
       simp only[Hid];rw[U.out];refine⟨by rw[List.size_toArray,List.length_map,←S.out,ja],lF _⟩
      have aM:Hid ((Tryz.prog.info? 38).map (·.size)=some I.size):=by
       rw[X.out.1];exact eW
      clear E F a8 ba U S;go_wp2_with(first|(refine wpList_load_row rfl 38 (.tmp 8) rfl g6 rfl _ I _ _ bF.out Tryz.underlying38 rfl aM.out ?_)|(refine ak rfl 38 (.tmp 2) _ rfl p I rfl rfl _ _ bE.out aM.out (by rw[X.out.1];rfl) X.out.2 ?_));intro bA b4 f4;have bO:=af b4;have bP:Hid (Fr ah w bA):=bG.out.au f4 (fun i bZ e=>by have bg:i=p:=e;have:=T.out;omega);clear b4 f4;go_wp2;exact bodyPost_ret (results_cell_row (fn:=Tryz.f80) (p:=2) (ty:=38) Tryz.results80 _ bA p 38 I (0,0) _ rfl bO.out Tryz.underlying38 rfl aM.out) rfl ⟨rfl,bP.out⟩
def Eg:cS:=⟨0,0,0,0,0,0,0,0⟩
def ze:Array Value:=(gN 0 Eg (List.replicate 64 0)).toArray
theorem LJ(w:World):(zeroValue 144).run Tryz.prog w= .ok (.agg ze) w:=by kernel_rfl
theorem bU.Dm{w:World}(h:bU w):1<w.heap.size:=World.block_lt_of_cell? w ⟨1,0,none⟩ (h.init 0 _ rfl)
theorem bU.Dn{w:World}(h:bU w):2<w.heap.size:=World.block_lt_of_cell? w ⟨2,0,none⟩ (h.kk 0 (by omega))
theorem dO{P:Program}{fn:Func}{p q:Tmp}{ty:TypeId}(h:fn.results=#[.cell p ty, .tmp q])(tmps:Array Value)(w:World)(g:Nat)(t:TypeId)(cs:Array Value)(fr:Nat×Nat)(d:TypeDesc)
  (i:tmps.getD p undef= .pointer (some ⟨g,0,none⟩))(e:w.heap[g]? =some (.cells cs t fr))
  (hu:P.underlying ty=some d)(c:(match d with| .struct _| .array _ _=>true|_=>false)=true)(f:(P.info? ty).map (·.size)=some cs.size)(v:Value)(j:tmps.getD q undef=v):
  (results fn tmps).run P w= .ok (.tuple #[.agg cs,v]) w:=by
 have a:tmps[p]?.getD undef= .pointer (some ⟨g,0,none⟩):=by simpa using i
 have b:tmps[q]?.getD undef=v:=by simpa using j
 simp[results,h,a,b,asAddr,run_loadVar_row w g t ty cs fr d e hu c f]
theorem zm(s:ByteArray)(w:World)(E:bU w)(F:s.size≤1099511627776)(k:1≤s.size):
  Calls Tryz.prog 27 #[.string s] w (aK w (aU (eJ (eN s)))):=by
 have q:=af E;have J:=af (dP s);have v:=af (fun g w'(b:aq w' g 144 (gN 0 Eg (List.replicate 64 0)).toArray)t N O=>Cd s g Eg (List.replicate 64 0) (List.length_replicate ..) w' b t N O F k);have u:=af (fun g rest w'(h:ni w' g (eN s) rest)t=>Fe g (eN s) rest w' h t (by rw[dP];exact F) (by rw[dP];exact k));have a:=gP (eN s);unfold aU;generalize eJ (eN s)=j at*;have o:Hid ((j.map bL).toArray.size=32∧(j.map bL).toArray.all (·.oneCell')=true):=⟨by simp[a],lF j⟩;have z:Hid ((Tryz.prog.info? 38).map (·.size)=some (j.map bL).toArray.size):=by
  rw[o.out.1];exact eW
 generalize(j.map bL).toArray=B at*;clear E a;go_enter Tryz.func27,Tryz.ntmps27;go_wp2_with(refine an rfl 38 rfl aZ iJ aE rfl ?_);intro w1 n1;have l:=af n1;clear n1;go_wp2_with(refine an rfl 144 rfl (.agg ze) LJ ze rfl ?_);intro w2 n;have A:=af n;have C:=af (q.out.ao (l.out.fr.trans n.fr));have c:Hid (w.heap.size<w1.heap.size∧1<w.heap.size∧2<w.heap.size):=⟨by have:=l.out.size;omega,q.out.Dm,q.out.Dn⟩;have f:=af (v.out w1.heap.size w2 n.aD C.out (by have:=c.out;omega) (by have:=c.out;omega));clear n v;go_wp2_with fail;refine f.out.mono ?_;rintro e w3⟨rfl,f3,rest,D⟩;have M:=af (C.out.fr f3 (fun e=>by have m:1=w1.heap.size:=e;have:=c.out;omega) (fun e=>by have m:2=w1.heap.size:=e;have:=c.out;omega));have d:=af (u.out _ _ _ D M.out);have r:=af ((l.out.aD.fr A.out.fr (fun x=>x)).fr f3 (fun e=>by have m:w.heap.size=w1.heap.size:=e;have:=c.out;omega));have y:Hid (Fr ah w w3):=(l.out.fr.trans A.out.fr).au f3 (fun i P e=>by have m:i=w1.heap.size:=e;have:=c.out;omega);clear f3 D u f;go_wp2_with fail;refine d.out.mono ?_;rintro e Q⟨rfl,f4⟩;have H:=af (r.out.fr f4 (fun x=>x));have I:=af (y.out.trans f4);clear f4 d r y;go_wp2_with(refine ak rfl 38 (.tmp 2) _ rfl w.heap.size B rfl rfl _ _ H.out z.out (by rw[o.out.1];rfl) o.out.2 ?_);intro G b5 f5;have K:=af b5;have L:Hid (Fr ah w G):=I.out.au f5 (fun i P e=>by have m:i=w.heap.size:=e;omega);clear b5 f5;go_wp2;exact bodyPost_ret (results_cell_row (fn:=Tryz.f27) (p:=2) (ty:=38) Tryz.results27 _ G _ 38 B (0,0) _ rfl K.out Tryz.underlying38 rfl z.out) rfl ⟨rfl,L.out⟩
theorem oJ(tag:UInt8)(a:List ByteArray)(A:Option Addr)(n c:Nat)(S:Nat→Prop)(w:World)(C:bU w)(s:Rd w S 1 A n (a.map mV))(D:n≤255)(r:∀k,(ef tag a k).length≤1099511627776)(B:∀p∈a,p.size<4294967296):
  Calls Tryz.prog 120 #[bL tag, .slice A n c] w (aK w (.tuple #[aU (eJ (ia tag (a.map eN))), .int .i64 0])):=by
 have u:=af (fun w'(t:Fr ah w w')=>Fg tag a A n c S w' (s.ao t) D r B);have m:a.length=n:=by have:=s.1;simpa using this
 have g:(ia tag (a.map eN)).length≤1099511627776:=by
  rw[←uf tag a n (by omega)];exact r n
 have d:1≤(ia tag (a.map eN)).length:=by simp[ia]
 have j:=af (fun w'(t:Fr ah w w')=>zm ⟨(ia tag (a.map eN)).toArray⟩ w' (C.ao t) (by simp only[ByteArray.size,List.size_toArray];exact g) (by simp only[ByteArray.size,List.size_toArray];exact d));have b:=gP (ia tag (a.map eN));have z:eN ⟨(ia tag (a.map eN)).toArray⟩=ia tag (a.map eN):=by simp[eN]
 rw[z]at j;unfold aU at*;generalize(⟨(ia tag (a.map eN)).toArray⟩:ByteArray)=RS at*;generalize eJ (ia tag (a.map eN))=f at*;have o:Hid ((f.map bL).toArray.size=32∧(f.map bL).toArray.all (·.oneCell')=true):=⟨by simp[b],lF f⟩;have v:Hid ((Tryz.prog.info? 38).map (·.size)=some (f.map bL).toArray.size):=by
  rw[o.out.1];exact eW
 generalize(f.map bL).toArray=y at*;clear s D r B m g d b z C;unfold bL at*;go_enter Tryz.func120,Tryz.ntmps120;go_wp2_with(refine an rfl 38 rfl aZ iJ aE rfl ?_);intro w1 n1;have h:=af n1;clear n1;go_wp2_with fail;refine(u.out _ h.out.fr).mono ?_;rintro e w2⟨rfl,f2⟩;have l:Hid (Fr ah w w2):=h.out.fr.trans f2;have F:=af (h.out.aD.fr f2 (fun x=>x));clear f2 u;go_wp2_with fail;refine(j.out _ l.out).mono ?_;rintro e w3⟨rfl,f3⟩;have G:=af (F.out.fr f3 (fun x=>x));have H:Hid (Fr ah w w3):=l.out.trans f3;clear f3 j l h;go_wp2_with(refine ak rfl 38 (.tmp 4) _ rfl w.heap.size y rfl rfl _ _ G.out v.out (by rw[o.out.1];rfl) o.out.2 ?_);intro E b4 f4;have I:=af b4;have J:Hid (Fr ah w E):=H.out.au f4 (fun i L e=>by have K:i=w.heap.size:=e;omega);clear b4 f4;go_wp2;exact bodyPost_ret (dO (fn:=Tryz.f120) (p:=4) (q:=5) (ty:=38) Tryz.results120 _ E _ 38 y (0,0) _ rfl I.out Tryz.underlying38 rfl v.out _ rfl) rfl ⟨rfl,J.out⟩
end Go.Proofs.YtphjagkehiklkaaGreatDoor
