/- Texts. -/
import Derived.Test.YtphjagkehiklkaaGreatDoorEK08
set_option linter.unusedVariables false
set_option linter.unusedSimpArgs false
set_option maxRecDepth 100000
set_option maxHeartbeats 8000000
namespace Go.Proofs.YtphjagkehiklkaaGreatDoor
open Proofs.Tryz Go.RowKit Go.Shelf
theorem vo(y:Ent):prog.built 119 [(0, .agg y.1.cells.toArray),(1, .string y.2)]=some (gP y).cells.toArray:=by kernel_rfl
theorem AG(x:Ent):prog.built 119 [(0, .agg x.1.cells.toArray),(2, .bool true)]=some (jW x).cells.toArray:=by kernel_rfl
def FO(w:World)(D:List CV)(e:Ending)(w':World):Prop:=∃v,e= .returned v/\bT 119 7 w (.slice none 0 0) w' v D.length (D.flatMap CV.cells)
theorem mi.ao{w w':World}{x:Nd}(h:mi w x)(g:Fr Nothing w w'):mi w' x:=by
 obtain⟨a,b,c,d,e,f⟩:=h;exact⟨a,b,c,d,e,f.fr g id⟩
def di(x:Nd):Ent:=(x.nm,x.v)
def lR:Value->Nat
 | .slice _ n _=>n
 |_=>0
structure PL(w:World)(A:Option Addr)(n c:Nat)(L:List Nd):Prop where
 rd:Rd w (λ_=>True) 1 A n (L.map Ch)
 len:L.length=n
 cap:n<=c
 aS:c<=maxLen
 at_:∀x∈L,mi w x
 own:∀x∈L,x.nm.owner.size<=1099511627776
theorem PL.ao{w w':World}{A:Option Addr}{n c:Nat}{L:List Nd}(h:PL w A n c L)(a:Fr Nothing w w'):PL w' A n c L:=⟨h.rd.ao a,h.len,h.cap,h.aS,λx b=>(h.at_ x b).ao a,h.own⟩
theorem PL.head{w:World}{A:Option Addr}{n c:Nat}{x:Nd}{L:List Nd}(h:PL w A n c (x::L)):∃a,A=some a/\w.cell? a=some (.pointer (some ⟨x.g,0,none⟩))/\0<n:=by
 have b:0<n:=by have:=h.len;simp only[List.length_cons]at this;omega
 obtain⟨a,e,_,d⟩:=h.rd.2 b;exact⟨a,e,by have q:=d 0 _ rfl;simpa[Addr.add,Ch]using q,b⟩
theorem PL.tail{w:World}{a:Addr}{n c:Nat}{x:Nd}{L:List Nd}(h:PL w (some a) n c (x::L)):PL w (if c=1 then some a else some (a.add 1)) (n-1) (c-1) L:=by
 have k:=h.len;simp only[List.length_cons]at k;refine⟨⟨by rw[List.length_map];omega,λl=>?_⟩,by omega,by have:=h.cap;omega,by have:=h.aS;omega,λy d=>h.at_ y (by simp[d]),λy d=>h.own y (by simp[d])⟩;have b:¬c=1:=by have:=h.cap;omega
 obtain⟨f,e,_,g⟩:=h.rd.2 (by omega);cases e;rw[if_neg b];refine⟨_,rfl,trivial,λj u i=>?_⟩;have q:=g (1+j) u (by rw[List.map_cons,Nat.add_comm,List.getElem?_cons_succ];exact i);rw[iQ];exact q
def jt(w:World)(a:Option Addr):Prop:=a=none\/∃g cs,a=some ⟨g,0,none⟩/\aq w g 177 cs
theorem jt.ao{w w':World}{a:Option Addr}(h:jt w a)(c:Fr Nothing w w'):jt w' a:=by
 rcases h with h|⟨g,cs,h,b⟩;·exact .inl h
 ·exact .inr ⟨g,cs,h,b.fr c id⟩
theorem mi.ptr{w:World}{x:Nd}(h:mi w x):jt w (some ⟨x.g,0,none⟩):=by
 obtain⟨a,b,c,d,e,f⟩:=h;exact .inr ⟨_,_,rfl,f⟩
theorem ck.ptr{w:World}:∀{a:Option Addr}{t:Tr},ck w a t->jt w a
 |_, .leaf,h=> .inl h
 |_, .node _ _ _ _,⟨g,_,_,e,_,_,b⟩=> .inr ⟨g,_,e,b⟩
theorem Bs:(prog.info? 177).map (·.size)=some 11:=by kernel_rfl
theorem Be(a f:Option Addr)(w:World)(p:jt w a)(l:jt w f):(Op.equal 172 (.pointer a) (.pointer f)).run prog w= .ok (decide (a=f)) w:=by
 have c:=underlying172;obtain⟨j,n,s⟩:∃j,prog.info? 177=some j/\j.size=11:=by
  have h:=Bs;cases o:prog.info? 177 with
  |none=>rw[o]at h;cases h
  |some j=>rw[o]at h;exact⟨j,rfl,by simpa using h⟩
 have r:j.size≠0:=by omega
 have h:∀d:Nat,(Op.equalIn (d+1) 172 (.pointer a) (.pointer f)).run prog w= .ok (decide (a=f)) w:=λd=>by
  rcases p with rfl|⟨g,cs,rfl,q⟩
  ·rcases l with rfl|⟨i,cs',rfl,b⟩;·simp[Op.equalIn,run_underlying c]
   ·simp[Op.equalIn,run_underlying c]
  ·rcases l with rfl|⟨i,cs',rfl,b⟩;·simp[Op.equalIn,run_underlying c]
   ·by_cases m:g=i;·subst m;simp[Op.equalIn,run_underlying c,sizeOf,typeInfo,n,run_sameAddr_same]
    ·have k:(⟨g,0,none⟩:Addr)≠⟨i,0,none⟩:=λe=>m (by cases e;rfl);simp[Op.equalIn,run_underlying c,sizeOf,typeInfo,n,r,run_sameAddr_other w k q b]
 simp[Op.equal,Op.maxDepth,h 9999]
theorem JO(a c:Option Addr)(w:World)(d:jt w a)(e:jt w c)(b:Bool)(f:decide (a=c)=b):(binOp .eql 172 (.pointer a) (.pointer c)).run prog w= .ok (.bool b) w:=by
 simp only[binOp];simp[Be a c w d e,f]
theorem wB(a c:Option Addr)(w:World)(d:jt w a)(e:jt w c)(b:Bool)(f:decide (a=c)=!b):(binOp .neq 172 (.pointer a) (.pointer c)).run prog w= .ok (.bool b) w:=by
 simp only[binOp];simp[Be a c w d e,f]
theorem ck.uniq{w:World}:∀{a:Option Addr}{t k:Tr},ck w a t->ck w a k->t=k
 |_, .leaf, .leaf,_,_=>rfl
 |_, .leaf, .node _ _ _ _,h,⟨_,_,_,e,_⟩=>by cases h;cases e
 |_, .node _ _ _ _, .leaf,⟨_,_,_,e,_⟩,h=>by cases h;cases e
 |_, .node l nm v r, .node s b y x,⟨g,u,ra,e,n,o,p⟩,⟨A,i,j,m,c,d,f⟩=>by
  subst e;cases m;have q:oB u ra (.node l nm v r)=oB i j (.node s b y x):=by
   have h:=p.symm.trans f;simpa using h
  obtain⟨z,a2,a3,a4,a5⟩:=nm;obtain⟨b1,b2,b3,b4,b5⟩:=b;simp only[oB,aG.cells,List.cons_append,List.nil_append,List.cons.injEq,Value.pointer.injEq,Value.int.injEq,Value.string.injEq,true_and]at q;obtain⟨rfl,rfl,rfl,rfl,rfl,rfl,rfl,rfl,_⟩:=q;rw[n.uniq c,o.uniq d]
theorem Ko{w:World}{base:Nat}{e:TypeId}{size n m c:Nat}{A:Option Addr}{xs:List Value}(h:w.ownsRow base e size (.slice A m c) n xs):c<=maxLen:=by
 rcases h.2 with⟨a,_⟩|⟨g,cap,cur,a,_,_,_,b,_⟩;·cases a;exact Nat.zero_le _
 ·cases a;exact b
theorem PL.of{w:World}{A:Option Addr}{m c n:Nat}{L:List Nd}{M:List Ent}(h:w.ownsRow 0 172 1 (.slice A m c) n (L.map Ch))(hm:m=n)(b:m<=c)(a:∀x∈L,mi w x)(he:L.map di=M)(d:jL M):PL w A m c L:=by
 subst hm;refine⟨(Rd.ia h).any,?_,b,Ko h,a,λx e=>d (di x) ?_⟩;·have:=h.1;rw[List.length_map]at this;omega
 ·rw[<-he];exact List.mem_map_of_mem e
theorem Gj{x:Nd}{ra rb:List Nd}(h:rb=[]\/∃y r,rb=y::r/\bL x.nm y.nm<0):cG ((x::ra).map di) (rb.map di)=jW (di x)::cG (ra.map di) (rb.map di):=by
 rcases h with rfl|⟨y,r,rfl,h⟩;·rw[List.map_cons,List.map_nil,cG]
 ·rw[List.map_cons,List.map_cons,cG,if_pos (show bL (di x).1 (di y).1<0 from h)]
theorem Gi{y:Nd}{ra rb:List Nd}(h:ra=[]\/∃x r,ra=x::r/\0<bL x.nm y.nm):cG (ra.map di) ((y::rb).map di)=gP (di y)::cG (ra.map di) (rb.map di):=by
 rcases h with rfl|⟨x,r,rfl,h⟩;·rw[List.map_cons,List.map_nil,cG]
 ·rw[List.map_cons,List.map_cons,cG,if_neg (show¬bL (di x).1 (di y).1<0 by show¬bL x.nm y.nm<0;omega),if_pos (show 0<bL (di x).1 (di y).1 from h)]
theorem yf{x y:Nd}{ra rb:List Nd}(a:bL x.nm y.nm=0)(h:(x.v==y.v)=true):cG ((x::ra).map di) ((y::rb).map di)=cG (ra.map di) (rb.map di):=by
 rw[List.map_cons,List.map_cons,cG,if_neg (show¬bL (di x).1 (di y).1<0 by show¬bL x.nm y.nm<0;omega),if_neg (show¬0<bL (di x).1 (di y).1 by show¬0<bL x.nm y.nm;omega),if_pos (show((di x).2==(di y).2)=true from h)]
theorem Ei{x y:Nd}{ra rb:List Nd}(a:bL x.nm y.nm=0)(h:(x.v==y.v)=false):cG ((x::ra).map di) ((y::rb).map di)=gP (di y)::cG (ra.map di) (rb.map di):=by
 rw[List.map_cons,List.map_cons,cG,if_neg (show¬bL (di x).1 (di y).1<0 by show¬bL x.nm y.nm<0;omega),if_neg (show¬0<bL (di x).1 (di y).1 by show¬0<bL x.nm y.nm;omega),if_neg (show¬((di x).2==(di y).2)=true by show¬(x.v==y.v)=true;rw[h];decide)]
theorem Iv{w:World}{g:Nat}{n m:aG}{u v:ByteArray}(h:Mid w g n u)(k:Mid w g m v):n=m/\u=v:=by
 have e:u=v:=by
  have a:=h.val;rw[k.val]at a;simpa using a.symm
 refine⟨?_,e⟩;have b:∀j x y,n.cells[j]? =some x->m.cells[j]? =some y->x=y:=λj x y o p=>by
  have a:=h.name j x o;rw[k.name j y p]at a;simpa using a.symm
 obtain⟨q,a2,a3,a4,a5⟩:=n;obtain⟨b1,b2,b3,b4,b5⟩:=m;have c:=b 0 _ _ rfl rfl;have d:=b 1 _ _ rfl rfl;have f:=b 2 _ _ rfl rfl;have i:=b 3 _ _ rfl rfl;have l:=b 4 _ _ rfl rfl;simp only[Value.int.injEq,Value.string.injEq,true_and]at c d f i l;rw[c,d,f,i,l]
def Mr(w1:World)(D:List CV)(cs a b:Value)(wr:World):Prop:=∃(A:Option Addr)(c e:Nat)(ra:List Nd)(B:Option Addr)(d f:Nat)(rb:List Nd)(done:List CV),a= .slice A c e/\b= .slice B d f/\PL w1 A c e ra/\PL w1 B d f rb/\
 done++cG (ra.map di) (rb.map di)=D/\bT 119 7 w1 (.slice none 0 0) wr cs done.length (done.flatMap CV.cells)
theorem GJ(aw ax:List Ent)(s1 s2:Nat)(w:World)(co:dQ w s1 aw)(cq:dQ w s2 ax)(aZ:aw.length<=60000)(a0:ax.length<=60000)(a2:jL aw)(a3:jL ax):
  Calls prog 96 #[.pointer (some ⟨s1,0,none⟩), .pointer (some ⟨s2,0,none⟩)] w (FO w (cG aw ax)):=by
 obtain⟨U,M,N,Q,aq⟩:=info_parts nX;have ad:Hid (¬1*U.size>2^24):=by simp only[Hid];rw[Q];omega
 have ae:Hid (¬1*U.size=0):=by simp only[Hid];rw[Q];omega
 have ai:Hid (∀c:CV,Instr.fill (λi=>some (i*U.size,U.size)) ((Array.range (1*U.size)).map (cm.cells[· %cm.cells.size]!)) [(0, .agg c.cells.toArray)]=some c.cells.toArray):=λc=>by rw[Q];exact lj _ _ rfl (by simp[cm,Value.cells])
 obtain⟨bj,⟨Z,bM,bh⟩,bb⟩:=co;obtain⟨bk,⟨az,bN,bi⟩,bc⟩:=cq;have bJ:Hid (w.cell? ⟨s1,0,none⟩=some (.pointer Z)):=bM.cell 0;have bK:Hid (w.cell? ⟨s2,0,none⟩=some (.pointer az)):=bN.cell 0;have bA:Hid (jt w Z):=bh.ptr;have bB:Hid (jt w az):=bi.ptr;have aR:Hid (xo w s1 bj):=⟨Z,bM,bh⟩;have aU:Hid (xo w s2 bk):=⟨az,bN,bi⟩;have bq:=af a2;have br:=af a3;have bw:Hid (bj.size=aw.length/\aw.length<=60000):=⟨by rw[<-bj.cj,bb],aZ⟩;have bx:Hid (bk.size=ax.length/\ax.length<=60000):=⟨by rw[<-bk.cj,bc],a0⟩;have aE:=af bb;have aF:=af bc;have aQ:Hid ((cG aw ax).length<=120000):=by have:=jg aw ax;simp only[Hid];omega
 obtain⟨D,am⟩:∃D,cG aw ax=D:=⟨_,rfl⟩;have aO:=af am;rw[am]at aQ;rw[am];have aV:Hid (Z=az->D=[]):=λh=>by
  rw[<-am];subst h;rw[<-bb,<-bc,bh.uniq bi];exact qM _
 clear am bM bh bN bi bb bc a2 a3 aZ a0;go_enter func96,ntmps96;by_cases bf:Z=az
 ·have bv:=af (aV.out bf);subst bf;rw[bv.out];go_upto_region 1 with fail;refine ay 17 Nothing [Is (.pointer (some ⟨s1,0,none⟩)),Is (.bool false),Is (.bool false),Is (.pointer (some ⟨s2,0,none⟩)),Is (.bool false),Is (.bool false),Is (.bool false),Is (.pointer (some ⟨s1,0,none⟩)),Is (.pointer (some ⟨s1,0,none⟩)),Is (.pointer (some ⟨s1,0,none⟩)),Is (.pointer Z),Is (.pointer (some ⟨s2,0,none⟩)),Is (.pointer (some ⟨s2,0,none⟩)),Is (.pointer (some ⟨s2,0,none⟩)),Is (.pointer Z),Is (.bool true),Is (.bool true)] [] (λ_=>True) (λ_ _=>false) (by kernel_rfl) (by kernel_rfl) (by kernel_rfl) (by kernel_rfl) ⟨Is.ag _,Is.ag _,Is.ag _,Is.ag _,Is.ag _,Is.ag _,Is.ag _,Is.ag _,Is.ag _,Is.ag _,Is.ag _,Is.ag _,Is.ag _,Is.ag _,Is.ag _,Is.ag _,Is.ag _,trivial⟩ trivial (λ_ _ _ _ h=>h) trivial ?_ ?_
  ·refine⟨?zC9,?ZH,?ZI,?ZJ,?ZK,?ZL,?ZM,?ZN,?ZO,?ZP,?zA,?zB,?zC,?zD,?zE,?zF,?zG,trivial⟩;all_goals intro u w' d l j n m k
   all_goals simp only[bC,bD,bE,bF,ar,Act.put,bG,bH,bI,Nat.reduceAdd,Nat.zero_add]
   case' ZH=>simp only[ah (j 0)]
   case' ZI=>simp only[ah (j 1)]
   case' ZJ=>simp only[ah (j 2)]
   case' ZK=>simp only[ah (j 3),ah (j 2)]
   case' ZL=>simp only[ah (j 2),ah (j 4)]
   case' ZM=>simp only[ah (j 5)]
   case' ZN=>simp only[ah (j 6)]
   case' ZO=>simp only[ah (j 7),ah (j 6)]
   case' ZP=>simp only[ah (j 8),ah (j 6)]
   case zA=>
    simp only[ah (j 9),ah (j 6)];clear j n m k;refine aj ?_;have q:=l.ak bJ.out id;go_simp;exact⟨_,rfl,al⟩
   case' zB=>simp only[ah (j 6)]
   case' zC=>simp only[ah (j 11),ah (j 6)]
   case' zD=>simp only[ah (j 12),ah (j 6)]
   case zE=>
    simp only[ah (j 13),ah (j 6)];clear j n m k;refine aj ?_;have q:=l.ak bK.out id;go_simp;exact⟨_,rfl,al⟩
   case zF=>
    simp only[ah (j 10),ah (j 14),ah (j 6)];clear j n m k;refine aj ?_;have q:=JO Z Z w' (bA.out.ao l) (bB.out.ao l) true (decide_eq_true rfl);go_simp;exact⟨_,rfl,al⟩
   case' zG=>simp only[ah (j 6),ah (j 15)]
   all_goals
    clear j n m k;refine aj ?_;go_simp;exact⟨_,rfl,al⟩
  ·intro u w' l j k;have z:u 16=_:=j 16 (by omega);clear j k;simp only[bC,bD,bE,bF,ar,Act.put,bG,bH,bI,dt,du,Nat.reduceAdd,Nat.zero_add,z];have o:=af l;clear l z;go_wp2;go_ret;exact⟨_,rfl,(bT.start ⟨rfl, .inl ⟨rfl,rfl⟩⟩:bT 119 7 w (.slice none 0 0) w (.slice none 0 0) 0 []).behind o.out⟩
 ·have cf:decide (Z=az)=false:=decide_eq_false bf;go_upto_region 1 with fail;refine ay 17 Nothing [Is (.pointer (some ⟨s1,0,none⟩)),Is (.bool false),Is (.bool false),Is (.pointer (some ⟨s2,0,none⟩)),Is (.bool false),Is (.bool false),Is (.bool false),Is (.pointer (some ⟨s1,0,none⟩)),Is (.pointer (some ⟨s1,0,none⟩)),Is (.pointer (some ⟨s1,0,none⟩)),Is (.pointer Z),Is (.pointer (some ⟨s2,0,none⟩)),Is (.pointer (some ⟨s2,0,none⟩)),Is (.pointer (some ⟨s2,0,none⟩)),Is (.pointer az),Is (.bool false),Is (.bool false)] [] (λ_=>True) (λ_ _=>false) (by kernel_rfl) (by kernel_rfl) (by kernel_rfl) (by kernel_rfl) ⟨Is.ag _,Is.ag _,Is.ag _,Is.ag _,Is.ag _,Is.ag _,Is.ag _,Is.ag _,Is.ag _,Is.ag _,Is.ag _,Is.ag _,Is.ag _,Is.ag _,Is.ag _,Is.ag _,Is.ag _,trivial⟩ trivial (λ_ _ _ _ h=>h) trivial ?_ ?_
  ·refine⟨?zCA,?ZQ,?ZR,?ZS,?ZT,?ZU,?ZV,?ZW,?ZX,?ZY,?zH,?zI,?zJ,?zK,?zL,?zM,?zN,trivial⟩;all_goals intro u w' d l j n m k
   all_goals simp only[bC,bD,bE,bF,ar,Act.put,bG,bH,bI,Nat.reduceAdd,Nat.zero_add]
   case' ZQ=>simp only[ah (j 0)]
   case' ZR=>simp only[ah (j 1)]
   case' ZS=>simp only[ah (j 2)]
   case' ZT=>simp only[ah (j 3),ah (j 2)]
   case' ZU=>simp only[ah (j 2),ah (j 4)]
   case' ZV=>simp only[ah (j 5)]
   case' ZW=>simp only[ah (j 6)]
   case' ZX=>simp only[ah (j 7),ah (j 6)]
   case' ZY=>simp only[ah (j 8),ah (j 6)]
   case zH=>
    simp only[ah (j 9),ah (j 6)];clear j n m k;refine aj ?_;have q:=l.ak bJ.out id;go_simp;exact⟨_,rfl,al⟩
   case' zI=>simp only[ah (j 6)]
   case' zJ=>simp only[ah (j 11),ah (j 6)]
   case' zK=>simp only[ah (j 12),ah (j 6)]
   case zL=>
    simp only[ah (j 13),ah (j 6)];clear j n m k;refine aj ?_;have q:=l.ak bK.out id;go_simp;exact⟨_,rfl,al⟩
   case zM=>
    simp only[ah (j 10),ah (j 14),ah (j 6)];clear j n m k;refine aj ?_;have q:=JO Z az w' (bA.out.ao l) (bB.out.ao l) false cf;go_simp;exact⟨_,rfl,al⟩
   case' zN=>simp only[ah (j 6),ah (j 15)]
   all_goals
    clear j n m k;refine aj ?_;go_simp;exact⟨_,rfl,al⟩
  ·intro u w' l j k;have z:u 16=_:=j 16 (by omega);clear j k;simp only[bC,bD,bE,bF,ar,Act.put,bG,bH,bI,dt,du,Nat.reduceAdd,Nat.zero_add,z];have o:=af l;clear l z;have a9:=af o.out;clear o aV bJ bK cf bf bA bB;go_wp2_with fail;refine(yu s1 bj _ (aR.out.ao a9.out) (by have:=bw.out;omega)).mono ?_;rintro e w2⟨v6,b5,rfl,g6,cc,n6⟩;have aL:=af g6;have bn:=af cc;have b7:=af n6;clear g6 cc n6;go_wp2_with fail;refine(yu s2 bk _ ((aU.out.ao a9.out).ao aL.out.ao) (by have:=bx.out;omega)).mono ?_;rintro e w1⟨cD,b6,rfl,g7,bO,n7⟩;obtain⟨b0,m6,ca,rfl,bo,b2⟩:=aK aL.out.own;obtain⟨b1,m7,cb,rfl,bp,b3⟩:=aK g7.own;have bV:=bo.out;have bW:=bp.out;have ck:=af ((a9.out.trans aL.out.ao).trans g7.ao);have b8:Hid (PL w1 b0 m6 ca b5):=PL.of (aP aL.out.own g7.ao (λ_ _ x=>x)) bo.out b2.out (λx cv=>(b7.out x cv).ao g7.ao) (bn.out.trans aE.out) bq.out;have b9:Hid (PL w1 b1 m7 cb b6):=PL.of g7.own bp.out b3.out n7 (bO.trans aF.out) br.out;have aN:Hid (Mr w1 D (.slice none 0 0) (.slice b0 m6 ca) (.slice b1 m7 cb) w1):=⟨_,_,_,b5,_,_,_,b6,[],rfl,rfl,b8.out,b9.out,by rw[<-aO.out,<-aE.out,<-aF.out,<-bn.out,<-bO];rfl,bT.start ⟨rfl, .inl ⟨rfl,rfl⟩⟩⟩;clear aO g7 bO n7 bV bW bo bp b2 b3 b8 b9 aL bn b7 aE aF aR aU a9;go_wp2;go_loopw[5,6,7](λcs a b wr=>Mr w1 D cs a b wr)(λ_ a b _=>lR a+lR b);case atStart=>exact aN.out
   case round=>
    obtain⟨A,P,X,ra,B,K,O,rb,done,rfl,rfl,an,ap,bP,bd⟩:=hrel;have ab:=af an;have V:=af ap;have s:=af bd;obtain⟨bl,n5,c5,rfl,b4,_⟩:=aK bd.own;obtain rfl:n5=done.length:=b4.out;have aD:=af bP;have DL:Hid (done.length<=120000):=by
     have h:=aQ.out;rw[<-bP,aT]at h;simp only[Hid];omega
    have T:Hid (Fr Nothing w1 wr):=bd.ao;have bz:=an.len;have aY:=ap.len;have ch:=an.cap;have ci:=ap.cap;have cl:X<=9223372036854775807:=an.aS;have cn:O<=9223372036854775807:=ap.aS;clear an ap bd bP b4 aN;cases ra with
    |nil=>
     obtain rfl:P=0:=bz.symm;cases rb with
     |nil=>
      obtain rfl:K=0:=aY.symm;have a1:done=D:=by
       have h:=aD.out;rw[List.map_nil,cG,List.append_nil]at h;exact h
      go_wp2;go_ret;rw[<-a1];exact⟨_,rfl,s.out.ahead ck.out⟩
     |cons y rb=>
      obtain⟨p,rfl,a4,aI⟩:=V.out.head;have t:Hid (wr.cell? p=some (.pointer (some ⟨y.g,0,none⟩))):=T.out.ak a4 id;have C:Hid (Mid wr y.g y.nm y.v):=(V.out.at_ y (by simp)).kF.ao T.out;have W:Hid (jt w1 (some ⟨y.g,0,none⟩)):=(V.out.at_ y (by simp)).ptr;have J:=af (Gi (ra:=[]) (rb:=rb) (y:=y) (.inl rfl));have aJ:=af (vo (di y));have cw:decide ((0:Int)<(K:Int))=true:=cX (by omega);have bQ:1<=K:=aI;have bS:(1:Int)<=(K:Int):=by omega
      clear a4;go_upto_region 15 with fail;refine ay 18 Nothing [Is (.int .i64 1),Is (.bool true),Is (.bool true),Is (undef),Is (undef),Is (undef),Is (undef),Is (undef),Is (undef),Is (undef),Is (undef),Is (undef),Is (undef),Is (undef),Is (undef),Is (undef),Is (.bool true),Is (.bool true)] [] (λ_=>True) (λ_ _=>false) (by kernel_rfl) (by kernel_rfl) (by kernel_rfl) (by kernel_rfl) ⟨Is.ag _,Is.ag _,Is.ag _,Is.ag _,Is.ag _,Is.ag _,Is.ag _,Is.ag _,Is.ag _,Is.ag _,Is.ag _,Is.ag _,Is.ag _,Is.ag _,Is.ag _,Is.ag _,Is.ag _,Is.ag _,trivial⟩ trivial (λ_ _ _ _ h=>h) trivial ?_ ?_
      ·refine⟨?zDJ,?zB9,?zBA,?zBB,?zBC,?zBD,?zBE,?zBF,?zBG,?zBH,?xU,?xV,?xW,?xX,?xY,?xZ,?ZA,?ZB,trivial⟩;all_goals intro u w' d l j n m k
       all_goals simp only[bC,bD,bE,bF,ar,Act.put,bG,bH,bI,Nat.reduceAdd,Nat.zero_add]
       case' zB9=>simp only[ah (j 0)]
       case' zBA=>simp only[ah (j 1)]
       case zBB=>simp only[ah (j 2)];exact .inr ⟨by kernel_rfl,_,rfl,aA,rfl,trivial⟩
       case zBC=>simp only[ah (j 2)];exact .inr ⟨by kernel_rfl,_,rfl,aA,rfl,trivial⟩
       case zBD=>simp only[ah (j 2)];exact .inr ⟨by kernel_rfl,_,rfl,aA,rfl,trivial⟩
       case zBE=>simp only[ah (j 2)];exact .inr ⟨by kernel_rfl,_,rfl,aA,rfl,trivial⟩
       case zBF=>simp only[ah (j 2)];exact .inr ⟨by kernel_rfl,_,rfl,aA,rfl,trivial⟩
       case zBG=>simp only[ah (j 2)];exact .inr ⟨by kernel_rfl,_,rfl,aA,rfl,trivial⟩
       case zBH=>simp only[ah (j 2)];exact .inr ⟨by kernel_rfl,_,rfl,aA,rfl,trivial⟩
       case xU=>simp only[ah (j 2)];exact .inr ⟨by kernel_rfl,_,rfl,aA,rfl,trivial⟩
       case xV=>simp only[ah (j 2)];exact .inr ⟨by kernel_rfl,_,rfl,aA,rfl,trivial⟩
       case xW=>simp only[ah (j 2)];exact .inr ⟨by kernel_rfl,_,rfl,aA,rfl,trivial⟩
       case xX=>simp only[ah (j 2)];exact .inr ⟨by kernel_rfl,_,rfl,aA,rfl,trivial⟩
       case xY=>simp only[ah (j 2)];exact .inr ⟨by kernel_rfl,_,rfl,aA,rfl,trivial⟩
       case xZ=>simp only[ah (j 2)];exact .inr ⟨by kernel_rfl,_,rfl,aA,rfl,trivial⟩
       case' ZA=>simp only[ah (j 2),ah (j 15)]
       case' ZB=>simp only[ah (j 16)]
       all_goals
        clear j n m k;refine aj ?_;go_simp;exact⟨_,rfl,al⟩
      ·intro u w' l j k;have z:u 17=_:=j 17 (by omega);clear j k;simp only[bC,bD,bE,bF,ar,Act.put,bG,bH,bI,dt,du,Nat.reduceAdd,Nat.zero_add,z];have o:=af l;clear l z;have s:=af (s.out.behind o.out);have t:Hid (w'.cell? p=some (.pointer (some ⟨y.g,0,none⟩))):=o.out.ak t.out id;have C:Hid (Mid w' y.g y.nm y.v):=C.out.ao o.out;clear o;generalize w'=wr at*;go_upto_region 16 with fail;refine ay 15 Nothing [Is (.slice bl done.length c5),Is (.slice (some p) K O),Is (.pointer (some p)),Is (.pointer (some ⟨y.g,0,none⟩)),Is (.pointer (some ⟨y.g,0,none⟩)),Is (.pointer (some ⟨y.g,2,none⟩)),Is (.agg y.nm.cells.toArray),Is (.slice (some p) K O),Is (.pointer (some p)),Is (.pointer (some ⟨y.g,0,none⟩)),Is (.pointer (some ⟨y.g,0,none⟩)),Is (.pointer (some ⟨y.g,7,none⟩)),Is (.string y.v),Is (.agg (gP (di y)).cells.toArray),(λa6 a5=>∃g,a6= .slice (some ⟨g,0,none⟩) 1 1/\Rd a5 (λ_=>True) 7 (some ⟨g,0,none⟩) 1 (gP (di y)).cells)] [] (λ_=>True) (λ_ _=>false) (by kernel_rfl) (by kernel_rfl) (by kernel_rfl) (by kernel_rfl) ⟨Is.ag _,Is.ag _,Is.ag _,Is.ag _,Is.ag _,Is.ag _,Is.ag _,Is.ag _,Is.ag _,Is.ag _,Is.ag _,Is.ag _,Is.ag _,Is.ag _,λ_ _ _ _ f h=>by obtain⟨g,e,r⟩:=h;exact⟨g,e,r.ao f⟩,trivial⟩ trivial (λ_ _ _ _ h=>h) trivial ?_ ?_
       ·refine⟨?zE0,?zE1,?zBI,?zBJ,?zC0,?zC1,?zC2,?zE2,?zC3,?zC4,?ZC,?ZD,?ZE,?ZF,?ZG,trivial⟩;all_goals intro u w' d l j n m k
        all_goals simp only[bC,bD,bE,bF,ar,Act.put,bG,bH,bI,Nat.reduceAdd,Nat.zero_add]
        case' zBI=>simp only[ah (j 1)]
        case zBJ=>
         simp only[ah (j 2)];clear j n m k;refine aj ?_;have q:=l.ak t.out id;go_simp;exact⟨_,rfl,al⟩
        case' zC0=>simp only[ah (j 3)]
        case' zC1=>simp only[ah (j 4)]
        case zC2=>
         simp only[ah (j 5)];clear j n m k;refine aj ?_;exact au _ _ rfl ⟨y.g,2,none⟩ rfl y.nm.cells _ (λL v I=>by rw[Addr.add_mid];exact(C.out.ao l).name L v I) underlying106 rfl aW ⟨_,rfl,al⟩
        case' zC3=>simp only[ah (j 7)]
        case zC4=>
         simp only[ah (j 8)];clear j n m k;refine aj ?_;have q:=l.ak t.out id;go_simp;exact⟨_,rfl,al⟩
        case' ZC=>simp only[ah (j 9)]
        case' ZD=>simp only[ah (j 10)]
        case ZE=>
         simp only[ah (j 11)];clear j n m k;refine aj ?_;have q:=(C.out.ao l).val;go_simp;exact⟨_,rfl,al⟩
        case ZF=>
         simp only[ah (j 6),ah (j 12)];clear j n m k;refine aj ?_;exact iw 119 _ rfl (gP (di y)).cells.toArray _ (by simp only[List.map_toArray,List.map_cons,List.map_nil];rfl) aJ.out ⟨_,rfl,al⟩
        case ZG=>
         simp only[ah (j 13)];clear j n m k;refine aj ?_;refine wp_buildSlice 44 119 1 _ rfl (gP (di y)).cells.toArray U cm underlying44 M N ad.out ae.out (by simp only[List.map_toArray,List.map_cons,List.map_nil];exact ai.out _) ?_;exact⟨_,rfl,aA.alloc _,⟨_,rfl,(uL w' (gP (di y)).cells.toArray 119 7 1 rfl).any⟩,trivial⟩
        all_goals
         clear j n m k;refine aj ?_;go_simp;exact⟨_,rfl,al⟩
       ·intro u w' l j k;have m:u 0=_:=j 0 (by omega);obtain⟨g9,R,S⟩:=j 14 (by omega);clear j k;simp only[bC,bD,bE,bF,ar,Act.put,bG,bH,bI,dt,du,Nat.reduceAdd,Nat.zero_add,m,R];have s:=af (s.out.behind l);have ac:=af S;clear l m R S;refine fJ _ rfl _ _ 44 rfl 119 U cm 7 80 underlying44 M N Q aq rfl (by decide) _ _ _ rfl s.out.own _ _ 1 1 _ rfl ac.out (rn _) (by have:=DL.out;omega) (by decide) ?_;intro v9 aC F;have av:Hid (bT 119 7 w1 (.slice none 0 0) aC v9 (done.length+1) (done.flatMap CV.cells++(gP (di y)).cells)):=s.out.trans F;obtain⟨a7,bg,ba,rfl,_,_⟩:=aK F.own;clear F s;go_wp2;go_roundw;case rel=>exact⟨_,_,_,_,_,_,_,_,done++[gP (di y)],rfl,rfl,ab.out,V.out.tail,by rw[<-aD.out,J.out,List.append_assoc];rfl,by rw[aT,List.flatMap_append,List.flatMap_singleton];exact av.out⟩
        case measure=>simp only[lR];omega
    |cons x ra=>
     obtain⟨G,rfl,ce,bY⟩:=ab.out.head;have E:Hid (wr.cell? G=some (.pointer (some ⟨x.g,0,none⟩))):=T.out.ak ce id;have H:Hid (Mid wr x.g x.nm x.v):=(ab.out.at_ x (by simp)).kF.ao T.out;have aa:Hid (jt w1 (some ⟨x.g,0,none⟩)):=(ab.out.at_ x (by simp)).ptr;have az:decide ((0:Int)<(P:Int))=true:=cX (by omega);have cA:((P:Int)==0)=false:=jr (by omega);have cr:1<=P:=bY;have cu:(1:Int)<=(P:Int):=by omega
     clear ce;cases rb with
     |nil=>
      obtain rfl:K=0:=aY.symm;have J:=af (Gj (ra:=ra) (rb:=[]) (x:=x) (.inl rfl));have bm:=af (AG (di x));have aG:=E.out;go_wp2_with(refine aB rfl 106 (.tmp 75) rfl ⟨x.g,2,none⟩ rfl x.nm.cells _ ?zC5 underlying106 rfl aW (aX.go ?zE3));case zC5=>exactλL v I=>by rw[Addr.add_mid];exact H.out.name L v I
      unfold aX;refine dU rfl 119 _ rfl (jW (di x)).cells.toArray _ (by simp only[List.map_toArray,List.map_cons,List.map_nil];rfl) bm.out (aX.go ?zC7);unfold aX;refine wpList_buildSlice rfl 44 119 1 _ rfl (jW (di x)).cells.toArray U cm underlying44 M N ad.out ae.out (by simp only[List.map_toArray,List.map_cons,List.map_nil];exact ai.out _) ?_;refine cQ _ rfl _ _ 44 rfl 119 U cm 7 80 underlying44 M N Q aq rfl (by decide) _ _ _ rfl s.out.own 1 (jW (di x)).cells.toArray _ rfl rfl rfl (rn _) (by have:=DL.out;omega) (by decide) ?_;intro v9 aC F;clear aG;have av:Hid (bT 119 7 w1 (.slice none 0 0) aC v9 (done.length+1) (done.flatMap CV.cells++(jW (di x)).cells)):=s.out.trans F;obtain⟨a7,bg,ba,rfl,_,_⟩:=aK F.own;clear F s;go_wp2;go_roundw;case rel=>exact⟨_,_,_,_,_,_,_,_,done++[jW (di x)],rfl,rfl,ab.out.tail,V.out,by rw[<-aD.out,J.out,List.append_assoc];rfl,by rw[aT,List.flatMap_append,List.flatMap_singleton];exact av.out⟩
      case measure=>simp only[lR];omega
     |cons y rb=>
      obtain⟨p,rfl,a4,aI⟩:=V.out.head;have t:Hid (wr.cell? p=some (.pointer (some ⟨y.g,0,none⟩))):=T.out.ak a4 id;have C:Hid (Mid wr y.g y.nm y.v):=(V.out.at_ y (by simp)).kF.ao T.out;have W:Hid (jt w1 (some ⟨y.g,0,none⟩)):=(V.out.at_ y (by simp)).ptr;have cw:decide ((0:Int)<(K:Int))=true:=cX (by omega);have cB:((K:Int)==0)=false:=jr (by omega);have bQ:1<=K:=aI;have bS:(1:Int)<=(K:Int):=by omega
      have bs:Hid (x.nm.owner.size<=1099511627776):=ab.out.own x (by simp);have bt:Hid (y.nm.owner.size<=1099511627776):=V.out.own y (by simp);clear a4;by_cases be:x.g=y.g
      ·have hm:=Iv H.out (by rw[be];exact C.out);have aH:bL x.nm y.nm=0:=by rw[hm.1];exact cp.refl _
       have I:(x.v==y.v)=true:=by rw[hm.2];exact(Gc _ _).2 rfl
       have cg:(x.v.toList==y.v.toList)=true:=by rw[Ju];exact I
       have J:=af (yf (ra:=ra) (rb:=rb) aH I);have Y:decide ((some ⟨x.g,0,none⟩:Option Addr)=some ⟨y.g,0,none⟩)=!false:=by rw[be];simp
       clear hm aH I be;go_upto_region 11 with fail;refine ay 8 Nothing [Is (.slice (some G) P X),Is (.pointer (some G)),Is (.pointer (some ⟨x.g,0,none⟩)),Is (.slice (some p) K O),Is (.pointer (some p)),Is (.pointer (some ⟨y.g,0,none⟩)),Is (.bool false),Is (.bool false)] [] (λ_=>True) (λ_ _=>false) (by kernel_rfl) (by kernel_rfl) (by kernel_rfl) (by kernel_rfl) ⟨Is.ag _,Is.ag _,Is.ag _,Is.ag _,Is.ag _,Is.ag _,Is.ag _,Is.ag _,trivial⟩ trivial (λ_ _ _ _ h=>h) trivial ?_ ?_
       ·refine⟨?zCB,?ZZ,?YA,?zCC,?YB,?YC,?YD,?YE,trivial⟩;all_goals intro u w' d l j n m k
        all_goals simp only[bC,bD,bE,bF,ar,Act.put,bG,bH,bI,Nat.reduceAdd,Nat.zero_add]
        case' ZZ=>simp only[ah (j 0)]
        case YA=>
         simp only[ah (j 1)];clear j n m k;refine aj ?_;have q:=l.ak E.out id;go_simp;exact⟨_,rfl,al⟩
        case' YB=>simp only[ah (j 3)]
        case YC=>
         simp only[ah (j 4)];clear j n m k;refine aj ?_;have q:=l.ak t.out id;go_simp;exact⟨_,rfl,al⟩
        case YD=>
         simp only[ah (j 2),ah (j 5)];clear j n m k;refine aj ?_;have q:=wB (some ⟨x.g,0,none⟩) (some ⟨y.g,0,none⟩) w' (aa.out.ao (T.out.trans l)) (W.out.ao (T.out.trans l)) false Y;go_simp;exact⟨_,rfl,al⟩
        case' YE=>simp only[ah (j 6)]
        all_goals
         clear j n m k;refine aj ?_;go_simp;exact⟨_,rfl,al⟩
       ·intro u w' l j k;have z:u 7=_:=j 7 (by omega);clear j k;simp only[bC,bD,bE,bF,ar,Act.put,bG,bH,bI,dt,du,Nat.reduceAdd,Nat.zero_add,z];have o:=af l;clear l z;have s:=af (s.out.behind o.out);have E:Hid (w'.cell? G=some (.pointer (some ⟨x.g,0,none⟩))):=o.out.ak E.out id;have H:Hid (Mid w' x.g x.nm x.v):=H.out.ao o.out;have t:Hid (w'.cell? p=some (.pointer (some ⟨y.g,0,none⟩))):=o.out.ak t.out id;have C:Hid (Mid w' y.g y.nm y.v):=C.out.ao o.out;clear o;generalize w'=wr at*;go_upto_region 15 with fail;refine ay 18 Nothing [Is (.int .i64 0),Is (.bool false),Is (.bool false),Is (.slice (some G) P X),Is (.pointer (some G)),Is (.pointer (some ⟨x.g,0,none⟩)),Is (.pointer (some ⟨x.g,0,none⟩)),Is (.pointer (some ⟨x.g,7,none⟩)),Is (.string x.v),Is (.slice (some p) K O),Is (.pointer (some p)),Is (.pointer (some ⟨y.g,0,none⟩)),Is (.pointer (some ⟨y.g,0,none⟩)),Is (.pointer (some ⟨y.g,7,none⟩)),Is (.string y.v),Is (.bool false),Is (.bool false),Is (.bool false)] [] (λ_=>True) (λ_ _=>false) (by kernel_rfl) (by kernel_rfl) (by kernel_rfl) (by kernel_rfl) ⟨Is.ag _,Is.ag _,Is.ag _,Is.ag _,Is.ag _,Is.ag _,Is.ag _,Is.ag _,Is.ag _,Is.ag _,Is.ag _,Is.ag _,Is.ag _,Is.ag _,Is.ag _,Is.ag _,Is.ag _,Is.ag _,trivial⟩ trivial (λ_ _ _ _ h=>h) trivial ?_ ?_
        ·refine⟨?zCD,?YF,?YG,?YH,?YI,?YJ,?YK,?YL,?YM,?YN,?zO,?zP,?zQ,?zR,?zS,?zT,?zU,?zV,trivial⟩;all_goals intro u w' d l j n m k
         all_goals simp only[bC,bD,bE,bF,ar,Act.put,bG,bH,bI,Nat.reduceAdd,Nat.zero_add]
         case' YF=>simp only[ah (j 0)]
         case' YG=>simp only[ah (j 1)]
         case' YH=>simp only[ah (j 2)]
         case' YI=>simp only[ah (j 3),ah (j 2)]
         case YJ=>
          simp only[ah (j 4),ah (j 2)];clear j n m k;refine aj ?_;have q:=l.ak E.out id;go_simp;exact⟨_,rfl,al⟩
         case' YK=>simp only[ah (j 5),ah (j 2)]
         case' YL=>simp only[ah (j 6),ah (j 2)]
         case YM=>
          simp only[ah (j 7),ah (j 2)];clear j n m k;refine aj ?_;have q:=(H.out.ao l).val;go_simp;exact⟨_,rfl,al⟩
         case' YN=>simp only[ah (j 2)]
         case' zO=>simp only[ah (j 9),ah (j 2)]
         case zP=>
          simp only[ah (j 10),ah (j 2)];clear j n m k;refine aj ?_;have q:=l.ak t.out id;go_simp;exact⟨_,rfl,al⟩
         case' zQ=>simp only[ah (j 11),ah (j 2)]
         case' zR=>simp only[ah (j 12),ah (j 2)]
         case zS=>
          simp only[ah (j 13),ah (j 2)];clear j n m k;refine aj ?_;have q:=(C.out.ao l).val;go_simp;exact⟨_,rfl,al⟩
         case' zT=>simp only[ah (j 8),ah (j 14),ah (j 2)]
         case' zU=>simp only[ah (j 2),ah (j 15)]
         case' zV=>simp only[ah (j 16)]
         all_goals
          clear j n m k;refine aj ?_;go_simp;exact⟨_,rfl,al⟩
        ·intro u w' l j k;have z:u 17=_:=j 17 (by omega);clear j k;simp only[bC,bD,bE,bF,ar,Act.put,bG,bH,bI,dt,du,Nat.reduceAdd,Nat.zero_add,z];have o:=af l;clear l z;have s:=af (s.out.behind o.out);have E:Hid (w'.cell? G=some (.pointer (some ⟨x.g,0,none⟩))):=o.out.ak E.out id;have H:Hid (Mid w' x.g x.nm x.v):=H.out.ao o.out;have t:Hid (w'.cell? p=some (.pointer (some ⟨y.g,0,none⟩))):=o.out.ak t.out id;have C:Hid (Mid w' y.g y.nm y.v):=C.out.ao o.out;clear o;generalize w'=wr at*;go_wp2;go_roundw;case rel=>exact⟨_,_,_,_,_,_,_,_,done,rfl,rfl,ab.out.tail,V.out.tail,by rw[<-aD.out,J.out],s.out⟩
         case measure=>simp only[lR];omega
      ·have Y:decide ((some ⟨x.g,0,none⟩:Option Addr)=some ⟨y.g,0,none⟩)=!true:=ct (λe=>be (congrArg Addr.block (Option.some.inj e)));obtain⟨q,bX⟩:∃q,bL x.nm y.nm=q:=⟨_,rfl⟩;have a8:Hid (∀w',Calls prog 128 #[.agg x.nm.cells.toArray, .agg y.nm.cells.toArray] w' (aM w' (.int .i64 q))):=λw'=>by
        rw[<-bX];exact fi x.nm y.nm w' bs.out bt.out
       have bu:=af bX;clear bX;by_cases bU:q<0
       ·have cx:decide (q<0)=true:=decide_eq_true bU;have cy:decide (q<=0)=true:=cX (by omega);have cz:decide (0<=q)=false:=ct (by omega);have J:=af (Gj (ra:=ra) (rb:=y::rb) (x:=x) (.inr ⟨y,rb,rfl,by rw[bu.out];exact bU⟩));have bm:=af (AG (di x));go_upto_region 11 with fail;refine ay 8 Nothing [Is (.slice (some G) P X),Is (.pointer (some G)),Is (.pointer (some ⟨x.g,0,none⟩)),Is (.slice (some p) K O),Is (.pointer (some p)),Is (.pointer (some ⟨y.g,0,none⟩)),Is (.bool true),Is (.bool true)] [] (λ_=>True) (λ_ _=>false) (by kernel_rfl) (by kernel_rfl) (by kernel_rfl) (by kernel_rfl) ⟨Is.ag _,Is.ag _,Is.ag _,Is.ag _,Is.ag _,Is.ag _,Is.ag _,Is.ag _,trivial⟩ trivial (λ_ _ _ _ h=>h) trivial ?_ ?_
        ·refine⟨?zCE,?YO,?YP,?zCF,?YQ,?YR,?YS,?YT,trivial⟩;all_goals intro u w' d l j n m k
         all_goals simp only[bC,bD,bE,bF,ar,Act.put,bG,bH,bI,Nat.reduceAdd,Nat.zero_add]
         case' YO=>simp only[ah (j 0)]
         case YP=>
          simp only[ah (j 1)];clear j n m k;refine aj ?_;have q:=l.ak E.out id;go_simp;exact⟨_,rfl,al⟩
         case' YQ=>simp only[ah (j 3)]
         case YR=>
          simp only[ah (j 4)];clear j n m k;refine aj ?_;have q:=l.ak t.out id;go_simp;exact⟨_,rfl,al⟩
         case YS=>
          simp only[ah (j 2),ah (j 5)];clear j n m k;refine aj ?_;have q:=wB (some ⟨x.g,0,none⟩) (some ⟨y.g,0,none⟩) w' (aa.out.ao (T.out.trans l)) (W.out.ao (T.out.trans l)) true Y;go_simp;exact⟨_,rfl,al⟩
         case' YT=>simp only[ah (j 6)]
         all_goals
          clear j n m k;refine aj ?_;go_simp;exact⟨_,rfl,al⟩
        ·intro u w' l j k;have z:u 7=_:=j 7 (by omega);clear j k;simp only[bC,bD,bE,bF,ar,Act.put,bG,bH,bI,dt,du,Nat.reduceAdd,Nat.zero_add,z];have o:=af l;clear l z;have s:=af (s.out.behind o.out);have E:Hid (w'.cell? G=some (.pointer (some ⟨x.g,0,none⟩))):=o.out.ak E.out id;have H:Hid (Mid w' x.g x.nm x.v):=H.out.ao o.out;have t:Hid (w'.cell? p=some (.pointer (some ⟨y.g,0,none⟩))):=o.out.ak t.out id;have C:Hid (Mid w' y.g y.nm y.v):=C.out.ao o.out;clear o;generalize w'=wr at*;go_upto_region 12 with fail;refine ay 14 Nothing [Is (.slice (some G) P X),Is (.pointer (some G)),Is (.pointer (some ⟨x.g,0,none⟩)),Is (.pointer (some ⟨x.g,0,none⟩)),Is (.pointer (some ⟨x.g,2,none⟩)),Is (.agg x.nm.cells.toArray),Is (.slice (some p) K O),Is (.pointer (some p)),Is (.pointer (some ⟨y.g,0,none⟩)),Is (.pointer (some ⟨y.g,0,none⟩)),Is (.pointer (some ⟨y.g,2,none⟩)),Is (.agg y.nm.cells.toArray),Is (.int .i64 q),Is (.int .i64 q)] [] (λ_=>True) (λ_ _=>false) (by kernel_rfl) (by kernel_rfl) (by kernel_rfl) (by kernel_rfl) ⟨Is.ag _,Is.ag _,Is.ag _,Is.ag _,Is.ag _,Is.ag _,Is.ag _,Is.ag _,Is.ag _,Is.ag _,Is.ag _,Is.ag _,Is.ag _,Is.ag _,trivial⟩ trivial (λ_ _ _ _ h=>h) trivial ?_ ?_
         ·refine⟨?zCG,?YU,?YV,?YW,?YX,?YY,?zCH,?YZ,?XA,?XB,?zW,?zX,?zY,?zZ,trivial⟩;all_goals intro u w' d l j n m k
          all_goals simp only[bC,bD,bE,bF,ar,Act.put,bG,bH,bI,Nat.reduceAdd,Nat.zero_add]
          case' YU=>simp only[ah (j 0)]
          case YV=>
           simp only[ah (j 1)];clear j n m k;refine aj ?_;have q:=l.ak E.out id;go_simp;exact⟨_,rfl,al⟩
          case' YW=>simp only[ah (j 2)]
          case' YX=>simp only[ah (j 3)]
          case YY=>
           simp only[ah (j 4)];clear j n m k;refine aj ?_;exact au _ _ rfl ⟨x.g,2,none⟩ rfl x.nm.cells _ (λL v I=>by rw[Addr.add_mid];exact(H.out.ao l).name L v I) underlying106 rfl aW ⟨_,rfl,al⟩
          case' YZ=>simp only[ah (j 6)]
          case XA=>
           simp only[ah (j 7)];clear j n m k;refine aj ?_;have q:=l.ak t.out id;go_simp;exact⟨_,rfl,al⟩
          case' XB=>simp only[ah (j 8)]
          case' zW=>simp only[ah (j 9)]
          case zX=>
           simp only[ah (j 10)];clear j n m k;refine aj ?_;exact au _ _ rfl ⟨y.g,2,none⟩ rfl y.nm.cells _ (λL v I=>by rw[Addr.add_mid];exact(C.out.ao l).name L v I) underlying106 rfl aW ⟨_,rfl,al⟩
          case zY=>
           simp only[ah (j 5),ah (j 11)];clear j n m k;refine aj ?_;go_simp;refine(a8.out _).mono ?_;rintro e bZ⟨rfl,f4⟩;exact⟨_,rfl,f4.bR,rfl,trivial⟩
          case' zZ=>simp only[ah (j 12)]
          all_goals
           clear j n m k;refine aj ?_;go_simp;exact⟨_,rfl,al⟩
         ·intro u w' l j k;have z:u 13=_:=j 13 (by omega);clear j k;simp only[bC,bD,bE,bF,ar,Act.put,bG,bH,bI,dt,du,Nat.reduceAdd,Nat.zero_add,z];have o:=af l;clear l z;have s:=af (s.out.behind o.out);have E:Hid (w'.cell? G=some (.pointer (some ⟨x.g,0,none⟩))):=o.out.ak E.out id;have H:Hid (Mid w' x.g x.nm x.v):=H.out.ao o.out;have t:Hid (w'.cell? p=some (.pointer (some ⟨y.g,0,none⟩))):=o.out.ak t.out id;have C:Hid (Mid w' y.g y.nm y.v):=C.out.ao o.out;clear o;generalize w'=wr at*;have aG:=E.out;go_wp2_with(refine aB rfl 106 (.tmp 75) rfl ⟨x.g,2,none⟩ rfl x.nm.cells _ ?zC6 underlying106 rfl aW (aX.go ?zE4));case zC6=>exactλL v I=>by rw[Addr.add_mid];exact H.out.name L v I
          unfold aX;refine dU rfl 119 _ rfl (jW (di x)).cells.toArray _ (by simp only[List.map_toArray,List.map_cons,List.map_nil];rfl) bm.out (aX.go ?zC8);unfold aX;refine wpList_buildSlice rfl 44 119 1 _ rfl (jW (di x)).cells.toArray U cm underlying44 M N ad.out ae.out (by simp only[List.map_toArray,List.map_cons,List.map_nil];exact ai.out _) ?_;refine cQ _ rfl _ _ 44 rfl 119 U cm 7 80 underlying44 M N Q aq rfl (by decide) _ _ _ rfl s.out.own 1 (jW (di x)).cells.toArray _ rfl rfl rfl (rn _) (by have:=DL.out;omega) (by decide) ?_;intro v9 aC F;clear aG;have av:Hid (bT 119 7 w1 (.slice none 0 0) aC v9 (done.length+1) (done.flatMap CV.cells++(jW (di x)).cells)):=s.out.trans F;obtain⟨a7,bg,ba,rfl,_,_⟩:=aK F.own;clear F s;go_wp2;go_roundw;case rel=>exact⟨_,_,_,_,_,_,_,_,done++[jW (di x)],rfl,rfl,ab.out.tail,V.out,by rw[<-aD.out,J.out,List.append_assoc];rfl,by rw[aT,List.flatMap_append,List.flatMap_singleton];exact av.out⟩
          case measure=>simp only[lR];omega
       ·have cx:decide (q<0)=false:=decide_eq_false bU;by_cases cd:0<q
        ·have cC:decide (0<q)=true:=decide_eq_true cd;have cy:decide (q<=0)=false:=ct (by omega);have cz:decide (0<=q)=true:=cX (by omega);have J:=af (Gi (ra:=x::ra) (rb:=rb) (y:=y) (.inr ⟨x,ra,rfl,by rw[bu.out];exact cd⟩));have aJ:=af (vo (di y));go_upto_region 11 with fail;refine ay 8 Nothing [Is (.slice (some G) P X),Is (.pointer (some G)),Is (.pointer (some ⟨x.g,0,none⟩)),Is (.slice (some p) K O),Is (.pointer (some p)),Is (.pointer (some ⟨y.g,0,none⟩)),Is (.bool true),Is (.bool true)] [] (λ_=>True) (λ_ _=>false) (by kernel_rfl) (by kernel_rfl) (by kernel_rfl) (by kernel_rfl) ⟨Is.ag _,Is.ag _,Is.ag _,Is.ag _,Is.ag _,Is.ag _,Is.ag _,Is.ag _,trivial⟩ trivial (λ_ _ _ _ h=>h) trivial ?_ ?_
         ·refine⟨?zCI,?XC,?XD,?zCJ,?XE,?XF,?XG,?XH,trivial⟩;all_goals intro u w' d l j n m k
          all_goals simp only[bC,bD,bE,bF,ar,Act.put,bG,bH,bI,Nat.reduceAdd,Nat.zero_add]
          case' XC=>simp only[ah (j 0)]
          case XD=>
           simp only[ah (j 1)];clear j n m k;refine aj ?_;have q:=l.ak E.out id;go_simp;exact⟨_,rfl,al⟩
          case' XE=>simp only[ah (j 3)]
          case XF=>
           simp only[ah (j 4)];clear j n m k;refine aj ?_;have q:=l.ak t.out id;go_simp;exact⟨_,rfl,al⟩
          case XG=>
           simp only[ah (j 2),ah (j 5)];clear j n m k;refine aj ?_;have q:=wB (some ⟨x.g,0,none⟩) (some ⟨y.g,0,none⟩) w' (aa.out.ao (T.out.trans l)) (W.out.ao (T.out.trans l)) true Y;go_simp;exact⟨_,rfl,al⟩
          case' XH=>simp only[ah (j 6)]
          all_goals
           clear j n m k;refine aj ?_;go_simp;exact⟨_,rfl,al⟩
         ·intro u w' l j k;have z:u 7=_:=j 7 (by omega);clear j k;simp only[bC,bD,bE,bF,ar,Act.put,bG,bH,bI,dt,du,Nat.reduceAdd,Nat.zero_add,z];have o:=af l;clear l z;have s:=af (s.out.behind o.out);have E:Hid (w'.cell? G=some (.pointer (some ⟨x.g,0,none⟩))):=o.out.ak E.out id;have H:Hid (Mid w' x.g x.nm x.v):=H.out.ao o.out;have t:Hid (w'.cell? p=some (.pointer (some ⟨y.g,0,none⟩))):=o.out.ak t.out id;have C:Hid (Mid w' y.g y.nm y.v):=C.out.ao o.out;clear o;generalize w'=wr at*;go_upto_region 12 with fail;refine ay 14 Nothing [Is (.slice (some G) P X),Is (.pointer (some G)),Is (.pointer (some ⟨x.g,0,none⟩)),Is (.pointer (some ⟨x.g,0,none⟩)),Is (.pointer (some ⟨x.g,2,none⟩)),Is (.agg x.nm.cells.toArray),Is (.slice (some p) K O),Is (.pointer (some p)),Is (.pointer (some ⟨y.g,0,none⟩)),Is (.pointer (some ⟨y.g,0,none⟩)),Is (.pointer (some ⟨y.g,2,none⟩)),Is (.agg y.nm.cells.toArray),Is (.int .i64 q),Is (.int .i64 q)] [] (λ_=>True) (λ_ _=>false) (by kernel_rfl) (by kernel_rfl) (by kernel_rfl) (by kernel_rfl) ⟨Is.ag _,Is.ag _,Is.ag _,Is.ag _,Is.ag _,Is.ag _,Is.ag _,Is.ag _,Is.ag _,Is.ag _,Is.ag _,Is.ag _,Is.ag _,Is.ag _,trivial⟩ trivial (λ_ _ _ _ h=>h) trivial ?_ ?_
          ·refine⟨?zD0,?XI,?XJ,?XK,?XL,?XM,?zD1,?XN,?XO,?XP,?yA,?yB,?yC,?yD,trivial⟩;all_goals intro u w' d l j n m k
           all_goals simp only[bC,bD,bE,bF,ar,Act.put,bG,bH,bI,Nat.reduceAdd,Nat.zero_add]
           case' XI=>simp only[ah (j 0)]
           case XJ=>
            simp only[ah (j 1)];clear j n m k;refine aj ?_;have q:=l.ak E.out id;go_simp;exact⟨_,rfl,al⟩
           case' XK=>simp only[ah (j 2)]
           case' XL=>simp only[ah (j 3)]
           case XM=>
            simp only[ah (j 4)];clear j n m k;refine aj ?_;exact au _ _ rfl ⟨x.g,2,none⟩ rfl x.nm.cells _ (λL v I=>by rw[Addr.add_mid];exact(H.out.ao l).name L v I) underlying106 rfl aW ⟨_,rfl,al⟩
           case' XN=>simp only[ah (j 6)]
           case XO=>
            simp only[ah (j 7)];clear j n m k;refine aj ?_;have q:=l.ak t.out id;go_simp;exact⟨_,rfl,al⟩
           case' XP=>simp only[ah (j 8)]
           case' yA=>simp only[ah (j 9)]
           case yB=>
            simp only[ah (j 10)];clear j n m k;refine aj ?_;exact au _ _ rfl ⟨y.g,2,none⟩ rfl y.nm.cells _ (λL v I=>by rw[Addr.add_mid];exact(C.out.ao l).name L v I) underlying106 rfl aW ⟨_,rfl,al⟩
           case yC=>
            simp only[ah (j 5),ah (j 11)];clear j n m k;refine aj ?_;go_simp;refine(a8.out _).mono ?_;rintro e bZ⟨rfl,f4⟩;exact⟨_,rfl,f4.bR,rfl,trivial⟩
           case' yD=>simp only[ah (j 12)]
           all_goals
            clear j n m k;refine aj ?_;go_simp;exact⟨_,rfl,al⟩
          ·intro u w' l j k;have z:u 13=_:=j 13 (by omega);clear j k;simp only[bC,bD,bE,bF,ar,Act.put,bG,bH,bI,dt,du,Nat.reduceAdd,Nat.zero_add,z];have o:=af l;clear l z;have s:=af (s.out.behind o.out);have E:Hid (w'.cell? G=some (.pointer (some ⟨x.g,0,none⟩))):=o.out.ak E.out id;have H:Hid (Mid w' x.g x.nm x.v):=H.out.ao o.out;have t:Hid (w'.cell? p=some (.pointer (some ⟨y.g,0,none⟩))):=o.out.ak t.out id;have C:Hid (Mid w' y.g y.nm y.v):=C.out.ao o.out;clear o;generalize w'=wr at*;go_upto_region 15 with fail;refine ay 18 Nothing [Is (.int .i64 q),Is (.bool true),Is (.bool true),Is (undef),Is (undef),Is (undef),Is (undef),Is (undef),Is (undef),Is (undef),Is (undef),Is (undef),Is (undef),Is (undef),Is (undef),Is (undef),Is (.bool true),Is (.bool true)] [] (λ_=>True) (λ_ _=>false) (by kernel_rfl) (by kernel_rfl) (by kernel_rfl) (by kernel_rfl) ⟨Is.ag _,Is.ag _,Is.ag _,Is.ag _,Is.ag _,Is.ag _,Is.ag _,Is.ag _,Is.ag _,Is.ag _,Is.ag _,Is.ag _,Is.ag _,Is.ag _,Is.ag _,Is.ag _,Is.ag _,Is.ag _,trivial⟩ trivial (λ_ _ _ _ h=>h) trivial ?_ ?_
           ·refine⟨?zD2,?XQ,?XR,?XS,?XT,?XU,?XV,?XW,?XX,?XY,?yE,?yF,?yG,?yH,?yI,?yJ,?yK,?yL,trivial⟩;all_goals intro u w' d l j n m k
            all_goals simp only[bC,bD,bE,bF,ar,Act.put,bG,bH,bI,Nat.reduceAdd,Nat.zero_add]
            case' XQ=>simp only[ah (j 0)]
            case' XR=>simp only[ah (j 1)]
            case XS=>simp only[ah (j 2)];exact .inr ⟨by kernel_rfl,_,rfl,aA,rfl,trivial⟩
            case XT=>simp only[ah (j 2)];exact .inr ⟨by kernel_rfl,_,rfl,aA,rfl,trivial⟩
            case XU=>simp only[ah (j 2)];exact .inr ⟨by kernel_rfl,_,rfl,aA,rfl,trivial⟩
            case XV=>simp only[ah (j 2)];exact .inr ⟨by kernel_rfl,_,rfl,aA,rfl,trivial⟩
            case XW=>simp only[ah (j 2)];exact .inr ⟨by kernel_rfl,_,rfl,aA,rfl,trivial⟩
            case XX=>simp only[ah (j 2)];exact .inr ⟨by kernel_rfl,_,rfl,aA,rfl,trivial⟩
            case XY=>simp only[ah (j 2)];exact .inr ⟨by kernel_rfl,_,rfl,aA,rfl,trivial⟩
            case yE=>simp only[ah (j 2)];exact .inr ⟨by kernel_rfl,_,rfl,aA,rfl,trivial⟩
            case yF=>simp only[ah (j 2)];exact .inr ⟨by kernel_rfl,_,rfl,aA,rfl,trivial⟩
            case yG=>simp only[ah (j 2)];exact .inr ⟨by kernel_rfl,_,rfl,aA,rfl,trivial⟩
            case yH=>simp only[ah (j 2)];exact .inr ⟨by kernel_rfl,_,rfl,aA,rfl,trivial⟩
            case yI=>simp only[ah (j 2)];exact .inr ⟨by kernel_rfl,_,rfl,aA,rfl,trivial⟩
            case yJ=>simp only[ah (j 2)];exact .inr ⟨by kernel_rfl,_,rfl,aA,rfl,trivial⟩
            case' yK=>simp only[ah (j 2),ah (j 15)]
            case' yL=>simp only[ah (j 16)]
            all_goals
             clear j n m k;refine aj ?_;go_simp;exact⟨_,rfl,al⟩
           ·intro u w' l j k;have z:u 17=_:=j 17 (by omega);clear j k;simp only[bC,bD,bE,bF,ar,Act.put,bG,bH,bI,dt,du,Nat.reduceAdd,Nat.zero_add,z];have o:=af l;clear l z;have s:=af (s.out.behind o.out);have E:Hid (w'.cell? G=some (.pointer (some ⟨x.g,0,none⟩))):=o.out.ak E.out id;have H:Hid (Mid w' x.g x.nm x.v):=H.out.ao o.out;have t:Hid (w'.cell? p=some (.pointer (some ⟨y.g,0,none⟩))):=o.out.ak t.out id;have C:Hid (Mid w' y.g y.nm y.v):=C.out.ao o.out;clear o;generalize w'=wr at*;go_upto_region 16 with fail;refine ay 15 Nothing [Is (.slice bl done.length c5),Is (.slice (some p) K O),Is (.pointer (some p)),Is (.pointer (some ⟨y.g,0,none⟩)),Is (.pointer (some ⟨y.g,0,none⟩)),Is (.pointer (some ⟨y.g,2,none⟩)),Is (.agg y.nm.cells.toArray),Is (.slice (some p) K O),Is (.pointer (some p)),Is (.pointer (some ⟨y.g,0,none⟩)),Is (.pointer (some ⟨y.g,0,none⟩)),Is (.pointer (some ⟨y.g,7,none⟩)),Is (.string y.v),Is (.agg (gP (di y)).cells.toArray),(λa6 a5=>∃g,a6= .slice (some ⟨g,0,none⟩) 1 1/\Rd a5 (λ_=>True) 7 (some ⟨g,0,none⟩) 1 (gP (di y)).cells)] [] (λ_=>True) (λ_ _=>false) (by kernel_rfl) (by kernel_rfl) (by kernel_rfl) (by kernel_rfl) ⟨Is.ag _,Is.ag _,Is.ag _,Is.ag _,Is.ag _,Is.ag _,Is.ag _,Is.ag _,Is.ag _,Is.ag _,Is.ag _,Is.ag _,Is.ag _,Is.ag _,λ_ _ _ _ f h=>by obtain⟨g,e,r⟩:=h;exact⟨g,e,r.ao f⟩,trivial⟩ trivial (λ_ _ _ _ h=>h) trivial ?_ ?_
            ·refine⟨?zD3,?zD4,?XZ,?z0,?z1,?z2,?z3,?zD5,?z4,?z5,?yM,?yN,?yO,?yP,?yQ,trivial⟩;all_goals intro u w' d l j n m k
             all_goals simp only[bC,bD,bE,bF,ar,Act.put,bG,bH,bI,Nat.reduceAdd,Nat.zero_add]
             case' XZ=>simp only[ah (j 1)]
             case z0=>
              simp only[ah (j 2)];clear j n m k;refine aj ?_;have q:=l.ak t.out id;go_simp;exact⟨_,rfl,al⟩
             case' z1=>simp only[ah (j 3)]
             case' z2=>simp only[ah (j 4)]
             case z3=>
              simp only[ah (j 5)];clear j n m k;refine aj ?_;exact au _ _ rfl ⟨y.g,2,none⟩ rfl y.nm.cells _ (λL v I=>by rw[Addr.add_mid];exact(C.out.ao l).name L v I) underlying106 rfl aW ⟨_,rfl,al⟩
             case' z4=>simp only[ah (j 7)]
             case z5=>
              simp only[ah (j 8)];clear j n m k;refine aj ?_;have q:=l.ak t.out id;go_simp;exact⟨_,rfl,al⟩
             case' yM=>simp only[ah (j 9)]
             case' yN=>simp only[ah (j 10)]
             case yO=>
              simp only[ah (j 11)];clear j n m k;refine aj ?_;have q:=(C.out.ao l).val;go_simp;exact⟨_,rfl,al⟩
             case yP=>
              simp only[ah (j 6),ah (j 12)];clear j n m k;refine aj ?_;exact iw 119 _ rfl (gP (di y)).cells.toArray _ (by simp only[List.map_toArray,List.map_cons,List.map_nil];rfl) aJ.out ⟨_,rfl,al⟩
             case yQ=>
              simp only[ah (j 13)];clear j n m k;refine aj ?_;refine wp_buildSlice 44 119 1 _ rfl (gP (di y)).cells.toArray U cm underlying44 M N ad.out ae.out (by simp only[List.map_toArray,List.map_cons,List.map_nil];exact ai.out _) ?_;exact⟨_,rfl,aA.alloc _,⟨_,rfl,(uL w' (gP (di y)).cells.toArray 119 7 1 rfl).any⟩,trivial⟩
             all_goals
              clear j n m k;refine aj ?_;go_simp;exact⟨_,rfl,al⟩
            ·intro u w' l j k;have m:u 0=_:=j 0 (by omega);obtain⟨g9,R,S⟩:=j 14 (by omega);clear j k;simp only[bC,bD,bE,bF,ar,Act.put,bG,bH,bI,dt,du,Nat.reduceAdd,Nat.zero_add,m,R];have s:=af (s.out.behind l);have ac:=af S;clear l m R S;refine fJ _ rfl _ _ 44 rfl 119 U cm 7 80 underlying44 M N Q aq rfl (by decide) _ _ _ rfl s.out.own _ _ 1 1 _ rfl ac.out (rn _) (by have:=DL.out;omega) (by decide) ?_;intro v9 aC F;have av:Hid (bT 119 7 w1 (.slice none 0 0) aC v9 (done.length+1) (done.flatMap CV.cells++(gP (di y)).cells)):=s.out.trans F;obtain⟨a7,bg,ba,rfl,_,_⟩:=aK F.own;clear F s;go_wp2;go_roundw;case rel=>exact⟨_,_,_,_,_,_,_,_,done++[gP (di y)],rfl,rfl,ab.out,V.out.tail,by rw[<-aD.out,J.out,List.append_assoc];rfl,by rw[aT,List.flatMap_append,List.flatMap_singleton];exact av.out⟩
             case measure=>simp only[lR];omega
        ·obtain rfl:q=0:=by omega
         have aH:bL x.nm y.nm=0:=bu.out;cases I:(x.v==y.v)
         ·have cg:(x.v.toList==y.v.toList)=false:=by rw[Ju];exact I
          have J:=af (Ei (ra:=ra) (rb:=rb) aH I);have aJ:=af (vo (di y));clear I aH;go_upto_region 11 with fail;refine ay 8 Nothing [Is (.slice (some G) P X),Is (.pointer (some G)),Is (.pointer (some ⟨x.g,0,none⟩)),Is (.slice (some p) K O),Is (.pointer (some p)),Is (.pointer (some ⟨y.g,0,none⟩)),Is (.bool true),Is (.bool true)] [] (λ_=>True) (λ_ _=>false) (by kernel_rfl) (by kernel_rfl) (by kernel_rfl) (by kernel_rfl) ⟨Is.ag _,Is.ag _,Is.ag _,Is.ag _,Is.ag _,Is.ag _,Is.ag _,Is.ag _,trivial⟩ trivial (λ_ _ _ _ h=>h) trivial ?_ ?_
          ·refine⟨?zD6,?z6,?z7,?zD7,?z8,?z9,?y0,?y1,trivial⟩;all_goals intro u w' d l j n m k
           all_goals simp only[bC,bD,bE,bF,ar,Act.put,bG,bH,bI,Nat.reduceAdd,Nat.zero_add]
           case' z6=>simp only[ah (j 0)]
           case z7=>
            simp only[ah (j 1)];clear j n m k;refine aj ?_;have q:=l.ak E.out id;go_simp;exact⟨_,rfl,al⟩
           case' z8=>simp only[ah (j 3)]
           case z9=>
            simp only[ah (j 4)];clear j n m k;refine aj ?_;have q:=l.ak t.out id;go_simp;exact⟨_,rfl,al⟩
           case y0=>
            simp only[ah (j 2),ah (j 5)];clear j n m k;refine aj ?_;have q:=wB (some ⟨x.g,0,none⟩) (some ⟨y.g,0,none⟩) w' (aa.out.ao (T.out.trans l)) (W.out.ao (T.out.trans l)) true Y;go_simp;exact⟨_,rfl,al⟩
           case' y1=>simp only[ah (j 6)]
           all_goals
            clear j n m k;refine aj ?_;go_simp;exact⟨_,rfl,al⟩
          ·intro u w' l j k;have z:u 7=_:=j 7 (by omega);clear j k;simp only[bC,bD,bE,bF,ar,Act.put,bG,bH,bI,dt,du,Nat.reduceAdd,Nat.zero_add,z];have o:=af l;clear l z;have s:=af (s.out.behind o.out);have E:Hid (w'.cell? G=some (.pointer (some ⟨x.g,0,none⟩))):=o.out.ak E.out id;have H:Hid (Mid w' x.g x.nm x.v):=H.out.ao o.out;have t:Hid (w'.cell? p=some (.pointer (some ⟨y.g,0,none⟩))):=o.out.ak t.out id;have C:Hid (Mid w' y.g y.nm y.v):=C.out.ao o.out;clear o;generalize w'=wr at*;go_upto_region 12 with fail;refine ay 14 Nothing [Is (.slice (some G) P X),Is (.pointer (some G)),Is (.pointer (some ⟨x.g,0,none⟩)),Is (.pointer (some ⟨x.g,0,none⟩)),Is (.pointer (some ⟨x.g,2,none⟩)),Is (.agg x.nm.cells.toArray),Is (.slice (some p) K O),Is (.pointer (some p)),Is (.pointer (some ⟨y.g,0,none⟩)),Is (.pointer (some ⟨y.g,0,none⟩)),Is (.pointer (some ⟨y.g,2,none⟩)),Is (.agg y.nm.cells.toArray),Is (.int .i64 0),Is (.int .i64 0)] [] (λ_=>True) (λ_ _=>false) (by kernel_rfl) (by kernel_rfl) (by kernel_rfl) (by kernel_rfl) ⟨Is.ag _,Is.ag _,Is.ag _,Is.ag _,Is.ag _,Is.ag _,Is.ag _,Is.ag _,Is.ag _,Is.ag _,Is.ag _,Is.ag _,Is.ag _,Is.ag _,trivial⟩ trivial (λ_ _ _ _ h=>h) trivial ?_ ?_
           ·refine⟨?zD8,?y2,?y3,?y4,?y5,?y6,?zD9,?y7,?y8,?y9,?yR,?yS,?yT,?yU,trivial⟩;all_goals intro u w' d l j n m k
            all_goals simp only[bC,bD,bE,bF,ar,Act.put,bG,bH,bI,Nat.reduceAdd,Nat.zero_add]
            case' y2=>simp only[ah (j 0)]
            case y3=>
             simp only[ah (j 1)];clear j n m k;refine aj ?_;have q:=l.ak E.out id;go_simp;exact⟨_,rfl,al⟩
            case' y4=>simp only[ah (j 2)]
            case' y5=>simp only[ah (j 3)]
            case y6=>
             simp only[ah (j 4)];clear j n m k;refine aj ?_;exact au _ _ rfl ⟨x.g,2,none⟩ rfl x.nm.cells _ (λL v I=>by rw[Addr.add_mid];exact(H.out.ao l).name L v I) underlying106 rfl aW ⟨_,rfl,al⟩
            case' y7=>simp only[ah (j 6)]
            case y8=>
             simp only[ah (j 7)];clear j n m k;refine aj ?_;have q:=l.ak t.out id;go_simp;exact⟨_,rfl,al⟩
            case' y9=>simp only[ah (j 8)]
            case' yR=>simp only[ah (j 9)]
            case yS=>
             simp only[ah (j 10)];clear j n m k;refine aj ?_;exact au _ _ rfl ⟨y.g,2,none⟩ rfl y.nm.cells _ (λL v I=>by rw[Addr.add_mid];exact(C.out.ao l).name L v I) underlying106 rfl aW ⟨_,rfl,al⟩
            case yT=>
             simp only[ah (j 5),ah (j 11)];clear j n m k;refine aj ?_;go_simp;refine(a8.out _).mono ?_;rintro e bZ⟨rfl,f4⟩;exact⟨_,rfl,f4.bR,rfl,trivial⟩
            case' yU=>simp only[ah (j 12)]
            all_goals
             clear j n m k;refine aj ?_;go_simp;exact⟨_,rfl,al⟩
           ·intro u w' l j k;have z:u 13=_:=j 13 (by omega);clear j k;simp only[bC,bD,bE,bF,ar,Act.put,bG,bH,bI,dt,du,Nat.reduceAdd,Nat.zero_add,z];have o:=af l;clear l z;have s:=af (s.out.behind o.out);have E:Hid (w'.cell? G=some (.pointer (some ⟨x.g,0,none⟩))):=o.out.ak E.out id;have H:Hid (Mid w' x.g x.nm x.v):=H.out.ao o.out;have t:Hid (w'.cell? p=some (.pointer (some ⟨y.g,0,none⟩))):=o.out.ak t.out id;have C:Hid (Mid w' y.g y.nm y.v):=C.out.ao o.out;clear o;generalize w'=wr at*;go_upto_region 15 with fail;refine ay 18 Nothing [Is (.int .i64 0),Is (.bool false),Is (.bool false),Is (.slice (some G) P X),Is (.pointer (some G)),Is (.pointer (some ⟨x.g,0,none⟩)),Is (.pointer (some ⟨x.g,0,none⟩)),Is (.pointer (some ⟨x.g,7,none⟩)),Is (.string x.v),Is (.slice (some p) K O),Is (.pointer (some p)),Is (.pointer (some ⟨y.g,0,none⟩)),Is (.pointer (some ⟨y.g,0,none⟩)),Is (.pointer (some ⟨y.g,7,none⟩)),Is (.string y.v),Is (.bool true),Is (.bool true),Is (.bool true)] [] (λ_=>True) (λ_ _=>false) (by kernel_rfl) (by kernel_rfl) (by kernel_rfl) (by kernel_rfl) ⟨Is.ag _,Is.ag _,Is.ag _,Is.ag _,Is.ag _,Is.ag _,Is.ag _,Is.ag _,Is.ag _,Is.ag _,Is.ag _,Is.ag _,Is.ag _,Is.ag _,Is.ag _,Is.ag _,Is.ag _,Is.ag _,trivial⟩ trivial (λ_ _ _ _ h=>h) trivial ?_ ?_
            ·refine⟨?zDA,?x0,?x1,?x2,?x3,?x4,?x5,?x6,?x7,?x8,?yV,?yW,?yX,?yY,?yZ,?xA,?xB,?xC,trivial⟩;all_goals intro u w' d l j n m k
             all_goals simp only[bC,bD,bE,bF,ar,Act.put,bG,bH,bI,Nat.reduceAdd,Nat.zero_add]
             case' x0=>simp only[ah (j 0)]
             case' x1=>simp only[ah (j 1)]
             case' x2=>simp only[ah (j 2)]
             case' x3=>simp only[ah (j 3),ah (j 2)]
             case x4=>
              simp only[ah (j 4),ah (j 2)];clear j n m k;refine aj ?_;have q:=l.ak E.out id;go_simp;exact⟨_,rfl,al⟩
             case' x5=>simp only[ah (j 5),ah (j 2)]
             case' x6=>simp only[ah (j 6),ah (j 2)]
             case x7=>
              simp only[ah (j 7),ah (j 2)];clear j n m k;refine aj ?_;have q:=(H.out.ao l).val;go_simp;exact⟨_,rfl,al⟩
             case' x8=>simp only[ah (j 2)]
             case' yV=>simp only[ah (j 9),ah (j 2)]
             case yW=>
              simp only[ah (j 10),ah (j 2)];clear j n m k;refine aj ?_;have q:=l.ak t.out id;go_simp;exact⟨_,rfl,al⟩
             case' yX=>simp only[ah (j 11),ah (j 2)]
             case' yY=>simp only[ah (j 12),ah (j 2)]
             case yZ=>
              simp only[ah (j 13),ah (j 2)];clear j n m k;refine aj ?_;have q:=(C.out.ao l).val;go_simp;exact⟨_,rfl,al⟩
             case' xA=>simp only[ah (j 8),ah (j 14),ah (j 2)]
             case' xB=>simp only[ah (j 2),ah (j 15)]
             case' xC=>simp only[ah (j 16)]
             all_goals
              clear j n m k;refine aj ?_;go_simp;exact⟨_,rfl,al⟩
            ·intro u w' l j k;have z:u 17=_:=j 17 (by omega);clear j k;simp only[bC,bD,bE,bF,ar,Act.put,bG,bH,bI,dt,du,Nat.reduceAdd,Nat.zero_add,z];have o:=af l;clear l z;have s:=af (s.out.behind o.out);have E:Hid (w'.cell? G=some (.pointer (some ⟨x.g,0,none⟩))):=o.out.ak E.out id;have H:Hid (Mid w' x.g x.nm x.v):=H.out.ao o.out;have t:Hid (w'.cell? p=some (.pointer (some ⟨y.g,0,none⟩))):=o.out.ak t.out id;have C:Hid (Mid w' y.g y.nm y.v):=C.out.ao o.out;clear o;generalize w'=wr at*;go_upto_region 16 with fail;refine ay 15 Nothing [Is (.slice bl done.length c5),Is (.slice (some p) K O),Is (.pointer (some p)),Is (.pointer (some ⟨y.g,0,none⟩)),Is (.pointer (some ⟨y.g,0,none⟩)),Is (.pointer (some ⟨y.g,2,none⟩)),Is (.agg y.nm.cells.toArray),Is (.slice (some p) K O),Is (.pointer (some p)),Is (.pointer (some ⟨y.g,0,none⟩)),Is (.pointer (some ⟨y.g,0,none⟩)),Is (.pointer (some ⟨y.g,7,none⟩)),Is (.string y.v),Is (.agg (gP (di y)).cells.toArray),(λa6 a5=>∃g,a6= .slice (some ⟨g,0,none⟩) 1 1/\Rd a5 (λ_=>True) 7 (some ⟨g,0,none⟩) 1 (gP (di y)).cells)] [] (λ_=>True) (λ_ _=>false) (by kernel_rfl) (by kernel_rfl) (by kernel_rfl) (by kernel_rfl) ⟨Is.ag _,Is.ag _,Is.ag _,Is.ag _,Is.ag _,Is.ag _,Is.ag _,Is.ag _,Is.ag _,Is.ag _,Is.ag _,Is.ag _,Is.ag _,Is.ag _,λ_ _ _ _ f h=>by obtain⟨g,e,r⟩:=h;exact⟨g,e,r.ao f⟩,trivial⟩ trivial (λ_ _ _ _ h=>h) trivial ?_ ?_
             ·refine⟨?zDB,?zDC,?x9,?zA0,?zA1,?zA2,?zA3,?zDD,?zA4,?zA5,?xD,?xE,?xF,?xG,?xH,trivial⟩;all_goals intro u w' d l j n m k
              all_goals simp only[bC,bD,bE,bF,ar,Act.put,bG,bH,bI,Nat.reduceAdd,Nat.zero_add]
              case' x9=>simp only[ah (j 1)]
              case zA0=>
               simp only[ah (j 2)];clear j n m k;refine aj ?_;have q:=l.ak t.out id;go_simp;exact⟨_,rfl,al⟩
              case' zA1=>simp only[ah (j 3)]
              case' zA2=>simp only[ah (j 4)]
              case zA3=>
               simp only[ah (j 5)];clear j n m k;refine aj ?_;exact au _ _ rfl ⟨y.g,2,none⟩ rfl y.nm.cells _ (λL v I=>by rw[Addr.add_mid];exact(C.out.ao l).name L v I) underlying106 rfl aW ⟨_,rfl,al⟩
              case' zA4=>simp only[ah (j 7)]
              case zA5=>
               simp only[ah (j 8)];clear j n m k;refine aj ?_;have q:=l.ak t.out id;go_simp;exact⟨_,rfl,al⟩
              case' xD=>simp only[ah (j 9)]
              case' xE=>simp only[ah (j 10)]
              case xF=>
               simp only[ah (j 11)];clear j n m k;refine aj ?_;have q:=(C.out.ao l).val;go_simp;exact⟨_,rfl,al⟩
              case xG=>
               simp only[ah (j 6),ah (j 12)];clear j n m k;refine aj ?_;exact iw 119 _ rfl (gP (di y)).cells.toArray _ (by simp only[List.map_toArray,List.map_cons,List.map_nil];rfl) aJ.out ⟨_,rfl,al⟩
              case xH=>
               simp only[ah (j 13)];clear j n m k;refine aj ?_;refine wp_buildSlice 44 119 1 _ rfl (gP (di y)).cells.toArray U cm underlying44 M N ad.out ae.out (by simp only[List.map_toArray,List.map_cons,List.map_nil];exact ai.out _) ?_;exact⟨_,rfl,aA.alloc _,⟨_,rfl,(uL w' (gP (di y)).cells.toArray 119 7 1 rfl).any⟩,trivial⟩
              all_goals
               clear j n m k;refine aj ?_;go_simp;exact⟨_,rfl,al⟩
             ·intro u w' l j k;have m:u 0=_:=j 0 (by omega);obtain⟨g9,R,S⟩:=j 14 (by omega);clear j k;simp only[bC,bD,bE,bF,ar,Act.put,bG,bH,bI,dt,du,Nat.reduceAdd,Nat.zero_add,m,R];have s:=af (s.out.behind l);have ac:=af S;clear l m R S;refine fJ _ rfl _ _ 44 rfl 119 U cm 7 80 underlying44 M N Q aq rfl (by decide) _ _ _ rfl s.out.own _ _ 1 1 _ rfl ac.out (rn _) (by have:=DL.out;omega) (by decide) ?_;intro v9 aC F;have av:Hid (bT 119 7 w1 (.slice none 0 0) aC v9 (done.length+1) (done.flatMap CV.cells++(gP (di y)).cells)):=s.out.trans F;obtain⟨a7,bg,ba,rfl,_,_⟩:=aK F.own;clear F s;go_wp2;go_roundw;case rel=>exact⟨_,_,_,_,_,_,_,_,done++[gP (di y)],rfl,rfl,ab.out.tail,V.out.tail,by rw[<-aD.out,J.out,List.append_assoc];rfl,by rw[aT,List.flatMap_append,List.flatMap_singleton];exact av.out⟩
              case measure=>simp only[lR];omega
         ·have cg:(x.v.toList==y.v.toList)=true:=by rw[Ju];exact I
          have J:=af (yf (ra:=ra) (rb:=rb) aH I);clear I aH;go_upto_region 11 with fail;refine ay 8 Nothing [Is (.slice (some G) P X),Is (.pointer (some G)),Is (.pointer (some ⟨x.g,0,none⟩)),Is (.slice (some p) K O),Is (.pointer (some p)),Is (.pointer (some ⟨y.g,0,none⟩)),Is (.bool true),Is (.bool true)] [] (λ_=>True) (λ_ _=>false) (by kernel_rfl) (by kernel_rfl) (by kernel_rfl) (by kernel_rfl) ⟨Is.ag _,Is.ag _,Is.ag _,Is.ag _,Is.ag _,Is.ag _,Is.ag _,Is.ag _,trivial⟩ trivial (λ_ _ _ _ h=>h) trivial ?_ ?_
          ·refine⟨?zDE,?zA6,?zA7,?zDF,?zA8,?zA9,?zAA,?zAB,trivial⟩;all_goals intro u w' d l j n m k
           all_goals simp only[bC,bD,bE,bF,ar,Act.put,bG,bH,bI,Nat.reduceAdd,Nat.zero_add]
           case' zA6=>simp only[ah (j 0)]
           case zA7=>
            simp only[ah (j 1)];clear j n m k;refine aj ?_;have q:=l.ak E.out id;go_simp;exact⟨_,rfl,al⟩
           case' zA8=>simp only[ah (j 3)]
           case zA9=>
            simp only[ah (j 4)];clear j n m k;refine aj ?_;have q:=l.ak t.out id;go_simp;exact⟨_,rfl,al⟩
           case zAA=>
            simp only[ah (j 2),ah (j 5)];clear j n m k;refine aj ?_;have q:=wB (some ⟨x.g,0,none⟩) (some ⟨y.g,0,none⟩) w' (aa.out.ao (T.out.trans l)) (W.out.ao (T.out.trans l)) true Y;go_simp;exact⟨_,rfl,al⟩
           case' zAB=>simp only[ah (j 6)]
           all_goals
            clear j n m k;refine aj ?_;go_simp;exact⟨_,rfl,al⟩
          ·intro u w' l j k;have z:u 7=_:=j 7 (by omega);clear j k;simp only[bC,bD,bE,bF,ar,Act.put,bG,bH,bI,dt,du,Nat.reduceAdd,Nat.zero_add,z];have o:=af l;clear l z;have s:=af (s.out.behind o.out);have E:Hid (w'.cell? G=some (.pointer (some ⟨x.g,0,none⟩))):=o.out.ak E.out id;have H:Hid (Mid w' x.g x.nm x.v):=H.out.ao o.out;have t:Hid (w'.cell? p=some (.pointer (some ⟨y.g,0,none⟩))):=o.out.ak t.out id;have C:Hid (Mid w' y.g y.nm y.v):=C.out.ao o.out;clear o;generalize w'=wr at*;go_upto_region 12 with fail;refine ay 14 Nothing [Is (.slice (some G) P X),Is (.pointer (some G)),Is (.pointer (some ⟨x.g,0,none⟩)),Is (.pointer (some ⟨x.g,0,none⟩)),Is (.pointer (some ⟨x.g,2,none⟩)),Is (.agg x.nm.cells.toArray),Is (.slice (some p) K O),Is (.pointer (some p)),Is (.pointer (some ⟨y.g,0,none⟩)),Is (.pointer (some ⟨y.g,0,none⟩)),Is (.pointer (some ⟨y.g,2,none⟩)),Is (.agg y.nm.cells.toArray),Is (.int .i64 0),Is (.int .i64 0)] [] (λ_=>True) (λ_ _=>false) (by kernel_rfl) (by kernel_rfl) (by kernel_rfl) (by kernel_rfl) ⟨Is.ag _,Is.ag _,Is.ag _,Is.ag _,Is.ag _,Is.ag _,Is.ag _,Is.ag _,Is.ag _,Is.ag _,Is.ag _,Is.ag _,Is.ag _,Is.ag _,trivial⟩ trivial (λ_ _ _ _ h=>h) trivial ?_ ?_
           ·refine⟨?zDG,?zAC,?zAD,?zAE,?zAF,?zAG,?zDH,?zAH,?zAI,?zAJ,?xI,?xJ,?xK,?xL,trivial⟩;all_goals intro u w' d l j n m k
            all_goals simp only[bC,bD,bE,bF,ar,Act.put,bG,bH,bI,Nat.reduceAdd,Nat.zero_add]
            case' zAC=>simp only[ah (j 0)]
            case zAD=>
             simp only[ah (j 1)];clear j n m k;refine aj ?_;have q:=l.ak E.out id;go_simp;exact⟨_,rfl,al⟩
            case' zAE=>simp only[ah (j 2)]
            case' zAF=>simp only[ah (j 3)]
            case zAG=>
             simp only[ah (j 4)];clear j n m k;refine aj ?_;exact au _ _ rfl ⟨x.g,2,none⟩ rfl x.nm.cells _ (λL v I=>by rw[Addr.add_mid];exact(H.out.ao l).name L v I) underlying106 rfl aW ⟨_,rfl,al⟩
            case' zAH=>simp only[ah (j 6)]
            case zAI=>
             simp only[ah (j 7)];clear j n m k;refine aj ?_;have q:=l.ak t.out id;go_simp;exact⟨_,rfl,al⟩
            case' zAJ=>simp only[ah (j 8)]
            case' xI=>simp only[ah (j 9)]
            case xJ=>
             simp only[ah (j 10)];clear j n m k;refine aj ?_;exact au _ _ rfl ⟨y.g,2,none⟩ rfl y.nm.cells _ (λL v I=>by rw[Addr.add_mid];exact(C.out.ao l).name L v I) underlying106 rfl aW ⟨_,rfl,al⟩
            case xK=>
             simp only[ah (j 5),ah (j 11)];clear j n m k;refine aj ?_;go_simp;refine(a8.out _).mono ?_;rintro e bZ⟨rfl,f4⟩;exact⟨_,rfl,f4.bR,rfl,trivial⟩
            case' xL=>simp only[ah (j 12)]
            all_goals
             clear j n m k;refine aj ?_;go_simp;exact⟨_,rfl,al⟩
           ·intro u w' l j k;have z:u 13=_:=j 13 (by omega);clear j k;simp only[bC,bD,bE,bF,ar,Act.put,bG,bH,bI,dt,du,Nat.reduceAdd,Nat.zero_add,z];have o:=af l;clear l z;have s:=af (s.out.behind o.out);have E:Hid (w'.cell? G=some (.pointer (some ⟨x.g,0,none⟩))):=o.out.ak E.out id;have H:Hid (Mid w' x.g x.nm x.v):=H.out.ao o.out;have t:Hid (w'.cell? p=some (.pointer (some ⟨y.g,0,none⟩))):=o.out.ak t.out id;have C:Hid (Mid w' y.g y.nm y.v):=C.out.ao o.out;clear o;generalize w'=wr at*;go_upto_region 15 with fail;refine ay 18 Nothing [Is (.int .i64 0),Is (.bool false),Is (.bool false),Is (.slice (some G) P X),Is (.pointer (some G)),Is (.pointer (some ⟨x.g,0,none⟩)),Is (.pointer (some ⟨x.g,0,none⟩)),Is (.pointer (some ⟨x.g,7,none⟩)),Is (.string x.v),Is (.slice (some p) K O),Is (.pointer (some p)),Is (.pointer (some ⟨y.g,0,none⟩)),Is (.pointer (some ⟨y.g,0,none⟩)),Is (.pointer (some ⟨y.g,7,none⟩)),Is (.string y.v),Is (.bool false),Is (.bool false),Is (.bool false)] [] (λ_=>True) (λ_ _=>false) (by kernel_rfl) (by kernel_rfl) (by kernel_rfl) (by kernel_rfl) ⟨Is.ag _,Is.ag _,Is.ag _,Is.ag _,Is.ag _,Is.ag _,Is.ag _,Is.ag _,Is.ag _,Is.ag _,Is.ag _,Is.ag _,Is.ag _,Is.ag _,Is.ag _,Is.ag _,Is.ag _,Is.ag _,trivial⟩ trivial (λ_ _ _ _ h=>h) trivial ?_ ?_
            ·refine⟨?zDI,?zB0,?zB1,?zB2,?zB3,?zB4,?zB5,?zB6,?zB7,?zB8,?xM,?xN,?xO,?xP,?xQ,?xR,?xS,?xT,trivial⟩;all_goals intro u w' d l j n m k
             all_goals simp only[bC,bD,bE,bF,ar,Act.put,bG,bH,bI,Nat.reduceAdd,Nat.zero_add]
             case' zB0=>simp only[ah (j 0)]
             case' zB1=>simp only[ah (j 1)]
             case' zB2=>simp only[ah (j 2)]
             case' zB3=>simp only[ah (j 3),ah (j 2)]
             case zB4=>
              simp only[ah (j 4),ah (j 2)];clear j n m k;refine aj ?_;have q:=l.ak E.out id;go_simp;exact⟨_,rfl,al⟩
             case' zB5=>simp only[ah (j 5),ah (j 2)]
             case' zB6=>simp only[ah (j 6),ah (j 2)]
             case zB7=>
              simp only[ah (j 7),ah (j 2)];clear j n m k;refine aj ?_;have q:=(H.out.ao l).val;go_simp;exact⟨_,rfl,al⟩
             case' zB8=>simp only[ah (j 2)]
             case' xM=>simp only[ah (j 9),ah (j 2)]
             case xN=>
              simp only[ah (j 10),ah (j 2)];clear j n m k;refine aj ?_;have q:=l.ak t.out id;go_simp;exact⟨_,rfl,al⟩
             case' xO=>simp only[ah (j 11),ah (j 2)]
             case' xP=>simp only[ah (j 12),ah (j 2)]
             case xQ=>
              simp only[ah (j 13),ah (j 2)];clear j n m k;refine aj ?_;have q:=(C.out.ao l).val;go_simp;exact⟨_,rfl,al⟩
             case' xR=>simp only[ah (j 8),ah (j 14),ah (j 2)]
             case' xS=>simp only[ah (j 2),ah (j 15)]
             case' xT=>simp only[ah (j 16)]
             all_goals
              clear j n m k;refine aj ?_;go_simp;exact⟨_,rfl,al⟩
            ·intro u w' l j k;have z:u 17=_:=j 17 (by omega);clear j k;simp only[bC,bD,bE,bF,ar,Act.put,bG,bH,bI,dt,du,Nat.reduceAdd,Nat.zero_add,z];have o:=af l;clear l z;have s:=af (s.out.behind o.out);have E:Hid (w'.cell? G=some (.pointer (some ⟨x.g,0,none⟩))):=o.out.ak E.out id;have H:Hid (Mid w' x.g x.nm x.v):=H.out.ao o.out;have t:Hid (w'.cell? p=some (.pointer (some ⟨y.g,0,none⟩))):=o.out.ak t.out id;have C:Hid (Mid w' y.g y.nm y.v):=C.out.ao o.out;clear o;generalize w'=wr at*;go_wp2;go_roundw;case rel=>exact⟨_,_,_,_,_,_,_,_,done,rfl,rfl,ab.out.tail,V.out.tail,by rw[<-aD.out,J.out],s.out⟩
             case measure=>simp only[lR];omega
end Go.Proofs.YtphjagkehiklkaaGreatDoor
