/- Texts. -/
import Derived.Test.YtphjagkehiklkaaGreatDoorXK08
set_option linter.unusedVariables false
set_option linter.unusedSimpArgs false
set_option maxRecDepth 100000
set_option maxHeartbeats 8000000
namespace Go.Proofs.YtphjagkehiklkaaGreatDoor
open Go.RowKit Go.Shelf
theorem ux(y:Ent):Tryz.prog.built 119 [(0, .agg y.1.cells.toArray),(1, .string y.2)]=some (gD y).cells.toArray:=by kernel_rfl
theorem zC(x:Ent):Tryz.prog.built 119 [(0, .agg x.1.cells.toArray),(2, .bool true)]=some (jz x).cells.toArray:=by kernel_rfl
def Ej(w:World)(D:List CV)(e:Ending)(w':World):Prop:=∃v,e= .returned v∧bO 119 7 w (.slice none 0 0) w' v D.length (D.flatMap CV.cells)
theorem lB.ao{w w':World}{x:Nd}(h:lB w x)(g:Fr ah w w'):lB w' x:=by
 obtain⟨a,b,c,d,e,f⟩:=h;exact⟨a,b,c,d,e,f.fr g (fun x=>x)⟩
def cY(x:Nd):Ent:=(x.nm,x.v)
def kW:Value→Nat
 | .slice _ n _=>n
 |_=>0
structure PL(w:World)(A:Option Addr)(n c:Nat)(L:List Nd):Prop where
 rd:Rd w (fun _=>True) 1 A n (L.map AS)
 len:L.length=n
 cap:n≤c
 aP:c≤maxLen
 at_:∀x∈L,lB w x
 own:∀x∈L,x.nm.owner.size≤1099511627776
theorem PL.ao{w w':World}{A:Option Addr}{n c:Nat}{L:List Nd}(h:PL w A n c L)(a:Fr ah w w'):PL w' A n c L:=⟨h.rd.ao a,h.len,h.cap,h.aP,fun x b=>(h.at_ x b).ao a,h.own⟩
theorem PL.head{w:World}{A:Option Addr}{n c:Nat}{x:Nd}{L:List Nd}(h:PL w A n c (x::L)):∃a,A=some a∧w.cell? a=some (.pointer (some ⟨x.g,0,none⟩))∧0<n:=by
 have b:0<n:=by have:=h.len;simp only[List.length_cons]at this;omega
 obtain⟨a,e,_,d⟩:=h.rd.2 b;exact⟨a,e,by have q:=d 0 _ rfl;simpa[Addr.add,AS]using q,b⟩
theorem PL.tail{w:World}{a:Addr}{n c:Nat}{x:Nd}{L:List Nd}(h:PL w (some a) n c (x::L)):PL w (if c=1 then some a else some (a.add 1)) (n-1) (c-1) L:=by
 have k:=h.len;simp only[List.length_cons]at k;refine⟨⟨by rw[List.length_map];omega,fun l=>?_⟩,by omega,by have:=h.cap;omega,by have:=h.aP;omega,fun y d=>h.at_ y (by simp[d]),fun y d=>h.own y (by simp[d])⟩;have b:¬c=1:=by have:=h.cap;omega
 obtain⟨f,e,_,g⟩:=h.rd.2 (by omega);cases e;rw[if_neg b];refine⟨_,rfl,trivial,fun j u i=>?_⟩;have q:=g (1+j) u (by rw[List.map_cons,Nat.add_comm,List.getElem?_cons_succ];exact i);rw[iq];exact q
def iT(w:World)(a:Option Addr):Prop:=a=none∨∃g cs,a=some ⟨g,0,none⟩∧aq w g 177 cs
theorem iT.ao{w w':World}{a:Option Addr}(h:iT w a)(c:Fr ah w w'):iT w' a:=by
 rcases h with h|⟨g,cs,h,b⟩;·exact .inl h
 ·exact .inr ⟨g,cs,h,b.fr c (fun x=>x)⟩
theorem lB.ptr{w:World}{x:Nd}(h:lB w x):iT w (some ⟨x.g,0,none⟩):=by
 obtain⟨a,b,c,d,e,f⟩:=h;exact .inr ⟨_,_,rfl,f⟩
theorem ck.ptr{w:World}:∀{a:Option Addr}{t:Tr},ck w a t→iT w a
 |_, .leaf,h=> .inl h
 |_, .node _ _ _ _,⟨g,_,_,e,_,_,b⟩=> .inr ⟨g,_,e,b⟩
theorem Aj:(Tryz.prog.info? 177).map (·.size)=some 11:=by kernel_rfl
theorem zY(a f:Option Addr)(w:World)(p:iT w a)(l:iT w f):(Op.equal 172 (.pointer a) (.pointer f)).run Tryz.prog w= .ok (decide (a=f)) w:=by
 have c:=Tryz.underlying172;obtain⟨j,n,s⟩:∃j,Tryz.prog.info? 177=some j∧j.size=11:=by
  have h:=Aj;cases o:Tryz.prog.info? 177 with
  |none=>rw[o]at h;cases h
  |some j=>rw[o]at h;exact⟨j,rfl,by simpa using h⟩
 have r:j.size≠0:=by omega
 have h:∀d:Nat,(Op.equalIn (d+1) 172 (.pointer a) (.pointer f)).run Tryz.prog w= .ok (decide (a=f)) w:=fun d=>by
  rcases p with rfl|⟨g,cs,rfl,q⟩
  ·rcases l with rfl|⟨i,cs',rfl,b⟩;·simp[Op.equalIn,run_underlying c]
   ·simp[Op.equalIn,run_underlying c]
  ·rcases l with rfl|⟨i,cs',rfl,b⟩;·simp[Op.equalIn,run_underlying c]
   ·by_cases m:g=i;·subst m;simp[Op.equalIn,run_underlying c,sizeOf,typeInfo,n,run_sameAddr_same]
    ·have k:(⟨g,0,none⟩:Addr)≠⟨i,0,none⟩:=fun e=>m (by cases e;rfl);simp[Op.equalIn,run_underlying c,sizeOf,typeInfo,n,r,run_sameAddr_other w k q b]
 simp[Op.equal,Op.maxDepth,h 9999]
theorem IB(a c:Option Addr)(w:World)(d:iT w a)(e:iT w c)(b:Bool)(f:decide (a=c)=b):(binOp .eql 172 (.pointer a) (.pointer c)).run Tryz.prog w= .ok (.bool b) w:=by
 simp only[binOp];simp[zY a c w d e,f]
theorem uY(a c:Option Addr)(w:World)(d:iT w a)(e:iT w c)(b:Bool)(f:decide (a=c)=!b):(binOp .neq 172 (.pointer a) (.pointer c)).run Tryz.prog w= .ok (.bool b) w:=by
 simp only[binOp];simp[zY a c w d e,f]
theorem ck.uniq{w:World}:∀{a:Option Addr}{t k:Tr},ck w a t→ck w a k→t=k
 |_, .leaf, .leaf,_,_=>rfl
 |_, .leaf, .node _ _ _ _,h,⟨_,_,_,e,_⟩=>by cases h;cases e
 |_, .node _ _ _ _, .leaf,⟨_,_,_,e,_⟩,h=>by cases h;cases e
 |_, .node l nm v r, .node s b y x,⟨g,u,ra,e,n,o,p⟩,⟨A,i,j,m,c,d,f⟩=>by
  subst e;cases m;have q:nP u ra (.node l nm v r)=nP i j (.node s b y x):=by
   have h:=p.symm.trans f;simpa using h
  obtain⟨z,a2,a3,a4,a5⟩:=nm;obtain⟨b1,b2,b3,b4,b5⟩:=b;simp only[nP,aI.cells,List.cons_append,List.nil_append,List.cons.injEq,Value.pointer.injEq,Value.int.injEq,Value.string.injEq,true_and]at q;obtain⟨rfl,rfl,rfl,rfl,rfl,rfl,rfl,rfl,_⟩:=q;rw[n.uniq c,o.uniq d]
theorem I8{w:World}{base:Nat}{e:TypeId}{size n m c:Nat}{A:Option Addr}{xs:List Value}(h:w.ownsRow base e size (.slice A m c) n xs):c≤maxLen:=by
 rcases h.2 with⟨a,_⟩|⟨g,cap,cur,a,_,_,_,b,_⟩;·cases a;exact Nat.zero_le _
 ·cases a;exact b
theorem PL.of{w:World}{A:Option Addr}{m c n:Nat}{L:List Nd}{M:List Ent}(h:w.ownsRow 0 172 1 (.slice A m c) n (L.map AS))(hm:m=n)(b:m≤c)(a:∀x∈L,lB w x)(he:L.map cY=M)(d:js M):PL w A m c L:=by
 subst hm;refine⟨(Rd.gO h).any,?_,b,I8 h,a,fun x e=>d (cY x) ?_⟩;·have:=h.1;rw[List.length_map]at this;omega
 ·rw[←he];exact List.mem_map_of_mem e
theorem EA{x:Nd}{ra rb:List Nd}(h:rb=[]∨∃y r,rb=y::r∧bP x.nm y.nm<0):cp ((x::ra).map cY) (rb.map cY)=jz (cY x)::cp (ra.map cY) (rb.map cY):=by
 rcases h with rfl|⟨y,r,rfl,h⟩;·rw[List.map_cons,List.map_nil,cp]
 ·rw[List.map_cons,List.map_cons,cp,if_pos (show bP (cY x).1 (cY y).1<0 from h)]
theorem Ez{y:Nd}{ra rb:List Nd}(h:ra=[]∨∃x r,ra=x::r∧0<bP x.nm y.nm):cp (ra.map cY) ((y::rb).map cY)=gD (cY y)::cp (ra.map cY) (rb.map cY):=by
 rcases h with rfl|⟨x,r,rfl,h⟩;·rw[List.map_cons,List.map_nil,cp]
 ·rw[List.map_cons,List.map_cons,cp,if_neg (show¬bP (cY x).1 (cY y).1<0 by show¬bP x.nm y.nm<0;omega),if_pos (show 0<bP (cY x).1 (cY y).1 from h)]
theorem xi{x y:Nd}{ra rb:List Nd}(a:bP x.nm y.nm=0)(h:(x.v==y.v)=true):cp ((x::ra).map cY) ((y::rb).map cY)=cp (ra.map cY) (rb.map cY):=by
 rw[List.map_cons,List.map_cons,cp,if_neg (show¬bP (cY x).1 (cY y).1<0 by show¬bP x.nm y.nm<0;omega),if_neg (show¬0<bP (cY x).1 (cY y).1 by show¬0<bP x.nm y.nm;omega),if_pos (show((cY x).2==(cY y).2)=true from h)]
theorem Cv{x y:Nd}{ra rb:List Nd}(a:bP x.nm y.nm=0)(h:(x.v==y.v)=false):cp ((x::ra).map cY) ((y::rb).map cY)=gD (cY y)::cp (ra.map cY) (rb.map cY):=by
 rw[List.map_cons,List.map_cons,cp,if_neg (show¬bP (cY x).1 (cY y).1<0 by show¬bP x.nm y.nm<0;omega),if_neg (show¬0<bP (cY x).1 (cY y).1 by show¬0<bP x.nm y.nm;omega),if_neg (show¬((cY x).2==(cY y).2)=true by show¬(x.v==y.v)=true;rw[h];decide)]
theorem Gv{w:World}{g:Nat}{n m:aI}{u v:ByteArray}(h:Mid w g n u)(k:Mid w g m v):n=m∧u=v:=by
 have e:u=v:=by
  have a:=h.val;rw[k.val]at a;simpa using a.symm
 refine⟨?_,e⟩;have b:∀j x y,n.cells[j]? =some x→m.cells[j]? =some y→x=y:=fun j x y o p=>by
  have a:=h.name j x o;rw[k.name j y p]at a;simpa using a.symm
 obtain⟨q,a2,a3,a4,a5⟩:=n;obtain⟨b1,b2,b3,b4,b5⟩:=m;have c:=b 0 _ _ rfl rfl;have d:=b 1 _ _ rfl rfl;have f:=b 2 _ _ rfl rfl;have i:=b 3 _ _ rfl rfl;have l:=b 4 _ _ rfl rfl;simp only[Value.int.injEq,Value.string.injEq,true_and]at c d f i l;rw[c,d,f,i,l]
def Kq(w1:World)(D:List CV)(cs a b:Value)(wr:World):Prop:=∃(A:Option Addr)(c e:Nat)(ra:List Nd)(B:Option Addr)(d f:Nat)(rb:List Nd)(done:List CV),a= .slice A c e∧b= .slice B d f∧PL w1 A c e ra∧PL w1 B d f rb∧
 done++cp (ra.map cY) (rb.map cY)=D∧bO 119 7 w1 (.slice none 0 0) wr cs done.length (done.flatMap CV.cells)
theorem E0(av ax:List Ent)(s1 s2:Nat)(w:World)(ct:ec w s1 av)(cu:ec w s2 ax)(a0:av.length≤60000)(a1:ax.length≤60000)(a3:js av)(a4:js ax):
  Calls Tryz.prog 96 #[.pointer (some ⟨s1,0,none⟩), .pointer (some ⟨s2,0,none⟩)] w (Ej w (cp av ax)):=by
 obtain⟨U,M,N,Q,aq⟩:=info_parts mZ;have ad:Hid (¬1*U.size>2^24):=by simp only[Hid];rw[Q];omega
 have ae:Hid (¬1*U.size=0):=by simp only[Hid];rw[Q];omega
 have ak:Hid (∀c:CV,Instr.fill (fun i=>some (i*U.size,U.size)) ((Array.range (1*U.size)).map (bY.cells[· %bY.cells.size]!)) [(0, .agg c.cells.toArray)]=some c.cells.toArray):=fun c=>by rw[Q];exact ku _ _ rfl (by simp[bY,Value.cells])
 obtain⟨bk,⟨Z,bN,bi⟩,bc⟩:=ct;obtain⟨bl,⟨aA,bQ,bj⟩,bd⟩:=cu;have bL:Hid (w.cell? ⟨s1,0,none⟩=some (.pointer Z)):=bN.cell 0;have bM:Hid (w.cell? ⟨s2,0,none⟩=some (.pointer aA)):=bQ.cell 0;have bI:Hid (iT w Z):=bi.ptr;have bK:Hid (iT w aA):=bj.ptr;have aV:Hid (wA w s1 bk):=⟨Z,bN,bi⟩;have aX:Hid (wA w s2 bl):=⟨aA,bQ,bj⟩;have bt:=af a3;have bu:=af a4;have bB:Hid (bk.size=av.length∧av.length≤60000):=⟨by rw[←bk.bW,bc],a0⟩;have bG:Hid (bl.size=ax.length∧ax.length≤60000):=⟨by rw[←bl.bW,bd],a1⟩;have aE:=af bc;have aF:=af bd;have aU:Hid ((cp av ax).length≤120000):=by have:=iL av ax;simp only[Hid];omega
 obtain⟨D,am⟩:∃D,cp av ax=D:=⟨_,rfl⟩;have aS:=af am;rw[am]at aU;rw[am];have aY:Hid (Z=aA→D=[]):=fun h=>by
  rw[←am];subst h;rw[←bc,←bd,bi.uniq bj];exact qi _
 clear am bN bi bQ bj bc bd a3 a4 a0 a1;go_enter Tryz.func96,Tryz.ntmps96;by_cases bg:Z=aA
 ·have bA:=af (aY.out bg);subst bg;rw[bA.out];go_upto_region 1 with fail;refine ay 17 ah [Is (.pointer (some ⟨s1,0,none⟩)),Is (.bool false),Is (.bool false),Is (.pointer (some ⟨s2,0,none⟩)),Is (.bool false),Is (.bool false),Is (.bool false),Is (.pointer (some ⟨s1,0,none⟩)),Is (.pointer (some ⟨s1,0,none⟩)),Is (.pointer (some ⟨s1,0,none⟩)),Is (.pointer Z),Is (.pointer (some ⟨s2,0,none⟩)),Is (.pointer (some ⟨s2,0,none⟩)),Is (.pointer (some ⟨s2,0,none⟩)),Is (.pointer Z),Is (.bool true),Is (.bool true)] [] (fun _=>True) (fun _ _=>false) (by kernel_rfl) (by kernel_rfl) (by kernel_rfl) (by kernel_rfl) ⟨Is.ag _,Is.ag _,Is.ag _,Is.ag _,Is.ag _,Is.ag _,Is.ag _,Is.ag _,Is.ag _,Is.ag _,Is.ag _,Is.ag _,Is.ag _,Is.ag _,Is.ag _,Is.ag _,Is.ag _,trivial⟩ trivial (fun _ _ _ _ h=>h) trivial ?_ ?_
  ·refine⟨?zCA,?ZI,?ZJ,?ZK,?ZL,?ZM,?ZN,?ZO,?ZP,?ZQ,?zA,?zB,?zD,?zE,?zF,?zG,?zH,trivial⟩;all_goals intro u w' d l j n m k
   all_goals simp only[bm,bp,bw,bC,ar,Act.put,bD,bE,bF,Nat.reduceAdd,Nat.zero_add]
   case' ZI=>simp only[show u 0=_ from j 0]
   case' ZJ=>simp only[show u 1=_ from j 1]
   case' ZK=>simp only[show u 2=_ from j 2]
   case' ZL=>simp only[show u 3=_ from j 3,show u 2=_ from j 2]
   case' ZM=>simp only[show u 2=_ from j 2,show u 4=_ from j 4]
   case' ZN=>simp only[show u 5=_ from j 5]
   case' ZO=>simp only[show u 6=_ from j 6]
   case' ZP=>simp only[show u 7=_ from j 7,show u 6=_ from j 6]
   case' ZQ=>simp only[show u 8=_ from j 8,show u 6=_ from j 6]
   case zA=>
    simp only[show u 9=_ from j 9,show u 6=_ from j 6];clear j n m k;refine ai ?_;have q:=l.aj bL.out (fun x=>x);go_simp;exact⟨_,rfl,al⟩
   case' zB=>simp only[show u 6=_ from j 6]
   case' zD=>simp only[show u 11=_ from j 11,show u 6=_ from j 6]
   case' zE=>simp only[show u 12=_ from j 12,show u 6=_ from j 6]
   case zF=>
    simp only[show u 13=_ from j 13,show u 6=_ from j 6];clear j n m k;refine ai ?_;have q:=l.aj bM.out (fun x=>x);go_simp;exact⟨_,rfl,al⟩
   case zG=>
    simp only[show u 10=_ from j 10,show u 14=_ from j 14,show u 6=_ from j 6];clear j n m k;refine ai ?_;have q:=IB Z Z w' (bI.out.ao l) (bK.out.ao l) true (decide_eq_true rfl);go_simp;exact⟨_,rfl,al⟩
   case' zH=>simp only[show u 6=_ from j 6,show u 15=_ from j 15]
   all_goals
    clear j n m k;refine ai ?_;go_simp;exact⟨_,rfl,al⟩
  ·intro u w' l j k;have z:u 16=_:=j 16 (by omega);clear j k;simp only[bm,bp,bw,bC,ar,Act.put,bD,bE,bF,cZ,da,Nat.reduceAdd,Nat.zero_add,z];have o:=af l;clear l z;go_wp2;go_ret;exact⟨_,rfl,(bO.start ⟨rfl, .inl ⟨rfl,rfl⟩⟩:bO 119 7 w (.slice none 0 0) w (.slice none 0 0) 0 []).behind o.out⟩
 ·have ck:decide (Z=aA)=false:=decide_eq_false bg;go_upto_region 1 with fail;refine ay 17 ah [Is (.pointer (some ⟨s1,0,none⟩)),Is (.bool false),Is (.bool false),Is (.pointer (some ⟨s2,0,none⟩)),Is (.bool false),Is (.bool false),Is (.bool false),Is (.pointer (some ⟨s1,0,none⟩)),Is (.pointer (some ⟨s1,0,none⟩)),Is (.pointer (some ⟨s1,0,none⟩)),Is (.pointer Z),Is (.pointer (some ⟨s2,0,none⟩)),Is (.pointer (some ⟨s2,0,none⟩)),Is (.pointer (some ⟨s2,0,none⟩)),Is (.pointer aA),Is (.bool false),Is (.bool false)] [] (fun _=>True) (fun _ _=>false) (by kernel_rfl) (by kernel_rfl) (by kernel_rfl) (by kernel_rfl) ⟨Is.ag _,Is.ag _,Is.ag _,Is.ag _,Is.ag _,Is.ag _,Is.ag _,Is.ag _,Is.ag _,Is.ag _,Is.ag _,Is.ag _,Is.ag _,Is.ag _,Is.ag _,Is.ag _,Is.ag _,trivial⟩ trivial (fun _ _ _ _ h=>h) trivial ?_ ?_
  ·refine⟨?zCB,?ZR,?ZS,?ZT,?ZU,?ZV,?ZW,?ZX,?ZY,?ZZ,?zI,?zJ,?zK,?zL,?zM,?zN,?zO,trivial⟩;all_goals intro u w' d l j n m k
   all_goals simp only[bm,bp,bw,bC,ar,Act.put,bD,bE,bF,Nat.reduceAdd,Nat.zero_add]
   case' ZR=>simp only[show u 0=_ from j 0]
   case' ZS=>simp only[show u 1=_ from j 1]
   case' ZT=>simp only[show u 2=_ from j 2]
   case' ZU=>simp only[show u 3=_ from j 3,show u 2=_ from j 2]
   case' ZV=>simp only[show u 2=_ from j 2,show u 4=_ from j 4]
   case' ZW=>simp only[show u 5=_ from j 5]
   case' ZX=>simp only[show u 6=_ from j 6]
   case' ZY=>simp only[show u 7=_ from j 7,show u 6=_ from j 6]
   case' ZZ=>simp only[show u 8=_ from j 8,show u 6=_ from j 6]
   case zI=>
    simp only[show u 9=_ from j 9,show u 6=_ from j 6];clear j n m k;refine ai ?_;have q:=l.aj bL.out (fun x=>x);go_simp;exact⟨_,rfl,al⟩
   case' zJ=>simp only[show u 6=_ from j 6]
   case' zK=>simp only[show u 11=_ from j 11,show u 6=_ from j 6]
   case' zL=>simp only[show u 12=_ from j 12,show u 6=_ from j 6]
   case zM=>
    simp only[show u 13=_ from j 13,show u 6=_ from j 6];clear j n m k;refine ai ?_;have q:=l.aj bM.out (fun x=>x);go_simp;exact⟨_,rfl,al⟩
   case zN=>
    simp only[show u 10=_ from j 10,show u 14=_ from j 14,show u 6=_ from j 6];clear j n m k;refine ai ?_;have q:=IB Z aA w' (bI.out.ao l) (bK.out.ao l) false ck;go_simp;exact⟨_,rfl,al⟩
   case' zO=>simp only[show u 6=_ from j 6,show u 15=_ from j 15]
   all_goals
    clear j n m k;refine ai ?_;go_simp;exact⟨_,rfl,al⟩
  ·intro u w' l j k;have z:u 16=_:=j 16 (by omega);clear j k;simp only[bm,bp,bw,bC,ar,Act.put,bD,bE,bF,cZ,da,Nat.reduceAdd,Nat.zero_add,z];have o:=af l;clear l z;have ba:=af o.out;clear o aY bL bM ck bg bI bK;go_wp2_with fail;refine(xw s1 bk _ (aV.out.ao ba.out) (by have:=bB.out;omega)).mono ?_;rintro e w2⟨v6,b9,rfl,g6,ch,n6⟩;have aO:=af g6;have bq:=af ch;have cc:=af n6;clear g6 ch n6;go_wp2_with fail;refine(xw s2 bl _ ((aX.out.ao ba.out).ao aO.out.ao) (by have:=bG.out;omega)).mono ?_;rintro e w1⟨cF,cb,rfl,g7,bR,n7⟩;obtain⟨b4,m6,cf,rfl,br,b6⟩:=aH aO.out.own;obtain⟨b5,m7,cg,rfl,bs,b7⟩:=aH g7.own;have bX:=br.out;have b0:=bs.out;have co:=af ((ba.out.trans aO.out.ao).trans g7.ao);have cd:Hid (PL w1 b4 m6 cf b9):=PL.of (aJ aO.out.own g7.ao (fun _ _ x=>x)) br.out b6.out (fun x cx=>(cc.out x cx).ao g7.ao) (bq.out.trans aE.out) bt.out;have ce:Hid (PL w1 b5 m7 cg cb):=PL.of g7.own bs.out b7.out n7 (bR.trans aF.out) bu.out;have aQ:Hid (Kq w1 D (.slice none 0 0) (.slice b4 m6 cf) (.slice b5 m7 cg) w1):=⟨_,_,_,b9,_,_,_,cb,[],rfl,rfl,cd.out,ce.out,by rw[←aS.out,←aE.out,←aF.out,←bq.out,←bR];rfl,bO.start ⟨rfl, .inl ⟨rfl,rfl⟩⟩⟩;clear aS g7 bR n7 bX b0 br bs b6 b7 cd ce aO bq cc aE aF aV aX ba;go_wp2;go_loopw[5,6,7](fun cs a b wr=>Kq w1 D cs a b wr)(fun _ a b _=>kW a+kW b);case atStart=>exact aQ.out
   case round=>
    obtain⟨A,P,X,ra,B,K,O,rb,done,rfl,rfl,an,ap,bS,be⟩:=hrel;have ab:=af an;have V:=af ap;have s:=af be;obtain⟨bn,n5,c5,rfl,b8,_⟩:=aH be.own;obtain rfl:n5=done.length:=b8.out;have aD:=af bS;have aN:Hid (done.length≤120000):=by
     have h:=aU.out;rw[←bS,aW]at h;simp only[Hid];omega
    have T:Hid (Fr ah w1 wr):=be.ao;have bH:=an.len;have aZ:=ap.len;have cm:=an.cap;have cn:=ap.cap;have cq:X≤9223372036854775807:=an.aP;have cr:O≤9223372036854775807:=ap.aP;clear an ap be bS b8 aQ;cases ra with
    |nil=>
     obtain rfl:P=0:=bH.symm;cases rb with
     |nil=>
      obtain rfl:K=0:=aZ.symm;have a2:done=D:=by
       have h:=aD.out;rw[List.map_nil,cp,List.append_nil]at h;exact h
      go_wp2;go_ret;rw[←a2];exact⟨_,rfl,s.out.ahead co.out⟩
     |cons y rb=>
      obtain⟨p,rfl,a5,aL⟩:=V.out.head;have t:Hid (wr.cell? p=some (.pointer (some ⟨y.g,0,none⟩))):=T.out.aj a5 (fun x=>x);have C:Hid (Mid wr y.g y.nm y.v):=(V.out.at_ y (by simp)).jW.ao T.out;have W:Hid (iT w1 (some ⟨y.g,0,none⟩)):=(V.out.at_ y (by simp)).ptr;have J:=af (Ez (ra:=[]) (rb:=rb) (y:=y) (.inl rfl));have aM:=af (ux (cY y));have cy:decide ((0:Int)<(K:Int))=true:=cT (by omega);have bT:1≤K:=aL;have bU:(1:Int)≤(K:Int):=by omega
      clear a5;go_upto_region 15 with fail;refine ay 18 ah [Is (.int .i64 1),Is (.bool true),Is (.bool true),Is (undef),Is (undef),Is (undef),Is (undef),Is (undef),Is (undef),Is (undef),Is (undef),Is (undef),Is (undef),Is (undef),Is (undef),Is (undef),Is (.bool true),Is (.bool true)] [] (fun _=>True) (fun _ _=>false) (by kernel_rfl) (by kernel_rfl) (by kernel_rfl) (by kernel_rfl) ⟨Is.ag _,Is.ag _,Is.ag _,Is.ag _,Is.ag _,Is.ag _,Is.ag _,Is.ag _,Is.ag _,Is.ag _,Is.ag _,Is.ag _,Is.ag _,Is.ag _,Is.ag _,Is.ag _,Is.ag _,Is.ag _,trivial⟩ trivial (fun _ _ _ _ h=>h) trivial ?_ ?_
      ·refine⟨?zE0,?zBA,?zBB,?zBC,?zBD,?zBE,?zBF,?zBG,?zBH,?zBI,?xV,?xW,?xX,?xY,?xZ,?ZA,?ZB,?ZC,trivial⟩;all_goals intro u w' d l j n m k
       all_goals simp only[bm,bp,bw,bC,ar,Act.put,bD,bE,bF,Nat.reduceAdd,Nat.zero_add]
       case' zBA=>simp only[show u 0=_ from j 0]
       case' zBB=>simp only[show u 1=_ from j 1]
       case zBC=>simp only[show u 2=_ from j 2];exact .inr ⟨by kernel_rfl,_,rfl,az,rfl,trivial⟩
       case zBD=>simp only[show u 2=_ from j 2];exact .inr ⟨by kernel_rfl,_,rfl,az,rfl,trivial⟩
       case zBE=>simp only[show u 2=_ from j 2];exact .inr ⟨by kernel_rfl,_,rfl,az,rfl,trivial⟩
       case zBF=>simp only[show u 2=_ from j 2];exact .inr ⟨by kernel_rfl,_,rfl,az,rfl,trivial⟩
       case zBG=>simp only[show u 2=_ from j 2];exact .inr ⟨by kernel_rfl,_,rfl,az,rfl,trivial⟩
       case zBH=>simp only[show u 2=_ from j 2];exact .inr ⟨by kernel_rfl,_,rfl,az,rfl,trivial⟩
       case zBI=>simp only[show u 2=_ from j 2];exact .inr ⟨by kernel_rfl,_,rfl,az,rfl,trivial⟩
       case xV=>simp only[show u 2=_ from j 2];exact .inr ⟨by kernel_rfl,_,rfl,az,rfl,trivial⟩
       case xW=>simp only[show u 2=_ from j 2];exact .inr ⟨by kernel_rfl,_,rfl,az,rfl,trivial⟩
       case xX=>simp only[show u 2=_ from j 2];exact .inr ⟨by kernel_rfl,_,rfl,az,rfl,trivial⟩
       case xY=>simp only[show u 2=_ from j 2];exact .inr ⟨by kernel_rfl,_,rfl,az,rfl,trivial⟩
       case xZ=>simp only[show u 2=_ from j 2];exact .inr ⟨by kernel_rfl,_,rfl,az,rfl,trivial⟩
       case ZA=>simp only[show u 2=_ from j 2];exact .inr ⟨by kernel_rfl,_,rfl,az,rfl,trivial⟩
       case' ZB=>simp only[show u 2=_ from j 2,show u 15=_ from j 15]
       case' ZC=>simp only[show u 16=_ from j 16]
       all_goals
        clear j n m k;refine ai ?_;go_simp;exact⟨_,rfl,al⟩
      ·intro u w' l j k;have z:u 17=_:=j 17 (by omega);clear j k;simp only[bm,bp,bw,bC,ar,Act.put,bD,bE,bF,cZ,da,Nat.reduceAdd,Nat.zero_add,z];have o:=af l;clear l z;have s:=af (s.out.behind o.out);have t:Hid (w'.cell? p=some (.pointer (some ⟨y.g,0,none⟩))):=o.out.aj t.out (fun x=>x);have C:Hid (Mid w' y.g y.nm y.v):=C.out.ao o.out;clear o;generalize w'=wr at*;go_upto_region 16 with fail;refine ay 15 ah [Is (.slice bn done.length c5),Is (.slice (some p) K O),Is (.pointer (some p)),Is (.pointer (some ⟨y.g,0,none⟩)),Is (.pointer (some ⟨y.g,0,none⟩)),Is (.pointer (some ⟨y.g,2,none⟩)),Is (.agg y.nm.cells.toArray),Is (.slice (some p) K O),Is (.pointer (some p)),Is (.pointer (some ⟨y.g,0,none⟩)),Is (.pointer (some ⟨y.g,0,none⟩)),Is (.pointer (some ⟨y.g,7,none⟩)),Is (.string y.v),Is (.agg (gD (cY y)).cells.toArray),(fun a7 a6=>∃g,a7= .slice (some ⟨g,0,none⟩) 1 1∧Rd a6 (fun _=>True) 7 (some ⟨g,0,none⟩) 1 (gD (cY y)).cells)] [] (fun _=>True) (fun _ _=>false) (by kernel_rfl) (by kernel_rfl) (by kernel_rfl) (by kernel_rfl) ⟨Is.ag _,Is.ag _,Is.ag _,Is.ag _,Is.ag _,Is.ag _,Is.ag _,Is.ag _,Is.ag _,Is.ag _,Is.ag _,Is.ag _,Is.ag _,Is.ag _,fun _ _ _ _ f h=>by obtain⟨g,e,r⟩:=h;exact⟨g,e,r.ao f⟩,trivial⟩ trivial (fun _ _ _ _ h=>h) trivial ?_ ?_
       ·refine⟨?zE1,?zE2,?zBJ,?zC0,?zC1,?zC2,?zC3,?zE3,?zC4,?zC5,?ZD,?ZE,?ZF,?ZG,?ZH,trivial⟩;all_goals intro u w' d l j n m k
        all_goals simp only[bm,bp,bw,bC,ar,Act.put,bD,bE,bF,Nat.reduceAdd,Nat.zero_add]
        case' zBJ=>simp only[show u 1=_ from j 1]
        case zC0=>
         simp only[show u 2=_ from j 2];clear j n m k;refine ai ?_;have q:=l.aj t.out (fun x=>x);go_simp;exact⟨_,rfl,al⟩
        case' zC1=>simp only[show u 3=_ from j 3]
        case' zC2=>simp only[show u 4=_ from j 4]
        case zC3=>
         simp only[show u 5=_ from j 5];clear j n m k;refine ai ?_;exact aw _ _ rfl ⟨y.g,2,none⟩ rfl y.nm.cells _ (fun L v I=>by rw[Addr.add_mid];exact(C.out.ao l).name L v I) Tryz.underlying106 rfl aT ⟨_,rfl,al⟩
        case' zC4=>simp only[show u 7=_ from j 7]
        case zC5=>
         simp only[show u 8=_ from j 8];clear j n m k;refine ai ?_;have q:=l.aj t.out (fun x=>x);go_simp;exact⟨_,rfl,al⟩
        case' ZD=>simp only[show u 9=_ from j 9]
        case' ZE=>simp only[show u 10=_ from j 10]
        case ZF=>
         simp only[show u 11=_ from j 11];clear j n m k;refine ai ?_;have q:=(C.out.ao l).val;go_simp;exact⟨_,rfl,al⟩
        case ZG=>
         simp only[show u 6=_ from j 6,show u 12=_ from j 12];clear j n m k;refine ai ?_;exact gR 119 _ rfl (gD (cY y)).cells.toArray _ (by simp only[List.map_toArray,List.map_cons,List.map_nil];rfl) aM.out ⟨_,rfl,al⟩
        case ZH=>
         simp only[show u 13=_ from j 13];clear j n m k;refine ai ?_;refine wp_buildSlice 44 119 1 _ rfl (gD (cY y)).cells.toArray U bY Tryz.underlying44 M N ad.out ae.out (by simp only[List.map_toArray,List.map_cons,List.map_nil];exact ak.out _) ?_;exact⟨_,rfl,az.alloc _,⟨_,rfl,(tT w' (gD (cY y)).cells.toArray 119 7 1 rfl).any⟩,trivial⟩
        all_goals
         clear j n m k;refine ai ?_;go_simp;exact⟨_,rfl,al⟩
       ·intro u w' l j k;have m:u 0=_:=j 0 (by omega);obtain⟨g9,R,S⟩:=j 14 (by omega);clear j k;simp only[bm,bp,bw,bC,ar,Act.put,bD,bE,bF,cZ,da,Nat.reduceAdd,Nat.zero_add,m,R];have s:=af (s.out.behind l);have ac:=af S;clear l m R S;refine eL _ rfl _ _ 44 rfl 119 U bY 7 80 Tryz.underlying44 M N Q aq rfl (by decide) _ _ _ rfl s.out.own _ _ 1 1 _ rfl ac.out (qJ _) (by have:=aN.out;omega) (by decide) ?_;intro v9 aB F;have au:Hid (bO 119 7 w1 (.slice none 0 0) aB v9 (done.length+1) (done.flatMap CV.cells++(gD (cY y)).cells)):=s.out.trans F;obtain⟨a8,bh,bb,rfl,_,_⟩:=aH F.own;clear F s;go_wp2;go_roundw;case rel=>exact⟨_,_,_,_,_,_,_,_,done++[gD (cY y)],rfl,rfl,ab.out,V.out.tail,by rw[←aD.out,J.out,List.append_assoc];rfl,by rw[aW,List.flatMap_append,List.flatMap_singleton];exact au.out⟩
        case measure=>simp only[kW];omega
    |cons x ra=>
     obtain⟨G,rfl,cj,b2⟩:=ab.out.head;have E:Hid (wr.cell? G=some (.pointer (some ⟨x.g,0,none⟩))):=T.out.aj cj (fun x=>x);have H:Hid (Mid wr x.g x.nm x.v):=(ab.out.at_ x (by simp)).jW.ao T.out;have aa:Hid (iT w1 (some ⟨x.g,0,none⟩)):=(ab.out.at_ x (by simp)).ptr;have aA:decide ((0:Int)<(P:Int))=true:=cT (by omega);have cC:((P:Int)==0)=false:=iK (by omega);have cv:1≤P:=b2;have cw:(1:Int)≤(P:Int):=by omega
     clear cj;cases rb with
     |nil=>
      obtain rfl:K=0:=aZ.symm;have J:=af (EA (ra:=ra) (rb:=[]) (x:=x) (.inl rfl));have bo:=af (zC (cY x));have aG:=E.out;go_wp2_with(refine aC rfl 106 (.tmp 75) rfl ⟨x.g,2,none⟩ rfl x.nm.cells _ ?zC6 Tryz.underlying106 rfl aT (aR.go ?zE4));case zC6=>exact fun L v I=>by rw[Addr.add_mid];exact H.out.name L v I
      unfold aR;refine dL rfl 119 _ rfl (jz (cY x)).cells.toArray _ (by simp only[List.map_toArray,List.map_cons,List.map_nil];rfl) bo.out (aR.go ?zC8);unfold aR;refine wpList_buildSlice rfl 44 119 1 _ rfl (jz (cY x)).cells.toArray U bY Tryz.underlying44 M N ad.out ae.out (by simp only[List.map_toArray,List.map_cons,List.map_nil];exact ak.out _) ?_;refine cL _ rfl _ _ 44 rfl 119 U bY 7 80 Tryz.underlying44 M N Q aq rfl (by decide) _ _ _ rfl s.out.own 1 (jz (cY x)).cells.toArray _ rfl rfl rfl (qJ _) (by have:=aN.out;omega) (by decide) ?_;intro v9 aB F;clear aG;have au:Hid (bO 119 7 w1 (.slice none 0 0) aB v9 (done.length+1) (done.flatMap CV.cells++(jz (cY x)).cells)):=s.out.trans F;obtain⟨a8,bh,bb,rfl,_,_⟩:=aH F.own;clear F s;go_wp2;go_roundw;case rel=>exact⟨_,_,_,_,_,_,_,_,done++[jz (cY x)],rfl,rfl,ab.out.tail,V.out,by rw[←aD.out,J.out,List.append_assoc];rfl,by rw[aW,List.flatMap_append,List.flatMap_singleton];exact au.out⟩
      case measure=>simp only[kW];omega
     |cons y rb=>
      obtain⟨p,rfl,a5,aL⟩:=V.out.head;have t:Hid (wr.cell? p=some (.pointer (some ⟨y.g,0,none⟩))):=T.out.aj a5 (fun x=>x);have C:Hid (Mid wr y.g y.nm y.v):=(V.out.at_ y (by simp)).jW.ao T.out;have W:Hid (iT w1 (some ⟨y.g,0,none⟩)):=(V.out.at_ y (by simp)).ptr;have cy:decide ((0:Int)<(K:Int))=true:=cT (by omega);have cD:((K:Int)==0)=false:=iK (by omega);have bT:1≤K:=aL;have bU:(1:Int)≤(K:Int):=by omega
      have bv:Hid (x.nm.owner.size≤1099511627776):=ab.out.own x (by simp);have bx:Hid (y.nm.owner.size≤1099511627776):=V.out.own y (by simp);clear a5;by_cases bf:x.g=y.g
      ·have hm:=Gv H.out (by rw[bf];exact C.out);have aI:bP x.nm y.nm=0:=by rw[hm.1];exact ca.refl _
       have I:(x.v==y.v)=true:=by rw[hm.2];exact(Et _ _).2 rfl
       have cl:(x.v.toList==y.v.toList)=true:=by rw[Ig];exact I
       have J:=af (xi (ra:=ra) (rb:=rb) aI I);have Y:decide ((some ⟨x.g,0,none⟩:Option Addr)=some ⟨y.g,0,none⟩)=!false:=by rw[bf];simp
       clear hm aI I bf;go_upto_region 11 with fail;refine ay 8 ah [Is (.slice (some G) P X),Is (.pointer (some G)),Is (.pointer (some ⟨x.g,0,none⟩)),Is (.slice (some p) K O),Is (.pointer (some p)),Is (.pointer (some ⟨y.g,0,none⟩)),Is (.bool false),Is (.bool false)] [] (fun _=>True) (fun _ _=>false) (by kernel_rfl) (by kernel_rfl) (by kernel_rfl) (by kernel_rfl) ⟨Is.ag _,Is.ag _,Is.ag _,Is.ag _,Is.ag _,Is.ag _,Is.ag _,Is.ag _,trivial⟩ trivial (fun _ _ _ _ h=>h) trivial ?_ ?_
       ·refine⟨?zCC,?YA,?YB,?zCD,?YC,?YD,?YE,?YF,trivial⟩;all_goals intro u w' d l j n m k
        all_goals simp only[bm,bp,bw,bC,ar,Act.put,bD,bE,bF,Nat.reduceAdd,Nat.zero_add]
        case' YA=>simp only[show u 0=_ from j 0]
        case YB=>
         simp only[show u 1=_ from j 1];clear j n m k;refine ai ?_;have q:=l.aj E.out (fun x=>x);go_simp;exact⟨_,rfl,al⟩
        case' YC=>simp only[show u 3=_ from j 3]
        case YD=>
         simp only[show u 4=_ from j 4];clear j n m k;refine ai ?_;have q:=l.aj t.out (fun x=>x);go_simp;exact⟨_,rfl,al⟩
        case YE=>
         simp only[show u 2=_ from j 2,show u 5=_ from j 5];clear j n m k;refine ai ?_;have q:=uY (some ⟨x.g,0,none⟩) (some ⟨y.g,0,none⟩) w' (aa.out.ao (T.out.trans l)) (W.out.ao (T.out.trans l)) false Y;go_simp;exact⟨_,rfl,al⟩
        case' YF=>simp only[show u 6=_ from j 6]
        all_goals
         clear j n m k;refine ai ?_;go_simp;exact⟨_,rfl,al⟩
       ·intro u w' l j k;have z:u 7=_:=j 7 (by omega);clear j k;simp only[bm,bp,bw,bC,ar,Act.put,bD,bE,bF,cZ,da,Nat.reduceAdd,Nat.zero_add,z];have o:=af l;clear l z;have s:=af (s.out.behind o.out);have E:Hid (w'.cell? G=some (.pointer (some ⟨x.g,0,none⟩))):=o.out.aj E.out (fun x=>x);have H:Hid (Mid w' x.g x.nm x.v):=H.out.ao o.out;have t:Hid (w'.cell? p=some (.pointer (some ⟨y.g,0,none⟩))):=o.out.aj t.out (fun x=>x);have C:Hid (Mid w' y.g y.nm y.v):=C.out.ao o.out;clear o;generalize w'=wr at*;go_upto_region 15 with fail;refine ay 18 ah [Is (.int .i64 0),Is (.bool false),Is (.bool false),Is (.slice (some G) P X),Is (.pointer (some G)),Is (.pointer (some ⟨x.g,0,none⟩)),Is (.pointer (some ⟨x.g,0,none⟩)),Is (.pointer (some ⟨x.g,7,none⟩)),Is (.string x.v),Is (.slice (some p) K O),Is (.pointer (some p)),Is (.pointer (some ⟨y.g,0,none⟩)),Is (.pointer (some ⟨y.g,0,none⟩)),Is (.pointer (some ⟨y.g,7,none⟩)),Is (.string y.v),Is (.bool false),Is (.bool false),Is (.bool false)] [] (fun _=>True) (fun _ _=>false) (by kernel_rfl) (by kernel_rfl) (by kernel_rfl) (by kernel_rfl) ⟨Is.ag _,Is.ag _,Is.ag _,Is.ag _,Is.ag _,Is.ag _,Is.ag _,Is.ag _,Is.ag _,Is.ag _,Is.ag _,Is.ag _,Is.ag _,Is.ag _,Is.ag _,Is.ag _,Is.ag _,Is.ag _,trivial⟩ trivial (fun _ _ _ _ h=>h) trivial ?_ ?_
        ·refine⟨?zCE,?YG,?YH,?YI,?YJ,?YK,?YL,?YM,?YN,?YO,?zP,?zQ,?zR,?zS,?zT,?zU,?zV,?zW,trivial⟩;all_goals intro u w' d l j n m k
         all_goals simp only[bm,bp,bw,bC,ar,Act.put,bD,bE,bF,Nat.reduceAdd,Nat.zero_add]
         case' YG=>simp only[show u 0=_ from j 0]
         case' YH=>simp only[show u 1=_ from j 1]
         case' YI=>simp only[show u 2=_ from j 2]
         case' YJ=>simp only[show u 3=_ from j 3,show u 2=_ from j 2]
         case YK=>
          simp only[show u 4=_ from j 4,show u 2=_ from j 2];clear j n m k;refine ai ?_;have q:=l.aj E.out (fun x=>x);go_simp;exact⟨_,rfl,al⟩
         case' YL=>simp only[show u 5=_ from j 5,show u 2=_ from j 2]
         case' YM=>simp only[show u 6=_ from j 6,show u 2=_ from j 2]
         case YN=>
          simp only[show u 7=_ from j 7,show u 2=_ from j 2];clear j n m k;refine ai ?_;have q:=(H.out.ao l).val;go_simp;exact⟨_,rfl,al⟩
         case' YO=>simp only[show u 2=_ from j 2]
         case' zP=>simp only[show u 9=_ from j 9,show u 2=_ from j 2]
         case zQ=>
          simp only[show u 10=_ from j 10,show u 2=_ from j 2];clear j n m k;refine ai ?_;have q:=l.aj t.out (fun x=>x);go_simp;exact⟨_,rfl,al⟩
         case' zR=>simp only[show u 11=_ from j 11,show u 2=_ from j 2]
         case' zS=>simp only[show u 12=_ from j 12,show u 2=_ from j 2]
         case zT=>
          simp only[show u 13=_ from j 13,show u 2=_ from j 2];clear j n m k;refine ai ?_;have q:=(C.out.ao l).val;go_simp;exact⟨_,rfl,al⟩
         case' zU=>simp only[show u 8=_ from j 8,show u 14=_ from j 14,show u 2=_ from j 2]
         case' zV=>simp only[show u 2=_ from j 2,show u 15=_ from j 15]
         case' zW=>simp only[show u 16=_ from j 16]
         all_goals
          clear j n m k;refine ai ?_;go_simp;exact⟨_,rfl,al⟩
        ·intro u w' l j k;have z:u 17=_:=j 17 (by omega);clear j k;simp only[bm,bp,bw,bC,ar,Act.put,bD,bE,bF,cZ,da,Nat.reduceAdd,Nat.zero_add,z];have o:=af l;clear l z;have s:=af (s.out.behind o.out);have E:Hid (w'.cell? G=some (.pointer (some ⟨x.g,0,none⟩))):=o.out.aj E.out (fun x=>x);have H:Hid (Mid w' x.g x.nm x.v):=H.out.ao o.out;have t:Hid (w'.cell? p=some (.pointer (some ⟨y.g,0,none⟩))):=o.out.aj t.out (fun x=>x);have C:Hid (Mid w' y.g y.nm y.v):=C.out.ao o.out;clear o;generalize w'=wr at*;go_wp2;go_roundw;case rel=>exact⟨_,_,_,_,_,_,_,_,done,rfl,rfl,ab.out.tail,V.out.tail,by rw[←aD.out,J.out],s.out⟩
         case measure=>simp only[kW];omega
      ·have Y:decide ((some ⟨x.g,0,none⟩:Option Addr)=some ⟨y.g,0,none⟩)=!true:=bZ (fun e=>bf (congrArg Addr.block (Option.some.inj e)));obtain⟨q,b1⟩:∃q,bP x.nm y.nm=q:=⟨_,rfl⟩;have a9:Hid (∀w',Calls Tryz.prog 128 #[.agg x.nm.cells.toArray, .agg y.nm.cells.toArray] w' (aK w' (.int .i64 q))):=fun w'=>by
        rw[←b1];exact fI x.nm y.nm w' bv.out bx.out
       have bz:=af b1;clear b1;by_cases bV:q<0
       ·have cz:decide (q<0)=true:=decide_eq_true bV;have cA:decide (q≤0)=true:=cT (by omega);have cB:decide (0≤q)=false:=bZ (by omega);have J:=af (EA (ra:=ra) (rb:=y::rb) (x:=x) (.inr ⟨y,rb,rfl,by rw[bz.out];exact bV⟩));have bo:=af (zC (cY x));go_upto_region 11 with fail;refine ay 8 ah [Is (.slice (some G) P X),Is (.pointer (some G)),Is (.pointer (some ⟨x.g,0,none⟩)),Is (.slice (some p) K O),Is (.pointer (some p)),Is (.pointer (some ⟨y.g,0,none⟩)),Is (.bool true),Is (.bool true)] [] (fun _=>True) (fun _ _=>false) (by kernel_rfl) (by kernel_rfl) (by kernel_rfl) (by kernel_rfl) ⟨Is.ag _,Is.ag _,Is.ag _,Is.ag _,Is.ag _,Is.ag _,Is.ag _,Is.ag _,trivial⟩ trivial (fun _ _ _ _ h=>h) trivial ?_ ?_
        ·refine⟨?zCF,?YP,?YQ,?zCG,?YR,?YS,?YT,?YU,trivial⟩;all_goals intro u w' d l j n m k
         all_goals simp only[bm,bp,bw,bC,ar,Act.put,bD,bE,bF,Nat.reduceAdd,Nat.zero_add]
         case' YP=>simp only[show u 0=_ from j 0]
         case YQ=>
          simp only[show u 1=_ from j 1];clear j n m k;refine ai ?_;have q:=l.aj E.out (fun x=>x);go_simp;exact⟨_,rfl,al⟩
         case' YR=>simp only[show u 3=_ from j 3]
         case YS=>
          simp only[show u 4=_ from j 4];clear j n m k;refine ai ?_;have q:=l.aj t.out (fun x=>x);go_simp;exact⟨_,rfl,al⟩
         case YT=>
          simp only[show u 2=_ from j 2,show u 5=_ from j 5];clear j n m k;refine ai ?_;have q:=uY (some ⟨x.g,0,none⟩) (some ⟨y.g,0,none⟩) w' (aa.out.ao (T.out.trans l)) (W.out.ao (T.out.trans l)) true Y;go_simp;exact⟨_,rfl,al⟩
         case' YU=>simp only[show u 6=_ from j 6]
         all_goals
          clear j n m k;refine ai ?_;go_simp;exact⟨_,rfl,al⟩
        ·intro u w' l j k;have z:u 7=_:=j 7 (by omega);clear j k;simp only[bm,bp,bw,bC,ar,Act.put,bD,bE,bF,cZ,da,Nat.reduceAdd,Nat.zero_add,z];have o:=af l;clear l z;have s:=af (s.out.behind o.out);have E:Hid (w'.cell? G=some (.pointer (some ⟨x.g,0,none⟩))):=o.out.aj E.out (fun x=>x);have H:Hid (Mid w' x.g x.nm x.v):=H.out.ao o.out;have t:Hid (w'.cell? p=some (.pointer (some ⟨y.g,0,none⟩))):=o.out.aj t.out (fun x=>x);have C:Hid (Mid w' y.g y.nm y.v):=C.out.ao o.out;clear o;generalize w'=wr at*;go_upto_region 12 with fail;refine ay 14 ah [Is (.slice (some G) P X),Is (.pointer (some G)),Is (.pointer (some ⟨x.g,0,none⟩)),Is (.pointer (some ⟨x.g,0,none⟩)),Is (.pointer (some ⟨x.g,2,none⟩)),Is (.agg x.nm.cells.toArray),Is (.slice (some p) K O),Is (.pointer (some p)),Is (.pointer (some ⟨y.g,0,none⟩)),Is (.pointer (some ⟨y.g,0,none⟩)),Is (.pointer (some ⟨y.g,2,none⟩)),Is (.agg y.nm.cells.toArray),Is (.int .i64 q),Is (.int .i64 q)] [] (fun _=>True) (fun _ _=>false) (by kernel_rfl) (by kernel_rfl) (by kernel_rfl) (by kernel_rfl) ⟨Is.ag _,Is.ag _,Is.ag _,Is.ag _,Is.ag _,Is.ag _,Is.ag _,Is.ag _,Is.ag _,Is.ag _,Is.ag _,Is.ag _,Is.ag _,Is.ag _,trivial⟩ trivial (fun _ _ _ _ h=>h) trivial ?_ ?_
         ·refine⟨?zCH,?YV,?YW,?YX,?YY,?YZ,?zCI,?XA,?XB,?XC,?zX,?zY,?zZ,?yA,trivial⟩;all_goals intro u w' d l j n m k
          all_goals simp only[bm,bp,bw,bC,ar,Act.put,bD,bE,bF,Nat.reduceAdd,Nat.zero_add]
          case' YV=>simp only[show u 0=_ from j 0]
          case YW=>
           simp only[show u 1=_ from j 1];clear j n m k;refine ai ?_;have q:=l.aj E.out (fun x=>x);go_simp;exact⟨_,rfl,al⟩
          case' YX=>simp only[show u 2=_ from j 2]
          case' YY=>simp only[show u 3=_ from j 3]
          case YZ=>
           simp only[show u 4=_ from j 4];clear j n m k;refine ai ?_;exact aw _ _ rfl ⟨x.g,2,none⟩ rfl x.nm.cells _ (fun L v I=>by rw[Addr.add_mid];exact(H.out.ao l).name L v I) Tryz.underlying106 rfl aT ⟨_,rfl,al⟩
          case' XA=>simp only[show u 6=_ from j 6]
          case XB=>
           simp only[show u 7=_ from j 7];clear j n m k;refine ai ?_;have q:=l.aj t.out (fun x=>x);go_simp;exact⟨_,rfl,al⟩
          case' XC=>simp only[show u 8=_ from j 8]
          case' zX=>simp only[show u 9=_ from j 9]
          case zY=>
           simp only[show u 10=_ from j 10];clear j n m k;refine ai ?_;exact aw _ _ rfl ⟨y.g,2,none⟩ rfl y.nm.cells _ (fun L v I=>by rw[Addr.add_mid];exact(C.out.ao l).name L v I) Tryz.underlying106 rfl aT ⟨_,rfl,al⟩
          case zZ=>
           simp only[show u 5=_ from j 5,show u 11=_ from j 11];clear j n m k;refine ai ?_;go_simp;refine(a9.out _).mono ?_;rintro e b3⟨rfl,f4⟩;exact⟨_,rfl,f4.bJ,rfl,trivial⟩
          case' yA=>simp only[show u 12=_ from j 12]
          all_goals
           clear j n m k;refine ai ?_;go_simp;exact⟨_,rfl,al⟩
         ·intro u w' l j k;have z:u 13=_:=j 13 (by omega);clear j k;simp only[bm,bp,bw,bC,ar,Act.put,bD,bE,bF,cZ,da,Nat.reduceAdd,Nat.zero_add,z];have o:=af l;clear l z;have s:=af (s.out.behind o.out);have E:Hid (w'.cell? G=some (.pointer (some ⟨x.g,0,none⟩))):=o.out.aj E.out (fun x=>x);have H:Hid (Mid w' x.g x.nm x.v):=H.out.ao o.out;have t:Hid (w'.cell? p=some (.pointer (some ⟨y.g,0,none⟩))):=o.out.aj t.out (fun x=>x);have C:Hid (Mid w' y.g y.nm y.v):=C.out.ao o.out;clear o;generalize w'=wr at*;have aG:=E.out;go_wp2_with(refine aC rfl 106 (.tmp 75) rfl ⟨x.g,2,none⟩ rfl x.nm.cells _ ?zC7 Tryz.underlying106 rfl aT (aR.go ?zE5));case zC7=>exact fun L v I=>by rw[Addr.add_mid];exact H.out.name L v I
          unfold aR;refine dL rfl 119 _ rfl (jz (cY x)).cells.toArray _ (by simp only[List.map_toArray,List.map_cons,List.map_nil];rfl) bo.out (aR.go ?zC9);unfold aR;refine wpList_buildSlice rfl 44 119 1 _ rfl (jz (cY x)).cells.toArray U bY Tryz.underlying44 M N ad.out ae.out (by simp only[List.map_toArray,List.map_cons,List.map_nil];exact ak.out _) ?_;refine cL _ rfl _ _ 44 rfl 119 U bY 7 80 Tryz.underlying44 M N Q aq rfl (by decide) _ _ _ rfl s.out.own 1 (jz (cY x)).cells.toArray _ rfl rfl rfl (qJ _) (by have:=aN.out;omega) (by decide) ?_;intro v9 aB F;clear aG;have au:Hid (bO 119 7 w1 (.slice none 0 0) aB v9 (done.length+1) (done.flatMap CV.cells++(jz (cY x)).cells)):=s.out.trans F;obtain⟨a8,bh,bb,rfl,_,_⟩:=aH F.own;clear F s;go_wp2;go_roundw;case rel=>exact⟨_,_,_,_,_,_,_,_,done++[jz (cY x)],rfl,rfl,ab.out.tail,V.out,by rw[←aD.out,J.out,List.append_assoc];rfl,by rw[aW,List.flatMap_append,List.flatMap_singleton];exact au.out⟩
          case measure=>simp only[kW];omega
       ·have cz:decide (q<0)=false:=decide_eq_false bV;by_cases ci:0<q
        ·have cE:decide (0<q)=true:=decide_eq_true ci;have cA:decide (q≤0)=false:=bZ (by omega);have cB:decide (0≤q)=true:=cT (by omega);have J:=af (Ez (ra:=x::ra) (rb:=rb) (y:=y) (.inr ⟨x,ra,rfl,by rw[bz.out];exact ci⟩));have aM:=af (ux (cY y));go_upto_region 11 with fail;refine ay 8 ah [Is (.slice (some G) P X),Is (.pointer (some G)),Is (.pointer (some ⟨x.g,0,none⟩)),Is (.slice (some p) K O),Is (.pointer (some p)),Is (.pointer (some ⟨y.g,0,none⟩)),Is (.bool true),Is (.bool true)] [] (fun _=>True) (fun _ _=>false) (by kernel_rfl) (by kernel_rfl) (by kernel_rfl) (by kernel_rfl) ⟨Is.ag _,Is.ag _,Is.ag _,Is.ag _,Is.ag _,Is.ag _,Is.ag _,Is.ag _,trivial⟩ trivial (fun _ _ _ _ h=>h) trivial ?_ ?_
         ·refine⟨?zCJ,?XD,?XE,?zD0,?XF,?XG,?XH,?XI,trivial⟩;all_goals intro u w' d l j n m k
          all_goals simp only[bm,bp,bw,bC,ar,Act.put,bD,bE,bF,Nat.reduceAdd,Nat.zero_add]
          case' XD=>simp only[show u 0=_ from j 0]
          case XE=>
           simp only[show u 1=_ from j 1];clear j n m k;refine ai ?_;have q:=l.aj E.out (fun x=>x);go_simp;exact⟨_,rfl,al⟩
          case' XF=>simp only[show u 3=_ from j 3]
          case XG=>
           simp only[show u 4=_ from j 4];clear j n m k;refine ai ?_;have q:=l.aj t.out (fun x=>x);go_simp;exact⟨_,rfl,al⟩
          case XH=>
           simp only[show u 2=_ from j 2,show u 5=_ from j 5];clear j n m k;refine ai ?_;have q:=uY (some ⟨x.g,0,none⟩) (some ⟨y.g,0,none⟩) w' (aa.out.ao (T.out.trans l)) (W.out.ao (T.out.trans l)) true Y;go_simp;exact⟨_,rfl,al⟩
          case' XI=>simp only[show u 6=_ from j 6]
          all_goals
           clear j n m k;refine ai ?_;go_simp;exact⟨_,rfl,al⟩
         ·intro u w' l j k;have z:u 7=_:=j 7 (by omega);clear j k;simp only[bm,bp,bw,bC,ar,Act.put,bD,bE,bF,cZ,da,Nat.reduceAdd,Nat.zero_add,z];have o:=af l;clear l z;have s:=af (s.out.behind o.out);have E:Hid (w'.cell? G=some (.pointer (some ⟨x.g,0,none⟩))):=o.out.aj E.out (fun x=>x);have H:Hid (Mid w' x.g x.nm x.v):=H.out.ao o.out;have t:Hid (w'.cell? p=some (.pointer (some ⟨y.g,0,none⟩))):=o.out.aj t.out (fun x=>x);have C:Hid (Mid w' y.g y.nm y.v):=C.out.ao o.out;clear o;generalize w'=wr at*;go_upto_region 12 with fail;refine ay 14 ah [Is (.slice (some G) P X),Is (.pointer (some G)),Is (.pointer (some ⟨x.g,0,none⟩)),Is (.pointer (some ⟨x.g,0,none⟩)),Is (.pointer (some ⟨x.g,2,none⟩)),Is (.agg x.nm.cells.toArray),Is (.slice (some p) K O),Is (.pointer (some p)),Is (.pointer (some ⟨y.g,0,none⟩)),Is (.pointer (some ⟨y.g,0,none⟩)),Is (.pointer (some ⟨y.g,2,none⟩)),Is (.agg y.nm.cells.toArray),Is (.int .i64 q),Is (.int .i64 q)] [] (fun _=>True) (fun _ _=>false) (by kernel_rfl) (by kernel_rfl) (by kernel_rfl) (by kernel_rfl) ⟨Is.ag _,Is.ag _,Is.ag _,Is.ag _,Is.ag _,Is.ag _,Is.ag _,Is.ag _,Is.ag _,Is.ag _,Is.ag _,Is.ag _,Is.ag _,Is.ag _,trivial⟩ trivial (fun _ _ _ _ h=>h) trivial ?_ ?_
          ·refine⟨?zD1,?XJ,?XK,?XL,?XM,?XN,?zD2,?XO,?XP,?XQ,?yB,?yC,?yD,?yE,trivial⟩;all_goals intro u w' d l j n m k
           all_goals simp only[bm,bp,bw,bC,ar,Act.put,bD,bE,bF,Nat.reduceAdd,Nat.zero_add]
           case' XJ=>simp only[show u 0=_ from j 0]
           case XK=>
            simp only[show u 1=_ from j 1];clear j n m k;refine ai ?_;have q:=l.aj E.out (fun x=>x);go_simp;exact⟨_,rfl,al⟩
           case' XL=>simp only[show u 2=_ from j 2]
           case' XM=>simp only[show u 3=_ from j 3]
           case XN=>
            simp only[show u 4=_ from j 4];clear j n m k;refine ai ?_;exact aw _ _ rfl ⟨x.g,2,none⟩ rfl x.nm.cells _ (fun L v I=>by rw[Addr.add_mid];exact(H.out.ao l).name L v I) Tryz.underlying106 rfl aT ⟨_,rfl,al⟩
           case' XO=>simp only[show u 6=_ from j 6]
           case XP=>
            simp only[show u 7=_ from j 7];clear j n m k;refine ai ?_;have q:=l.aj t.out (fun x=>x);go_simp;exact⟨_,rfl,al⟩
           case' XQ=>simp only[show u 8=_ from j 8]
           case' yB=>simp only[show u 9=_ from j 9]
           case yC=>
            simp only[show u 10=_ from j 10];clear j n m k;refine ai ?_;exact aw _ _ rfl ⟨y.g,2,none⟩ rfl y.nm.cells _ (fun L v I=>by rw[Addr.add_mid];exact(C.out.ao l).name L v I) Tryz.underlying106 rfl aT ⟨_,rfl,al⟩
           case yD=>
            simp only[show u 5=_ from j 5,show u 11=_ from j 11];clear j n m k;refine ai ?_;go_simp;refine(a9.out _).mono ?_;rintro e b3⟨rfl,f4⟩;exact⟨_,rfl,f4.bJ,rfl,trivial⟩
           case' yE=>simp only[show u 12=_ from j 12]
           all_goals
            clear j n m k;refine ai ?_;go_simp;exact⟨_,rfl,al⟩
          ·intro u w' l j k;have z:u 13=_:=j 13 (by omega);clear j k;simp only[bm,bp,bw,bC,ar,Act.put,bD,bE,bF,cZ,da,Nat.reduceAdd,Nat.zero_add,z];have o:=af l;clear l z;have s:=af (s.out.behind o.out);have E:Hid (w'.cell? G=some (.pointer (some ⟨x.g,0,none⟩))):=o.out.aj E.out (fun x=>x);have H:Hid (Mid w' x.g x.nm x.v):=H.out.ao o.out;have t:Hid (w'.cell? p=some (.pointer (some ⟨y.g,0,none⟩))):=o.out.aj t.out (fun x=>x);have C:Hid (Mid w' y.g y.nm y.v):=C.out.ao o.out;clear o;generalize w'=wr at*;go_upto_region 15 with fail;refine ay 18 ah [Is (.int .i64 q),Is (.bool true),Is (.bool true),Is (undef),Is (undef),Is (undef),Is (undef),Is (undef),Is (undef),Is (undef),Is (undef),Is (undef),Is (undef),Is (undef),Is (undef),Is (undef),Is (.bool true),Is (.bool true)] [] (fun _=>True) (fun _ _=>false) (by kernel_rfl) (by kernel_rfl) (by kernel_rfl) (by kernel_rfl) ⟨Is.ag _,Is.ag _,Is.ag _,Is.ag _,Is.ag _,Is.ag _,Is.ag _,Is.ag _,Is.ag _,Is.ag _,Is.ag _,Is.ag _,Is.ag _,Is.ag _,Is.ag _,Is.ag _,Is.ag _,Is.ag _,trivial⟩ trivial (fun _ _ _ _ h=>h) trivial ?_ ?_
           ·refine⟨?zD3,?XR,?XS,?XT,?XU,?XV,?XW,?XX,?XY,?XZ,?yF,?yG,?yH,?yI,?yJ,?yK,?yL,?yM,trivial⟩;all_goals intro u w' d l j n m k
            all_goals simp only[bm,bp,bw,bC,ar,Act.put,bD,bE,bF,Nat.reduceAdd,Nat.zero_add]
            case' XR=>simp only[show u 0=_ from j 0]
            case' XS=>simp only[show u 1=_ from j 1]
            case XT=>simp only[show u 2=_ from j 2];exact .inr ⟨by kernel_rfl,_,rfl,az,rfl,trivial⟩
            case XU=>simp only[show u 2=_ from j 2];exact .inr ⟨by kernel_rfl,_,rfl,az,rfl,trivial⟩
            case XV=>simp only[show u 2=_ from j 2];exact .inr ⟨by kernel_rfl,_,rfl,az,rfl,trivial⟩
            case XW=>simp only[show u 2=_ from j 2];exact .inr ⟨by kernel_rfl,_,rfl,az,rfl,trivial⟩
            case XX=>simp only[show u 2=_ from j 2];exact .inr ⟨by kernel_rfl,_,rfl,az,rfl,trivial⟩
            case XY=>simp only[show u 2=_ from j 2];exact .inr ⟨by kernel_rfl,_,rfl,az,rfl,trivial⟩
            case XZ=>simp only[show u 2=_ from j 2];exact .inr ⟨by kernel_rfl,_,rfl,az,rfl,trivial⟩
            case yF=>simp only[show u 2=_ from j 2];exact .inr ⟨by kernel_rfl,_,rfl,az,rfl,trivial⟩
            case yG=>simp only[show u 2=_ from j 2];exact .inr ⟨by kernel_rfl,_,rfl,az,rfl,trivial⟩
            case yH=>simp only[show u 2=_ from j 2];exact .inr ⟨by kernel_rfl,_,rfl,az,rfl,trivial⟩
            case yI=>simp only[show u 2=_ from j 2];exact .inr ⟨by kernel_rfl,_,rfl,az,rfl,trivial⟩
            case yJ=>simp only[show u 2=_ from j 2];exact .inr ⟨by kernel_rfl,_,rfl,az,rfl,trivial⟩
            case yK=>simp only[show u 2=_ from j 2];exact .inr ⟨by kernel_rfl,_,rfl,az,rfl,trivial⟩
            case' yL=>simp only[show u 2=_ from j 2,show u 15=_ from j 15]
            case' yM=>simp only[show u 16=_ from j 16]
            all_goals
             clear j n m k;refine ai ?_;go_simp;exact⟨_,rfl,al⟩
           ·intro u w' l j k;have z:u 17=_:=j 17 (by omega);clear j k;simp only[bm,bp,bw,bC,ar,Act.put,bD,bE,bF,cZ,da,Nat.reduceAdd,Nat.zero_add,z];have o:=af l;clear l z;have s:=af (s.out.behind o.out);have E:Hid (w'.cell? G=some (.pointer (some ⟨x.g,0,none⟩))):=o.out.aj E.out (fun x=>x);have H:Hid (Mid w' x.g x.nm x.v):=H.out.ao o.out;have t:Hid (w'.cell? p=some (.pointer (some ⟨y.g,0,none⟩))):=o.out.aj t.out (fun x=>x);have C:Hid (Mid w' y.g y.nm y.v):=C.out.ao o.out;clear o;generalize w'=wr at*;go_upto_region 16 with fail;refine ay 15 ah [Is (.slice bn done.length c5),Is (.slice (some p) K O),Is (.pointer (some p)),Is (.pointer (some ⟨y.g,0,none⟩)),Is (.pointer (some ⟨y.g,0,none⟩)),Is (.pointer (some ⟨y.g,2,none⟩)),Is (.agg y.nm.cells.toArray),Is (.slice (some p) K O),Is (.pointer (some p)),Is (.pointer (some ⟨y.g,0,none⟩)),Is (.pointer (some ⟨y.g,0,none⟩)),Is (.pointer (some ⟨y.g,7,none⟩)),Is (.string y.v),Is (.agg (gD (cY y)).cells.toArray),(fun a7 a6=>∃g,a7= .slice (some ⟨g,0,none⟩) 1 1∧Rd a6 (fun _=>True) 7 (some ⟨g,0,none⟩) 1 (gD (cY y)).cells)] [] (fun _=>True) (fun _ _=>false) (by kernel_rfl) (by kernel_rfl) (by kernel_rfl) (by kernel_rfl) ⟨Is.ag _,Is.ag _,Is.ag _,Is.ag _,Is.ag _,Is.ag _,Is.ag _,Is.ag _,Is.ag _,Is.ag _,Is.ag _,Is.ag _,Is.ag _,Is.ag _,fun _ _ _ _ f h=>by obtain⟨g,e,r⟩:=h;exact⟨g,e,r.ao f⟩,trivial⟩ trivial (fun _ _ _ _ h=>h) trivial ?_ ?_
            ·refine⟨?zD4,?zD5,?z0,?z1,?z2,?z3,?z4,?zD6,?z5,?z6,?yN,?yO,?yP,?yQ,?yR,trivial⟩;all_goals intro u w' d l j n m k
             all_goals simp only[bm,bp,bw,bC,ar,Act.put,bD,bE,bF,Nat.reduceAdd,Nat.zero_add]
             case' z0=>simp only[show u 1=_ from j 1]
             case z1=>
              simp only[show u 2=_ from j 2];clear j n m k;refine ai ?_;have q:=l.aj t.out (fun x=>x);go_simp;exact⟨_,rfl,al⟩
             case' z2=>simp only[show u 3=_ from j 3]
             case' z3=>simp only[show u 4=_ from j 4]
             case z4=>
              simp only[show u 5=_ from j 5];clear j n m k;refine ai ?_;exact aw _ _ rfl ⟨y.g,2,none⟩ rfl y.nm.cells _ (fun L v I=>by rw[Addr.add_mid];exact(C.out.ao l).name L v I) Tryz.underlying106 rfl aT ⟨_,rfl,al⟩
             case' z5=>simp only[show u 7=_ from j 7]
             case z6=>
              simp only[show u 8=_ from j 8];clear j n m k;refine ai ?_;have q:=l.aj t.out (fun x=>x);go_simp;exact⟨_,rfl,al⟩
             case' yN=>simp only[show u 9=_ from j 9]
             case' yO=>simp only[show u 10=_ from j 10]
             case yP=>
              simp only[show u 11=_ from j 11];clear j n m k;refine ai ?_;have q:=(C.out.ao l).val;go_simp;exact⟨_,rfl,al⟩
             case yQ=>
              simp only[show u 6=_ from j 6,show u 12=_ from j 12];clear j n m k;refine ai ?_;exact gR 119 _ rfl (gD (cY y)).cells.toArray _ (by simp only[List.map_toArray,List.map_cons,List.map_nil];rfl) aM.out ⟨_,rfl,al⟩
             case yR=>
              simp only[show u 13=_ from j 13];clear j n m k;refine ai ?_;refine wp_buildSlice 44 119 1 _ rfl (gD (cY y)).cells.toArray U bY Tryz.underlying44 M N ad.out ae.out (by simp only[List.map_toArray,List.map_cons,List.map_nil];exact ak.out _) ?_;exact⟨_,rfl,az.alloc _,⟨_,rfl,(tT w' (gD (cY y)).cells.toArray 119 7 1 rfl).any⟩,trivial⟩
             all_goals
              clear j n m k;refine ai ?_;go_simp;exact⟨_,rfl,al⟩
            ·intro u w' l j k;have m:u 0=_:=j 0 (by omega);obtain⟨g9,R,S⟩:=j 14 (by omega);clear j k;simp only[bm,bp,bw,bC,ar,Act.put,bD,bE,bF,cZ,da,Nat.reduceAdd,Nat.zero_add,m,R];have s:=af (s.out.behind l);have ac:=af S;clear l m R S;refine eL _ rfl _ _ 44 rfl 119 U bY 7 80 Tryz.underlying44 M N Q aq rfl (by decide) _ _ _ rfl s.out.own _ _ 1 1 _ rfl ac.out (qJ _) (by have:=aN.out;omega) (by decide) ?_;intro v9 aB F;have au:Hid (bO 119 7 w1 (.slice none 0 0) aB v9 (done.length+1) (done.flatMap CV.cells++(gD (cY y)).cells)):=s.out.trans F;obtain⟨a8,bh,bb,rfl,_,_⟩:=aH F.own;clear F s;go_wp2;go_roundw;case rel=>exact⟨_,_,_,_,_,_,_,_,done++[gD (cY y)],rfl,rfl,ab.out,V.out.tail,by rw[←aD.out,J.out,List.append_assoc];rfl,by rw[aW,List.flatMap_append,List.flatMap_singleton];exact au.out⟩
             case measure=>simp only[kW];omega
        ·obtain rfl:q=0:=by omega
         have aI:bP x.nm y.nm=0:=bz.out;cases I:(x.v==y.v)
         ·have cl:(x.v.toList==y.v.toList)=false:=by rw[Ig];exact I
          have J:=af (Cv (ra:=ra) (rb:=rb) aI I);have aM:=af (ux (cY y));clear I aI;go_upto_region 11 with fail;refine ay 8 ah [Is (.slice (some G) P X),Is (.pointer (some G)),Is (.pointer (some ⟨x.g,0,none⟩)),Is (.slice (some p) K O),Is (.pointer (some p)),Is (.pointer (some ⟨y.g,0,none⟩)),Is (.bool true),Is (.bool true)] [] (fun _=>True) (fun _ _=>false) (by kernel_rfl) (by kernel_rfl) (by kernel_rfl) (by kernel_rfl) ⟨Is.ag _,Is.ag _,Is.ag _,Is.ag _,Is.ag _,Is.ag _,Is.ag _,Is.ag _,trivial⟩ trivial (fun _ _ _ _ h=>h) trivial ?_ ?_
          ·refine⟨?zD7,?z7,?z8,?zD8,?z9,?y0,?y1,?y2,trivial⟩;all_goals intro u w' d l j n m k
           all_goals simp only[bm,bp,bw,bC,ar,Act.put,bD,bE,bF,Nat.reduceAdd,Nat.zero_add]
           case' z7=>simp only[show u 0=_ from j 0]
           case z8=>
            simp only[show u 1=_ from j 1];clear j n m k;refine ai ?_;have q:=l.aj E.out (fun x=>x);go_simp;exact⟨_,rfl,al⟩
           case' z9=>simp only[show u 3=_ from j 3]
           case y0=>
            simp only[show u 4=_ from j 4];clear j n m k;refine ai ?_;have q:=l.aj t.out (fun x=>x);go_simp;exact⟨_,rfl,al⟩
           case y1=>
            simp only[show u 2=_ from j 2,show u 5=_ from j 5];clear j n m k;refine ai ?_;have q:=uY (some ⟨x.g,0,none⟩) (some ⟨y.g,0,none⟩) w' (aa.out.ao (T.out.trans l)) (W.out.ao (T.out.trans l)) true Y;go_simp;exact⟨_,rfl,al⟩
           case' y2=>simp only[show u 6=_ from j 6]
           all_goals
            clear j n m k;refine ai ?_;go_simp;exact⟨_,rfl,al⟩
          ·intro u w' l j k;have z:u 7=_:=j 7 (by omega);clear j k;simp only[bm,bp,bw,bC,ar,Act.put,bD,bE,bF,cZ,da,Nat.reduceAdd,Nat.zero_add,z];have o:=af l;clear l z;have s:=af (s.out.behind o.out);have E:Hid (w'.cell? G=some (.pointer (some ⟨x.g,0,none⟩))):=o.out.aj E.out (fun x=>x);have H:Hid (Mid w' x.g x.nm x.v):=H.out.ao o.out;have t:Hid (w'.cell? p=some (.pointer (some ⟨y.g,0,none⟩))):=o.out.aj t.out (fun x=>x);have C:Hid (Mid w' y.g y.nm y.v):=C.out.ao o.out;clear o;generalize w'=wr at*;go_upto_region 12 with fail;refine ay 14 ah [Is (.slice (some G) P X),Is (.pointer (some G)),Is (.pointer (some ⟨x.g,0,none⟩)),Is (.pointer (some ⟨x.g,0,none⟩)),Is (.pointer (some ⟨x.g,2,none⟩)),Is (.agg x.nm.cells.toArray),Is (.slice (some p) K O),Is (.pointer (some p)),Is (.pointer (some ⟨y.g,0,none⟩)),Is (.pointer (some ⟨y.g,0,none⟩)),Is (.pointer (some ⟨y.g,2,none⟩)),Is (.agg y.nm.cells.toArray),Is (.int .i64 0),Is (.int .i64 0)] [] (fun _=>True) (fun _ _=>false) (by kernel_rfl) (by kernel_rfl) (by kernel_rfl) (by kernel_rfl) ⟨Is.ag _,Is.ag _,Is.ag _,Is.ag _,Is.ag _,Is.ag _,Is.ag _,Is.ag _,Is.ag _,Is.ag _,Is.ag _,Is.ag _,Is.ag _,Is.ag _,trivial⟩ trivial (fun _ _ _ _ h=>h) trivial ?_ ?_
           ·refine⟨?zD9,?y3,?y4,?y5,?y6,?y7,?zDA,?y8,?y9,?x0,?yS,?yT,?yU,?yV,trivial⟩;all_goals intro u w' d l j n m k
            all_goals simp only[bm,bp,bw,bC,ar,Act.put,bD,bE,bF,Nat.reduceAdd,Nat.zero_add]
            case' y3=>simp only[show u 0=_ from j 0]
            case y4=>
             simp only[show u 1=_ from j 1];clear j n m k;refine ai ?_;have q:=l.aj E.out (fun x=>x);go_simp;exact⟨_,rfl,al⟩
            case' y5=>simp only[show u 2=_ from j 2]
            case' y6=>simp only[show u 3=_ from j 3]
            case y7=>
             simp only[show u 4=_ from j 4];clear j n m k;refine ai ?_;exact aw _ _ rfl ⟨x.g,2,none⟩ rfl x.nm.cells _ (fun L v I=>by rw[Addr.add_mid];exact(H.out.ao l).name L v I) Tryz.underlying106 rfl aT ⟨_,rfl,al⟩
            case' y8=>simp only[show u 6=_ from j 6]
            case y9=>
             simp only[show u 7=_ from j 7];clear j n m k;refine ai ?_;have q:=l.aj t.out (fun x=>x);go_simp;exact⟨_,rfl,al⟩
            case' x0=>simp only[show u 8=_ from j 8]
            case' yS=>simp only[show u 9=_ from j 9]
            case yT=>
             simp only[show u 10=_ from j 10];clear j n m k;refine ai ?_;exact aw _ _ rfl ⟨y.g,2,none⟩ rfl y.nm.cells _ (fun L v I=>by rw[Addr.add_mid];exact(C.out.ao l).name L v I) Tryz.underlying106 rfl aT ⟨_,rfl,al⟩
            case yU=>
             simp only[show u 5=_ from j 5,show u 11=_ from j 11];clear j n m k;refine ai ?_;go_simp;refine(a9.out _).mono ?_;rintro e b3⟨rfl,f4⟩;exact⟨_,rfl,f4.bJ,rfl,trivial⟩
            case' yV=>simp only[show u 12=_ from j 12]
            all_goals
             clear j n m k;refine ai ?_;go_simp;exact⟨_,rfl,al⟩
           ·intro u w' l j k;have z:u 13=_:=j 13 (by omega);clear j k;simp only[bm,bp,bw,bC,ar,Act.put,bD,bE,bF,cZ,da,Nat.reduceAdd,Nat.zero_add,z];have o:=af l;clear l z;have s:=af (s.out.behind o.out);have E:Hid (w'.cell? G=some (.pointer (some ⟨x.g,0,none⟩))):=o.out.aj E.out (fun x=>x);have H:Hid (Mid w' x.g x.nm x.v):=H.out.ao o.out;have t:Hid (w'.cell? p=some (.pointer (some ⟨y.g,0,none⟩))):=o.out.aj t.out (fun x=>x);have C:Hid (Mid w' y.g y.nm y.v):=C.out.ao o.out;clear o;generalize w'=wr at*;go_upto_region 15 with fail;refine ay 18 ah [Is (.int .i64 0),Is (.bool false),Is (.bool false),Is (.slice (some G) P X),Is (.pointer (some G)),Is (.pointer (some ⟨x.g,0,none⟩)),Is (.pointer (some ⟨x.g,0,none⟩)),Is (.pointer (some ⟨x.g,7,none⟩)),Is (.string x.v),Is (.slice (some p) K O),Is (.pointer (some p)),Is (.pointer (some ⟨y.g,0,none⟩)),Is (.pointer (some ⟨y.g,0,none⟩)),Is (.pointer (some ⟨y.g,7,none⟩)),Is (.string y.v),Is (.bool true),Is (.bool true),Is (.bool true)] [] (fun _=>True) (fun _ _=>false) (by kernel_rfl) (by kernel_rfl) (by kernel_rfl) (by kernel_rfl) ⟨Is.ag _,Is.ag _,Is.ag _,Is.ag _,Is.ag _,Is.ag _,Is.ag _,Is.ag _,Is.ag _,Is.ag _,Is.ag _,Is.ag _,Is.ag _,Is.ag _,Is.ag _,Is.ag _,Is.ag _,Is.ag _,trivial⟩ trivial (fun _ _ _ _ h=>h) trivial ?_ ?_
            ·refine⟨?zDB,?x1,?x2,?x3,?x4,?x5,?x6,?x7,?x8,?x9,?yW,?yX,?yY,?yZ,?xA,?xB,?xC,?xD,trivial⟩;all_goals intro u w' d l j n m k
             all_goals simp only[bm,bp,bw,bC,ar,Act.put,bD,bE,bF,Nat.reduceAdd,Nat.zero_add]
             case' x1=>simp only[show u 0=_ from j 0]
             case' x2=>simp only[show u 1=_ from j 1]
             case' x3=>simp only[show u 2=_ from j 2]
             case' x4=>simp only[show u 3=_ from j 3,show u 2=_ from j 2]
             case x5=>
              simp only[show u 4=_ from j 4,show u 2=_ from j 2];clear j n m k;refine ai ?_;have q:=l.aj E.out (fun x=>x);go_simp;exact⟨_,rfl,al⟩
             case' x6=>simp only[show u 5=_ from j 5,show u 2=_ from j 2]
             case' x7=>simp only[show u 6=_ from j 6,show u 2=_ from j 2]
             case x8=>
              simp only[show u 7=_ from j 7,show u 2=_ from j 2];clear j n m k;refine ai ?_;have q:=(H.out.ao l).val;go_simp;exact⟨_,rfl,al⟩
             case' x9=>simp only[show u 2=_ from j 2]
             case' yW=>simp only[show u 9=_ from j 9,show u 2=_ from j 2]
             case yX=>
              simp only[show u 10=_ from j 10,show u 2=_ from j 2];clear j n m k;refine ai ?_;have q:=l.aj t.out (fun x=>x);go_simp;exact⟨_,rfl,al⟩
             case' yY=>simp only[show u 11=_ from j 11,show u 2=_ from j 2]
             case' yZ=>simp only[show u 12=_ from j 12,show u 2=_ from j 2]
             case xA=>
              simp only[show u 13=_ from j 13,show u 2=_ from j 2];clear j n m k;refine ai ?_;have q:=(C.out.ao l).val;go_simp;exact⟨_,rfl,al⟩
             case' xB=>simp only[show u 8=_ from j 8,show u 14=_ from j 14,show u 2=_ from j 2]
             case' xC=>simp only[show u 2=_ from j 2,show u 15=_ from j 15]
             case' xD=>simp only[show u 16=_ from j 16]
             all_goals
              clear j n m k;refine ai ?_;go_simp;exact⟨_,rfl,al⟩
            ·intro u w' l j k;have z:u 17=_:=j 17 (by omega);clear j k;simp only[bm,bp,bw,bC,ar,Act.put,bD,bE,bF,cZ,da,Nat.reduceAdd,Nat.zero_add,z];have o:=af l;clear l z;have s:=af (s.out.behind o.out);have E:Hid (w'.cell? G=some (.pointer (some ⟨x.g,0,none⟩))):=o.out.aj E.out (fun x=>x);have H:Hid (Mid w' x.g x.nm x.v):=H.out.ao o.out;have t:Hid (w'.cell? p=some (.pointer (some ⟨y.g,0,none⟩))):=o.out.aj t.out (fun x=>x);have C:Hid (Mid w' y.g y.nm y.v):=C.out.ao o.out;clear o;generalize w'=wr at*;go_upto_region 16 with fail;refine ay 15 ah [Is (.slice bn done.length c5),Is (.slice (some p) K O),Is (.pointer (some p)),Is (.pointer (some ⟨y.g,0,none⟩)),Is (.pointer (some ⟨y.g,0,none⟩)),Is (.pointer (some ⟨y.g,2,none⟩)),Is (.agg y.nm.cells.toArray),Is (.slice (some p) K O),Is (.pointer (some p)),Is (.pointer (some ⟨y.g,0,none⟩)),Is (.pointer (some ⟨y.g,0,none⟩)),Is (.pointer (some ⟨y.g,7,none⟩)),Is (.string y.v),Is (.agg (gD (cY y)).cells.toArray),(fun a7 a6=>∃g,a7= .slice (some ⟨g,0,none⟩) 1 1∧Rd a6 (fun _=>True) 7 (some ⟨g,0,none⟩) 1 (gD (cY y)).cells)] [] (fun _=>True) (fun _ _=>false) (by kernel_rfl) (by kernel_rfl) (by kernel_rfl) (by kernel_rfl) ⟨Is.ag _,Is.ag _,Is.ag _,Is.ag _,Is.ag _,Is.ag _,Is.ag _,Is.ag _,Is.ag _,Is.ag _,Is.ag _,Is.ag _,Is.ag _,Is.ag _,fun _ _ _ _ f h=>by obtain⟨g,e,r⟩:=h;exact⟨g,e,r.ao f⟩,trivial⟩ trivial (fun _ _ _ _ h=>h) trivial ?_ ?_
             ·refine⟨?zDC,?zDD,?zA0,?zA1,?zA2,?zA3,?zA4,?zDE,?zA5,?zA6,?xE,?xF,?xG,?xH,?xI,trivial⟩;all_goals intro u w' d l j n m k
              all_goals simp only[bm,bp,bw,bC,ar,Act.put,bD,bE,bF,Nat.reduceAdd,Nat.zero_add]
              case' zA0=>simp only[show u 1=_ from j 1]
              case zA1=>
               simp only[show u 2=_ from j 2];clear j n m k;refine ai ?_;have q:=l.aj t.out (fun x=>x);go_simp;exact⟨_,rfl,al⟩
              case' zA2=>simp only[show u 3=_ from j 3]
              case' zA3=>simp only[show u 4=_ from j 4]
              case zA4=>
               simp only[show u 5=_ from j 5];clear j n m k;refine ai ?_;exact aw _ _ rfl ⟨y.g,2,none⟩ rfl y.nm.cells _ (fun L v I=>by rw[Addr.add_mid];exact(C.out.ao l).name L v I) Tryz.underlying106 rfl aT ⟨_,rfl,al⟩
              case' zA5=>simp only[show u 7=_ from j 7]
              case zA6=>
               simp only[show u 8=_ from j 8];clear j n m k;refine ai ?_;have q:=l.aj t.out (fun x=>x);go_simp;exact⟨_,rfl,al⟩
              case' xE=>simp only[show u 9=_ from j 9]
              case' xF=>simp only[show u 10=_ from j 10]
              case xG=>
               simp only[show u 11=_ from j 11];clear j n m k;refine ai ?_;have q:=(C.out.ao l).val;go_simp;exact⟨_,rfl,al⟩
              case xH=>
               simp only[show u 6=_ from j 6,show u 12=_ from j 12];clear j n m k;refine ai ?_;exact gR 119 _ rfl (gD (cY y)).cells.toArray _ (by simp only[List.map_toArray,List.map_cons,List.map_nil];rfl) aM.out ⟨_,rfl,al⟩
              case xI=>
               simp only[show u 13=_ from j 13];clear j n m k;refine ai ?_;refine wp_buildSlice 44 119 1 _ rfl (gD (cY y)).cells.toArray U bY Tryz.underlying44 M N ad.out ae.out (by simp only[List.map_toArray,List.map_cons,List.map_nil];exact ak.out _) ?_;exact⟨_,rfl,az.alloc _,⟨_,rfl,(tT w' (gD (cY y)).cells.toArray 119 7 1 rfl).any⟩,trivial⟩
              all_goals
               clear j n m k;refine ai ?_;go_simp;exact⟨_,rfl,al⟩
             ·intro u w' l j k;have m:u 0=_:=j 0 (by omega);obtain⟨g9,R,S⟩:=j 14 (by omega);clear j k;simp only[bm,bp,bw,bC,ar,Act.put,bD,bE,bF,cZ,da,Nat.reduceAdd,Nat.zero_add,m,R];have s:=af (s.out.behind l);have ac:=af S;clear l m R S;refine eL _ rfl _ _ 44 rfl 119 U bY 7 80 Tryz.underlying44 M N Q aq rfl (by decide) _ _ _ rfl s.out.own _ _ 1 1 _ rfl ac.out (qJ _) (by have:=aN.out;omega) (by decide) ?_;intro v9 aB F;have au:Hid (bO 119 7 w1 (.slice none 0 0) aB v9 (done.length+1) (done.flatMap CV.cells++(gD (cY y)).cells)):=s.out.trans F;obtain⟨a8,bh,bb,rfl,_,_⟩:=aH F.own;clear F s;go_wp2;go_roundw;case rel=>exact⟨_,_,_,_,_,_,_,_,done++[gD (cY y)],rfl,rfl,ab.out.tail,V.out.tail,by rw[←aD.out,J.out,List.append_assoc];rfl,by rw[aW,List.flatMap_append,List.flatMap_singleton];exact au.out⟩
              case measure=>simp only[kW];omega
         ·have cl:(x.v.toList==y.v.toList)=true:=by rw[Ig];exact I
          have J:=af (xi (ra:=ra) (rb:=rb) aI I);clear I aI;go_upto_region 11 with fail;refine ay 8 ah [Is (.slice (some G) P X),Is (.pointer (some G)),Is (.pointer (some ⟨x.g,0,none⟩)),Is (.slice (some p) K O),Is (.pointer (some p)),Is (.pointer (some ⟨y.g,0,none⟩)),Is (.bool true),Is (.bool true)] [] (fun _=>True) (fun _ _=>false) (by kernel_rfl) (by kernel_rfl) (by kernel_rfl) (by kernel_rfl) ⟨Is.ag _,Is.ag _,Is.ag _,Is.ag _,Is.ag _,Is.ag _,Is.ag _,Is.ag _,trivial⟩ trivial (fun _ _ _ _ h=>h) trivial ?_ ?_
          ·refine⟨?zDF,?zA7,?zA8,?zDG,?zA9,?zAA,?zAB,?zAC,trivial⟩;all_goals intro u w' d l j n m k
           all_goals simp only[bm,bp,bw,bC,ar,Act.put,bD,bE,bF,Nat.reduceAdd,Nat.zero_add]
           case' zA7=>simp only[show u 0=_ from j 0]
           case zA8=>
            simp only[show u 1=_ from j 1];clear j n m k;refine ai ?_;have q:=l.aj E.out (fun x=>x);go_simp;exact⟨_,rfl,al⟩
           case' zA9=>simp only[show u 3=_ from j 3]
           case zAA=>
            simp only[show u 4=_ from j 4];clear j n m k;refine ai ?_;have q:=l.aj t.out (fun x=>x);go_simp;exact⟨_,rfl,al⟩
           case zAB=>
            simp only[show u 2=_ from j 2,show u 5=_ from j 5];clear j n m k;refine ai ?_;have q:=uY (some ⟨x.g,0,none⟩) (some ⟨y.g,0,none⟩) w' (aa.out.ao (T.out.trans l)) (W.out.ao (T.out.trans l)) true Y;go_simp;exact⟨_,rfl,al⟩
           case' zAC=>simp only[show u 6=_ from j 6]
           all_goals
            clear j n m k;refine ai ?_;go_simp;exact⟨_,rfl,al⟩
          ·intro u w' l j k;have z:u 7=_:=j 7 (by omega);clear j k;simp only[bm,bp,bw,bC,ar,Act.put,bD,bE,bF,cZ,da,Nat.reduceAdd,Nat.zero_add,z];have o:=af l;clear l z;have s:=af (s.out.behind o.out);have E:Hid (w'.cell? G=some (.pointer (some ⟨x.g,0,none⟩))):=o.out.aj E.out (fun x=>x);have H:Hid (Mid w' x.g x.nm x.v):=H.out.ao o.out;have t:Hid (w'.cell? p=some (.pointer (some ⟨y.g,0,none⟩))):=o.out.aj t.out (fun x=>x);have C:Hid (Mid w' y.g y.nm y.v):=C.out.ao o.out;clear o;generalize w'=wr at*;go_upto_region 12 with fail;refine ay 14 ah [Is (.slice (some G) P X),Is (.pointer (some G)),Is (.pointer (some ⟨x.g,0,none⟩)),Is (.pointer (some ⟨x.g,0,none⟩)),Is (.pointer (some ⟨x.g,2,none⟩)),Is (.agg x.nm.cells.toArray),Is (.slice (some p) K O),Is (.pointer (some p)),Is (.pointer (some ⟨y.g,0,none⟩)),Is (.pointer (some ⟨y.g,0,none⟩)),Is (.pointer (some ⟨y.g,2,none⟩)),Is (.agg y.nm.cells.toArray),Is (.int .i64 0),Is (.int .i64 0)] [] (fun _=>True) (fun _ _=>false) (by kernel_rfl) (by kernel_rfl) (by kernel_rfl) (by kernel_rfl) ⟨Is.ag _,Is.ag _,Is.ag _,Is.ag _,Is.ag _,Is.ag _,Is.ag _,Is.ag _,Is.ag _,Is.ag _,Is.ag _,Is.ag _,Is.ag _,Is.ag _,trivial⟩ trivial (fun _ _ _ _ h=>h) trivial ?_ ?_
           ·refine⟨?zDH,?zAD,?zAE,?zAF,?zAG,?zAH,?zDI,?zAI,?zAJ,?zB0,?xJ,?xK,?xL,?xM,trivial⟩;all_goals intro u w' d l j n m k
            all_goals simp only[bm,bp,bw,bC,ar,Act.put,bD,bE,bF,Nat.reduceAdd,Nat.zero_add]
            case' zAD=>simp only[show u 0=_ from j 0]
            case zAE=>
             simp only[show u 1=_ from j 1];clear j n m k;refine ai ?_;have q:=l.aj E.out (fun x=>x);go_simp;exact⟨_,rfl,al⟩
            case' zAF=>simp only[show u 2=_ from j 2]
            case' zAG=>simp only[show u 3=_ from j 3]
            case zAH=>
             simp only[show u 4=_ from j 4];clear j n m k;refine ai ?_;exact aw _ _ rfl ⟨x.g,2,none⟩ rfl x.nm.cells _ (fun L v I=>by rw[Addr.add_mid];exact(H.out.ao l).name L v I) Tryz.underlying106 rfl aT ⟨_,rfl,al⟩
            case' zAI=>simp only[show u 6=_ from j 6]
            case zAJ=>
             simp only[show u 7=_ from j 7];clear j n m k;refine ai ?_;have q:=l.aj t.out (fun x=>x);go_simp;exact⟨_,rfl,al⟩
            case' zB0=>simp only[show u 8=_ from j 8]
            case' xJ=>simp only[show u 9=_ from j 9]
            case xK=>
             simp only[show u 10=_ from j 10];clear j n m k;refine ai ?_;exact aw _ _ rfl ⟨y.g,2,none⟩ rfl y.nm.cells _ (fun L v I=>by rw[Addr.add_mid];exact(C.out.ao l).name L v I) Tryz.underlying106 rfl aT ⟨_,rfl,al⟩
            case xL=>
             simp only[show u 5=_ from j 5,show u 11=_ from j 11];clear j n m k;refine ai ?_;go_simp;refine(a9.out _).mono ?_;rintro e b3⟨rfl,f4⟩;exact⟨_,rfl,f4.bJ,rfl,trivial⟩
            case' xM=>simp only[show u 12=_ from j 12]
            all_goals
             clear j n m k;refine ai ?_;go_simp;exact⟨_,rfl,al⟩
           ·intro u w' l j k;have z:u 13=_:=j 13 (by omega);clear j k;simp only[bm,bp,bw,bC,ar,Act.put,bD,bE,bF,cZ,da,Nat.reduceAdd,Nat.zero_add,z];have o:=af l;clear l z;have s:=af (s.out.behind o.out);have E:Hid (w'.cell? G=some (.pointer (some ⟨x.g,0,none⟩))):=o.out.aj E.out (fun x=>x);have H:Hid (Mid w' x.g x.nm x.v):=H.out.ao o.out;have t:Hid (w'.cell? p=some (.pointer (some ⟨y.g,0,none⟩))):=o.out.aj t.out (fun x=>x);have C:Hid (Mid w' y.g y.nm y.v):=C.out.ao o.out;clear o;generalize w'=wr at*;go_upto_region 15 with fail;refine ay 18 ah [Is (.int .i64 0),Is (.bool false),Is (.bool false),Is (.slice (some G) P X),Is (.pointer (some G)),Is (.pointer (some ⟨x.g,0,none⟩)),Is (.pointer (some ⟨x.g,0,none⟩)),Is (.pointer (some ⟨x.g,7,none⟩)),Is (.string x.v),Is (.slice (some p) K O),Is (.pointer (some p)),Is (.pointer (some ⟨y.g,0,none⟩)),Is (.pointer (some ⟨y.g,0,none⟩)),Is (.pointer (some ⟨y.g,7,none⟩)),Is (.string y.v),Is (.bool false),Is (.bool false),Is (.bool false)] [] (fun _=>True) (fun _ _=>false) (by kernel_rfl) (by kernel_rfl) (by kernel_rfl) (by kernel_rfl) ⟨Is.ag _,Is.ag _,Is.ag _,Is.ag _,Is.ag _,Is.ag _,Is.ag _,Is.ag _,Is.ag _,Is.ag _,Is.ag _,Is.ag _,Is.ag _,Is.ag _,Is.ag _,Is.ag _,Is.ag _,Is.ag _,trivial⟩ trivial (fun _ _ _ _ h=>h) trivial ?_ ?_
            ·refine⟨?zDJ,?zB1,?zB2,?zB3,?zB4,?zB5,?zB6,?zB7,?zB8,?zB9,?xN,?xO,?xP,?xQ,?xR,?xS,?xT,?xU,trivial⟩;all_goals intro u w' d l j n m k
             all_goals simp only[bm,bp,bw,bC,ar,Act.put,bD,bE,bF,Nat.reduceAdd,Nat.zero_add]
             case' zB1=>simp only[show u 0=_ from j 0]
             case' zB2=>simp only[show u 1=_ from j 1]
             case' zB3=>simp only[show u 2=_ from j 2]
             case' zB4=>simp only[show u 3=_ from j 3,show u 2=_ from j 2]
             case zB5=>
              simp only[show u 4=_ from j 4,show u 2=_ from j 2];clear j n m k;refine ai ?_;have q:=l.aj E.out (fun x=>x);go_simp;exact⟨_,rfl,al⟩
             case' zB6=>simp only[show u 5=_ from j 5,show u 2=_ from j 2]
             case' zB7=>simp only[show u 6=_ from j 6,show u 2=_ from j 2]
             case zB8=>
              simp only[show u 7=_ from j 7,show u 2=_ from j 2];clear j n m k;refine ai ?_;have q:=(H.out.ao l).val;go_simp;exact⟨_,rfl,al⟩
             case' zB9=>simp only[show u 2=_ from j 2]
             case' xN=>simp only[show u 9=_ from j 9,show u 2=_ from j 2]
             case xO=>
              simp only[show u 10=_ from j 10,show u 2=_ from j 2];clear j n m k;refine ai ?_;have q:=l.aj t.out (fun x=>x);go_simp;exact⟨_,rfl,al⟩
             case' xP=>simp only[show u 11=_ from j 11,show u 2=_ from j 2]
             case' xQ=>simp only[show u 12=_ from j 12,show u 2=_ from j 2]
             case xR=>
              simp only[show u 13=_ from j 13,show u 2=_ from j 2];clear j n m k;refine ai ?_;have q:=(C.out.ao l).val;go_simp;exact⟨_,rfl,al⟩
             case' xS=>simp only[show u 8=_ from j 8,show u 14=_ from j 14,show u 2=_ from j 2]
             case' xT=>simp only[show u 2=_ from j 2,show u 15=_ from j 15]
             case' xU=>simp only[show u 16=_ from j 16]
             all_goals
              clear j n m k;refine ai ?_;go_simp;exact⟨_,rfl,al⟩
            ·intro u w' l j k;have z:u 17=_:=j 17 (by omega);clear j k;simp only[bm,bp,bw,bC,ar,Act.put,bD,bE,bF,cZ,da,Nat.reduceAdd,Nat.zero_add,z];have o:=af l;clear l z;have s:=af (s.out.behind o.out);have E:Hid (w'.cell? G=some (.pointer (some ⟨x.g,0,none⟩))):=o.out.aj E.out (fun x=>x);have H:Hid (Mid w' x.g x.nm x.v):=H.out.ao o.out;have t:Hid (w'.cell? p=some (.pointer (some ⟨y.g,0,none⟩))):=o.out.aj t.out (fun x=>x);have C:Hid (Mid w' y.g y.nm y.v):=C.out.ao o.out;clear o;generalize w'=wr at*;go_wp2;go_roundw;case rel=>exact⟨_,_,_,_,_,_,_,_,done,rfl,rfl,ab.out.tail,V.out.tail,by rw[←aD.out,J.out],s.out⟩
             case measure=>simp only[kW];omega
end Go.Proofs.YtphjagkehiklkaaGreatDoor
