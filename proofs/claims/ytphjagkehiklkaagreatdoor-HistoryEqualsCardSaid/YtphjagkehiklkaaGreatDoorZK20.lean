/- Texts. -/
import Derived.Test.YtphjagkehiklkaaGreatDoorZK08
set_option linter.unusedVariables false
set_option linter.unusedSimpArgs false
set_option maxRecDepth 100000
set_option maxHeartbeats 8000000
namespace Go.Proofs.YtphjagkehiklkaaGreatDoor
open Go.RowKit Go.Shelf
theorem vB(y:Ent):Tryz.prog.built 119 [(0, .agg y.1.cells.toArray),(1, .string y.2)]=some (gX y).cells.toArray:=by kernel_rfl
theorem AV(x:Ent):Tryz.prog.built 119 [(0, .agg x.1.cells.toArray),(2, .bool true)]=some (jN x).cells.toArray:=by kernel_rfl
def Gh(w:World)(D:List CV)(e:Ending)(w':World):Prop:=∃v,e= .returned v∧bK 119 7 w (.slice none 0 0) w' v D.length (D.flatMap CV.cells)
theorem lW.ao{w w':World}{x:Nd}(h:lW w x)(g:Fr ag w w'):lW w' x:=by
 obtain⟨a,b,c,d,e,f⟩:=h;exact⟨a,b,c,d,e,f.fr g (fun x=>x)⟩
def dc(x:Nd):Ent:=(x.nm,x.v)
def lK:Value→Nat
 | .slice _ n _=>n
 |_=>0
structure PL(w:World)(A:Option Addr)(n c:Nat)(L:List Nd):Prop where
 rd:Rd w (fun _=>True) 1 A n (L.map Cw)
 len:L.length=n
 cap:n≤c
 aP:c≤maxLen
 at_:∀x∈L,lW w x
 own:∀x∈L,x.nm.owner.size≤1099511627776
theorem PL.ao{w w':World}{A:Option Addr}{n c:Nat}{L:List Nd}(h:PL w A n c L)(a:Fr ag w w'):PL w' A n c L:=⟨h.rd.ao a,h.len,h.cap,h.aP,fun x b=>(h.at_ x b).ao a,h.own⟩
theorem PL.head{w:World}{A:Option Addr}{n c:Nat}{x:Nd}{L:List Nd}(h:PL w A n c (x::L)):∃a,A=some a∧w.cell? a=some (.pointer (some ⟨x.g,0,none⟩))∧0<n:=by
 have b:0<n:=by have:=h.len;simp only[List.length_cons]at this;omega
 obtain⟨a,e,_,d⟩:=h.rd.2 b;exact⟨a,e,by have q:=d 0 _ rfl;simpa[Addr.add,Cw]using q,b⟩
theorem PL.tail{w:World}{a:Addr}{n c:Nat}{x:Nd}{L:List Nd}(h:PL w (some a) n c (x::L)):PL w (if c=1 then some a else some (a.add 1)) (n-1) (c-1) L:=by
 have k:=h.len;simp only[List.length_cons]at k;refine⟨⟨by rw[List.length_map];omega,fun l=>?_⟩,by omega,by have:=h.cap;omega,by have:=h.aP;omega,fun y d=>h.at_ y (by simp[d]),fun y d=>h.own y (by simp[d])⟩;have b:¬c=1:=by have:=h.cap;omega
 obtain⟨f,e,_,g⟩:=h.rd.2 (by omega);cases e;rw[if_neg b];refine⟨_,rfl,trivial,fun j u i=>?_⟩;have q:=g (1+j) u (by rw[List.map_cons,Nat.add_comm,List.getElem?_cons_succ];exact i);rw[iT];exact q
def jk(w:World)(a:Option Addr):Prop:=a=none∨∃g cs,a=some ⟨g,0,none⟩∧aq w g 177 cs
theorem jk.ao{w w':World}{a:Option Addr}(h:jk w a)(c:Fr ag w w'):jk w' a:=by
 rcases h with h|⟨g,cs,h,b⟩;·exact .inl h
 ·exact .inr ⟨g,cs,h,b.fr c (fun x=>x)⟩
theorem lW.ptr{w:World}{x:Nd}(h:lW w x):jk w (some ⟨x.g,0,none⟩):=by
 obtain⟨a,b,c,d,e,f⟩:=h;exact .inr ⟨_,_,rfl,f⟩
theorem cm.ptr{w:World}:∀{a:Option Addr}{t:Tr},cm w a t→jk w a
 |_, .leaf,h=> .inl h
 |_, .node _ _ _ _,⟨g,_,_,e,_,_,b⟩=> .inr ⟨g,_,e,b⟩
theorem BQ:(Tryz.prog.info? 177).map (·.size)=some 11:=by kernel_rfl
theorem Bv(a f:Option Addr)(w:World)(p:jk w a)(l:jk w f):(Op.equal 172 (.pointer a) (.pointer f)).run Tryz.prog w= .ok (decide (a=f)) w:=by
 have c:=Tryz.underlying172;obtain⟨j,n,s⟩:∃j,Tryz.prog.info? 177=some j∧j.size=11:=by
  have h:=BQ;cases o:Tryz.prog.info? 177 with
  |none=>rw[o]at h;cases h
  |some j=>rw[o]at h;exact⟨j,rfl,by simpa using h⟩
 have r:j.size≠0:=by omega
 have h:∀d:Nat,(Op.equalIn (d+1) 172 (.pointer a) (.pointer f)).run Tryz.prog w= .ok (decide (a=f)) w:=fun d=>by
  rcases p with rfl|⟨g,cs,rfl,q⟩
  ·rcases l with rfl|⟨i,cs',rfl,b⟩;·simp[Op.equalIn,run_underlying c]
   ·simp[Op.equalIn,run_underlying c]
  ·rcases l with rfl|⟨i,cs',rfl,b⟩;·simp[Op.equalIn,run_underlying c]
   ·by_cases m:g=i;·subst m;simp[Op.equalIn,run_underlying c,sizeOf,typeInfo,n,run_sameAddr_same]
    ·have k:(⟨g,0,none⟩:Addr)≠⟨i,0,none⟩:=fun e=>m (by cases e;rfl);simp[Op.equalIn,run_underlying c,sizeOf,typeInfo,n,r,run_sameAddr_other w k q b]
 simp[Op.equal,Op.maxDepth,h 9999]
theorem Kj(a c:Option Addr)(w:World)(d:jk w a)(e:jk w c)(b:Bool)(f:decide (a=c)=b):(binOp .eql 172 (.pointer a) (.pointer c)).run Tryz.prog w= .ok (.bool b) w:=by
 simp only[binOp];simp[Bv a c w d e,f]
theorem wZ(a c:Option Addr)(w:World)(d:jk w a)(e:jk w c)(b:Bool)(f:decide (a=c)=!b):(binOp .neq 172 (.pointer a) (.pointer c)).run Tryz.prog w= .ok (.bool b) w:=by
 simp only[binOp];simp[Bv a c w d e,f]
theorem cm.uniq{w:World}:∀{a:Option Addr}{t k:Tr},cm w a t→cm w a k→t=k
 |_, .leaf, .leaf,_,_=>rfl
 |_, .leaf, .node _ _ _ _,h,⟨_,_,_,e,_⟩=>by cases h;cases e
 |_, .node _ _ _ _, .leaf,⟨_,_,_,e,_⟩,h=>by cases h;cases e
 |_, .node l nm v r, .node s b y x,⟨g,u,ra,e,n,o,p⟩,⟨A,i,j,m,c,d,f⟩=>by
  subst e;cases m;have q:oH u ra (.node l nm v r)=oH i j (.node s b y x):=by
   have h:=p.symm.trans f;simpa using h
  obtain⟨z,a2,a3,a4,a5⟩:=nm;obtain⟨b1,b2,b3,b4,b5⟩:=b;simp only[oH,aJ.cells,List.cons_append,List.nil_append,List.cons.injEq,Value.pointer.injEq,Value.int.injEq,Value.string.injEq,true_and]at q;obtain⟨rfl,rfl,rfl,rfl,rfl,rfl,rfl,rfl,_⟩:=q;rw[n.uniq c,o.uniq d]
theorem KY{w:World}{base:Nat}{e:TypeId}{size n m c:Nat}{A:Option Addr}{xs:List Value}(h:w.ownsRow base e size (.slice A m c) n xs):c≤maxLen:=by
 rcases h.2 with⟨a,_⟩|⟨g,cap,cur,a,_,_,_,b,_⟩;·cases a;exact Nat.zero_le _
 ·cases a;exact b
theorem PL.of{w:World}{A:Option Addr}{m c n:Nat}{L:List Nd}{M:List Ent}(h:w.ownsRow 0 172 1 (.slice A m c) n (L.map Cw))(hm:m=n)(b:m≤c)(a:∀x∈L,lW w x)(he:L.map dc=M)(d:jH M):PL w A m c L:=by
 subst hm;refine⟨(Rd.gR h).any,?_,b,KY h,a,fun x e=>d (dc x) ?_⟩;·have:=h.1;rw[List.length_map]at this;omega
 ·rw[←he];exact List.mem_map_of_mem e
theorem Gx{x:Nd}{ra rb:List Nd}(h:rb=[]∨∃y r,rb=y::r∧bQ x.nm y.nm<0):ct ((x::ra).map dc) (rb.map dc)=jN (dc x)::ct (ra.map dc) (rb.map dc):=by
 rcases h with rfl|⟨y,r,rfl,h⟩;·rw[List.map_cons,List.map_nil,ct]
 ·rw[List.map_cons,List.map_cons,ct,if_pos (show bQ (dc x).1 (dc y).1<0 from h)]
theorem Gw{y:Nd}{ra rb:List Nd}(h:ra=[]∨∃x r,ra=x::r∧0<bQ x.nm y.nm):ct (ra.map dc) ((y::rb).map dc)=gX (dc y)::ct (ra.map dc) (rb.map dc):=by
 rcases h with rfl|⟨x,r,rfl,h⟩;·rw[List.map_cons,List.map_nil,ct]
 ·rw[List.map_cons,List.map_cons,ct,if_neg (show¬bQ (dc x).1 (dc y).1<0 by show¬bQ x.nm y.nm<0;omega),if_pos (show 0<bQ (dc x).1 (dc y).1 from h)]
theorem yy{x y:Nd}{ra rb:List Nd}(a:bQ x.nm y.nm=0)(h:(x.v==y.v)=true):ct ((x::ra).map dc) ((y::rb).map dc)=ct (ra.map dc) (rb.map dc):=by
 rw[List.map_cons,List.map_cons,ct,if_neg (show¬bQ (dc x).1 (dc y).1<0 by show¬bQ x.nm y.nm<0;omega),if_neg (show¬0<bQ (dc x).1 (dc y).1 by show¬0<bQ x.nm y.nm;omega),if_pos (show((dc x).2==(dc y).2)=true from h)]
theorem Ek{x y:Nd}{ra rb:List Nd}(a:bQ x.nm y.nm=0)(h:(x.v==y.v)=false):ct ((x::ra).map dc) ((y::rb).map dc)=gX (dc y)::ct (ra.map dc) (rb.map dc):=by
 rw[List.map_cons,List.map_cons,ct,if_neg (show¬bQ (dc x).1 (dc y).1<0 by show¬bQ x.nm y.nm<0;omega),if_neg (show¬0<bQ (dc x).1 (dc y).1 by show¬0<bQ x.nm y.nm;omega),if_neg (show¬((dc x).2==(dc y).2)=true by show¬(x.v==y.v)=true;rw[h];decide)]
theorem IP{w:World}{g:Nat}{n m:aJ}{u v:ByteArray}(h:Mid w g n u)(k:Mid w g m v):n=m∧u=v:=by
 have e:u=v:=by
  have a:=h.val;rw[k.val]at a;simpa using a.symm
 refine⟨?_,e⟩;have b:∀j x y,n.cells[j]? =some x→m.cells[j]? =some y→x=y:=fun j x y o p=>by
  have a:=h.name j x o;rw[k.name j y p]at a;simpa using a.symm
 obtain⟨q,a2,a3,a4,a5⟩:=n;obtain⟨b1,b2,b3,b4,b5⟩:=m;have c:=b 0 _ _ rfl rfl;have d:=b 1 _ _ rfl rfl;have f:=b 2 _ _ rfl rfl;have i:=b 3 _ _ rfl rfl;have l:=b 4 _ _ rfl rfl;simp only[Value.int.injEq,Value.string.injEq,true_and]at c d f i l;rw[c,d,f,i,l]
def MJ(w1:World)(D:List CV)(cs a b:Value)(wr:World):Prop:=∃(A:Option Addr)(c e:Nat)(ra:List Nd)(B:Option Addr)(d f:Nat)(rb:List Nd)(done:List CV),a= .slice A c e∧b= .slice B d f∧PL w1 A c e ra∧PL w1 B d f rb∧
 done++ct (ra.map dc) (rb.map dc)=D∧bK 119 7 w1 (.slice none 0 0) wr cs done.length (done.flatMap CV.cells)
theorem Hc(aw ax:List Ent)(s1 s2:Nat)(w:World)(cq:eJ w s1 aw)(cr:eJ w s2 ax)(a0:aw.length≤60000)(a1:ax.length≤60000)(a3:jH aw)(a4:jH ax):
  Calls Tryz.prog 96 #[.pointer (some ⟨s1,0,none⟩), .pointer (some ⟨s2,0,none⟩)] w (Gh w (ct aw ax)):=by
 obtain⟨U,M,N,Q,aq⟩:=info_parts nV;have ad:Hid (¬1*U.size>2^24):=by simp only[Hid];rw[Q];omega
 have ae:Hid (¬1*U.size=0):=by simp only[Hid];rw[Q];omega
 have ai:Hid (∀c:CV,Instr.fill (fun i=>some (i*U.size,U.size)) ((Array.range (1*U.size)).map (bY.cells[· %bY.cells.size]!)) [(0, .agg c.cells.toArray)]=some c.cells.toArray):=fun c=>by rw[Q];exact kT _ _ rfl (by simp[bY,Value.cells])
 obtain⟨bk,⟨Z,bN,bi⟩,bc⟩:=cq;obtain⟨bl,⟨aA,bP,bj⟩,bd⟩:=cr;have bL:Hid (w.cell? ⟨s1,0,none⟩=some (.pointer Z)):=bN.cell 0;have bM:Hid (w.cell? ⟨s2,0,none⟩=some (.pointer aA)):=bP.cell 0;have bI:Hid (jk w Z):=bi.ptr;have bJ:Hid (jk w aA):=bj.ptr;have aW:Hid (xP w s1 bk):=⟨Z,bN,bi⟩;have aX:Hid (xP w s2 bl):=⟨aA,bP,bj⟩;have br:=af a3;have bs:=af a4;have bz:Hid (bk.size=aw.length∧aw.length≤60000):=⟨by rw[←bk.bW,bc],a0⟩;have bA:Hid (bl.size=ax.length∧ax.length≤60000):=⟨by rw[←bl.bW,bd],a1⟩;have aE:=af bc;have aF:=af bd;have aV:Hid ((ct aw ax).length≤120000):=by have:=jd aw ax;simp only[Hid];omega
 obtain⟨D,am⟩:∃D,ct aw ax=D:=⟨_,rfl⟩;have aU:=af am;rw[am]at aV;rw[am];have aY:Hid (Z=aA→D=[]):=fun h=>by
  rw[←am];subst h;rw[←bc,←bd,bi.uniq bj];exact qU _
 clear am bN bi bP bj bc bd a3 a4 a0 a1;go_enter Tryz.func96,Tryz.ntmps96;by_cases bg:Z=aA
 ·have bx:=af (aY.out bg);subst bg;rw[bx.out];go_upto_region 1 with fail;refine ay 17 ag [Is (.pointer (some ⟨s1,0,none⟩)),Is (.bool false),Is (.bool false),Is (.pointer (some ⟨s2,0,none⟩)),Is (.bool false),Is (.bool false),Is (.bool false),Is (.pointer (some ⟨s1,0,none⟩)),Is (.pointer (some ⟨s1,0,none⟩)),Is (.pointer (some ⟨s1,0,none⟩)),Is (.pointer Z),Is (.pointer (some ⟨s2,0,none⟩)),Is (.pointer (some ⟨s2,0,none⟩)),Is (.pointer (some ⟨s2,0,none⟩)),Is (.pointer Z),Is (.bool true),Is (.bool true)] [] (fun _=>True) (fun _ _=>false) (by kernel_rfl) (by kernel_rfl) (by kernel_rfl) (by kernel_rfl) ⟨Is.ah _,Is.ah _,Is.ah _,Is.ah _,Is.ah _,Is.ah _,Is.ah _,Is.ah _,Is.ah _,Is.ah _,Is.ah _,Is.ah _,Is.ah _,Is.ah _,Is.ah _,Is.ah _,Is.ah _,trivial⟩ trivial (fun _ _ _ _ h=>h) trivial ?_ ?_
  ·refine⟨?zCB,?ZJ,?ZK,?ZL,?ZM,?ZN,?ZO,?ZP,?ZQ,?ZR,?zA,?zB,?zC,?zD,?zE,?zF,?zG,trivial⟩;all_goals intro u w' d l j n m k
   all_goals simp only[bw,bC,bD,bE,ar,Act.put,bF,bG,bH,Nat.reduceAdd,Nat.zero_add]
   case' ZJ=>simp only[show u 0=_ from j 0]
   case' ZK=>simp only[show u 1=_ from j 1]
   case' ZL=>simp only[show u 2=_ from j 2]
   case' ZM=>simp only[show u 3=_ from j 3,show u 2=_ from j 2]
   case' ZN=>simp only[show u 2=_ from j 2,show u 4=_ from j 4]
   case' ZO=>simp only[show u 5=_ from j 5]
   case' ZP=>simp only[show u 6=_ from j 6]
   case' ZQ=>simp only[show u 7=_ from j 7,show u 6=_ from j 6]
   case' ZR=>simp only[show u 8=_ from j 8,show u 6=_ from j 6]
   case zA=>
    simp only[show u 9=_ from j 9,show u 6=_ from j 6];clear j n m k;refine aj ?_;have q:=l.ak bL.out (fun x=>x);go_simp;exact⟨_,rfl,al⟩
   case' zB=>simp only[show u 6=_ from j 6]
   case' zC=>simp only[show u 11=_ from j 11,show u 6=_ from j 6]
   case' zD=>simp only[show u 12=_ from j 12,show u 6=_ from j 6]
   case zE=>
    simp only[show u 13=_ from j 13,show u 6=_ from j 6];clear j n m k;refine aj ?_;have q:=l.ak bM.out (fun x=>x);go_simp;exact⟨_,rfl,al⟩
   case zF=>
    simp only[show u 10=_ from j 10,show u 14=_ from j 14,show u 6=_ from j 6];clear j n m k;refine aj ?_;have q:=Kj Z Z w' (bI.out.ao l) (bJ.out.ao l) true (decide_eq_true rfl);go_simp;exact⟨_,rfl,al⟩
   case' zG=>simp only[show u 6=_ from j 6,show u 15=_ from j 15]
   all_goals
    clear j n m k;refine aj ?_;go_simp;exact⟨_,rfl,al⟩
  ·intro u w' l j k;have z:u 16=_:=j 16 (by omega);clear j k;simp only[bw,bC,bD,bE,ar,Act.put,bF,bG,bH,dj,dk,Nat.reduceAdd,Nat.zero_add,z];have o:=af l;clear l z;go_wp2;go_ret;exact⟨_,rfl,(bK.start ⟨rfl, .inl ⟨rfl,rfl⟩⟩:bK 119 7 w (.slice none 0 0) w (.slice none 0 0) 0 []).behind o.out⟩
 ·have cj:decide (Z=aA)=false:=decide_eq_false bg;go_upto_region 1 with fail;refine ay 17 ag [Is (.pointer (some ⟨s1,0,none⟩)),Is (.bool false),Is (.bool false),Is (.pointer (some ⟨s2,0,none⟩)),Is (.bool false),Is (.bool false),Is (.bool false),Is (.pointer (some ⟨s1,0,none⟩)),Is (.pointer (some ⟨s1,0,none⟩)),Is (.pointer (some ⟨s1,0,none⟩)),Is (.pointer Z),Is (.pointer (some ⟨s2,0,none⟩)),Is (.pointer (some ⟨s2,0,none⟩)),Is (.pointer (some ⟨s2,0,none⟩)),Is (.pointer aA),Is (.bool false),Is (.bool false)] [] (fun _=>True) (fun _ _=>false) (by kernel_rfl) (by kernel_rfl) (by kernel_rfl) (by kernel_rfl) ⟨Is.ah _,Is.ah _,Is.ah _,Is.ah _,Is.ah _,Is.ah _,Is.ah _,Is.ah _,Is.ah _,Is.ah _,Is.ah _,Is.ah _,Is.ah _,Is.ah _,Is.ah _,Is.ah _,Is.ah _,trivial⟩ trivial (fun _ _ _ _ h=>h) trivial ?_ ?_
  ·refine⟨?zCC,?ZS,?ZT,?ZU,?ZV,?ZW,?ZX,?ZY,?ZZ,?YA,?zH,?zI,?zJ,?zK,?zL,?zM,?zN,trivial⟩;all_goals intro u w' d l j n m k
   all_goals simp only[bw,bC,bD,bE,ar,Act.put,bF,bG,bH,Nat.reduceAdd,Nat.zero_add]
   case' ZS=>simp only[show u 0=_ from j 0]
   case' ZT=>simp only[show u 1=_ from j 1]
   case' ZU=>simp only[show u 2=_ from j 2]
   case' ZV=>simp only[show u 3=_ from j 3,show u 2=_ from j 2]
   case' ZW=>simp only[show u 2=_ from j 2,show u 4=_ from j 4]
   case' ZX=>simp only[show u 5=_ from j 5]
   case' ZY=>simp only[show u 6=_ from j 6]
   case' ZZ=>simp only[show u 7=_ from j 7,show u 6=_ from j 6]
   case' YA=>simp only[show u 8=_ from j 8,show u 6=_ from j 6]
   case zH=>
    simp only[show u 9=_ from j 9,show u 6=_ from j 6];clear j n m k;refine aj ?_;have q:=l.ak bL.out (fun x=>x);go_simp;exact⟨_,rfl,al⟩
   case' zI=>simp only[show u 6=_ from j 6]
   case' zJ=>simp only[show u 11=_ from j 11,show u 6=_ from j 6]
   case' zK=>simp only[show u 12=_ from j 12,show u 6=_ from j 6]
   case zL=>
    simp only[show u 13=_ from j 13,show u 6=_ from j 6];clear j n m k;refine aj ?_;have q:=l.ak bM.out (fun x=>x);go_simp;exact⟨_,rfl,al⟩
   case zM=>
    simp only[show u 10=_ from j 10,show u 14=_ from j 14,show u 6=_ from j 6];clear j n m k;refine aj ?_;have q:=Kj Z aA w' (bI.out.ao l) (bJ.out.ao l) false cj;go_simp;exact⟨_,rfl,al⟩
   case' zN=>simp only[show u 6=_ from j 6,show u 15=_ from j 15]
   all_goals
    clear j n m k;refine aj ?_;go_simp;exact⟨_,rfl,al⟩
  ·intro u w' l j k;have z:u 16=_:=j 16 (by omega);clear j k;simp only[bw,bC,bD,bE,ar,Act.put,bF,bG,bH,dj,dk,Nat.reduceAdd,Nat.zero_add,z];have o:=af l;clear l z;have ba:=af o.out;clear o aY bL bM cj bg bI bJ;go_wp2_with fail;refine(yL s1 bk _ (aW.out.ao ba.out) (by have:=bz.out;omega)).mono ?_;rintro e w2⟨v6,b9,rfl,g6,cg,n6⟩;have aO:=af g6;have bo:=af cg;have cb:=af n6;clear g6 cg n6;go_wp2_with fail;refine(yL s2 bl _ ((aX.out.ao ba.out).ao aO.out.ao) (by have:=bA.out;omega)).mono ?_;rintro e w1⟨cF,ca,rfl,g7,bR,n7⟩;obtain⟨b4,m6,ce,rfl,bp,b6⟩:=aG aO.out.own;obtain⟨b5,m7,cf,rfl,bq,b7⟩:=aG g7.own;have bX:=bp.out;have b0:=bq.out;have cn:=af ((ba.out.trans aO.out.ao).trans g7.ao);have cc:Hid (PL w1 b4 m6 ce b9):=PL.of (aL aO.out.own g7.ao (fun _ _ x=>x)) bp.out b6.out (fun x cw=>(cb.out x cw).ao g7.ao) (bo.out.trans aE.out) br.out;have cd:Hid (PL w1 b5 m7 cf ca):=PL.of g7.own bq.out b7.out n7 (bR.trans aF.out) bs.out;have aQ:Hid (MJ w1 D (.slice none 0 0) (.slice b4 m6 ce) (.slice b5 m7 cf) w1):=⟨_,_,_,b9,_,_,_,ca,[],rfl,rfl,cc.out,cd.out,by rw[←aU.out,←aE.out,←aF.out,←bo.out,←bR];rfl,bK.start ⟨rfl, .inl ⟨rfl,rfl⟩⟩⟩;clear aU g7 bR n7 bX b0 bp bq b6 b7 cc cd aO bo cb aE aF aW aX ba;go_wp2;go_loopw[5,6,7](fun cs a b wr=>MJ w1 D cs a b wr)(fun _ a b _=>lK a+lK b);case atStart=>exact aQ.out
   case round=>
    obtain⟨A,P,X,ra,B,K,O,rb,done,rfl,rfl,an,ap,bS,be⟩:=hrel;have ab:=af an;have V:=af ap;have s:=af be;obtain⟨bm,n5,c5,rfl,b8,_⟩:=aG be.own;obtain rfl:n5=done.length:=b8.out;have aD:=af bS;have aN:Hid (done.length≤120000):=by
     have h:=aV.out;rw[←bS,aS]at h;simp only[Hid];omega
    have T:Hid (Fr ag w1 wr):=be.ao;have bB:=an.len;have aZ:=ap.len;have cl:=an.cap;have cm:=ap.cap;have co:X≤9223372036854775807:=an.aP;have cp:O≤9223372036854775807:=ap.aP;clear an ap be bS b8 aQ;cases ra with
    |nil=>
     obtain rfl:P=0:=bB.symm;cases rb with
     |nil=>
      obtain rfl:K=0:=aZ.symm;have a2:done=D:=by
       have h:=aD.out;rw[List.map_nil,ct,List.append_nil]at h;exact h
      go_wp2;go_ret;rw[←a2];exact⟨_,rfl,s.out.ahead cn.out⟩
     |cons y rb=>
      obtain⟨p,rfl,a5,aK⟩:=V.out.head;have t:Hid (wr.cell? p=some (.pointer (some ⟨y.g,0,none⟩))):=T.out.ak a5 (fun x=>x);have C:Hid (Mid wr y.g y.nm y.v):=(V.out.at_ y (by simp)).ko.ao T.out;have W:Hid (jk w1 (some ⟨y.g,0,none⟩)):=(V.out.at_ y (by simp)).ptr;have J:=af (Gw (ra:=[]) (rb:=rb) (y:=y) (.inl rfl));have aM:=af (vB (dc y));have cx:decide ((0:Int)<(K:Int))=true:=de (by omega);have bT:1≤K:=aK;have bU:(1:Int)≤(K:Int):=by omega
      clear a5;go_upto_region 15 with fail;refine ay 18 ag [Is (.int .i64 1),Is (.bool true),Is (.bool true),Is (undef),Is (undef),Is (undef),Is (undef),Is (undef),Is (undef),Is (undef),Is (undef),Is (undef),Is (undef),Is (undef),Is (undef),Is (undef),Is (.bool true),Is (.bool true)] [] (fun _=>True) (fun _ _=>false) (by kernel_rfl) (by kernel_rfl) (by kernel_rfl) (by kernel_rfl) ⟨Is.ah _,Is.ah _,Is.ah _,Is.ah _,Is.ah _,Is.ah _,Is.ah _,Is.ah _,Is.ah _,Is.ah _,Is.ah _,Is.ah _,Is.ah _,Is.ah _,Is.ah _,Is.ah _,Is.ah _,Is.ah _,trivial⟩ trivial (fun _ _ _ _ h=>h) trivial ?_ ?_
      ·refine⟨?zE1,?zBB,?zBC,?zBD,?zBE,?zBF,?zBG,?zBH,?zBI,?zBJ,?xW,?xX,?xY,?xZ,?ZA,?ZB,?ZC,?ZD,trivial⟩;all_goals intro u w' d l j n m k
       all_goals simp only[bw,bC,bD,bE,ar,Act.put,bF,bG,bH,Nat.reduceAdd,Nat.zero_add]
       case' zBB=>simp only[show u 0=_ from j 0]
       case' zBC=>simp only[show u 1=_ from j 1]
       case zBD=>simp only[show u 2=_ from j 2];exact .inr ⟨by kernel_rfl,_,rfl,az,rfl,trivial⟩
       case zBE=>simp only[show u 2=_ from j 2];exact .inr ⟨by kernel_rfl,_,rfl,az,rfl,trivial⟩
       case zBF=>simp only[show u 2=_ from j 2];exact .inr ⟨by kernel_rfl,_,rfl,az,rfl,trivial⟩
       case zBG=>simp only[show u 2=_ from j 2];exact .inr ⟨by kernel_rfl,_,rfl,az,rfl,trivial⟩
       case zBH=>simp only[show u 2=_ from j 2];exact .inr ⟨by kernel_rfl,_,rfl,az,rfl,trivial⟩
       case zBI=>simp only[show u 2=_ from j 2];exact .inr ⟨by kernel_rfl,_,rfl,az,rfl,trivial⟩
       case zBJ=>simp only[show u 2=_ from j 2];exact .inr ⟨by kernel_rfl,_,rfl,az,rfl,trivial⟩
       case xW=>simp only[show u 2=_ from j 2];exact .inr ⟨by kernel_rfl,_,rfl,az,rfl,trivial⟩
       case xX=>simp only[show u 2=_ from j 2];exact .inr ⟨by kernel_rfl,_,rfl,az,rfl,trivial⟩
       case xY=>simp only[show u 2=_ from j 2];exact .inr ⟨by kernel_rfl,_,rfl,az,rfl,trivial⟩
       case xZ=>simp only[show u 2=_ from j 2];exact .inr ⟨by kernel_rfl,_,rfl,az,rfl,trivial⟩
       case ZA=>simp only[show u 2=_ from j 2];exact .inr ⟨by kernel_rfl,_,rfl,az,rfl,trivial⟩
       case ZB=>simp only[show u 2=_ from j 2];exact .inr ⟨by kernel_rfl,_,rfl,az,rfl,trivial⟩
       case' ZC=>simp only[show u 2=_ from j 2,show u 15=_ from j 15]
       case' ZD=>simp only[show u 16=_ from j 16]
       all_goals
        clear j n m k;refine aj ?_;go_simp;exact⟨_,rfl,al⟩
      ·intro u w' l j k;have z:u 17=_:=j 17 (by omega);clear j k;simp only[bw,bC,bD,bE,ar,Act.put,bF,bG,bH,dj,dk,Nat.reduceAdd,Nat.zero_add,z];have o:=af l;clear l z;have s:=af (s.out.behind o.out);have t:Hid (w'.cell? p=some (.pointer (some ⟨y.g,0,none⟩))):=o.out.ak t.out (fun x=>x);have C:Hid (Mid w' y.g y.nm y.v):=C.out.ao o.out;clear o;generalize w'=wr at*;go_upto_region 16 with fail;refine ay 15 ag [Is (.slice bm done.length c5),Is (.slice (some p) K O),Is (.pointer (some p)),Is (.pointer (some ⟨y.g,0,none⟩)),Is (.pointer (some ⟨y.g,0,none⟩)),Is (.pointer (some ⟨y.g,2,none⟩)),Is (.agg y.nm.cells.toArray),Is (.slice (some p) K O),Is (.pointer (some p)),Is (.pointer (some ⟨y.g,0,none⟩)),Is (.pointer (some ⟨y.g,0,none⟩)),Is (.pointer (some ⟨y.g,7,none⟩)),Is (.string y.v),Is (.agg (gX (dc y)).cells.toArray),(fun a7 a6=>∃g,a7= .slice (some ⟨g,0,none⟩) 1 1∧Rd a6 (fun _=>True) 7 (some ⟨g,0,none⟩) 1 (gX (dc y)).cells)] [] (fun _=>True) (fun _ _=>false) (by kernel_rfl) (by kernel_rfl) (by kernel_rfl) (by kernel_rfl) ⟨Is.ah _,Is.ah _,Is.ah _,Is.ah _,Is.ah _,Is.ah _,Is.ah _,Is.ah _,Is.ah _,Is.ah _,Is.ah _,Is.ah _,Is.ah _,Is.ah _,fun _ _ _ _ f h=>by obtain⟨g,e,r⟩:=h;exact⟨g,e,r.ao f⟩,trivial⟩ trivial (fun _ _ _ _ h=>h) trivial ?_ ?_
       ·refine⟨?zE2,?zE3,?zC0,?zC1,?zC2,?zC3,?zC4,?zE4,?zC5,?zC6,?ZE,?ZF,?ZG,?ZH,?ZI,trivial⟩;all_goals intro u w' d l j n m k
        all_goals simp only[bw,bC,bD,bE,ar,Act.put,bF,bG,bH,Nat.reduceAdd,Nat.zero_add]
        case' zC0=>simp only[show u 1=_ from j 1]
        case zC1=>
         simp only[show u 2=_ from j 2];clear j n m k;refine aj ?_;have q:=l.ak t.out (fun x=>x);go_simp;exact⟨_,rfl,al⟩
        case' zC2=>simp only[show u 3=_ from j 3]
        case' zC3=>simp only[show u 4=_ from j 4]
        case zC4=>
         simp only[show u 5=_ from j 5];clear j n m k;refine aj ?_;exact au _ _ rfl ⟨y.g,2,none⟩ rfl y.nm.cells _ (fun L v I=>by rw[Addr.add_mid];exact(C.out.ao l).name L v I) Tryz.underlying106 rfl aT ⟨_,rfl,al⟩
        case' zC5=>simp only[show u 7=_ from j 7]
        case zC6=>
         simp only[show u 8=_ from j 8];clear j n m k;refine aj ?_;have q:=l.ak t.out (fun x=>x);go_simp;exact⟨_,rfl,al⟩
        case' ZE=>simp only[show u 9=_ from j 9]
        case' ZF=>simp only[show u 10=_ from j 10]
        case ZG=>
         simp only[show u 11=_ from j 11];clear j n m k;refine aj ?_;have q:=(C.out.ao l).val;go_simp;exact⟨_,rfl,al⟩
        case ZH=>
         simp only[show u 6=_ from j 6,show u 12=_ from j 12];clear j n m k;refine aj ?_;exact iA 119 _ rfl (gX (dc y)).cells.toArray _ (by simp only[List.map_toArray,List.map_cons,List.map_nil];rfl) aM.out ⟨_,rfl,al⟩
        case ZI=>
         simp only[show u 13=_ from j 13];clear j n m k;refine aj ?_;refine wp_buildSlice 44 119 1 _ rfl (gX (dc y)).cells.toArray U bY Tryz.underlying44 M N ad.out ae.out (by simp only[List.map_toArray,List.map_cons,List.map_nil];exact ai.out _) ?_;exact⟨_,rfl,az.alloc _,⟨_,rfl,(uO w' (gX (dc y)).cells.toArray 119 7 1 rfl).any⟩,trivial⟩
        all_goals
         clear j n m k;refine aj ?_;go_simp;exact⟨_,rfl,al⟩
       ·intro u w' l j k;have m:u 0=_:=j 0 (by omega);obtain⟨g9,R,S⟩:=j 14 (by omega);clear j k;simp only[bw,bC,bD,bE,ar,Act.put,bF,bG,bH,dj,dk,Nat.reduceAdd,Nat.zero_add,m,R];have s:=af (s.out.behind l);have ac:=af S;clear l m R S;refine dR _ rfl _ _ 44 rfl 119 U bY 7 80 Tryz.underlying44 M N Q aq rfl (by decide) _ _ _ rfl s.out.own _ _ 1 1 _ rfl ac.out (rC _) (by have:=aN.out;omega) (by decide) ?_;intro v9 aB F;have av:Hid (bK 119 7 w1 (.slice none 0 0) aB v9 (done.length+1) (done.flatMap CV.cells++(gX (dc y)).cells)):=s.out.trans F;obtain⟨a8,bh,bb,rfl,_,_⟩:=aG F.own;clear F s;go_wp2;go_roundw;case rel=>exact⟨_,_,_,_,_,_,_,_,done++[gX (dc y)],rfl,rfl,ab.out,V.out.tail,by rw[←aD.out,J.out,List.append_assoc];rfl,by rw[aS,List.flatMap_append,List.flatMap_singleton];exact av.out⟩
        case measure=>simp only[lK];omega
    |cons x ra=>
     obtain⟨G,rfl,ci,b2⟩:=ab.out.head;have E:Hid (wr.cell? G=some (.pointer (some ⟨x.g,0,none⟩))):=T.out.ak ci (fun x=>x);have H:Hid (Mid wr x.g x.nm x.v):=(ab.out.at_ x (by simp)).ko.ao T.out;have aa:Hid (jk w1 (some ⟨x.g,0,none⟩)):=(ab.out.at_ x (by simp)).ptr;have aA:decide ((0:Int)<(P:Int))=true:=de (by omega);have cB:((P:Int)==0)=false:=jt (by omega);have cu:1≤P:=b2;have cv:(1:Int)≤(P:Int):=by omega
     clear ci;cases rb with
     |nil=>
      obtain rfl:K=0:=aZ.symm;have J:=af (Gx (ra:=ra) (rb:=[]) (x:=x) (.inl rfl));have bn:=af (AV (dc x));have aI:=E.out;go_wp2_with(refine aC rfl 106 (.tmp 75) rfl ⟨x.g,2,none⟩ rfl x.nm.cells _ ?zC7 Tryz.underlying106 rfl aT (aR.go ?zE5));case zC7=>exact fun L v I=>by rw[Addr.add_mid];exact H.out.name L v I
      unfold aR;refine dM rfl 119 _ rfl (jN (dc x)).cells.toArray _ (by simp only[List.map_toArray,List.map_cons,List.map_nil];rfl) bn.out (aR.go ?zC9);unfold aR;refine wpList_buildSlice rfl 44 119 1 _ rfl (jN (dc x)).cells.toArray U bY Tryz.underlying44 M N ad.out ae.out (by simp only[List.map_toArray,List.map_cons,List.map_nil];exact ai.out _) ?_;refine cP _ rfl _ _ 44 rfl 119 U bY 7 80 Tryz.underlying44 M N Q aq rfl (by decide) _ _ _ rfl s.out.own 1 (jN (dc x)).cells.toArray _ rfl rfl rfl (rC _) (by have:=aN.out;omega) (by decide) ?_;intro v9 aB F;clear aI;have av:Hid (bK 119 7 w1 (.slice none 0 0) aB v9 (done.length+1) (done.flatMap CV.cells++(jN (dc x)).cells)):=s.out.trans F;obtain⟨a8,bh,bb,rfl,_,_⟩:=aG F.own;clear F s;go_wp2;go_roundw;case rel=>exact⟨_,_,_,_,_,_,_,_,done++[jN (dc x)],rfl,rfl,ab.out.tail,V.out,by rw[←aD.out,J.out,List.append_assoc];rfl,by rw[aS,List.flatMap_append,List.flatMap_singleton];exact av.out⟩
      case measure=>simp only[lK];omega
     |cons y rb=>
      obtain⟨p,rfl,a5,aK⟩:=V.out.head;have t:Hid (wr.cell? p=some (.pointer (some ⟨y.g,0,none⟩))):=T.out.ak a5 (fun x=>x);have C:Hid (Mid wr y.g y.nm y.v):=(V.out.at_ y (by simp)).ko.ao T.out;have W:Hid (jk w1 (some ⟨y.g,0,none⟩)):=(V.out.at_ y (by simp)).ptr;have cx:decide ((0:Int)<(K:Int))=true:=de (by omega);have cC:((K:Int)==0)=false:=jt (by omega);have bT:1≤K:=aK;have bU:(1:Int)≤(K:Int):=by omega
      have bt:Hid (x.nm.owner.size≤1099511627776):=ab.out.own x (by simp);have bu:Hid (y.nm.owner.size≤1099511627776):=V.out.own y (by simp);clear a5;by_cases bf:x.g=y.g
      ·have hm:=IP H.out (by rw[bf];exact C.out);have aJ:bQ x.nm y.nm=0:=by rw[hm.1];exact bZ.refl _
       have I:(x.v==y.v)=true:=by rw[hm.2];exact(Gq _ _).2 rfl
       have ck:(x.v.toList==y.v.toList)=true:=by rw[JR];exact I
       have J:=af (yy (ra:=ra) (rb:=rb) aJ I);have Y:decide ((some ⟨x.g,0,none⟩:Option Addr)=some ⟨y.g,0,none⟩)=!false:=by rw[bf];simp
       clear hm aJ I bf;go_upto_region 11 with fail;refine ay 8 ag [Is (.slice (some G) P X),Is (.pointer (some G)),Is (.pointer (some ⟨x.g,0,none⟩)),Is (.slice (some p) K O),Is (.pointer (some p)),Is (.pointer (some ⟨y.g,0,none⟩)),Is (.bool false),Is (.bool false)] [] (fun _=>True) (fun _ _=>false) (by kernel_rfl) (by kernel_rfl) (by kernel_rfl) (by kernel_rfl) ⟨Is.ah _,Is.ah _,Is.ah _,Is.ah _,Is.ah _,Is.ah _,Is.ah _,Is.ah _,trivial⟩ trivial (fun _ _ _ _ h=>h) trivial ?_ ?_
       ·refine⟨?zCD,?YB,?YC,?zCE,?YD,?YE,?YF,?YG,trivial⟩;all_goals intro u w' d l j n m k
        all_goals simp only[bw,bC,bD,bE,ar,Act.put,bF,bG,bH,Nat.reduceAdd,Nat.zero_add]
        case' YB=>simp only[show u 0=_ from j 0]
        case YC=>
         simp only[show u 1=_ from j 1];clear j n m k;refine aj ?_;have q:=l.ak E.out (fun x=>x);go_simp;exact⟨_,rfl,al⟩
        case' YD=>simp only[show u 3=_ from j 3]
        case YE=>
         simp only[show u 4=_ from j 4];clear j n m k;refine aj ?_;have q:=l.ak t.out (fun x=>x);go_simp;exact⟨_,rfl,al⟩
        case YF=>
         simp only[show u 2=_ from j 2,show u 5=_ from j 5];clear j n m k;refine aj ?_;have q:=wZ (some ⟨x.g,0,none⟩) (some ⟨y.g,0,none⟩) w' (aa.out.ao (T.out.trans l)) (W.out.ao (T.out.trans l)) false Y;go_simp;exact⟨_,rfl,al⟩
        case' YG=>simp only[show u 6=_ from j 6]
        all_goals
         clear j n m k;refine aj ?_;go_simp;exact⟨_,rfl,al⟩
       ·intro u w' l j k;have z:u 7=_:=j 7 (by omega);clear j k;simp only[bw,bC,bD,bE,ar,Act.put,bF,bG,bH,dj,dk,Nat.reduceAdd,Nat.zero_add,z];have o:=af l;clear l z;have s:=af (s.out.behind o.out);have E:Hid (w'.cell? G=some (.pointer (some ⟨x.g,0,none⟩))):=o.out.ak E.out (fun x=>x);have H:Hid (Mid w' x.g x.nm x.v):=H.out.ao o.out;have t:Hid (w'.cell? p=some (.pointer (some ⟨y.g,0,none⟩))):=o.out.ak t.out (fun x=>x);have C:Hid (Mid w' y.g y.nm y.v):=C.out.ao o.out;clear o;generalize w'=wr at*;go_upto_region 15 with fail;refine ay 18 ag [Is (.int .i64 0),Is (.bool false),Is (.bool false),Is (.slice (some G) P X),Is (.pointer (some G)),Is (.pointer (some ⟨x.g,0,none⟩)),Is (.pointer (some ⟨x.g,0,none⟩)),Is (.pointer (some ⟨x.g,7,none⟩)),Is (.string x.v),Is (.slice (some p) K O),Is (.pointer (some p)),Is (.pointer (some ⟨y.g,0,none⟩)),Is (.pointer (some ⟨y.g,0,none⟩)),Is (.pointer (some ⟨y.g,7,none⟩)),Is (.string y.v),Is (.bool false),Is (.bool false),Is (.bool false)] [] (fun _=>True) (fun _ _=>false) (by kernel_rfl) (by kernel_rfl) (by kernel_rfl) (by kernel_rfl) ⟨Is.ah _,Is.ah _,Is.ah _,Is.ah _,Is.ah _,Is.ah _,Is.ah _,Is.ah _,Is.ah _,Is.ah _,Is.ah _,Is.ah _,Is.ah _,Is.ah _,Is.ah _,Is.ah _,Is.ah _,Is.ah _,trivial⟩ trivial (fun _ _ _ _ h=>h) trivial ?_ ?_
        ·refine⟨?zCF,?YH,?YI,?YJ,?YK,?YL,?YM,?YN,?YO,?YP,?zO,?zP,?zQ,?zR,?zS,?zT,?zU,?zV,trivial⟩;all_goals intro u w' d l j n m k
         all_goals simp only[bw,bC,bD,bE,ar,Act.put,bF,bG,bH,Nat.reduceAdd,Nat.zero_add]
         case' YH=>simp only[show u 0=_ from j 0]
         case' YI=>simp only[show u 1=_ from j 1]
         case' YJ=>simp only[show u 2=_ from j 2]
         case' YK=>simp only[show u 3=_ from j 3,show u 2=_ from j 2]
         case YL=>
          simp only[show u 4=_ from j 4,show u 2=_ from j 2];clear j n m k;refine aj ?_;have q:=l.ak E.out (fun x=>x);go_simp;exact⟨_,rfl,al⟩
         case' YM=>simp only[show u 5=_ from j 5,show u 2=_ from j 2]
         case' YN=>simp only[show u 6=_ from j 6,show u 2=_ from j 2]
         case YO=>
          simp only[show u 7=_ from j 7,show u 2=_ from j 2];clear j n m k;refine aj ?_;have q:=(H.out.ao l).val;go_simp;exact⟨_,rfl,al⟩
         case' YP=>simp only[show u 2=_ from j 2]
         case' zO=>simp only[show u 9=_ from j 9,show u 2=_ from j 2]
         case zP=>
          simp only[show u 10=_ from j 10,show u 2=_ from j 2];clear j n m k;refine aj ?_;have q:=l.ak t.out (fun x=>x);go_simp;exact⟨_,rfl,al⟩
         case' zQ=>simp only[show u 11=_ from j 11,show u 2=_ from j 2]
         case' zR=>simp only[show u 12=_ from j 12,show u 2=_ from j 2]
         case zS=>
          simp only[show u 13=_ from j 13,show u 2=_ from j 2];clear j n m k;refine aj ?_;have q:=(C.out.ao l).val;go_simp;exact⟨_,rfl,al⟩
         case' zT=>simp only[show u 8=_ from j 8,show u 14=_ from j 14,show u 2=_ from j 2]
         case' zU=>simp only[show u 2=_ from j 2,show u 15=_ from j 15]
         case' zV=>simp only[show u 16=_ from j 16]
         all_goals
          clear j n m k;refine aj ?_;go_simp;exact⟨_,rfl,al⟩
        ·intro u w' l j k;have z:u 17=_:=j 17 (by omega);clear j k;simp only[bw,bC,bD,bE,ar,Act.put,bF,bG,bH,dj,dk,Nat.reduceAdd,Nat.zero_add,z];have o:=af l;clear l z;have s:=af (s.out.behind o.out);have E:Hid (w'.cell? G=some (.pointer (some ⟨x.g,0,none⟩))):=o.out.ak E.out (fun x=>x);have H:Hid (Mid w' x.g x.nm x.v):=H.out.ao o.out;have t:Hid (w'.cell? p=some (.pointer (some ⟨y.g,0,none⟩))):=o.out.ak t.out (fun x=>x);have C:Hid (Mid w' y.g y.nm y.v):=C.out.ao o.out;clear o;generalize w'=wr at*;go_wp2;go_roundw;case rel=>exact⟨_,_,_,_,_,_,_,_,done,rfl,rfl,ab.out.tail,V.out.tail,by rw[←aD.out,J.out],s.out⟩
         case measure=>simp only[lK];omega
      ·have Y:decide ((some ⟨x.g,0,none⟩:Option Addr)=some ⟨y.g,0,none⟩)=!true:=cD (fun e=>bf (congrArg Addr.block (Option.some.inj e)));obtain⟨q,b1⟩:∃q,bQ x.nm y.nm=q:=⟨_,rfl⟩;have a9:Hid (∀w',Calls Tryz.prog 128 #[.agg x.nm.cells.toArray, .agg y.nm.cells.toArray] w' (aH w' (.int .i64 q))):=fun w'=>by
        rw[←b1];exact gh x.nm y.nm w' bt.out bu.out
       have bv:=af b1;clear b1;by_cases bV:q<0
       ·have cy:decide (q<0)=true:=decide_eq_true bV;have cz:decide (q≤0)=true:=de (by omega);have cA:decide (0≤q)=false:=cD (by omega);have J:=af (Gx (ra:=ra) (rb:=y::rb) (x:=x) (.inr ⟨y,rb,rfl,by rw[bv.out];exact bV⟩));have bn:=af (AV (dc x));go_upto_region 11 with fail;refine ay 8 ag [Is (.slice (some G) P X),Is (.pointer (some G)),Is (.pointer (some ⟨x.g,0,none⟩)),Is (.slice (some p) K O),Is (.pointer (some p)),Is (.pointer (some ⟨y.g,0,none⟩)),Is (.bool true),Is (.bool true)] [] (fun _=>True) (fun _ _=>false) (by kernel_rfl) (by kernel_rfl) (by kernel_rfl) (by kernel_rfl) ⟨Is.ah _,Is.ah _,Is.ah _,Is.ah _,Is.ah _,Is.ah _,Is.ah _,Is.ah _,trivial⟩ trivial (fun _ _ _ _ h=>h) trivial ?_ ?_
        ·refine⟨?zCG,?YQ,?YR,?zCH,?YS,?YT,?YU,?YV,trivial⟩;all_goals intro u w' d l j n m k
         all_goals simp only[bw,bC,bD,bE,ar,Act.put,bF,bG,bH,Nat.reduceAdd,Nat.zero_add]
         case' YQ=>simp only[show u 0=_ from j 0]
         case YR=>
          simp only[show u 1=_ from j 1];clear j n m k;refine aj ?_;have q:=l.ak E.out (fun x=>x);go_simp;exact⟨_,rfl,al⟩
         case' YS=>simp only[show u 3=_ from j 3]
         case YT=>
          simp only[show u 4=_ from j 4];clear j n m k;refine aj ?_;have q:=l.ak t.out (fun x=>x);go_simp;exact⟨_,rfl,al⟩
         case YU=>
          simp only[show u 2=_ from j 2,show u 5=_ from j 5];clear j n m k;refine aj ?_;have q:=wZ (some ⟨x.g,0,none⟩) (some ⟨y.g,0,none⟩) w' (aa.out.ao (T.out.trans l)) (W.out.ao (T.out.trans l)) true Y;go_simp;exact⟨_,rfl,al⟩
         case' YV=>simp only[show u 6=_ from j 6]
         all_goals
          clear j n m k;refine aj ?_;go_simp;exact⟨_,rfl,al⟩
        ·intro u w' l j k;have z:u 7=_:=j 7 (by omega);clear j k;simp only[bw,bC,bD,bE,ar,Act.put,bF,bG,bH,dj,dk,Nat.reduceAdd,Nat.zero_add,z];have o:=af l;clear l z;have s:=af (s.out.behind o.out);have E:Hid (w'.cell? G=some (.pointer (some ⟨x.g,0,none⟩))):=o.out.ak E.out (fun x=>x);have H:Hid (Mid w' x.g x.nm x.v):=H.out.ao o.out;have t:Hid (w'.cell? p=some (.pointer (some ⟨y.g,0,none⟩))):=o.out.ak t.out (fun x=>x);have C:Hid (Mid w' y.g y.nm y.v):=C.out.ao o.out;clear o;generalize w'=wr at*;go_upto_region 12 with fail;refine ay 14 ag [Is (.slice (some G) P X),Is (.pointer (some G)),Is (.pointer (some ⟨x.g,0,none⟩)),Is (.pointer (some ⟨x.g,0,none⟩)),Is (.pointer (some ⟨x.g,2,none⟩)),Is (.agg x.nm.cells.toArray),Is (.slice (some p) K O),Is (.pointer (some p)),Is (.pointer (some ⟨y.g,0,none⟩)),Is (.pointer (some ⟨y.g,0,none⟩)),Is (.pointer (some ⟨y.g,2,none⟩)),Is (.agg y.nm.cells.toArray),Is (.int .i64 q),Is (.int .i64 q)] [] (fun _=>True) (fun _ _=>false) (by kernel_rfl) (by kernel_rfl) (by kernel_rfl) (by kernel_rfl) ⟨Is.ah _,Is.ah _,Is.ah _,Is.ah _,Is.ah _,Is.ah _,Is.ah _,Is.ah _,Is.ah _,Is.ah _,Is.ah _,Is.ah _,Is.ah _,Is.ah _,trivial⟩ trivial (fun _ _ _ _ h=>h) trivial ?_ ?_
         ·refine⟨?zCI,?YW,?YX,?YY,?YZ,?XA,?zCJ,?XB,?XC,?XD,?zW,?zX,?zY,?zZ,trivial⟩;all_goals intro u w' d l j n m k
          all_goals simp only[bw,bC,bD,bE,ar,Act.put,bF,bG,bH,Nat.reduceAdd,Nat.zero_add]
          case' YW=>simp only[show u 0=_ from j 0]
          case YX=>
           simp only[show u 1=_ from j 1];clear j n m k;refine aj ?_;have q:=l.ak E.out (fun x=>x);go_simp;exact⟨_,rfl,al⟩
          case' YY=>simp only[show u 2=_ from j 2]
          case' YZ=>simp only[show u 3=_ from j 3]
          case XA=>
           simp only[show u 4=_ from j 4];clear j n m k;refine aj ?_;exact au _ _ rfl ⟨x.g,2,none⟩ rfl x.nm.cells _ (fun L v I=>by rw[Addr.add_mid];exact(H.out.ao l).name L v I) Tryz.underlying106 rfl aT ⟨_,rfl,al⟩
          case' XB=>simp only[show u 6=_ from j 6]
          case XC=>
           simp only[show u 7=_ from j 7];clear j n m k;refine aj ?_;have q:=l.ak t.out (fun x=>x);go_simp;exact⟨_,rfl,al⟩
          case' XD=>simp only[show u 8=_ from j 8]
          case' zW=>simp only[show u 9=_ from j 9]
          case zX=>
           simp only[show u 10=_ from j 10];clear j n m k;refine aj ?_;exact au _ _ rfl ⟨y.g,2,none⟩ rfl y.nm.cells _ (fun L v I=>by rw[Addr.add_mid];exact(C.out.ao l).name L v I) Tryz.underlying106 rfl aT ⟨_,rfl,al⟩
          case zY=>
           simp only[show u 5=_ from j 5,show u 11=_ from j 11];clear j n m k;refine aj ?_;go_simp;refine(a9.out _).mono ?_;rintro e b3⟨rfl,f4⟩;exact⟨_,rfl,f4.bO,rfl,trivial⟩
          case' zZ=>simp only[show u 12=_ from j 12]
          all_goals
           clear j n m k;refine aj ?_;go_simp;exact⟨_,rfl,al⟩
         ·intro u w' l j k;have z:u 13=_:=j 13 (by omega);clear j k;simp only[bw,bC,bD,bE,ar,Act.put,bF,bG,bH,dj,dk,Nat.reduceAdd,Nat.zero_add,z];have o:=af l;clear l z;have s:=af (s.out.behind o.out);have E:Hid (w'.cell? G=some (.pointer (some ⟨x.g,0,none⟩))):=o.out.ak E.out (fun x=>x);have H:Hid (Mid w' x.g x.nm x.v):=H.out.ao o.out;have t:Hid (w'.cell? p=some (.pointer (some ⟨y.g,0,none⟩))):=o.out.ak t.out (fun x=>x);have C:Hid (Mid w' y.g y.nm y.v):=C.out.ao o.out;clear o;generalize w'=wr at*;have aI:=E.out;go_wp2_with(refine aC rfl 106 (.tmp 75) rfl ⟨x.g,2,none⟩ rfl x.nm.cells _ ?zC8 Tryz.underlying106 rfl aT (aR.go ?zE6));case zC8=>exact fun L v I=>by rw[Addr.add_mid];exact H.out.name L v I
          unfold aR;refine dM rfl 119 _ rfl (jN (dc x)).cells.toArray _ (by simp only[List.map_toArray,List.map_cons,List.map_nil];rfl) bn.out (aR.go ?zCA);unfold aR;refine wpList_buildSlice rfl 44 119 1 _ rfl (jN (dc x)).cells.toArray U bY Tryz.underlying44 M N ad.out ae.out (by simp only[List.map_toArray,List.map_cons,List.map_nil];exact ai.out _) ?_;refine cP _ rfl _ _ 44 rfl 119 U bY 7 80 Tryz.underlying44 M N Q aq rfl (by decide) _ _ _ rfl s.out.own 1 (jN (dc x)).cells.toArray _ rfl rfl rfl (rC _) (by have:=aN.out;omega) (by decide) ?_;intro v9 aB F;clear aI;have av:Hid (bK 119 7 w1 (.slice none 0 0) aB v9 (done.length+1) (done.flatMap CV.cells++(jN (dc x)).cells)):=s.out.trans F;obtain⟨a8,bh,bb,rfl,_,_⟩:=aG F.own;clear F s;go_wp2;go_roundw;case rel=>exact⟨_,_,_,_,_,_,_,_,done++[jN (dc x)],rfl,rfl,ab.out.tail,V.out,by rw[←aD.out,J.out,List.append_assoc];rfl,by rw[aS,List.flatMap_append,List.flatMap_singleton];exact av.out⟩
          case measure=>simp only[lK];omega
       ·have cy:decide (q<0)=false:=decide_eq_false bV;by_cases ch:0<q
        ·have cE:decide (0<q)=true:=decide_eq_true ch;have cz:decide (q≤0)=false:=cD (by omega);have cA:decide (0≤q)=true:=de (by omega);have J:=af (Gw (ra:=x::ra) (rb:=rb) (y:=y) (.inr ⟨x,ra,rfl,by rw[bv.out];exact ch⟩));have aM:=af (vB (dc y));go_upto_region 11 with fail;refine ay 8 ag [Is (.slice (some G) P X),Is (.pointer (some G)),Is (.pointer (some ⟨x.g,0,none⟩)),Is (.slice (some p) K O),Is (.pointer (some p)),Is (.pointer (some ⟨y.g,0,none⟩)),Is (.bool true),Is (.bool true)] [] (fun _=>True) (fun _ _=>false) (by kernel_rfl) (by kernel_rfl) (by kernel_rfl) (by kernel_rfl) ⟨Is.ah _,Is.ah _,Is.ah _,Is.ah _,Is.ah _,Is.ah _,Is.ah _,Is.ah _,trivial⟩ trivial (fun _ _ _ _ h=>h) trivial ?_ ?_
         ·refine⟨?zD0,?XE,?XF,?zD1,?XG,?XH,?XI,?XJ,trivial⟩;all_goals intro u w' d l j n m k
          all_goals simp only[bw,bC,bD,bE,ar,Act.put,bF,bG,bH,Nat.reduceAdd,Nat.zero_add]
          case' XE=>simp only[show u 0=_ from j 0]
          case XF=>
           simp only[show u 1=_ from j 1];clear j n m k;refine aj ?_;have q:=l.ak E.out (fun x=>x);go_simp;exact⟨_,rfl,al⟩
          case' XG=>simp only[show u 3=_ from j 3]
          case XH=>
           simp only[show u 4=_ from j 4];clear j n m k;refine aj ?_;have q:=l.ak t.out (fun x=>x);go_simp;exact⟨_,rfl,al⟩
          case XI=>
           simp only[show u 2=_ from j 2,show u 5=_ from j 5];clear j n m k;refine aj ?_;have q:=wZ (some ⟨x.g,0,none⟩) (some ⟨y.g,0,none⟩) w' (aa.out.ao (T.out.trans l)) (W.out.ao (T.out.trans l)) true Y;go_simp;exact⟨_,rfl,al⟩
          case' XJ=>simp only[show u 6=_ from j 6]
          all_goals
           clear j n m k;refine aj ?_;go_simp;exact⟨_,rfl,al⟩
         ·intro u w' l j k;have z:u 7=_:=j 7 (by omega);clear j k;simp only[bw,bC,bD,bE,ar,Act.put,bF,bG,bH,dj,dk,Nat.reduceAdd,Nat.zero_add,z];have o:=af l;clear l z;have s:=af (s.out.behind o.out);have E:Hid (w'.cell? G=some (.pointer (some ⟨x.g,0,none⟩))):=o.out.ak E.out (fun x=>x);have H:Hid (Mid w' x.g x.nm x.v):=H.out.ao o.out;have t:Hid (w'.cell? p=some (.pointer (some ⟨y.g,0,none⟩))):=o.out.ak t.out (fun x=>x);have C:Hid (Mid w' y.g y.nm y.v):=C.out.ao o.out;clear o;generalize w'=wr at*;go_upto_region 12 with fail;refine ay 14 ag [Is (.slice (some G) P X),Is (.pointer (some G)),Is (.pointer (some ⟨x.g,0,none⟩)),Is (.pointer (some ⟨x.g,0,none⟩)),Is (.pointer (some ⟨x.g,2,none⟩)),Is (.agg x.nm.cells.toArray),Is (.slice (some p) K O),Is (.pointer (some p)),Is (.pointer (some ⟨y.g,0,none⟩)),Is (.pointer (some ⟨y.g,0,none⟩)),Is (.pointer (some ⟨y.g,2,none⟩)),Is (.agg y.nm.cells.toArray),Is (.int .i64 q),Is (.int .i64 q)] [] (fun _=>True) (fun _ _=>false) (by kernel_rfl) (by kernel_rfl) (by kernel_rfl) (by kernel_rfl) ⟨Is.ah _,Is.ah _,Is.ah _,Is.ah _,Is.ah _,Is.ah _,Is.ah _,Is.ah _,Is.ah _,Is.ah _,Is.ah _,Is.ah _,Is.ah _,Is.ah _,trivial⟩ trivial (fun _ _ _ _ h=>h) trivial ?_ ?_
          ·refine⟨?zD2,?XK,?XL,?XM,?XN,?XO,?zD3,?XP,?XQ,?XR,?yA,?yB,?yC,?yD,trivial⟩;all_goals intro u w' d l j n m k
           all_goals simp only[bw,bC,bD,bE,ar,Act.put,bF,bG,bH,Nat.reduceAdd,Nat.zero_add]
           case' XK=>simp only[show u 0=_ from j 0]
           case XL=>
            simp only[show u 1=_ from j 1];clear j n m k;refine aj ?_;have q:=l.ak E.out (fun x=>x);go_simp;exact⟨_,rfl,al⟩
           case' XM=>simp only[show u 2=_ from j 2]
           case' XN=>simp only[show u 3=_ from j 3]
           case XO=>
            simp only[show u 4=_ from j 4];clear j n m k;refine aj ?_;exact au _ _ rfl ⟨x.g,2,none⟩ rfl x.nm.cells _ (fun L v I=>by rw[Addr.add_mid];exact(H.out.ao l).name L v I) Tryz.underlying106 rfl aT ⟨_,rfl,al⟩
           case' XP=>simp only[show u 6=_ from j 6]
           case XQ=>
            simp only[show u 7=_ from j 7];clear j n m k;refine aj ?_;have q:=l.ak t.out (fun x=>x);go_simp;exact⟨_,rfl,al⟩
           case' XR=>simp only[show u 8=_ from j 8]
           case' yA=>simp only[show u 9=_ from j 9]
           case yB=>
            simp only[show u 10=_ from j 10];clear j n m k;refine aj ?_;exact au _ _ rfl ⟨y.g,2,none⟩ rfl y.nm.cells _ (fun L v I=>by rw[Addr.add_mid];exact(C.out.ao l).name L v I) Tryz.underlying106 rfl aT ⟨_,rfl,al⟩
           case yC=>
            simp only[show u 5=_ from j 5,show u 11=_ from j 11];clear j n m k;refine aj ?_;go_simp;refine(a9.out _).mono ?_;rintro e b3⟨rfl,f4⟩;exact⟨_,rfl,f4.bO,rfl,trivial⟩
           case' yD=>simp only[show u 12=_ from j 12]
           all_goals
            clear j n m k;refine aj ?_;go_simp;exact⟨_,rfl,al⟩
          ·intro u w' l j k;have z:u 13=_:=j 13 (by omega);clear j k;simp only[bw,bC,bD,bE,ar,Act.put,bF,bG,bH,dj,dk,Nat.reduceAdd,Nat.zero_add,z];have o:=af l;clear l z;have s:=af (s.out.behind o.out);have E:Hid (w'.cell? G=some (.pointer (some ⟨x.g,0,none⟩))):=o.out.ak E.out (fun x=>x);have H:Hid (Mid w' x.g x.nm x.v):=H.out.ao o.out;have t:Hid (w'.cell? p=some (.pointer (some ⟨y.g,0,none⟩))):=o.out.ak t.out (fun x=>x);have C:Hid (Mid w' y.g y.nm y.v):=C.out.ao o.out;clear o;generalize w'=wr at*;go_upto_region 15 with fail;refine ay 18 ag [Is (.int .i64 q),Is (.bool true),Is (.bool true),Is (undef),Is (undef),Is (undef),Is (undef),Is (undef),Is (undef),Is (undef),Is (undef),Is (undef),Is (undef),Is (undef),Is (undef),Is (undef),Is (.bool true),Is (.bool true)] [] (fun _=>True) (fun _ _=>false) (by kernel_rfl) (by kernel_rfl) (by kernel_rfl) (by kernel_rfl) ⟨Is.ah _,Is.ah _,Is.ah _,Is.ah _,Is.ah _,Is.ah _,Is.ah _,Is.ah _,Is.ah _,Is.ah _,Is.ah _,Is.ah _,Is.ah _,Is.ah _,Is.ah _,Is.ah _,Is.ah _,Is.ah _,trivial⟩ trivial (fun _ _ _ _ h=>h) trivial ?_ ?_
           ·refine⟨?zD4,?XS,?XT,?XU,?XV,?XW,?XX,?XY,?XZ,?z0,?yE,?yF,?yG,?yH,?yI,?yJ,?yK,?yM,trivial⟩;all_goals intro u w' d l j n m k
            all_goals simp only[bw,bC,bD,bE,ar,Act.put,bF,bG,bH,Nat.reduceAdd,Nat.zero_add]
            case' XS=>simp only[show u 0=_ from j 0]
            case' XT=>simp only[show u 1=_ from j 1]
            case XU=>simp only[show u 2=_ from j 2];exact .inr ⟨by kernel_rfl,_,rfl,az,rfl,trivial⟩
            case XV=>simp only[show u 2=_ from j 2];exact .inr ⟨by kernel_rfl,_,rfl,az,rfl,trivial⟩
            case XW=>simp only[show u 2=_ from j 2];exact .inr ⟨by kernel_rfl,_,rfl,az,rfl,trivial⟩
            case XX=>simp only[show u 2=_ from j 2];exact .inr ⟨by kernel_rfl,_,rfl,az,rfl,trivial⟩
            case XY=>simp only[show u 2=_ from j 2];exact .inr ⟨by kernel_rfl,_,rfl,az,rfl,trivial⟩
            case XZ=>simp only[show u 2=_ from j 2];exact .inr ⟨by kernel_rfl,_,rfl,az,rfl,trivial⟩
            case z0=>simp only[show u 2=_ from j 2];exact .inr ⟨by kernel_rfl,_,rfl,az,rfl,trivial⟩
            case yE=>simp only[show u 2=_ from j 2];exact .inr ⟨by kernel_rfl,_,rfl,az,rfl,trivial⟩
            case yF=>simp only[show u 2=_ from j 2];exact .inr ⟨by kernel_rfl,_,rfl,az,rfl,trivial⟩
            case yG=>simp only[show u 2=_ from j 2];exact .inr ⟨by kernel_rfl,_,rfl,az,rfl,trivial⟩
            case yH=>simp only[show u 2=_ from j 2];exact .inr ⟨by kernel_rfl,_,rfl,az,rfl,trivial⟩
            case yI=>simp only[show u 2=_ from j 2];exact .inr ⟨by kernel_rfl,_,rfl,az,rfl,trivial⟩
            case yJ=>simp only[show u 2=_ from j 2];exact .inr ⟨by kernel_rfl,_,rfl,az,rfl,trivial⟩
            case' yK=>simp only[show u 2=_ from j 2,show u 15=_ from j 15]
            case' yM=>simp only[show u 16=_ from j 16]
            all_goals
             clear j n m k;refine aj ?_;go_simp;exact⟨_,rfl,al⟩
           ·intro u w' l j k;have z:u 17=_:=j 17 (by omega);clear j k;simp only[bw,bC,bD,bE,ar,Act.put,bF,bG,bH,dj,dk,Nat.reduceAdd,Nat.zero_add,z];have o:=af l;clear l z;have s:=af (s.out.behind o.out);have E:Hid (w'.cell? G=some (.pointer (some ⟨x.g,0,none⟩))):=o.out.ak E.out (fun x=>x);have H:Hid (Mid w' x.g x.nm x.v):=H.out.ao o.out;have t:Hid (w'.cell? p=some (.pointer (some ⟨y.g,0,none⟩))):=o.out.ak t.out (fun x=>x);have C:Hid (Mid w' y.g y.nm y.v):=C.out.ao o.out;clear o;generalize w'=wr at*;go_upto_region 16 with fail;refine ay 15 ag [Is (.slice bm done.length c5),Is (.slice (some p) K O),Is (.pointer (some p)),Is (.pointer (some ⟨y.g,0,none⟩)),Is (.pointer (some ⟨y.g,0,none⟩)),Is (.pointer (some ⟨y.g,2,none⟩)),Is (.agg y.nm.cells.toArray),Is (.slice (some p) K O),Is (.pointer (some p)),Is (.pointer (some ⟨y.g,0,none⟩)),Is (.pointer (some ⟨y.g,0,none⟩)),Is (.pointer (some ⟨y.g,7,none⟩)),Is (.string y.v),Is (.agg (gX (dc y)).cells.toArray),(fun a7 a6=>∃g,a7= .slice (some ⟨g,0,none⟩) 1 1∧Rd a6 (fun _=>True) 7 (some ⟨g,0,none⟩) 1 (gX (dc y)).cells)] [] (fun _=>True) (fun _ _=>false) (by kernel_rfl) (by kernel_rfl) (by kernel_rfl) (by kernel_rfl) ⟨Is.ah _,Is.ah _,Is.ah _,Is.ah _,Is.ah _,Is.ah _,Is.ah _,Is.ah _,Is.ah _,Is.ah _,Is.ah _,Is.ah _,Is.ah _,Is.ah _,fun _ _ _ _ f h=>by obtain⟨g,e,r⟩:=h;exact⟨g,e,r.ao f⟩,trivial⟩ trivial (fun _ _ _ _ h=>h) trivial ?_ ?_
            ·refine⟨?zD5,?zD6,?z1,?z2,?z3,?z4,?z5,?zD7,?z6,?z7,?yN,?yO,?yP,?yQ,?yR,trivial⟩;all_goals intro u w' d l j n m k
             all_goals simp only[bw,bC,bD,bE,ar,Act.put,bF,bG,bH,Nat.reduceAdd,Nat.zero_add]
             case' z1=>simp only[show u 1=_ from j 1]
             case z2=>
              simp only[show u 2=_ from j 2];clear j n m k;refine aj ?_;have q:=l.ak t.out (fun x=>x);go_simp;exact⟨_,rfl,al⟩
             case' z3=>simp only[show u 3=_ from j 3]
             case' z4=>simp only[show u 4=_ from j 4]
             case z5=>
              simp only[show u 5=_ from j 5];clear j n m k;refine aj ?_;exact au _ _ rfl ⟨y.g,2,none⟩ rfl y.nm.cells _ (fun L v I=>by rw[Addr.add_mid];exact(C.out.ao l).name L v I) Tryz.underlying106 rfl aT ⟨_,rfl,al⟩
             case' z6=>simp only[show u 7=_ from j 7]
             case z7=>
              simp only[show u 8=_ from j 8];clear j n m k;refine aj ?_;have q:=l.ak t.out (fun x=>x);go_simp;exact⟨_,rfl,al⟩
             case' yN=>simp only[show u 9=_ from j 9]
             case' yO=>simp only[show u 10=_ from j 10]
             case yP=>
              simp only[show u 11=_ from j 11];clear j n m k;refine aj ?_;have q:=(C.out.ao l).val;go_simp;exact⟨_,rfl,al⟩
             case yQ=>
              simp only[show u 6=_ from j 6,show u 12=_ from j 12];clear j n m k;refine aj ?_;exact iA 119 _ rfl (gX (dc y)).cells.toArray _ (by simp only[List.map_toArray,List.map_cons,List.map_nil];rfl) aM.out ⟨_,rfl,al⟩
             case yR=>
              simp only[show u 13=_ from j 13];clear j n m k;refine aj ?_;refine wp_buildSlice 44 119 1 _ rfl (gX (dc y)).cells.toArray U bY Tryz.underlying44 M N ad.out ae.out (by simp only[List.map_toArray,List.map_cons,List.map_nil];exact ai.out _) ?_;exact⟨_,rfl,az.alloc _,⟨_,rfl,(uO w' (gX (dc y)).cells.toArray 119 7 1 rfl).any⟩,trivial⟩
             all_goals
              clear j n m k;refine aj ?_;go_simp;exact⟨_,rfl,al⟩
            ·intro u w' l j k;have m:u 0=_:=j 0 (by omega);obtain⟨g9,R,S⟩:=j 14 (by omega);clear j k;simp only[bw,bC,bD,bE,ar,Act.put,bF,bG,bH,dj,dk,Nat.reduceAdd,Nat.zero_add,m,R];have s:=af (s.out.behind l);have ac:=af S;clear l m R S;refine dR _ rfl _ _ 44 rfl 119 U bY 7 80 Tryz.underlying44 M N Q aq rfl (by decide) _ _ _ rfl s.out.own _ _ 1 1 _ rfl ac.out (rC _) (by have:=aN.out;omega) (by decide) ?_;intro v9 aB F;have av:Hid (bK 119 7 w1 (.slice none 0 0) aB v9 (done.length+1) (done.flatMap CV.cells++(gX (dc y)).cells)):=s.out.trans F;obtain⟨a8,bh,bb,rfl,_,_⟩:=aG F.own;clear F s;go_wp2;go_roundw;case rel=>exact⟨_,_,_,_,_,_,_,_,done++[gX (dc y)],rfl,rfl,ab.out,V.out.tail,by rw[←aD.out,J.out,List.append_assoc];rfl,by rw[aS,List.flatMap_append,List.flatMap_singleton];exact av.out⟩
             case measure=>simp only[lK];omega
        ·obtain rfl:q=0:=by omega
         have aJ:bQ x.nm y.nm=0:=bv.out;cases I:(x.v==y.v)
         ·have ck:(x.v.toList==y.v.toList)=false:=by rw[JR];exact I
          have J:=af (Ek (ra:=ra) (rb:=rb) aJ I);have aM:=af (vB (dc y));clear I aJ;go_upto_region 11 with fail;refine ay 8 ag [Is (.slice (some G) P X),Is (.pointer (some G)),Is (.pointer (some ⟨x.g,0,none⟩)),Is (.slice (some p) K O),Is (.pointer (some p)),Is (.pointer (some ⟨y.g,0,none⟩)),Is (.bool true),Is (.bool true)] [] (fun _=>True) (fun _ _=>false) (by kernel_rfl) (by kernel_rfl) (by kernel_rfl) (by kernel_rfl) ⟨Is.ah _,Is.ah _,Is.ah _,Is.ah _,Is.ah _,Is.ah _,Is.ah _,Is.ah _,trivial⟩ trivial (fun _ _ _ _ h=>h) trivial ?_ ?_
          ·refine⟨?zD8,?z8,?z9,?zD9,?y0,?y1,?y2,?y3,trivial⟩;all_goals intro u w' d l j n m k
           all_goals simp only[bw,bC,bD,bE,ar,Act.put,bF,bG,bH,Nat.reduceAdd,Nat.zero_add]
           case' z8=>simp only[show u 0=_ from j 0]
           case z9=>
            simp only[show u 1=_ from j 1];clear j n m k;refine aj ?_;have q:=l.ak E.out (fun x=>x);go_simp;exact⟨_,rfl,al⟩
           case' y0=>simp only[show u 3=_ from j 3]
           case y1=>
            simp only[show u 4=_ from j 4];clear j n m k;refine aj ?_;have q:=l.ak t.out (fun x=>x);go_simp;exact⟨_,rfl,al⟩
           case y2=>
            simp only[show u 2=_ from j 2,show u 5=_ from j 5];clear j n m k;refine aj ?_;have q:=wZ (some ⟨x.g,0,none⟩) (some ⟨y.g,0,none⟩) w' (aa.out.ao (T.out.trans l)) (W.out.ao (T.out.trans l)) true Y;go_simp;exact⟨_,rfl,al⟩
           case' y3=>simp only[show u 6=_ from j 6]
           all_goals
            clear j n m k;refine aj ?_;go_simp;exact⟨_,rfl,al⟩
          ·intro u w' l j k;have z:u 7=_:=j 7 (by omega);clear j k;simp only[bw,bC,bD,bE,ar,Act.put,bF,bG,bH,dj,dk,Nat.reduceAdd,Nat.zero_add,z];have o:=af l;clear l z;have s:=af (s.out.behind o.out);have E:Hid (w'.cell? G=some (.pointer (some ⟨x.g,0,none⟩))):=o.out.ak E.out (fun x=>x);have H:Hid (Mid w' x.g x.nm x.v):=H.out.ao o.out;have t:Hid (w'.cell? p=some (.pointer (some ⟨y.g,0,none⟩))):=o.out.ak t.out (fun x=>x);have C:Hid (Mid w' y.g y.nm y.v):=C.out.ao o.out;clear o;generalize w'=wr at*;go_upto_region 12 with fail;refine ay 14 ag [Is (.slice (some G) P X),Is (.pointer (some G)),Is (.pointer (some ⟨x.g,0,none⟩)),Is (.pointer (some ⟨x.g,0,none⟩)),Is (.pointer (some ⟨x.g,2,none⟩)),Is (.agg x.nm.cells.toArray),Is (.slice (some p) K O),Is (.pointer (some p)),Is (.pointer (some ⟨y.g,0,none⟩)),Is (.pointer (some ⟨y.g,0,none⟩)),Is (.pointer (some ⟨y.g,2,none⟩)),Is (.agg y.nm.cells.toArray),Is (.int .i64 0),Is (.int .i64 0)] [] (fun _=>True) (fun _ _=>false) (by kernel_rfl) (by kernel_rfl) (by kernel_rfl) (by kernel_rfl) ⟨Is.ah _,Is.ah _,Is.ah _,Is.ah _,Is.ah _,Is.ah _,Is.ah _,Is.ah _,Is.ah _,Is.ah _,Is.ah _,Is.ah _,Is.ah _,Is.ah _,trivial⟩ trivial (fun _ _ _ _ h=>h) trivial ?_ ?_
           ·refine⟨?zDA,?y4,?y5,?y6,?y7,?y8,?zDB,?y9,?x0,?x1,?yS,?yT,?yU,?yV,trivial⟩;all_goals intro u w' d l j n m k
            all_goals simp only[bw,bC,bD,bE,ar,Act.put,bF,bG,bH,Nat.reduceAdd,Nat.zero_add]
            case' y4=>simp only[show u 0=_ from j 0]
            case y5=>
             simp only[show u 1=_ from j 1];clear j n m k;refine aj ?_;have q:=l.ak E.out (fun x=>x);go_simp;exact⟨_,rfl,al⟩
            case' y6=>simp only[show u 2=_ from j 2]
            case' y7=>simp only[show u 3=_ from j 3]
            case y8=>
             simp only[show u 4=_ from j 4];clear j n m k;refine aj ?_;exact au _ _ rfl ⟨x.g,2,none⟩ rfl x.nm.cells _ (fun L v I=>by rw[Addr.add_mid];exact(H.out.ao l).name L v I) Tryz.underlying106 rfl aT ⟨_,rfl,al⟩
            case' y9=>simp only[show u 6=_ from j 6]
            case x0=>
             simp only[show u 7=_ from j 7];clear j n m k;refine aj ?_;have q:=l.ak t.out (fun x=>x);go_simp;exact⟨_,rfl,al⟩
            case' x1=>simp only[show u 8=_ from j 8]
            case' yS=>simp only[show u 9=_ from j 9]
            case yT=>
             simp only[show u 10=_ from j 10];clear j n m k;refine aj ?_;exact au _ _ rfl ⟨y.g,2,none⟩ rfl y.nm.cells _ (fun L v I=>by rw[Addr.add_mid];exact(C.out.ao l).name L v I) Tryz.underlying106 rfl aT ⟨_,rfl,al⟩
            case yU=>
             simp only[show u 5=_ from j 5,show u 11=_ from j 11];clear j n m k;refine aj ?_;go_simp;refine(a9.out _).mono ?_;rintro e b3⟨rfl,f4⟩;exact⟨_,rfl,f4.bO,rfl,trivial⟩
            case' yV=>simp only[show u 12=_ from j 12]
            all_goals
             clear j n m k;refine aj ?_;go_simp;exact⟨_,rfl,al⟩
           ·intro u w' l j k;have z:u 13=_:=j 13 (by omega);clear j k;simp only[bw,bC,bD,bE,ar,Act.put,bF,bG,bH,dj,dk,Nat.reduceAdd,Nat.zero_add,z];have o:=af l;clear l z;have s:=af (s.out.behind o.out);have E:Hid (w'.cell? G=some (.pointer (some ⟨x.g,0,none⟩))):=o.out.ak E.out (fun x=>x);have H:Hid (Mid w' x.g x.nm x.v):=H.out.ao o.out;have t:Hid (w'.cell? p=some (.pointer (some ⟨y.g,0,none⟩))):=o.out.ak t.out (fun x=>x);have C:Hid (Mid w' y.g y.nm y.v):=C.out.ao o.out;clear o;generalize w'=wr at*;go_upto_region 15 with fail;refine ay 18 ag [Is (.int .i64 0),Is (.bool false),Is (.bool false),Is (.slice (some G) P X),Is (.pointer (some G)),Is (.pointer (some ⟨x.g,0,none⟩)),Is (.pointer (some ⟨x.g,0,none⟩)),Is (.pointer (some ⟨x.g,7,none⟩)),Is (.string x.v),Is (.slice (some p) K O),Is (.pointer (some p)),Is (.pointer (some ⟨y.g,0,none⟩)),Is (.pointer (some ⟨y.g,0,none⟩)),Is (.pointer (some ⟨y.g,7,none⟩)),Is (.string y.v),Is (.bool true),Is (.bool true),Is (.bool true)] [] (fun _=>True) (fun _ _=>false) (by kernel_rfl) (by kernel_rfl) (by kernel_rfl) (by kernel_rfl) ⟨Is.ah _,Is.ah _,Is.ah _,Is.ah _,Is.ah _,Is.ah _,Is.ah _,Is.ah _,Is.ah _,Is.ah _,Is.ah _,Is.ah _,Is.ah _,Is.ah _,Is.ah _,Is.ah _,Is.ah _,Is.ah _,trivial⟩ trivial (fun _ _ _ _ h=>h) trivial ?_ ?_
            ·refine⟨?zDC,?x2,?x3,?x4,?x5,?x6,?x7,?x8,?x9,?zA0,?yW,?yX,?yY,?yZ,?xA,?xB,?xC,?xD,trivial⟩;all_goals intro u w' d l j n m k
             all_goals simp only[bw,bC,bD,bE,ar,Act.put,bF,bG,bH,Nat.reduceAdd,Nat.zero_add]
             case' x2=>simp only[show u 0=_ from j 0]
             case' x3=>simp only[show u 1=_ from j 1]
             case' x4=>simp only[show u 2=_ from j 2]
             case' x5=>simp only[show u 3=_ from j 3,show u 2=_ from j 2]
             case x6=>
              simp only[show u 4=_ from j 4,show u 2=_ from j 2];clear j n m k;refine aj ?_;have q:=l.ak E.out (fun x=>x);go_simp;exact⟨_,rfl,al⟩
             case' x7=>simp only[show u 5=_ from j 5,show u 2=_ from j 2]
             case' x8=>simp only[show u 6=_ from j 6,show u 2=_ from j 2]
             case x9=>
              simp only[show u 7=_ from j 7,show u 2=_ from j 2];clear j n m k;refine aj ?_;have q:=(H.out.ao l).val;go_simp;exact⟨_,rfl,al⟩
             case' zA0=>simp only[show u 2=_ from j 2]
             case' yW=>simp only[show u 9=_ from j 9,show u 2=_ from j 2]
             case yX=>
              simp only[show u 10=_ from j 10,show u 2=_ from j 2];clear j n m k;refine aj ?_;have q:=l.ak t.out (fun x=>x);go_simp;exact⟨_,rfl,al⟩
             case' yY=>simp only[show u 11=_ from j 11,show u 2=_ from j 2]
             case' yZ=>simp only[show u 12=_ from j 12,show u 2=_ from j 2]
             case xA=>
              simp only[show u 13=_ from j 13,show u 2=_ from j 2];clear j n m k;refine aj ?_;have q:=(C.out.ao l).val;go_simp;exact⟨_,rfl,al⟩
             case' xB=>simp only[show u 8=_ from j 8,show u 14=_ from j 14,show u 2=_ from j 2]
             case' xC=>simp only[show u 2=_ from j 2,show u 15=_ from j 15]
             case' xD=>simp only[show u 16=_ from j 16]
             all_goals
              clear j n m k;refine aj ?_;go_simp;exact⟨_,rfl,al⟩
            ·intro u w' l j k;have z:u 17=_:=j 17 (by omega);clear j k;simp only[bw,bC,bD,bE,ar,Act.put,bF,bG,bH,dj,dk,Nat.reduceAdd,Nat.zero_add,z];have o:=af l;clear l z;have s:=af (s.out.behind o.out);have E:Hid (w'.cell? G=some (.pointer (some ⟨x.g,0,none⟩))):=o.out.ak E.out (fun x=>x);have H:Hid (Mid w' x.g x.nm x.v):=H.out.ao o.out;have t:Hid (w'.cell? p=some (.pointer (some ⟨y.g,0,none⟩))):=o.out.ak t.out (fun x=>x);have C:Hid (Mid w' y.g y.nm y.v):=C.out.ao o.out;clear o;generalize w'=wr at*;go_upto_region 16 with fail;refine ay 15 ag [Is (.slice bm done.length c5),Is (.slice (some p) K O),Is (.pointer (some p)),Is (.pointer (some ⟨y.g,0,none⟩)),Is (.pointer (some ⟨y.g,0,none⟩)),Is (.pointer (some ⟨y.g,2,none⟩)),Is (.agg y.nm.cells.toArray),Is (.slice (some p) K O),Is (.pointer (some p)),Is (.pointer (some ⟨y.g,0,none⟩)),Is (.pointer (some ⟨y.g,0,none⟩)),Is (.pointer (some ⟨y.g,7,none⟩)),Is (.string y.v),Is (.agg (gX (dc y)).cells.toArray),(fun a7 a6=>∃g,a7= .slice (some ⟨g,0,none⟩) 1 1∧Rd a6 (fun _=>True) 7 (some ⟨g,0,none⟩) 1 (gX (dc y)).cells)] [] (fun _=>True) (fun _ _=>false) (by kernel_rfl) (by kernel_rfl) (by kernel_rfl) (by kernel_rfl) ⟨Is.ah _,Is.ah _,Is.ah _,Is.ah _,Is.ah _,Is.ah _,Is.ah _,Is.ah _,Is.ah _,Is.ah _,Is.ah _,Is.ah _,Is.ah _,Is.ah _,fun _ _ _ _ f h=>by obtain⟨g,e,r⟩:=h;exact⟨g,e,r.ao f⟩,trivial⟩ trivial (fun _ _ _ _ h=>h) trivial ?_ ?_
             ·refine⟨?zDD,?zDE,?zA1,?zA2,?zA3,?zA4,?zA5,?zDF,?zA6,?zA7,?xE,?xF,?xG,?xH,?xI,trivial⟩;all_goals intro u w' d l j n m k
              all_goals simp only[bw,bC,bD,bE,ar,Act.put,bF,bG,bH,Nat.reduceAdd,Nat.zero_add]
              case' zA1=>simp only[show u 1=_ from j 1]
              case zA2=>
               simp only[show u 2=_ from j 2];clear j n m k;refine aj ?_;have q:=l.ak t.out (fun x=>x);go_simp;exact⟨_,rfl,al⟩
              case' zA3=>simp only[show u 3=_ from j 3]
              case' zA4=>simp only[show u 4=_ from j 4]
              case zA5=>
               simp only[show u 5=_ from j 5];clear j n m k;refine aj ?_;exact au _ _ rfl ⟨y.g,2,none⟩ rfl y.nm.cells _ (fun L v I=>by rw[Addr.add_mid];exact(C.out.ao l).name L v I) Tryz.underlying106 rfl aT ⟨_,rfl,al⟩
              case' zA6=>simp only[show u 7=_ from j 7]
              case zA7=>
               simp only[show u 8=_ from j 8];clear j n m k;refine aj ?_;have q:=l.ak t.out (fun x=>x);go_simp;exact⟨_,rfl,al⟩
              case' xE=>simp only[show u 9=_ from j 9]
              case' xF=>simp only[show u 10=_ from j 10]
              case xG=>
               simp only[show u 11=_ from j 11];clear j n m k;refine aj ?_;have q:=(C.out.ao l).val;go_simp;exact⟨_,rfl,al⟩
              case xH=>
               simp only[show u 6=_ from j 6,show u 12=_ from j 12];clear j n m k;refine aj ?_;exact iA 119 _ rfl (gX (dc y)).cells.toArray _ (by simp only[List.map_toArray,List.map_cons,List.map_nil];rfl) aM.out ⟨_,rfl,al⟩
              case xI=>
               simp only[show u 13=_ from j 13];clear j n m k;refine aj ?_;refine wp_buildSlice 44 119 1 _ rfl (gX (dc y)).cells.toArray U bY Tryz.underlying44 M N ad.out ae.out (by simp only[List.map_toArray,List.map_cons,List.map_nil];exact ai.out _) ?_;exact⟨_,rfl,az.alloc _,⟨_,rfl,(uO w' (gX (dc y)).cells.toArray 119 7 1 rfl).any⟩,trivial⟩
              all_goals
               clear j n m k;refine aj ?_;go_simp;exact⟨_,rfl,al⟩
             ·intro u w' l j k;have m:u 0=_:=j 0 (by omega);obtain⟨g9,R,S⟩:=j 14 (by omega);clear j k;simp only[bw,bC,bD,bE,ar,Act.put,bF,bG,bH,dj,dk,Nat.reduceAdd,Nat.zero_add,m,R];have s:=af (s.out.behind l);have ac:=af S;clear l m R S;refine dR _ rfl _ _ 44 rfl 119 U bY 7 80 Tryz.underlying44 M N Q aq rfl (by decide) _ _ _ rfl s.out.own _ _ 1 1 _ rfl ac.out (rC _) (by have:=aN.out;omega) (by decide) ?_;intro v9 aB F;have av:Hid (bK 119 7 w1 (.slice none 0 0) aB v9 (done.length+1) (done.flatMap CV.cells++(gX (dc y)).cells)):=s.out.trans F;obtain⟨a8,bh,bb,rfl,_,_⟩:=aG F.own;clear F s;go_wp2;go_roundw;case rel=>exact⟨_,_,_,_,_,_,_,_,done++[gX (dc y)],rfl,rfl,ab.out.tail,V.out.tail,by rw[←aD.out,J.out,List.append_assoc];rfl,by rw[aS,List.flatMap_append,List.flatMap_singleton];exact av.out⟩
              case measure=>simp only[lK];omega
         ·have ck:(x.v.toList==y.v.toList)=true:=by rw[JR];exact I
          have J:=af (yy (ra:=ra) (rb:=rb) aJ I);clear I aJ;go_upto_region 11 with fail;refine ay 8 ag [Is (.slice (some G) P X),Is (.pointer (some G)),Is (.pointer (some ⟨x.g,0,none⟩)),Is (.slice (some p) K O),Is (.pointer (some p)),Is (.pointer (some ⟨y.g,0,none⟩)),Is (.bool true),Is (.bool true)] [] (fun _=>True) (fun _ _=>false) (by kernel_rfl) (by kernel_rfl) (by kernel_rfl) (by kernel_rfl) ⟨Is.ah _,Is.ah _,Is.ah _,Is.ah _,Is.ah _,Is.ah _,Is.ah _,Is.ah _,trivial⟩ trivial (fun _ _ _ _ h=>h) trivial ?_ ?_
          ·refine⟨?zDG,?zA8,?zA9,?zDH,?zAA,?zAB,?zAC,?zAD,trivial⟩;all_goals intro u w' d l j n m k
           all_goals simp only[bw,bC,bD,bE,ar,Act.put,bF,bG,bH,Nat.reduceAdd,Nat.zero_add]
           case' zA8=>simp only[show u 0=_ from j 0]
           case zA9=>
            simp only[show u 1=_ from j 1];clear j n m k;refine aj ?_;have q:=l.ak E.out (fun x=>x);go_simp;exact⟨_,rfl,al⟩
           case' zAA=>simp only[show u 3=_ from j 3]
           case zAB=>
            simp only[show u 4=_ from j 4];clear j n m k;refine aj ?_;have q:=l.ak t.out (fun x=>x);go_simp;exact⟨_,rfl,al⟩
           case zAC=>
            simp only[show u 2=_ from j 2,show u 5=_ from j 5];clear j n m k;refine aj ?_;have q:=wZ (some ⟨x.g,0,none⟩) (some ⟨y.g,0,none⟩) w' (aa.out.ao (T.out.trans l)) (W.out.ao (T.out.trans l)) true Y;go_simp;exact⟨_,rfl,al⟩
           case' zAD=>simp only[show u 6=_ from j 6]
           all_goals
            clear j n m k;refine aj ?_;go_simp;exact⟨_,rfl,al⟩
          ·intro u w' l j k;have z:u 7=_:=j 7 (by omega);clear j k;simp only[bw,bC,bD,bE,ar,Act.put,bF,bG,bH,dj,dk,Nat.reduceAdd,Nat.zero_add,z];have o:=af l;clear l z;have s:=af (s.out.behind o.out);have E:Hid (w'.cell? G=some (.pointer (some ⟨x.g,0,none⟩))):=o.out.ak E.out (fun x=>x);have H:Hid (Mid w' x.g x.nm x.v):=H.out.ao o.out;have t:Hid (w'.cell? p=some (.pointer (some ⟨y.g,0,none⟩))):=o.out.ak t.out (fun x=>x);have C:Hid (Mid w' y.g y.nm y.v):=C.out.ao o.out;clear o;generalize w'=wr at*;go_upto_region 12 with fail;refine ay 14 ag [Is (.slice (some G) P X),Is (.pointer (some G)),Is (.pointer (some ⟨x.g,0,none⟩)),Is (.pointer (some ⟨x.g,0,none⟩)),Is (.pointer (some ⟨x.g,2,none⟩)),Is (.agg x.nm.cells.toArray),Is (.slice (some p) K O),Is (.pointer (some p)),Is (.pointer (some ⟨y.g,0,none⟩)),Is (.pointer (some ⟨y.g,0,none⟩)),Is (.pointer (some ⟨y.g,2,none⟩)),Is (.agg y.nm.cells.toArray),Is (.int .i64 0),Is (.int .i64 0)] [] (fun _=>True) (fun _ _=>false) (by kernel_rfl) (by kernel_rfl) (by kernel_rfl) (by kernel_rfl) ⟨Is.ah _,Is.ah _,Is.ah _,Is.ah _,Is.ah _,Is.ah _,Is.ah _,Is.ah _,Is.ah _,Is.ah _,Is.ah _,Is.ah _,Is.ah _,Is.ah _,trivial⟩ trivial (fun _ _ _ _ h=>h) trivial ?_ ?_
           ·refine⟨?zDI,?zAE,?zAF,?zAG,?zAH,?zAI,?zDJ,?zAJ,?zB0,?zB1,?xJ,?xK,?xL,?xM,trivial⟩;all_goals intro u w' d l j n m k
            all_goals simp only[bw,bC,bD,bE,ar,Act.put,bF,bG,bH,Nat.reduceAdd,Nat.zero_add]
            case' zAE=>simp only[show u 0=_ from j 0]
            case zAF=>
             simp only[show u 1=_ from j 1];clear j n m k;refine aj ?_;have q:=l.ak E.out (fun x=>x);go_simp;exact⟨_,rfl,al⟩
            case' zAG=>simp only[show u 2=_ from j 2]
            case' zAH=>simp only[show u 3=_ from j 3]
            case zAI=>
             simp only[show u 4=_ from j 4];clear j n m k;refine aj ?_;exact au _ _ rfl ⟨x.g,2,none⟩ rfl x.nm.cells _ (fun L v I=>by rw[Addr.add_mid];exact(H.out.ao l).name L v I) Tryz.underlying106 rfl aT ⟨_,rfl,al⟩
            case' zAJ=>simp only[show u 6=_ from j 6]
            case zB0=>
             simp only[show u 7=_ from j 7];clear j n m k;refine aj ?_;have q:=l.ak t.out (fun x=>x);go_simp;exact⟨_,rfl,al⟩
            case' zB1=>simp only[show u 8=_ from j 8]
            case' xJ=>simp only[show u 9=_ from j 9]
            case xK=>
             simp only[show u 10=_ from j 10];clear j n m k;refine aj ?_;exact au _ _ rfl ⟨y.g,2,none⟩ rfl y.nm.cells _ (fun L v I=>by rw[Addr.add_mid];exact(C.out.ao l).name L v I) Tryz.underlying106 rfl aT ⟨_,rfl,al⟩
            case xL=>
             simp only[show u 5=_ from j 5,show u 11=_ from j 11];clear j n m k;refine aj ?_;go_simp;refine(a9.out _).mono ?_;rintro e b3⟨rfl,f4⟩;exact⟨_,rfl,f4.bO,rfl,trivial⟩
            case' xM=>simp only[show u 12=_ from j 12]
            all_goals
             clear j n m k;refine aj ?_;go_simp;exact⟨_,rfl,al⟩
           ·intro u w' l j k;have z:u 13=_:=j 13 (by omega);clear j k;simp only[bw,bC,bD,bE,ar,Act.put,bF,bG,bH,dj,dk,Nat.reduceAdd,Nat.zero_add,z];have o:=af l;clear l z;have s:=af (s.out.behind o.out);have E:Hid (w'.cell? G=some (.pointer (some ⟨x.g,0,none⟩))):=o.out.ak E.out (fun x=>x);have H:Hid (Mid w' x.g x.nm x.v):=H.out.ao o.out;have t:Hid (w'.cell? p=some (.pointer (some ⟨y.g,0,none⟩))):=o.out.ak t.out (fun x=>x);have C:Hid (Mid w' y.g y.nm y.v):=C.out.ao o.out;clear o;generalize w'=wr at*;go_upto_region 15 with fail;refine ay 18 ag [Is (.int .i64 0),Is (.bool false),Is (.bool false),Is (.slice (some G) P X),Is (.pointer (some G)),Is (.pointer (some ⟨x.g,0,none⟩)),Is (.pointer (some ⟨x.g,0,none⟩)),Is (.pointer (some ⟨x.g,7,none⟩)),Is (.string x.v),Is (.slice (some p) K O),Is (.pointer (some p)),Is (.pointer (some ⟨y.g,0,none⟩)),Is (.pointer (some ⟨y.g,0,none⟩)),Is (.pointer (some ⟨y.g,7,none⟩)),Is (.string y.v),Is (.bool false),Is (.bool false),Is (.bool false)] [] (fun _=>True) (fun _ _=>false) (by kernel_rfl) (by kernel_rfl) (by kernel_rfl) (by kernel_rfl) ⟨Is.ah _,Is.ah _,Is.ah _,Is.ah _,Is.ah _,Is.ah _,Is.ah _,Is.ah _,Is.ah _,Is.ah _,Is.ah _,Is.ah _,Is.ah _,Is.ah _,Is.ah _,Is.ah _,Is.ah _,Is.ah _,trivial⟩ trivial (fun _ _ _ _ h=>h) trivial ?_ ?_
            ·refine⟨?zE0,?zB2,?zB3,?zB4,?zB5,?zB6,?zB7,?zB8,?zB9,?zBA,?xN,?xO,?xQ,?xR,?xS,?xT,?xU,?xV,trivial⟩;all_goals intro u w' d l j n m k
             all_goals simp only[bw,bC,bD,bE,ar,Act.put,bF,bG,bH,Nat.reduceAdd,Nat.zero_add]
             case' zB2=>simp only[show u 0=_ from j 0]
             case' zB3=>simp only[show u 1=_ from j 1]
             case' zB4=>simp only[show u 2=_ from j 2]
             case' zB5=>simp only[show u 3=_ from j 3,show u 2=_ from j 2]
             case zB6=>
              simp only[show u 4=_ from j 4,show u 2=_ from j 2];clear j n m k;refine aj ?_;have q:=l.ak E.out (fun x=>x);go_simp;exact⟨_,rfl,al⟩
             case' zB7=>simp only[show u 5=_ from j 5,show u 2=_ from j 2]
             case' zB8=>simp only[show u 6=_ from j 6,show u 2=_ from j 2]
             case zB9=>
              simp only[show u 7=_ from j 7,show u 2=_ from j 2];clear j n m k;refine aj ?_;have q:=(H.out.ao l).val;go_simp;exact⟨_,rfl,al⟩
             case' zBA=>simp only[show u 2=_ from j 2]
             case' xN=>simp only[show u 9=_ from j 9,show u 2=_ from j 2]
             case xO=>
              simp only[show u 10=_ from j 10,show u 2=_ from j 2];clear j n m k;refine aj ?_;have q:=l.ak t.out (fun x=>x);go_simp;exact⟨_,rfl,al⟩
             case' xQ=>simp only[show u 11=_ from j 11,show u 2=_ from j 2]
             case' xR=>simp only[show u 12=_ from j 12,show u 2=_ from j 2]
             case xS=>
              simp only[show u 13=_ from j 13,show u 2=_ from j 2];clear j n m k;refine aj ?_;have q:=(C.out.ao l).val;go_simp;exact⟨_,rfl,al⟩
             case' xT=>simp only[show u 8=_ from j 8,show u 14=_ from j 14,show u 2=_ from j 2]
             case' xU=>simp only[show u 2=_ from j 2,show u 15=_ from j 15]
             case' xV=>simp only[show u 16=_ from j 16]
             all_goals
              clear j n m k;refine aj ?_;go_simp;exact⟨_,rfl,al⟩
            ·intro u w' l j k;have z:u 17=_:=j 17 (by omega);clear j k;simp only[bw,bC,bD,bE,ar,Act.put,bF,bG,bH,dj,dk,Nat.reduceAdd,Nat.zero_add,z];have o:=af l;clear l z;have s:=af (s.out.behind o.out);have E:Hid (w'.cell? G=some (.pointer (some ⟨x.g,0,none⟩))):=o.out.ak E.out (fun x=>x);have H:Hid (Mid w' x.g x.nm x.v):=H.out.ao o.out;have t:Hid (w'.cell? p=some (.pointer (some ⟨y.g,0,none⟩))):=o.out.ak t.out (fun x=>x);have C:Hid (Mid w' y.g y.nm y.v):=C.out.ao o.out;clear o;generalize w'=wr at*;go_wp2;go_roundw;case rel=>exact⟨_,_,_,_,_,_,_,_,done,rfl,rfl,ab.out.tail,V.out.tail,by rw[←aD.out,J.out],s.out⟩
             case measure=>simp only[lK];omega
end Go.Proofs.YtphjagkehiklkaaGreatDoor
