/- Texts. -/
import Derived.Test.YtphjagkehiklkaaGreatDoorUK33
import Derived.Test.YtphjagkehiklkaaGreatDoorUK38
set_option linter.unusedVariables false
set_option linter.unusedSimpArgs false
set_option maxRecDepth 100000
set_option maxHeartbeats 4000000
namespace Go.Proofs.YtphjagkehiklkaaGreatDoor
open Go.RowKit Go.Shelf
theorem eA{P:Program}{fn:Func}{p q:Tmp}{ty:TypeId}(h:fn.results=#[.tmp q, .cell p ty])(tmps:Array Value)(w:World)(g:Nat)(t:TypeId)(cs:Array Value)(fr:Nat×Nat)(d:TypeDesc)
  (i:tmps.getD p undef= .pointer (some ⟨g,0,none⟩))(e:w.heap[g]? =some (.cells cs t fr))
  (hu:P.underlying ty=some d)(c:(match d with| .struct _| .array _ _=>true|_=>false)=true)(f:(P.info? ty).map (·.size)=some cs.size)(v:Value)(j:tmps.getD q undef=v):
  (results fn tmps).run P w= .ok (.tuple #[v, .agg cs]) w:=by
 have a:tmps[p]?.getD undef= .pointer (some ⟨g,0,none⟩):=by simpa using i
 have b:tmps[q]?.getD undef=v:=by simpa using j
 simp[results,h,a,b,asAddr,run_loadVar_row w g t ty cs fr d e hu c f]
def qU:List Value:=[.pointer none, .slice none 0 0]
theorem Gf(w:World):(zeroValue 28).run Tryz.prog w= .ok (.agg qU.toArray) w:=by kernel_rfl
theorem ia:(Tryz.prog.info? 28).map (·.size)=some 2:=by kernel_rfl
theorem Gp(b:Nat)(A:Option Addr)(n c:Nat):Tryz.prog.built 28 [(0, .pointer (some ⟨b,0,none⟩)),(1, .slice A n c)]=some [Value.pointer (some ⟨b,0,none⟩), .slice A n c].toArray:=by kernel_rfl
def Be(w:World)(ms:List Value)(b:Nat)(E:List Ent)(L:List ActV)(a:ActV)(e:Ending)(w':World):Prop:=∃c:List Value,e= .returned (.tuple #[.int .i64 (ee L a).1, .agg c.toArray])∧Mod w' c b E (ee L a).2∧Fr af w w'∧∀v∈c,∀k,v.ownBlock=some k→w.heap.size≤k∨∃u∈ms,u.ownBlock=some k
theorem xD(ms cs:List Value)(b:Nat)(E:List Ent)(L:List ActV)(a:ActV)(w:World)(bb:Mod w ms b E L)(aI:ck w cs a)(bp:dy w)(aJ:ct 24 E)(g:gL L)(aN:fX a):
  Calls Tryz.prog 31 #[.agg ms.toArray, .agg cs.toArray] w (Be w ms b E L a):=by
 obtain⟨A,n,c,rfl,ax,ci,bW,r,S,aM⟩:=id bb;obtain⟨i0,ad,aO,T,bh⟩:=info_parts vK;have bP:Hid (¬1*i0.size>2^24):=by simp only[Hid];rw[T];omega
 have bQ:Hid (¬1*i0.size=0):=by simp only[Hid];rw[T];omega
 have bR:Hid (∀ds:List Value,ds.length=6→Instr.fill (fun i=>some (i*i0.size,i0.size)) ((Array.range (1*i0.size)).map (dU.cells[· %dU.cells.size]!)) [(0, .agg ds.toArray)]=some ds.toArray):=fun ds cF=>by rw[T];exact Lt.oi _ _ 6 (by simpa using cF) (by simp[dU,Value.cells])
 obtain⟨q,b0⟩:∃q,L.length-1=q:=⟨_,rfl⟩;obtain⟨Y,d,O⟩:∃(Y:Addr)(d:ActV),Hid (0<L.length→A=some Y∧L[q]? =some d∧∀j x,d.key.cells[j]? =some x→w.cell? ((Y.add (q*6)).add j)=some x):=by
  by_cases h:0<L.length;·obtain⟨Y,cO,cA,cB,bJ,bK,ce,av⟩:=rY S aM ax (k:=q) (by omega);refine⟨Y,cA,fun _=>⟨cB,bJ,fun j x C=>av j x ?_⟩⟩;obtain⟨cL,cM,rfl,_,_⟩:=bK;rw[List.getElem?_append_left (List.getElem?_eq_some_iff.1 C).1];exact C
  ·exact⟨⟨0,0,none⟩,a,fun cC=>absurd cC h⟩
 have ap:Hid (n=L.length∧n≤16∧n≤c):=by have:=g.len;exact⟨ax,by omega,ci⟩
 have bj:Hid (0<L.length→(n:Int)-1=(q:Int)∧q<n):=fun h=>by have:=ap.out;exact⟨by omega,by omega⟩
 have bv:Hid (0<L.length→∀w',Calls Tryz.prog 85 #[.agg d.key.cells.toArray, .agg a.key.cells.toArray] w' (aH w' (.int .i64 (fC d.key a.key)))):=fun h w'=>mM _ _ w' (by have:=(g.small d (List.mem_of_getElem? (O.out h).2.1)).ez;omega) (by have:=aN.ez;omega);have aC:Hid (eW a=true→∀B:Bool,B=(decide (0<L.length)&&decide (0≤fC d.key a.key))→ee L a=if B=true then(32,L)else(0,L++[a])):=fun bZ B bo=>xC bZ B q d (fun h=>⟨b0.symm,(O.out h).2.1⟩) (by
  rw[bo];have:=sO.kN d.key a.key;congr 1;exact decide_eq_decide.2 (by omega));have b5:Hid (∀w',Fr af w w'→Calls Tryz.prog 18 #[.agg cs.toArray] w' (aH w' (jA a))):=fun w' f=>nT a cs w' (bp.al f) (aI.al f) aN.sz;have bi:Hid (∀w',Fr af w w'→Calls Tryz.prog 41 #[.agg [Value.pointer (some ⟨b,0,none⟩), .slice A n c].toArray, .int .i64 (n:Int)] w' (Et w' (eU L E))):=fun w' f=>by
  have h:=AO _ b E L n w' (bb.al f) (bp.al f) aJ g (by omega);rw[ax,List.take_length]at h;rw[ax];exact h
 have bu:Hid (eW a=true→∀w' s,Fr af w w'→ew w' s (eU L E)→Calls Tryz.prog 86 #[.agg cs.toArray, .pointer (some ⟨s,0,none⟩)] w' (fun e b1=>∃p,e= .returned (.tuple #[.pointer p, .int .i64 0])∧Fr af w' b1)):=fun bZ w' s f h=>by
  have G:=kC L E 24 aJ g.ok g.small;refine(kI _ a cs _ s w' (aI.al f) h (bp.al f) G aN.writes (by have:=aN.nw;have:=g.len;omega)).mono ?_;rintro e w2⟨p,k,rfl,f2,aL⟩;rcases aL with⟨_,rfl,_⟩|⟨⟨x,C,bg⟩,_⟩;·exact⟨_,rfl,f2⟩
  ·rw[pc bZ x C]at bg;cases bg
 have cN:=Lib.hid bb;have ca:=Lib.hid aI;have HB:=Lib.hid bW;have bA:=Lib.hid aM;have cy:=Lib.hid S;have aG:Hid ((Tryz.prog.info? 46).map (·.size)=some cs.length):=by rw[Hid,aI.len];exact bm
 have bz:=Lib.hid (ActV.one aI);have a0:=Lib.hid aI.len;have y:Hid (∀w' bO,ee L a=(bO,L)→Fr af w w'→Be w [Value.pointer (some ⟨b,0,none⟩), .slice A n c] b E L a (.returned (.tuple #[.int .i64 bO, .agg [Value.pointer (some ⟨b,0,none⟩), .slice A n c].toArray])) w'):=fun w' bO e f=>⟨_,by rw[e],by rw[e];exact bb.al f,f,fun v aW k o=> .inr ⟨v,aW,o⟩⟩;have M:Hid (∀w' aX aQ aU,ee L a=(0,L++[a])→Fr af w w'→aQ=L.length+1→aQ≤aU→jO w' (.slice aX aQ aU) (L++[a])→(∀k,(Value.slice aX aQ aU).ownBlock=some k→w.heap.size≤k)→Be w [Value.pointer (some ⟨b,0,none⟩), .slice A n c] b E L a (.returned (.tuple #[.int .i64 0, .agg [Value.pointer (some ⟨b,0,none⟩), .slice aX aQ aU].toArray])) w'):=fun w' aX aQ aU e f bS a9 ba bT=>⟨_,by rw[e],by rw[e];exact⟨aX,aQ,aU,rfl,by rw[List.length_append];exact bS,a9,bW.al f,ba⟩,f,fun v aW k o=>by
  rw[List.mem_cons,List.mem_singleton]at aW;rcases aW with rfl|rfl;·cases o
  ·exact .inl (bT k o)⟩;generalize Be w [Value.pointer (some ⟨b,0,none⟩), .slice A n c] b E L a=PP at*;clear bb aI bp aJ g aN bW S aM ax ci b0;go_enter Tryz.func31,Tryz.ntmps31;go_wp2_with(refine au rfl 28 (.tmp 0) rfl _ rfl ?_);intro w1 n1;have b7:=Lib.hid n1.fr;have b2:=Lib.hid n1.az;clear n1;generalize bc:w.heap.size=g2 at*;have bE:=Lib.hid bc;clear bc;go_wp2_with(refine au rfl 46 (.tmp 1) rfl cs.toArray rfl ?_);intro w2 cp;have bl:=Lib.hid cp;clear cp;generalize bd:w1.heap.size=g3 at*;have bF:=Lib.hid bd;clear bd;have b4:Hid (ak w2 g3 46 cs.toArray):=by have h:=bl.out.az;rw[bF.out]at h;exact h
 have b3:=Lib.hid (b2.out.fr bl.out.fr (fun x=>x));have bw:=Lib.hid (b7.out.trans bl.out.fr);clear bl b2 b7;go_wp2_with(refine ai rfl 28 rfl (.agg qU.toArray) Gf #[.pointer none, .slice none 0 0] rfl ?_);intro bq n3;have a6:=Lib.hid n3;clear n3;generalize be:w2.heap.size=g5 at*;have a3:=Lib.hid be;clear be;have bn:Hid (ak bq g5 28 #[.pointer none, .slice none 0 0]):=by have h:=a6.out.az;rw[a3.out]at h;exact h
 have M2:=Lib.hid (b3.out.fr a6.out.fr (fun x=>x));have cu:=Lib.hid (b4.out.fr a6.out.fr (fun x=>x));have am:=Lib.hid (bw.out.trans a6.out.fr);have aE:Hid (w.heap.size≤g5):=by have:=bw.out.size;have:=a3.out;simp only[Hid];omega
 clear a6 b3 b4 bw;have bG:Hid (∀W,Fr af bq W→∀j x,[Value.pointer (some ⟨b,0,none⟩), .slice A n c][j]? =some x→W.cell? ((⟨g2,0,none⟩:Addr).add j)=some x):=fun W f j x C=>by rw[←List.getElem?_toArray]at C;rw[Addr.add_mid,Nat.zero_add,(M2.out.fr f (fun x=>x)).cell j];exact C
 have bk:Hid (∀W,Fr af bq W→∀j x,cs[j]? =some x→W.cell? ((⟨g3,0,none⟩:Addr).add j)=some x):=fun W f j x C=>by rw[Addr.add_mid,Nat.zero_add,(cu.out.fr f (fun x=>x)).cell j,List.getElem?_toArray];exact C
 have cw:Hid (∀W,Fr af bq W→∀j x,a.key.cells[j]? =some x→W.cell? ((⟨g3,0,none⟩:Addr).add j)=some x):=fun W f j x C=>bk.out W f j x (by
  obtain⟨cL,cM,e,_,_⟩:=ca.out;rw[e,List.getElem?_append_left (List.getElem?_eq_some_iff.1 C).1];exact C);have cc:Hid ([Value.pointer (some ⟨b,0,none⟩), .slice A n c].toArray.all (·.oneCell')=true):=by simp[Hid,Value.oneCell']
 go_wp2_with(refine aw rfl 46 (.tmp 3) rfl ⟨g3,0,none⟩ rfl cs _ ?zG Tryz.underlying46 rfl aG.out (aR.go ?zH));case zG=>exact bk.out _ (Fr.refl _ _)
 unfold aR;go_wp2_with fail;refine(b5.out _ am.out).mono ?_;rintro e br⟨rfl,f4⟩;have aA:=Lib.hid f4;clear f4 b5;by_cases D:eW a=true
 ·have a2:Hid (jA a= .tuple #[.string ⟨(bY a).toArray⟩, .int .i64 0]):=by rw[Hid,jA,D];rfl
  rw[a2.out];have ay:=Lib.hid (bu.out D);have I:=Lib.hid (aC.out D);generalize(⟨(bY a).toArray⟩:ByteArray)=cS at*;clear a2 D bu aC;obtain⟨P,bM⟩:∃z:Bool,decide (0<L.length)=z:=⟨_,rfl⟩;have aT:=Lib.hid bM;have a4:Hid (decide (0<n)=P):=by rw[Hid,←aT.out];exact decide_eq_decide.2 (by have:=ap.out;omega)
  obtain⟨Q,bN⟩:∃z:Bool,decide (0≤fC d.key a.key)=z:=⟨_,rfl⟩;have EQ:=Lib.hid bN;rw[bM,bN]at I;clear bM bN;have aF:Hid (0<L.length→A=some Y):=fun h=>(O.out h).1;have cK:br.cell? ⟨g2,1,none⟩=some (.slice A n c):=(M2.out.fr aA.out (fun x=>x)).cell 1;obtain⟨B,bo⟩:∃z:Bool,(bif P then Q else false)=z:=⟨_,rfl⟩;have aD:=Lib.hid bo;clear bo;go_upto_region 5 with fail;refine iP 15 [.int .i64 (n:Int), .bool P, .bool P,bif P then .pointer (some ⟨g2,1,none⟩)else undef,bif P then .slice A n c else undef,bif P then .int .i64 (n:Int)else undef,bif P then .int .i64 (q:Int)else undef,bif P then .pointer (some (Y.add (q*6)))else undef,bif P then .pointer (some (Y.add (q*6)))else undef,bif P then .agg d.key.cells.toArray else undef,bif P then .pointer (some ⟨g3,0,none⟩)else undef,bif P then .agg a.key.cells.toArray else undef,bif P then .int .i64 (fC d.key a.key)else undef,bif P then .bool Q else undef, .bool B] ?zI ?_;case zI=>
   refine⟨?yQ,?zN,?zO,?zP,?zQ,?zR,?zS,?zT,?zU,?zV,?zA,?zB,?zC,?zD,?zE,trivial⟩;all_goals intro u w' m g
   all_goals simp only[z1,z2,z3,z4,an,Act.put,z5,z6,z7,Nat.reduceAdd,Nat.zero_add]
   case zN=>
    simp only[show u 0=_ from g 0];refine aB ?_;have t1:=a4.out;go_simp;exact⟨rfl,Fr.refl _ _⟩
   case' zO=>simp only[show u 1=_ from g 1]
   case' zP=>
    simp only[show u 2=_ from g 2];cases P;case false=>exact bB
   case zQ=>
    simp only[show u 3=_ from g 3,show u 2=_ from g 2];cases P;case false=>exact bB
    refine aB ?_;have cQ:_=some _:=(M2.out.fr (aA.out.trans m) (fun x=>x)).cell 1;go_simp;exact⟨rfl,Fr.refl _ _⟩
   case' zR=>
    simp only[show u 2=_ from g 2];cases P;case false=>exact bB
   case zS=>
    simp only[show u 5=_ from g 5,show u 2=_ from g 2];cases P;case false=>exact bB
    refine aB ?_;have o:=of_decide_eq_true aT.out;have av:(n:Int)-1=(q:Int):=(bj.out o).1;have bL:IntKind.i64.wrap (q:Int)=(q:Int):=IntWalk.i64_in _ (by have:=ap.out;have:=bj.out o;omega);go_simp;exact⟨rfl,Fr.refl _ _⟩
   case zT=>
    simp only[show u 4=_ from g 4,show u 6=_ from g 6,show u 2=_ from g 2];cases P;case false=>exact bB
    refine aB ?_;have o:=of_decide_eq_true aT.out;have av:A=some Y:=aF.out o;have bL:(q:Int)<(n:Int):=by have:=bj.out o;omega
    have cf:(0:Int)≤(q:Int):=by omega
    clear aF;subst av;go_simp;exact⟨rfl,Fr.refl _ _⟩
   case' zU=>
    simp only[show u 7=_ from g 7,show u 2=_ from g 2];cases P;case false=>exact bB
   case zV=>
    simp only[show u 8=_ from g 8,show u 2=_ from g 2];cases P;case false=>exact bB
    refine aB ?_;have o:=of_decide_eq_true aT.out;exact ar _ _ rfl (Y.add (q*6)) rfl d.key.cells _ (fun cl v aW=>(am.out.trans (aA.out.trans m)).aj ((O.out o).2.2 cl v aW) (fun x=>x)) Tryz.underlying43 rfl eM ⟨rfl,Fr.refl _ _⟩
   case' zA=>
    simp only[show u 2=_ from g 2];cases P;case false=>exact bB
   case zB=>
    simp only[show u 10=_ from g 10,show u 2=_ from g 2];cases P;case false=>exact bB
    refine aB ?_;exact ar _ _ rfl ⟨g3,0,none⟩ rfl a.key.cells _ (cw.out _ (aA.out.trans m)) Tryz.underlying43 rfl eM ⟨rfl,Fr.refl _ _⟩
   case zC=>
    simp only[show u 9=_ from g 9,show u 11=_ from g 11,show u 2=_ from g 2];cases P;case false=>exact bB
    refine aB ?_;have o:=of_decide_eq_true aT.out;go_simp;refine(bv.out o _).mono ?_;rintro e br⟨rfl,f4⟩;exact⟨rfl,f4⟩
   case zD=>
    simp only[show u 12=_ from g 12,show u 2=_ from g 2];cases P;case false=>exact bB
    refine aB ?_;have t:=EQ.out;go_simp;exact⟨rfl,Fr.refl _ _⟩
   case zE=>
    simp only[show u 2=_ from g 2,show u 13=_ from g 13];cases P<;>exact aB (by go_simp;exact⟨by rw[←aD.out];rfl,Fr.refl _ _⟩)
   all_goals
    try simp only[cond]
    refine aB ?_;go_simp;exact⟨rfl,Fr.refl _ _⟩
  intro w' m;simp only[z1,z2,z3,z4,an,Act.put,z5,z6,z7,z8,z9,jl,jm,Nat.reduceAdd,Nat.zero_add];have H:=Lib.hid (aA.out.trans m);clear m aA cK bv EQ;generalize w'=cr at*;have a1:Hid (B=(P&&Q)):=by have:=aD.out;rw[Hid,←this];cases P<;>rfl
  have K:=Lib.hid (I.out B a1.out);clear I a1 aD aF aT a4 O bj;cases B
  ·have J:Hid (ee L a=(0,L++[a])):=K.out;go_upto_region 7 with fail;refine xo 10 [iS (.agg cs.toArray),iS (.agg [Value.pointer (some ⟨b,0,none⟩), .slice A n c].toArray),iS (.int .i64 (n:Int)),⟨fun v X=>∃s:Nat,v= .pointer (some ⟨s,0,none⟩)∧ew X s (eU L E),fun _ _ _ f⟨s,e,h⟩=>⟨s,e,h.al f⟩⟩,⟨fun v _=>∃p:Option Addr,v= .tuple #[.pointer p, .int .i64 0],fun _ _ _ _ h=>h⟩,⟨fun v _=>∃p:Option Addr,v= .tuple #[.pointer p, .int .i64 0],fun _ _ _ _ h=>h⟩,⟨fun v _=>∃p:Option Addr,v= .pointer p,fun _ _ _ _ h=>h⟩,iS (.int .i64 0),⟨fun v _=>∃p:Option Addr,v= .pointer p,fun _ _ _ _ h=>h⟩,iS (.int .i64 0)] ?zL ?_;case zL=>
    refine⟨?zZ,?yA,?yT,?yB,?yC,?yD,?yE,?yF,?yG,?yH,trivial⟩;all_goals intro u w' m g
    all_goals simp only[z1,z2,z3,z4,an,Act.put,z5,z6,z7,Nat.reduceAdd,Nat.zero_add]
    case zZ=>
     refine aB ?_;exact ar _ _ rfl ⟨g3,0,none⟩ rfl cs _ (bk.out _ (H.out.trans m)) Tryz.underlying46 rfl aG.out ⟨_,rfl,Fr.refl _ _,rfl⟩
    case yA=>
     refine aB ?_;exact ar _ _ rfl ⟨g2,0,none⟩ rfl [Value.pointer (some ⟨b,0,none⟩), .slice A n c] _ (bG.out _ (H.out.trans m)) Tryz.underlying28 rfl ia ⟨_,rfl,Fr.refl _ _,rfl⟩
    case yB=>
     simp only[show u 1=_ from g 1,show u 2=_ from g 2];refine aB ?_;go_simp;refine(bi.out _ (am.out.trans (H.out.trans m))).mono ?_;rintro e br⟨s,rfl,aN,f4⟩;exact⟨_,rfl,f4,⟨s,rfl,aN⟩⟩
    case yC=>
     obtain⟨cR,bK,ba⟩:=g 3;simp only[show u 0=_ from g 0,bK];refine aB ?_;go_simp;refine(ay.out _ _ (am.out.trans (H.out.trans m)) ba).mono ?_;rintro e br⟨p,rfl,f4⟩;exact⟨_,rfl,f4,⟨p,rfl⟩⟩
    case yD=>
     obtain⟨cI,ce⟩:=g 4;simp only[ce];refine aB ?_;go_simp;exact⟨_,rfl,Fr.refl _ _,⟨cI,rfl⟩⟩
    case yE=>
     obtain⟨cq,av⟩:=g 5;simp only[av];refine aB ?_;go_simp;exact⟨_,rfl,Fr.refl _ _,⟨cq,rfl⟩⟩
    case yF=>
     obtain⟨cq,av⟩:=g 5;simp only[av];refine aB ?_;go_simp;exact⟨_,rfl,Fr.refl _ _,rfl⟩
    case yG=>
     obtain⟨cJ,bL⟩:=g 6;simp only[bL];refine aB ?_;go_simp;exact⟨_,rfl,Fr.refl _ _,⟨cJ,rfl⟩⟩
    case yH=>
     simp only[show u 7=_ from g 7];refine aB ?_;go_simp;exact⟨_,rfl,Fr.refl _ _,rfl⟩
    all_goals
     refine aB ?_;go_simp;exact⟨_,rfl,Fr.refl _ _,rfl⟩
   intro u w' m g;obtain⟨cP,a8⟩:=g 8 (by omega);simp only[z1,z2,z3,z4,an,Act.put,z5,z6,z7,z8,z9,Nat.reduceAdd,Nat.zero_add,show u 9=_ from g 9 (by omega)];clear g;simp only[a8];clear a8;have F:=Lib.hid (H.out.trans m);clear m bi ay H y;generalize w'=bs at*;have ac:=Lib.hid (am.out.trans F.out);have bt:Hid (∀W,Fr af w W→dI W r L):=fun W f=>bA.out.bV f (eG.nothing _);have a7:Hid (∀W,Fr af w W→Rd W (fun _=>True) 6 A n r.flatten):=fun W f=>by
    have h:W.ownsRow 0 46 6 (.slice A n c) L.length r.flatten:=aK cy.out f (fun _ _ x=>x);rw[←ap.out.1]at h;exact(Rd.gj h).any
   go_upto_region 10 with fail;refine xp 11 af (fun i=>i==8) (fun i j=>(i==8&&(j==2||j==5||j==7))) [iS (.pointer (some ⟨g2,0,none⟩)),iS (.pointer (some ⟨b,0,none⟩)),⟨fun V ag=>∃i:Nat,V= .slice (some ⟨i,0,none⟩) 0 0∧ag.ownsRow 0 46 6 (.slice (some ⟨i,0,none⟩) 0 0) 0 []∧bs.heap.size≤i,fun _ _ _ f⟨i,e,h,l⟩=>⟨i,e,aK h f (fun _ _ x=>x),l⟩⟩,iS (.pointer (some ⟨g2,1,none⟩)),iS (.slice A n c),⟨fun V ag=>ag.ownsRow 0 46 6 V n r.flatten∧∀k,V.ownBlock=some k→bs.heap.size≤k,fun _ _ _ f h=>⟨aK h.1 f (fun _ _ x=>x),h.2⟩⟩,iS (.agg cs.toArray),⟨fun V ag=>∃i:Nat,V= .slice (some ⟨i,0,none⟩) 1 1∧ak ag i 46 cs.toArray,fun _ _ _ f⟨i,e,h⟩=>⟨i,e,h.fr f (fun x=>x)⟩⟩,⟨fun V ag=>ag.ownsRow 0 46 6 V (L.length+1) (r.flatten++cs)∧∀k,V.ownBlock=some k→bs.heap.size≤k,fun _ _ _ f h=>⟨aK h.1 f (fun _ _ x=>x),h.2⟩⟩,⟨fun V ag=>∃(ab:Option Addr)(U Z:Nat),V= .agg [Value.pointer (some ⟨b,0,none⟩), .slice ab U Z].toArray∧U=L.length+1∧U≤Z∧ag.ownsRow 0 46 6 (.slice ab U Z) (L.length+1) (r.flatten++cs)∧∀k,(Value.slice ab U Z).ownBlock=some k→bs.heap.size≤k,fun _ _ _ f⟨ab,U,Z,e,bS,a9,ba,bT⟩=>⟨ab,U,Z,e,bS,a9,aK ba f (fun _ _ x=>x),bT⟩⟩,iS (.int .i64 0)] ?zM ?_;case zM=>
    refine⟨?yU,?yI,?yJ,?yV,?yK,?yL,?yM,?yN,?yO,?yP,?zF,trivial⟩;all_goals intro u w' m g b0
    all_goals simp only[z1,z2,z3,z4,an,Act.put,z5,z6,z7,Nat.reduceAdd,Nat.zero_add]
    case yI=>
     simp only[show u 0=_ from g 0];refine aB ?_;have q:_=some _:=(M2.out.fr (F.out.trans m) (fun x=>x)).cell 0;go_simp;exact⟨_,rfl,Fr.refl _ _,rfl⟩
    case yJ=>
     refine aB ?_;refine mK 26 46 rfl i0 Tryz.underlying26 ad ?_;intro cr ax;exact⟨_,rfl,ax.fr,⟨w'.heap.size,rfl,ax.Ft,m.size⟩⟩
    case yK=>
     simp only[show u 3=_ from g 3];refine aB ?_;have q:_=some _:=(M2.out.fr (F.out.trans m) (fun x=>x)).cell 1;go_simp;exact⟨_,rfl,Fr.refl _ _,rfl⟩
    case yL=>
     obtain⟨i2,bJ,a9,l2⟩:=g 2;simp only[bJ,show u 4=_ from g 4];refine aB ?_;refine yX (.tmp 53) (.tmp 55) 26 rfl 46 i0 dU 6 88 Tryz.underlying26 ad aO T bh rfl (by decide) i2 rfl a9 (fun _=>True) A n c r.flatten rfl (a7.out _ (ac.out.trans m)) (by have:=ap.out;omega) (by have:=ap.out;omega) ?_;intro v5 cr cH bX cG;exact⟨_,rfl,bX,cH,fun k o=>(cG k o).elim (fun e=>by omega) (fun e=>Nat.le_trans m.size e)⟩
    case yM=>
     refine aB ?_;exact ar _ _ rfl ⟨g3,0,none⟩ rfl cs _ (bk.out _ (F.out.trans m)) Tryz.underlying46 rfl aG.out ⟨_,rfl,Fr.refl _ _,rfl⟩
    case yN=>
     simp only[show u 6=_ from g 6];refine aB ?_;refine wp_buildSlice 26 46 1 #[(0, .tmp 57)] rfl cs.toArray i0 dU Tryz.underlying26 ad aO bP.out bQ.out ?_ ?_;·simp only[List.map_toArray,List.map_cons,List.map_nil];exact bR.out cs a0.out
     ·exact⟨_,rfl,(Fr.refl _ _).alloc _,⟨w'.heap.size,rfl,ak.new _ _ _⟩⟩
    case yO=>
     obtain⟨cD,cm⟩:=g 5;obtain⟨i7,cf,cE⟩:=g 7;simp only[cf];refine aB ?_;refine sd _ (.tmp 56) (.tmp 58) 26 rfl 46 i0 dU 6 88 Tryz.underlying26 ad aO T bh rfl (by decide) _ _ _ rfl cD (fun _=>True) (some ⟨i7,0,none⟩) 1 1 cs rfl ⟨by have:=a0.out;omega,fun _=>⟨_,rfl,trivial,fun cl x C=>by rw[Addr.add_mid,Nat.zero_add,cE.cell,List.getElem?_toArray];exact C⟩⟩ (fun u hu=>by have h:=bz.out;rw[Array.all_eq_true_iff_forall_mem]at h;exact h u (by simpa using hu)) (by have:=ap.out;omega) (by decide) ?_;intro cT cU aJ;refine⟨_,rfl,⟨m.ao aJ.fr (fun k o e=>by have:=cm k e;omega),?_⟩,?_,fun k o=>(aJ.dD k o).elim (cm k) (fun h=>Nat.le_trans m.size h)⟩;·exact⟨fun _ h=>h,fun _ h=>h,jJ,fun _ h=>h,fun _ h=>h,jJ,fun _ h=>h,jJ,jJ,jJ,jJ,trivial⟩
     ·rw[←ap.out.1];exact aJ.own
    case yP=>
     obtain⟨bU,cn⟩:=g 8;obtain⟨ab,U,Z,a8,cv,bx⟩:=aP bU;rw[a8]at bU cn;simp only[show u 1=_ from g 1,a8];refine aB ?_;exact iu 28 _ rfl [Value.pointer (some ⟨b,0,none⟩), .slice ab U Z].toArray _ (by simp only[List.map_toArray,List.map_cons,List.map_nil];rfl) (Gp b ab U Z) ⟨_,rfl,Fr.refl _ _,⟨ab,U,Z,rfl,cv.out,bx.out,bU,cn⟩⟩
    case zF=>
     refine aB ?_;go_simp;exact⟨_,rfl,Fr.refl _ _,rfl⟩
    all_goals
     refine aB ?_;go_simp;exact⟨_,rfl,Fr.refl _ _,rfl⟩
   intro u w' m g;obtain⟨aY,aS,aV,cg,b9,aZ,ch,co⟩:=g 9 (by omega);simp only[z1,z2,z3,z4,an,Act.put,z5,z6,z7,z8,z9,Nat.reduceAdd,Nat.zero_add,show u 10=_ from g 10 (by omega)];clear g;simp only[cg];have bf:=Lib.hid m;have b8:=Lib.hid (F.out.trans m);have cd:=Lib.hid (bn.out.fr b8.out (fun x=>x));have cz:=Lib.hid ch;have cb:=Lib.hid co;have cx:Hid ([Value.pointer (some ⟨b,0,none⟩), .slice aY aS aV].toArray.all (·.oneCell')=true):=by simp[Hid,Value.oneCell']
   have b6:Hid (aS=L.length+1∧aS≤aV):=⟨b9,aZ⟩;clear m ch co cg b9 aZ a7;refine ah rfl 28 (.tmp 5) _ rfl g5 [Value.pointer (some ⟨b,0,none⟩), .slice aY aS aV].toArray rfl rfl _ _ cd.out ia rfl cx.out ?_;intro ae aq aa;have a5:=Lib.hid aq;have bD:Hid (eG w' (fun k=>k=g5)):=eG.of (fun k o=>⟨28,(show k=g5 from o)▸cd.out.ty,by decide,by decide,by decide⟩);have bC:Hid (jO ae (.slice aY aS aV) (L++[a])):=by
    refine⟨r++[cs],?_,?_⟩
    ·rw[List.length_append,List.length_singleton,List.flatten_append,List.flatten_singleton];exact aK cz.out aa (fun k o e=>by
      have bI:k=g5:=e;have:=cb.out k o;have:=(bn.out.fr F.out (fun x=>x)).lt;omega)
    ·exact((bt.out _ (ac.out.trans (by exact bf.out))).snoc (ca.out.al (ac.out.trans bf.out))).bV aa bD.out
   have N:=Lib.hid (M.out ae aY aS aV J.out ((am.out.trans b8.out).ao aa (fun i cj e=>by have bI:i=g5:=e;have:=aE.out;omega)) b6.out.1 b6.out.2 bC.out (fun k o=>by have:=cb.out k o;have:=ac.out.size;have:=bE.out;omega));clear aq aa;go_wp2;exact bodyPost_ret (eA (fn:=Tryz.f31) (p:=5) (q:=4) (ty:=28) Tryz.results31 _ ae _ 28 [Value.pointer (some ⟨b,0,none⟩), .slice aY aS aV].toArray (0,0) _ rfl a5.out Tryz.underlying28 rfl ia _ rfl) rfl N.out
  ·have J:Hid (ee L a=(32,L)):=K.out;clear K M ay bi;go_upto_region 6 with fail;refine iP 2 [.agg [Value.pointer (some ⟨b,0,none⟩), .slice A n c].toArray, .int .i64 32] ?zJ ?_;case zJ=>
    refine⟨?zW,?yR,trivial⟩;all_goals intro u w' m g
    all_goals simp only[z1,z2,z3,z4,an,Act.put,z5,z6,z7,Nat.reduceAdd,Nat.zero_add]
    case zW=>
     refine aB ?_;exact ar _ _ rfl ⟨g2,0,none⟩ rfl [Value.pointer (some ⟨b,0,none⟩), .slice A n c] _ (bG.out _ (H.out.trans m)) Tryz.underlying28 rfl ia ⟨rfl,Fr.refl _ _⟩
    all_goals
     refine aB ?_;go_simp;exact⟨rfl,Fr.refl _ _⟩
   intro w' m;simp only[z1,z2,z3,z4,an,Act.put,z5,z6,z7,z8,z9,jl,jm,Nat.reduceAdd,Nat.zero_add];have F:=Lib.hid (H.out.trans m);have bH:=Lib.hid (bn.out.fr F.out (fun x=>x));clear m;refine ah rfl 28 (.tmp 5) _ rfl g5 [Value.pointer (some ⟨b,0,none⟩), .slice A n c].toArray rfl rfl _ _ bH.out ia rfl cc.out ?_;intro ae aq aa;have a5:=Lib.hid aq;have N:=Lib.hid (y.out ae 32 J.out ((am.out.trans F.out).ao aa (fun i cj e=>by have bI:i=g5:=e;have:=aE.out;omega)));clear aq aa;go_wp2;exact bodyPost_ret (eA (fn:=Tryz.f31) (p:=5) (q:=4) (ty:=28) Tryz.results31 _ ae _ 28 [Value.pointer (some ⟨b,0,none⟩), .slice A n c].toArray (0,0) _ rfl a5.out Tryz.underlying28 rfl ia _ rfl) rfl N.out
 ·have R:eW a=false:=by simpa using D
  have a2:Hid (jA a= .tuple #[.string ByteArray.empty, .int .i64 3]):=by rw[Hid,jA,R];rfl
  have J:=Lib.hid (uJ (L:=L) R);rw[a2.out];clear D R a2 M bu bi aC bv;go_upto_region 3 with fail;have H:=aA;refine iP 3 [.int .i64 3, .agg [Value.pointer (some ⟨b,0,none⟩), .slice A n c].toArray, .int .i64 3] ?zK ?_;case zK=>
   refine⟨?yS,?zX,?zY,trivial⟩;all_goals intro u w' m g
   all_goals simp only[z1,z2,z3,z4,an,Act.put,z5,z6,z7,Nat.reduceAdd,Nat.zero_add]
   case zX=>
    refine aB ?_;exact ar _ _ rfl ⟨g2,0,none⟩ rfl [Value.pointer (some ⟨b,0,none⟩), .slice A n c] _ (bG.out _ (H.out.trans m)) Tryz.underlying28 rfl ia ⟨rfl,Fr.refl _ _⟩
   case' zY=>simp only[show u 0=_ from g 0]
   all_goals
    refine aB ?_;go_simp;exact⟨rfl,Fr.refl _ _⟩
  intro w' m;simp only[z1,z2,z3,z4,an,Act.put,z5,z6,z7,z8,z9,jl,jm,Nat.reduceAdd,Nat.zero_add];have F:=Lib.hid (H.out.trans m);have bH:=Lib.hid (bn.out.fr F.out (fun x=>x));clear m;refine ah rfl 28 (.tmp 5) _ rfl g5 [Value.pointer (some ⟨b,0,none⟩), .slice A n c].toArray rfl rfl _ _ bH.out ia rfl cc.out ?_;intro ae aq aa;have a5:=Lib.hid aq;have N:=Lib.hid (y.out ae 3 J.out ((am.out.trans F.out).ao aa (fun i cj e=>by have bI:i=g5:=e;have:=aE.out;omega)));clear aq aa;go_wp2;exact bodyPost_ret (eA (fn:=Tryz.f31) (p:=5) (q:=4) (ty:=28) Tryz.results31 _ ae _ 28 [Value.pointer (some ⟨b,0,none⟩), .slice A n c].toArray (0,0) _ rfl a5.out Tryz.underlying28 rfl ia _ rfl) rfl N.out
end Go.Proofs.YtphjagkehiklkaaGreatDoor
namespace Go.Proofs.YtphjagkehiklkaaGreatDoor
open Go.ChangeShapes Go.WideShapes Go.ChangeAt Go.RowKit Go.Deep
theorem uP:Tryz.prog.cellsOf 72=6:=by kernel_rfl
theorem EE:Tryz.prog.cellsOf 55=1:=by kernel_rfl
theorem vy{H:Type}{enc:TypeId×Value→H}{w:World}{fuel:Nat}{v:Value}{x:DataW H×List MemPlace}
  (h:DataW.trod enc Tryz.prog w 0 (fun _=>true) true fuel 55 [v]=some x):
  ∃(A:Option Addr)(n c:Nat)(xs:List CV),v= .slice A n c∧CL w (Old w) A n xs∧n≤9223372036854775807∧n≤c:=by
 rcases open_slice Tryz.underlying55 h with⟨a,_⟩|⟨g,j,i,m,n,D,f,a,_⟩;·simp only[List.cons.injEq,and_true]at a;subst a;obtain⟨cs,b,_,d,e⟩:=yv h;exact⟨_,_,_,cs,rfl,b,by omega,d⟩
 ·simp only[List.cons.injEq,and_true]at a;subst a;obtain⟨cs,b,_,d,e⟩:=yv h;exact⟨_,_,_,cs,rfl,b,by omega,d⟩
theorem Dw{H:Type}{enc:TypeId×Value→H}{w:World}{fuel:Nat}{l:List Value}{x:DataW H×List MemPlace}
  (h:DataW.trod enc Tryz.prog w 0 (fun _=>true) true fuel 72 l=some x):q8 w l:=by
 obtain⟨t,u,_,rfl,b,c,a⟩:=DataW.trod_struct Tryz.underlying72 h;rw[uP]at b;match l,b with
 |[y,z,A,x3,B,C],_=>
  have g0:=a 0 _ rfl;have g1:=a 1 _ rfl;have g2:=a 2 _ rfl;have g3:=a 3 _ rfl;have g4:=a 4 _ rfl;have g5:=a 5 _ rfl;match t,c with
  |[D,E,F,y3,y4,G],_=>
   simp[nY,sJ,EE]at g0 g1 g2 g3 g4 g5;obtain⟨a0,f,rfl,b0⟩:=DataW.trod_int Tryz.underlying3 g0;obtain⟨n,g,rfl,b1⟩:=DataW.trod_int Tryz.underlying3 g1;obtain⟨a2,i,rfl,b2⟩:=DataW.trod_int Tryz.underlying3 g2;obtain⟨a3,j,rfl,b3⟩:=DataW.trod_int Tryz.underlying5 g3;obtain⟨k,n4,o,d,rfl,p,m4,o4⟩:=vy g4;obtain⟨m,r,c5,e,rfl,q,m5,s⟩:=vy g5;simp only[List.cons.injEq,and_true]at f g i j;subst f g i j;have v:=bounds_u8 b3;exact⟨a0,n,a2,a3,k,n4,o,d,_,m,r,c5,e,_,by omega,by omega,rfl,⟨p,m4,o4⟩,⟨q,m5,s⟩⟩
theorem Ao{H:Type}{enc:TypeId×Value→H}{w:World}{fuel:Nat}{a:Option Addr}{len cap:Nat}{x:DataW H×List MemPlace}
  (h:DataW.trod enc Tryz.prog w 0 (fun _=>true) true fuel 22 [.slice a len cap]=some x):sB w a len:=by
 rcases open_slice Tryz.underlying22 h with⟨b,_⟩|⟨l,z,t,m,n,D,s,b,_,y,hm,d,_,f⟩;·simp only[List.cons.injEq,Value.slice.injEq,and_true]at b;obtain⟨rfl,rfl,rfl⟩:=b;intro k v;omega
 ·simp only[List.cons.injEq,Value.slice.injEq,and_true]at b;obtain⟨rfl,rfl,rfl⟩:=b;simp only[if_true]at d;rw[uP]at f;intro i q;obtain⟨cs',o,e⟩:=f i (by omega);have g:=Dw e;obtain⟨_,p,c⟩:=World.cells?_some o;refine⟨l,cs',rfl,g,fun j u hu=>?_⟩;have r:j<6:=by
   have:=(List.getElem?_eq_some_iff.1 hu).1;rw[g.len]at this;exact this
  rw[c j r,←hu]
theorem An{H:Type}{enc:TypeId×Value→H}{w:World}{fuel:Nat}{a:Option Addr}{len cap:Nat}{x:DataW H×List MemPlace}
  (h:DataW.trod enc Tryz.prog w 0 (fun _=>true) true fuel 22 [.slice a len cap]=some x):
  ∃e:Unit,sB w a len∧True∧len≤cap∧cap≤9223372036854775807:=by
 refine⟨(),Ao h,trivial,?_⟩;rcases open_slice Tryz.underlying22 h with⟨b,_⟩|⟨f,i,g,m,n,D,d,b,_,c,hm,_⟩;·simp only[List.cons.injEq,Value.slice.injEq,and_true]at b;obtain⟨rfl,rfl,rfl⟩:=b;exact⟨Nat.le_refl _,Nat.zero_le _⟩
 ·simp only[List.cons.injEq,Value.slice.injEq,and_true]at b;obtain⟨rfl,rfl,rfl⟩:=b;exact⟨c,by unfold maxLen at hm;exact hm⟩
end Go.Proofs.YtphjagkehiklkaaGreatDoor
