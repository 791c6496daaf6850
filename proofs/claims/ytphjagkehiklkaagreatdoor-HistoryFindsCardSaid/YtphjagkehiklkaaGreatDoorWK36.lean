/- Texts. -/
import Derived.Test.YtphjagkehiklkaaGreatDoorWK34
import Derived.Test.YtphjagkehiklkaaGreatDoorWK35
set_option linter.unusedVariables false
set_option linter.unusedSimpArgs false
set_option maxRecDepth 100000
set_option maxHeartbeats 4000000
namespace Go.Proofs.YtphjagkehiklkaaGreatDoor
open Go.RowKit Go.Shelf
theorem fB{P:Program}{fn:Func}{p q:Tmp}{ty:TypeId}(h:fn.results=#[.tmp q, .cell p ty])(tmps:Array Value)(w:World)(g:Nat)(t:TypeId)(cs:Array Value)(fr:Nat×Nat)(d:TypeDesc)
  (i:tmps.getD p undef= .pointer (some ⟨g,0,none⟩))(e:w.heap[g]? =some (.cells cs t fr))
  (hu:P.underlying ty=some d)(c:(match d with| .struct _| .array _ _=>true|_=>false)=true)(f:(P.info? ty).map (·.size)=some cs.size)(v:Value)(j:tmps.getD q undef=v):
  (results fn tmps).run P w= .ok (.tuple #[v, .agg cs]) w:=by
 have a:tmps[p]?.getD undef= .pointer (some ⟨g,0,none⟩):=by simpa using i
 have b:tmps[q]?.getD undef=v:=by simpa using j
 simp[results,h,a,b,asAddr,run_loadVar_row w g t ty cs fr d e hu c f]
def sd:List Value:=[.pointer none, .slice none 0 0]
theorem Iv(w:World):(zeroValue 28).run Tryz.prog w= .ok (.agg sd.toArray) w:=by kernel_rfl
theorem je:(Tryz.prog.info? 28).map (·.size)=some 2:=by kernel_rfl
theorem IH(b:Nat)(A:Option Addr)(n c:Nat):Tryz.prog.built 28 [(0, .pointer (some ⟨b,0,none⟩)),(1, .slice A n c)]=some [Value.pointer (some ⟨b,0,none⟩), .slice A n c].toArray:=by kernel_rfl
theorem gW.sz{a:ActV}(h:gW a):Gv a:=⟨by have:=h.fA;omega,fun c b=>(h.reads c b).cv,fun c b=>(h.writes c b).cv,by have:=h.nr;omega,by have:=h.nw;omega⟩
def Dn(w:World)(ms:List Value)(b:Nat)(E:List Ent)(L:List ActV)(a:ActV)(e:Ending)(w':World):Prop:=∃c:List Value,e= .returned (.tuple #[.int .i64 (eY L a).1, .agg c.toArray])∧Mod w' c b E (eY L a).2∧Fr ag w w'∧∀v∈c,∀k,v.ownBlock=some k→w.heap.size≤k∨∃u∈ms,u.ownBlock=some k
theorem yN(ms cs:List Value)(b:Nat)(E:List Ent)(L:List ActV)(a:ActV)(w:World)(bd:Mod w ms b E L)(aK:df w cs a)(bs:eE w)(aL:cW 24 E)(g:iH L)(aP:gW a):
  Calls Tryz.prog 31 #[.agg ms.toArray, .agg cs.toArray] w (Dn w ms b E L a):=by
 obtain⟨A,n,c,rfl,ap,ck,bY,r,S,aO⟩:=id bd;obtain⟨i0,ad,aR,T,bl⟩:=info_parts xi;have bS:Hid (¬1*i0.size>2^24):=by simp only[Hid];rw[T];omega
 have bT:Hid (¬1*i0.size=0):=by simp only[Hid];rw[T];omega
 have bU:Hid (∀ds:List Value,ds.length=6→Instr.fill (fun i=>some (i*i0.size,i0.size)) ((Array.range (1*i0.size)).map (fH.cells[· %fH.cells.size]!)) [(0, .agg ds.toArray)]=some ds.toArray):=fun ds cF=>by rw[T];exact Lt.pt _ _ 6 (by simpa using cF) (by simp[fH,Value.cells])
 obtain⟨q,b2⟩:∃q,L.length-1=q:=⟨_,rfl⟩;obtain⟨Y,d,O⟩:∃(Y:Addr)(d:ActV),Hid (0<L.length→A=some Y∧L[q]? =some d∧∀j x,d.key.cells[j]? =some x→w.cell? ((Y.add (q*6)).add j)=some x):=by
  by_cases h:0<L.length;·obtain⟨Y,cP,cA,cB,bL,bM,cg,ao⟩:=xz S aO ap (k:=q) (by omega);refine⟨Y,cA,fun _=>⟨cB,bL,fun j x C=>ao j x ?_⟩⟩;obtain⟨cL,cM,rfl,_,_⟩:=bM;rw[List.getElem?_append_left (List.getElem?_eq_some_iff.1 C).1];exact C
  ·exact⟨⟨0,0,none⟩,a,fun cC=>absurd cC h⟩
 have al:Hid (n=L.length∧n≤16∧n≤c):=by have:=g.len;exact⟨ap,by omega,ck⟩
 have bn:Hid (0<L.length→(n:Int)-1=(q:Int)∧q<n):=fun h=>by have:=al.out;exact⟨by omega,by omega⟩
 have bx:Hid (0<L.length→∀w',Calls Tryz.prog 85 #[.agg d.key.cells.toArray, .agg a.key.cells.toArray] w' (aJ w' (.int .i64 (gD d.key a.key)))):=fun h w'=>od _ _ w' (by have:=(g.small d (List.mem_of_getElem? (O.out h).2.1)).fA;omega) (by have:=aP.fA;omega);have ax:Hid (gm a=true→∀B:Bool,B=(decide (0<L.length)&&decide (0≤gD d.key a.key))→eY L a=if B=true then(32,L)else(0,L++[a])):=fun b1 B br=>yM b1 B q d (fun h=>⟨b2.symm,(O.out h).2.1⟩) (by
  rw[br];have:=tY.lS d.key a.key;congr 1;exact decide_eq_decide.2 (by omega));have b7:Hid (∀w',Fr ag w w'→Calls Tryz.prog 18 #[.agg cs.toArray] w' (aJ w' (kr a))):=fun w' f=>rp a cs w' (bs.ar f) (aK.ar f) aP.sz;have bm:Hid (∀w',Fr ag w w'→Calls Tryz.prog 41 #[.agg [Value.pointer (some ⟨b,0,none⟩), .slice A n c].toArray, .int .i64 (n:Int)] w' (Gu w' (fT L E))):=fun w' f=>by
  have h:=Cz _ b E L n w' (bd.ar f) (bs.ar f) aL g (by omega);rw[ap,List.take_length]at h;rw[ap];exact h
 have bw:Hid (gm a=true→∀w' s,Fr ag w w'→ft w' s (fT L E)→Calls Tryz.prog 86 #[.agg cs.toArray, .pointer (some ⟨s,0,none⟩)] w' (fun e b3=>∃p,e= .returned (.tuple #[.pointer p, .int .i64 0])∧Fr ag w' b3)):=fun b1 w' s f h=>by
  have G:=lI L E 24 aL g.ok g.small;refine(lQ _ a cs _ s w' (aK.ar f) h (bs.ar f) G aP.writes (by have:=aP.nw;have:=g.len;omega)).mono ?_;rintro e w2⟨p,k,rfl,f2,aN⟩;rcases aN with⟨_,rfl,_⟩|⟨⟨x,C,bk⟩,_⟩;·exact⟨_,rfl,f2⟩
  ·rw[qh b1 x C]at bk;cases bk
 have cO:=af bd;have cc:=af aK;have HB:=af bY;have bC:=af aO;have cy:=af S;have aI:Hid ((Tryz.prog.info? 46).map (·.size)=some cs.length):=by rw[Hid,aK.len];exact bZ
 have bB:=af (ActV.one aK);have a2:=af aK.len;have y:Hid (∀w' bQ,eY L a=(bQ,L)→Fr ag w w'→Dn w [Value.pointer (some ⟨b,0,none⟩), .slice A n c] b E L a (.returned (.tuple #[.int .i64 bQ, .agg [Value.pointer (some ⟨b,0,none⟩), .slice A n c].toArray])) w'):=fun w' bQ e f=>⟨_,by rw[e],by rw[e];exact bd.ar f,f,fun v aY k o=> .inr ⟨v,aY,o⟩⟩;have M:Hid (∀w' aZ aS aW,eY L a=(0,L++[a])→Fr ag w w'→aS=L.length+1→aS≤aW→ko w' (.slice aZ aS aW) (L++[a])→(∀k,(Value.slice aZ aS aW).ownBlock=some k→w.heap.size≤k)→Dn w [Value.pointer (some ⟨b,0,none⟩), .slice A n c] b E L a (.returned (.tuple #[.int .i64 0, .agg [Value.pointer (some ⟨b,0,none⟩), .slice aZ aS aW].toArray])) w'):=fun w' aZ aS aW e f bV bb bc bW=>⟨_,by rw[e],by rw[e];exact⟨aZ,aS,aW,rfl,by rw[bh];exact bV,bb,bY.ar f,bc⟩,f,fun v aY k o=>by
  rw[List.mem_cons,List.mem_singleton]at aY;rcases aY with rfl|rfl;·cases o
  ·exact .inl (bW k o)⟩;generalize Dn w [Value.pointer (some ⟨b,0,none⟩), .slice A n c] b E L a=PP at*;clear bd aK bs aL g aP bY S aO ap ck b2;go_enter Tryz.func31,Tryz.ntmps31;go_wp2_with(refine aA rfl 28 (.tmp 0) rfl _ rfl ?_);intro w1 n1;have b9:=af n1.fr;have b4:=af n1.aH;clear n1;generalize be:w.heap.size=g2 at*;have bG:=af be;clear be;go_wp2_with(refine aA rfl 46 (.tmp 1) rfl cs.toArray rfl ?_);intro w2 cq;have bp:=af cq;clear cq;generalize bf:w1.heap.size=g3 at*;have bH:=af bf;clear bf;have b6:Hid (aq w2 g3 46 cs.toArray):=by have h:=bp.out.aH;rw[bH.out]at h;exact h
 have b5:=af (b4.out.fr bp.out.fr (fun x=>x));have bz:=af (b9.out.trans bp.out.fr);clear bp b4 b9;go_wp2_with(refine ak rfl 28 rfl (.agg sd.toArray) Iv #[.pointer none, .slice none 0 0] rfl ?_);intro w3 n3;have a8:=af n3;clear n3;generalize bg:w2.heap.size=g5 at*;have a5:=af bg;clear bg;have bq:Hid (aq w3 g5 28 #[.pointer none, .slice none 0 0]):=by have h:=a8.out.aH;rw[a5.out]at h;exact h
 have M2:=af (b5.out.fr a8.out.fr (fun x=>x));have cu:=af (b6.out.fr a8.out.fr (fun x=>x));have aj:=af (bz.out.trans a8.out.fr);have aC:Hid (w.heap.size≤g5):=by have:=bz.out.size;have:=a5.out;simp only[Hid];omega
 clear a8 b5 b6 bz;have bI:Hid (∀W,Fr ag w3 W→∀j x,[Value.pointer (some ⟨b,0,none⟩), .slice A n c][j]? =some x→W.cell? ((⟨g2,0,none⟩:Addr).add j)=some x):=fun W f j x C=>by rw[←bR]at C;rw[Addr.add_mid,Nat.zero_add,(M2.out.fr f (fun x=>x)).cell j];exact C
 have bo:Hid (∀W,Fr ag w3 W→∀j x,cs[j]? =some x→W.cell? ((⟨g3,0,none⟩:Addr).add j)=some x):=fun W f j x C=>by rw[Addr.add_mid,Nat.zero_add,(cu.out.fr f (fun x=>x)).cell j,bR];exact C
 have cw:Hid (∀W,Fr ag w3 W→∀j x,a.key.cells[j]? =some x→W.cell? ((⟨g3,0,none⟩:Addr).add j)=some x):=fun W f j x C=>bo.out W f j x (by
  obtain⟨cL,cM,e,_,_⟩:=cc.out;rw[e,List.getElem?_append_left (List.getElem?_eq_some_iff.1 C).1];exact C);have ce:Hid ([Value.pointer (some ⟨b,0,none⟩), .slice A n c].toArray.all (·.oneCell')=true):=by simp[Hid,Value.oneCell']
 go_wp2_with(refine aF rfl 46 (.tmp 3) rfl ⟨g3,0,none⟩ rfl cs _ ?zG Tryz.underlying46 rfl aI.out (bj.go ?zH));case zG=>exact bo.out _ aD
 unfold bj;go_wp2_with fail;refine(b7.out _ aj.out).mono ?_;rintro e bt⟨rfl,f4⟩;have av:=af f4;clear f4 b7;by_cases D:gm a=true
 ·have a4:Hid (kr a= .tuple #[.string ⟨(dk a).toArray⟩, .int .i64 0]):=by rw[Hid,kr,D];rfl
  rw[a4.out];have au:=af (bw.out D);have I:=af (ax.out D);generalize(⟨(dk a).toArray⟩:ByteArray)=cT at*;clear a4 D bw ax;obtain⟨P,bO⟩:∃z:Bool,decide (0<L.length)=z:=⟨_,rfl⟩;have aV:=af bO;have a6:Hid (decide (0<n)=P):=by rw[Hid,←aV.out];exact decide_eq_decide.2 (by have:=al.out;omega)
  obtain⟨Q,bP⟩:∃z:Bool,decide (0≤gD d.key a.key)=z:=⟨_,rfl⟩;have EQ:=af bP;rw[bO,bP]at I;clear bO bP;have aE:Hid (0<L.length→A=some Y):=fun h=>(O.out h).1;have cK:bt.cell? ⟨g2,1,none⟩=some (.slice A n c):=(M2.out.fr av.out (fun x=>x)).cell 1;obtain⟨B,br⟩:∃z:Bool,(bif P then Q else false)=z:=⟨_,rfl⟩;have aB:=af br;clear br;go_upto_region 5 with fail;refine jS 15 [.int .i64 (n:Int), .bool P, .bool P,bif P then .pointer (some ⟨g2,1,none⟩)else undef,bif P then .slice A n c else undef,bif P then .int .i64 (n:Int)else undef,bif P then .int .i64 (q:Int)else undef,bif P then .pointer (some (Y.add (q*6)))else undef,bif P then .pointer (some (Y.add (q*6)))else undef,bif P then .agg d.key.cells.toArray else undef,bif P then .pointer (some ⟨g3,0,none⟩)else undef,bif P then .agg a.key.cells.toArray else undef,bif P then .int .i64 (gD d.key a.key)else undef,bif P then .bool Q else undef, .bool B] ?zI ?_;case zI=>
   refine⟨?yS,?zN,?zO,?zP,?zQ,?zR,?zS,?zT,?zU,?zV,?zA,?zB,?zC,?zD,?zE,trivial⟩;all_goals intro u w' m g
   all_goals simp only[z1,z2,z3,z4,ay,Act.put,z5,z6,z7,Nat.reduceAdd,Nat.zero_add]
   case zN=>
    simp only[show u 0=_ from g 0];refine aG ?_;have t1:=a6.out;go_simp;exact aM
   case' zO=>simp only[show u 1=_ from g 1]
   case' zP=>
    simp only[show u 2=_ from g 2];cases P;case false=>exact bE
   case zQ=>
    simp only[show u 3=_ from g 3,show u 2=_ from g 2];cases P;case false=>exact bE
    refine aG ?_;have cR:_=some _:=(M2.out.fr (av.out.trans m) (fun x=>x)).cell 1;go_simp;exact aM
   case' zR=>
    simp only[show u 2=_ from g 2];cases P;case false=>exact bE
   case zS=>
    simp only[show u 5=_ from g 5,show u 2=_ from g 2];cases P;case false=>exact bE
    refine aG ?_;have o:=of_decide_eq_true aV.out;have ao:(n:Int)-1=(q:Int):=(bn.out o).1;have bN:IntKind.i64.wrap (q:Int)=(q:Int):=IntWalk.i64_in _ (by have:=al.out;have:=bn.out o;omega);go_simp;exact aM
   case zT=>
    simp only[show u 4=_ from g 4,show u 6=_ from g 6,show u 2=_ from g 2];cases P;case false=>exact bE
    refine aG ?_;have o:=of_decide_eq_true aV.out;have ao:A=some Y:=aE.out o;have bN:(q:Int)<(n:Int):=by have:=bn.out o;omega
    have ch:(0:Int)≤(q:Int):=by omega
    clear aE;subst ao;go_simp;exact aM
   case' zU=>
    simp only[show u 7=_ from g 7,show u 2=_ from g 2];cases P;case false=>exact bE
   case zV=>
    simp only[show u 8=_ from g 8,show u 2=_ from g 2];cases P;case false=>exact bE
    refine aG ?_;have o:=of_decide_eq_true aV.out;exact az _ _ rfl (Y.add (q*6)) rfl d.key.cells _ (fun cm v aY=>(aj.out.trans (av.out.trans m)).an ((O.out o).2.2 cm v aY) (fun x=>x)) Tryz.underlying43 rfl fP aM
   case' zA=>
    simp only[show u 2=_ from g 2];cases P;case false=>exact bE
   case zB=>
    simp only[show u 10=_ from g 10,show u 2=_ from g 2];cases P;case false=>exact bE
    refine aG ?_;exact az _ _ rfl ⟨g3,0,none⟩ rfl a.key.cells _ (cw.out _ (av.out.trans m)) Tryz.underlying43 rfl fP aM
   case zC=>
    simp only[show u 9=_ from g 9,show u 11=_ from g 11,show u 2=_ from g 2];cases P;case false=>exact bE
    refine aG ?_;have o:=of_decide_eq_true aV.out;go_simp;refine(bx.out o _).mono ?_;rintro e bt⟨rfl,f4⟩;exact⟨rfl,f4⟩
   case zD=>
    simp only[show u 12=_ from g 12,show u 2=_ from g 2];cases P;case false=>exact bE
    refine aG ?_;have t:=EQ.out;go_simp;exact aM
   case zE=>
    simp only[show u 2=_ from g 2,show u 13=_ from g 13];cases P<;>exact aG (by go_simp;exact⟨by rw[←aB.out];rfl,aD⟩)
   all_goals
    try simp only[cond]
    refine aG ?_;go_simp;exact aM
  intro w' m;simp only[z1,z2,z3,z4,ay,Act.put,z5,z6,z7,z8,z9,jx,jy,Nat.reduceAdd,Nat.zero_add];have H:=af (av.out.trans m);clear m av cK bx EQ;generalize w'=ct at*;have a3:Hid (B=(P&&Q)):=by have:=aB.out;rw[Hid,←this];cases P<;>rfl
  have K:=af (I.out B a3.out);clear I a3 aB aE aV a6 O bn;cases B
  ·have J:Hid (eY L a=(0,L++[a])):=K.out;go_upto_region 7 with fail;refine yw 10 [iS (.agg cs.toArray),iS (.agg [Value.pointer (some ⟨b,0,none⟩), .slice A n c].toArray),iS (.int .i64 (n:Int)),⟨fun v X=>∃s:Nat,v= .pointer (some ⟨s,0,none⟩)∧ft X s (fT L E),fun _ _ _ f⟨s,e,h⟩=>⟨s,e,h.ar f⟩⟩,⟨fun v _=>∃p:Option Addr,v= .tuple #[.pointer p, .int .i64 0],fun _ _ _ _ h=>h⟩,⟨fun v _=>∃p:Option Addr,v= .tuple #[.pointer p, .int .i64 0],fun _ _ _ _ h=>h⟩,⟨fun v _=>∃p:Option Addr,v= .pointer p,fun _ _ _ _ h=>h⟩,iS (.int .i64 0),⟨fun v _=>∃p:Option Addr,v= .pointer p,fun _ _ _ _ h=>h⟩,iS (.int .i64 0)] ?zL ?_;case zL=>
    refine⟨?zZ,?yA,?yV,?yB,?yC,?yD,?yE,?yF,?yG,?yH,trivial⟩;all_goals intro u w' m g
    all_goals simp only[z1,z2,z3,z4,ay,Act.put,z5,z6,z7,Nat.reduceAdd,Nat.zero_add]
    case zZ=>
     refine aG ?_;exact az _ _ rfl ⟨g3,0,none⟩ rfl cs _ (bo.out _ (H.out.trans m)) Tryz.underlying46 rfl aI.out ⟨_,rfl,aD,rfl⟩
    case yA=>
     refine aG ?_;exact az _ _ rfl ⟨g2,0,none⟩ rfl [Value.pointer (some ⟨b,0,none⟩), .slice A n c] _ (bI.out _ (H.out.trans m)) Tryz.underlying28 rfl je ⟨_,rfl,aD,rfl⟩
    case yB=>
     simp only[show u 1=_ from g 1,show u 2=_ from g 2];refine aG ?_;go_simp;refine(bm.out _ (aj.out.trans (H.out.trans m))).mono ?_;rintro e bt⟨s,rfl,aP,f4⟩;exact⟨_,rfl,f4,⟨s,rfl,aP⟩⟩
    case yC=>
     obtain⟨cS,bM,bc⟩:=g 3;simp only[show u 0=_ from g 0,bM];refine aG ?_;go_simp;refine(au.out _ _ (aj.out.trans (H.out.trans m)) bc).mono ?_;rintro e bt⟨p,rfl,f4⟩;exact⟨_,rfl,f4,⟨p,rfl⟩⟩
    case yD=>
     obtain⟨cI,cg⟩:=g 4;simp only[cg];refine aG ?_;go_simp;exact⟨_,rfl,aD,⟨cI,rfl⟩⟩
    case yE=>
     obtain⟨cr,ao⟩:=g 5;simp only[ao];refine aG ?_;go_simp;exact⟨_,rfl,aD,⟨cr,rfl⟩⟩
    case yF=>
     obtain⟨cr,ao⟩:=g 5;simp only[ao];refine aG ?_;go_simp;exact⟨_,rfl,aD,rfl⟩
    case yG=>
     obtain⟨cJ,bN⟩:=g 6;simp only[bN];refine aG ?_;go_simp;exact⟨_,rfl,aD,⟨cJ,rfl⟩⟩
    case yH=>
     simp only[show u 7=_ from g 7];refine aG ?_;go_simp;exact⟨_,rfl,aD,rfl⟩
    all_goals
     refine aG ?_;go_simp;exact⟨_,rfl,aD,rfl⟩
   intro u w' m g;obtain⟨cQ,ba⟩:=g 8 (by omega);simp only[z1,z2,z3,z4,ay,Act.put,z5,z6,z7,z8,z9,Nat.reduceAdd,Nat.zero_add,show u 9=_ from g 9 (by omega)];clear g;simp only[ba];clear ba;have F:=af (H.out.trans m);clear m bm au H y;generalize w'=bu at*;have ac:=af (aj.out.trans F.out);have bv:Hid (∀W,Fr ag w W→eB W r L):=fun W f=>bC.out.cN f (fJ.nothing _);have a9:Hid (∀W,Fr ag w W→Rd W (fun _=>True) 6 A n r.flatten):=fun W f=>by
    have h:W.ownsRow 0 46 6 (.slice A n c) L.length r.flatten:=aQ cy.out f (fun _ _ x=>x);rw[←al.out.1]at h;exact(Rd.ib h).any
   go_upto_region 10 with fail;refine Df 11 ag (fun i=>i==8) (fun i j=>(i==8&&(j==2||j==5||j==7))) [iS (.pointer (some ⟨g2,0,none⟩)),iS (.pointer (some ⟨b,0,none⟩)),⟨fun V ah=>∃i:Nat,V= .slice (some ⟨i,0,none⟩) 0 0∧ah.ownsRow 0 46 6 (.slice (some ⟨i,0,none⟩) 0 0) 0 []∧bu.heap.size≤i,fun _ _ _ f⟨i,e,h,l⟩=>⟨i,e,aQ h f (fun _ _ x=>x),l⟩⟩,iS (.pointer (some ⟨g2,1,none⟩)),iS (.slice A n c),⟨fun V ah=>ah.ownsRow 0 46 6 V n r.flatten∧∀k,V.ownBlock=some k→bu.heap.size≤k,fun _ _ _ f h=>⟨aQ h.1 f (fun _ _ x=>x),h.2⟩⟩,iS (.agg cs.toArray),⟨fun V ah=>∃i:Nat,V= .slice (some ⟨i,0,none⟩) 1 1∧aq ah i 46 cs.toArray,fun _ _ _ f⟨i,e,h⟩=>⟨i,e,h.fr f (fun x=>x)⟩⟩,⟨fun V ah=>ah.ownsRow 0 46 6 V (L.length+1) (r.flatten++cs)∧∀k,V.ownBlock=some k→bu.heap.size≤k,fun _ _ _ f h=>⟨aQ h.1 f (fun _ _ x=>x),h.2⟩⟩,⟨fun V ah=>∃(ab:Option Addr)(U Z:Nat),V= .agg [Value.pointer (some ⟨b,0,none⟩), .slice ab U Z].toArray∧U=L.length+1∧U≤Z∧ah.ownsRow 0 46 6 (.slice ab U Z) (L.length+1) (r.flatten++cs)∧∀k,(Value.slice ab U Z).ownBlock=some k→bu.heap.size≤k,fun _ _ _ f⟨ab,U,Z,e,bV,bb,bc,bW⟩=>⟨ab,U,Z,e,bV,bb,aQ bc f (fun _ _ x=>x),bW⟩⟩,iS (.int .i64 0)] ?zM ?_;case zM=>
    refine⟨?yW,?yI,?yJ,?yX,?yK,?yL,?yO,?yP,?yQ,?yR,?zF,trivial⟩;all_goals intro u w' m g b2
    all_goals simp only[z1,z2,z3,z4,ay,Act.put,z5,z6,z7,Nat.reduceAdd,Nat.zero_add]
    case yI=>
     simp only[show u 0=_ from g 0];refine aG ?_;have q:_=some _:=(M2.out.fr (F.out.trans m) (fun x=>x)).cell 0;go_simp;exact⟨_,rfl,aD,rfl⟩
    case yJ=>
     refine aG ?_;refine nZ 26 46 rfl i0 Tryz.underlying26 ad ?_;intro ct ap;exact⟨_,rfl,ap.fr,⟨w'.heap.size,rfl,ap.Hu,m.size⟩⟩
    case yK=>
     simp only[show u 3=_ from g 3];refine aG ?_;have q:_=some _:=(M2.out.fr (F.out.trans m) (fun x=>x)).cell 1;go_simp;exact⟨_,rfl,aD,rfl⟩
    case yL=>
     obtain⟨i2,bL,bb,l2⟩:=g 2;simp only[bL,show u 4=_ from g 4];refine aG ?_;refine Al (.tmp 53) (.tmp 55) 26 rfl 46 i0 fH 6 88 Tryz.underlying26 ad aR T bl rfl (by decide) i2 rfl bb (fun _=>True) A n c r.flatten rfl (a9.out _ (ac.out.trans m)) (by have:=al.out;omega) (by have:=al.out;omega) ?_;intro v5 ct cH b0 cG;exact⟨_,rfl,b0,cH,fun k o=>(cG k o).elim (fun e=>by omega) (fun e=>Nat.le_trans m.size e)⟩
    case yO=>
     refine aG ?_;exact az _ _ rfl ⟨g3,0,none⟩ rfl cs _ (bo.out _ (F.out.trans m)) Tryz.underlying46 rfl aI.out ⟨_,rfl,aD,rfl⟩
    case yP=>
     simp only[show u 6=_ from g 6];refine aG ?_;refine wp_buildSlice 26 46 1 #[(0, .tmp 57)] rfl cs.toArray i0 fH Tryz.underlying26 ad aR bS.out bT.out ?_ ?_;·simp only[List.map_toArray,List.map_cons,List.map_nil];exact bU.out cs a2.out
     ·exact⟨_,rfl,aD.alloc _,⟨w'.heap.size,rfl,aq.new _ _ _⟩⟩
    case yQ=>
     obtain⟨cD,cn⟩:=g 5;obtain⟨i7,ch,cE⟩:=g 7;simp only[ch];refine aG ?_;refine ti _ (.tmp 56) (.tmp 58) 26 rfl 46 i0 fH 6 88 Tryz.underlying26 ad aR T bl rfl (by decide) _ _ _ rfl cD (fun _=>True) (some ⟨i7,0,none⟩) 1 1 cs rfl ⟨by have:=a2.out;omega,fun _=>⟨_,rfl,trivial,fun cm x C=>by rw[Addr.add_mid,Nat.zero_add,cE.cell,bR];exact C⟩⟩ (fun u hu=>by have h:=bB.out;rw[Array.all_eq_true_iff_forall_mem]at h;exact h u (by simpa using hu)) (by have:=al.out;omega) (by decide) ?_;intro cU cV aL;refine⟨_,rfl,⟨m.aw aL.fr (fun k o e=>by have:=cn k e;omega),?_⟩,?_,fun k o=>(aL.ew k o).elim (cn k) (fun h=>Nat.le_trans m.size h)⟩;·exact⟨fun _ h=>h,fun _ h=>h,mP,fun _ h=>h,fun _ h=>h,mP,fun _ h=>h,mP,mP,mP,mP,trivial⟩
     ·rw[←al.out.1];exact aL.own
    case yR=>
     obtain⟨bX,co⟩:=g 8;obtain⟨ab,U,Z,ba,cv,bA⟩:=aU bX;rw[ba]at bX co;simp only[show u 1=_ from g 1,ba];refine aG ?_;exact iF 28 _ rfl [Value.pointer (some ⟨b,0,none⟩), .slice ab U Z].toArray _ (by simp only[List.map_toArray,List.map_cons,List.map_nil];rfl) (IH b ab U Z) ⟨_,rfl,aD,⟨ab,U,Z,rfl,cv.out,bA.out,bX,co⟩⟩
    case zF=>
     refine aG ?_;go_simp;exact⟨_,rfl,aD,rfl⟩
    all_goals
     refine aG ?_;go_simp;exact⟨_,rfl,aD,rfl⟩
   intro u w' m g;obtain⟨a0,aT,aX,ci,cb,a1,cj,cp⟩:=g 9 (by omega);simp only[z1,z2,z3,z4,ay,Act.put,z5,z6,z7,z8,z9,Nat.reduceAdd,Nat.zero_add,show u 10=_ from g 10 (by omega)];clear g;simp only[ci];have bi:=af m;have ca:=af (F.out.trans m);have cf:=af (bq.out.fr ca.out (fun x=>x));have cz:=af cj;have cd:=af cp;have cx:Hid ([Value.pointer (some ⟨b,0,none⟩), .slice a0 aT aX].toArray.all (·.oneCell')=true):=by simp[Hid,Value.oneCell']
   have b8:Hid (aT=L.length+1∧aT≤aX):=⟨cb,a1⟩;clear m cj cp ci cb a1 a9;refine ai rfl 28 (.tmp 5) _ rfl g5 [Value.pointer (some ⟨b,0,none⟩), .slice a0 aT aX].toArray rfl rfl _ _ cf.out je rfl cx.out ?_;intro ae am aa;have a7:=af am;have bF:Hid (fJ w' (fun k=>k=g5)):=fJ.of (fun k o=>⟨28,(show k=g5 from o)▸cf.out.ty,by decide,by decide,by decide⟩);have bD:Hid (ko ae (.slice a0 aT aX) (L++[a])):=by
    refine⟨r++[cs],?_,?_⟩
    ·rw[bh,List.length_singleton,List.flatten_append,List.flatten_singleton];exact aQ cz.out aa (fun k o e=>by
      have bK:k=g5:=e;have:=cd.out k o;have:=(bq.out.fr F.out (fun x=>x)).lt;omega)
    ·exact((bv.out _ (ac.out.trans (by exact bi.out))).snoc (cc.out.ar (ac.out.trans bi.out))).cN aa bF.out
   have N:=af (M.out ae a0 aT aX J.out ((aj.out.trans ca.out).aw aa (fun i cl e=>by have bK:i=g5:=e;have:=aC.out;omega)) b8.out.1 b8.out.2 bD.out (fun k o=>by have:=cd.out k o;have:=ac.out.size;have:=bG.out;omega));clear am aa;go_wp2;exact bodyPost_ret (fB (fn:=Tryz.f31) (p:=5) (q:=4) (ty:=28) Tryz.results31 _ ae _ 28 [Value.pointer (some ⟨b,0,none⟩), .slice a0 aT aX].toArray (0,0) _ rfl a7.out Tryz.underlying28 rfl je _ rfl) rfl N.out
  ·have J:Hid (eY L a=(32,L)):=K.out;clear K M au bm;go_upto_region 6 with fail;refine jS 2 [.agg [Value.pointer (some ⟨b,0,none⟩), .slice A n c].toArray, .int .i64 32] ?zJ ?_;case zJ=>
    refine⟨?zW,?yT,trivial⟩;all_goals intro u w' m g
    all_goals simp only[z1,z2,z3,z4,ay,Act.put,z5,z6,z7,Nat.reduceAdd,Nat.zero_add]
    case zW=>
     refine aG ?_;exact az _ _ rfl ⟨g2,0,none⟩ rfl [Value.pointer (some ⟨b,0,none⟩), .slice A n c] _ (bI.out _ (H.out.trans m)) Tryz.underlying28 rfl je aM
    all_goals
     refine aG ?_;go_simp;exact aM
   intro w' m;simp only[z1,z2,z3,z4,ay,Act.put,z5,z6,z7,z8,z9,jx,jy,Nat.reduceAdd,Nat.zero_add];have F:=af (H.out.trans m);have bJ:=af (bq.out.fr F.out (fun x=>x));clear m;refine ai rfl 28 (.tmp 5) _ rfl g5 [Value.pointer (some ⟨b,0,none⟩), .slice A n c].toArray rfl rfl _ _ bJ.out je rfl ce.out ?_;intro ae am aa;have a7:=af am;have N:=af (y.out ae 32 J.out ((aj.out.trans F.out).aw aa (fun i cl e=>by have bK:i=g5:=e;have:=aC.out;omega)));clear am aa;go_wp2;exact bodyPost_ret (fB (fn:=Tryz.f31) (p:=5) (q:=4) (ty:=28) Tryz.results31 _ ae _ 28 [Value.pointer (some ⟨b,0,none⟩), .slice A n c].toArray (0,0) _ rfl a7.out Tryz.underlying28 rfl je _ rfl) rfl N.out
 ·have R:gm a=false:=by simpa using D
  have a4:Hid (kr a= .tuple #[.string ByteArray.empty, .int .i64 3]):=by rw[Hid,kr,R];rfl
  have J:=af (wu (L:=L) R);rw[a4.out];clear D R a4 M bw bm ax bx;go_upto_region 3 with fail;have H:=av;refine jS 3 [.int .i64 3, .agg [Value.pointer (some ⟨b,0,none⟩), .slice A n c].toArray, .int .i64 3] ?zK ?_;case zK=>
   refine⟨?yU,?zX,?zY,trivial⟩;all_goals intro u w' m g
   all_goals simp only[z1,z2,z3,z4,ay,Act.put,z5,z6,z7,Nat.reduceAdd,Nat.zero_add]
   case zX=>
    refine aG ?_;exact az _ _ rfl ⟨g2,0,none⟩ rfl [Value.pointer (some ⟨b,0,none⟩), .slice A n c] _ (bI.out _ (H.out.trans m)) Tryz.underlying28 rfl je aM
   case' zY=>simp only[show u 0=_ from g 0]
   all_goals
    refine aG ?_;go_simp;exact aM
  intro w' m;simp only[z1,z2,z3,z4,ay,Act.put,z5,z6,z7,z8,z9,jx,jy,Nat.reduceAdd,Nat.zero_add];have F:=af (H.out.trans m);have bJ:=af (bq.out.fr F.out (fun x=>x));clear m;refine ai rfl 28 (.tmp 5) _ rfl g5 [Value.pointer (some ⟨b,0,none⟩), .slice A n c].toArray rfl rfl _ _ bJ.out je rfl ce.out ?_;intro ae am aa;have a7:=af am;have N:=af (y.out ae 3 J.out ((aj.out.trans F.out).aw aa (fun i cl e=>by have bK:i=g5:=e;have:=aC.out;omega)));clear am aa;go_wp2;exact bodyPost_ret (fB (fn:=Tryz.f31) (p:=5) (q:=4) (ty:=28) Tryz.results31 _ ae _ 28 [Value.pointer (some ⟨b,0,none⟩), .slice A n c].toArray (0,0) _ rfl a7.out Tryz.underlying28 rfl je _ rfl) rfl N.out
def Dm(w:World)(E:List Ent)(e:Ending)(w':World):Prop:=∃h T,e= .returned (.tuple #[.pointer (some ⟨h,0,none⟩), .int .i64 0])∧fK w' h E [] T∧Fr ag w w'∧∀k,T k→w.heap.size≤k
theorem FO{w:World}{p:Nat}(h:aq w p 180 #[.slice none 0 0, .map none]):Lt.ec w p none 0 0 none [] (Lt.bF 0):=
 ⟨h,⟨rfl, .inl ⟨rfl,rfl⟩⟩,rfl,(fun _ b=>by cases b), .inr ⟨rfl,fun l i a=>by
  have c:=a.2;have:1≤(i+1)*2^l:=Nat.mul_pos (by omega) (Nat.two_pow_pos l);omega⟩⟩
theorem vY(E:List Ent)(b:Nat)(w:World)(ad:ft w b E)(aY:eE w)(z:bB w)(aW:cW 24 E):
  Calls Tryz.prog 29 #[.pointer (some ⟨b,0,none⟩)] w (Dm w E):=by
 have aC:=af ad;have bd:=af z;have L:Hid (∀w',Fr ag w w'→Calls Tryz.prog 75 #[.pointer (some ⟨b,0,none⟩)] w' (aJ w' (aE (eF (fw E))))):=fun w' f=>Eg E b w' (ad.ar f) (aY.ar f) (z.ar f) aW;have a:=gJ (fw E);have c:=af a;have CL:Hid (∀w',Fr ag w w'→Calls Tryz.prog 76 #[.string ({data:=#[0]}++⟨(eF (fw E)).toArray⟩)] w' (aJ w' (aE (nI E)))):=fun w' f=>by
  have aV:eH ({data:=#[0]}++⟨(eF (fw E)).toArray⟩)=0::eF (fw E):=by
   have h:aR ({data:=#[0]}++⟨(eF (fw E)).toArray⟩)=aR ⟨#[0]⟩++aR ⟨(eF (fw E)).toArray⟩:=xe _ _;have a8:aR ⟨(eF (fw E)).toArray⟩=eF (fw E):=rY _;rw[a8]at h;exact h
  have h:=Lt.vZ ({data:=#[0]}++⟨(eF (fw E)).toArray⟩) w' (z.ar f) (by
   have:=dL ({data:=#[0]}++⟨(eF (fw E)).toArray⟩);rw[aV,List.length_cons,a]at this;omega);rw[aV]at h;exact h
 have a4:Hid (Lt.bT ((nI E).map aS).toArray):=Lt.bT.of (qe E);have l:Hid (Lt.bT ((eF (fw E)).map aS).toArray):=Lt.bT.of a;have ap:Hid (∀p w',w.heap.size≤p→Lt.ec w' p none 0 0 none [] (Lt.bF 0)→Fr ag w w'→Calls Tryz.prog 84 #[.pointer (some ⟨p,0,none⟩),aE (nI E)] w' (Lt.mE w' p none 0 0 none [] (nI E))):=fun p w' ah aj f=>
  Lt.se p none 0 0 none [] (nI E) w' aj (qe E) (by omega) (z.ar f) (fun k B aj=>by
   have ba:k<w.heap.size:=by first|(rcases B with rfl|rfl;exact z.Fg;exact z.Fh)
   rcases aj with rfl|h|h;·omega
   ·cases h
   ·simp[Value.ownBlock]at h);have W:Hid (cj E []=[nI E]):=rfl;have aP:Hid (∀j v,((eF (fw E)).map bv)[j]? =some v→(((eF (fw E)).map aS).toArray)[j]? =some v):=fun j v h=>by rw[bR];exact h
 obtain⟨dl,I⟩:∃dl,eF (fw E)=dl:=⟨_,rfl⟩;rw[I]at L c CL l aP;obtain⟨xs,n⟩:∃x:ByteArray,x=⟨dl.toArray⟩:=⟨_,rfl⟩;have aa:=af n;rw[←n]at CL;have ab:Hid (xs.size=32):=by rw[Hid,n];simp only[ByteArray.size,List.size_toArray];exact c.out
 generalize nI E=bc at*;unfold aE at L CL;generalize G:(dl.map aS).toArray=a6 at*;have a5:=af G;generalize H:(bc.map aS).toArray=a7 at*;have Y:=af H;clear ad aY z aW I n a G H;go_enter Tryz.func29,Tryz.ntmps29;go_wp2_with fail;refine(Lt.qB _).mono ?_;rintro e w1⟨rfl,m⟩;have t:Hid (aq w1 w.heap.size 180 #[.slice none 0 0, .map none]):=by rw[m];exact aq.new _ _ _
 have ax:Hid (Fr ag w w1):=by rw[m];exact aD.alloc _
 have s:Hid (w1.heap.size=w.heap.size+1):=by rw[m];simp[Hid]
 clear m;have X:Hid (w.heap.size≤w.heap.size):=Nat.le_refl _;generalize ah:w.heap.size=p at t s⊢;have N:=af ah;clear ah X;go_wp2_with(refine aA rfl 111 (.tmp 12) rfl #[.pointer (some ⟨b,0,none⟩), .slice none 0 0, .slice none 0 0, .pointer (some ⟨b,0,none⟩), .pointer (some ⟨p,0,none⟩)] rfl ?_);intro w2 a0;have O:=af a0;clear a0;generalize aZ:w1.heap.size=h at*;have an:Hid (aq w2 h 111 #[.pointer (some ⟨b,0,none⟩), .slice none 0 0, .slice none 0 0, .pointer (some ⟨b,0,none⟩), .pointer (some ⟨p,0,none⟩)]):=by have q:=O.out.aH;rw[aZ]at q;exact q
 have aF:Hid (p<h):=by have:=s.out;simp only[Hid];omega
 clear aZ;have R:=af (ax.out.trans O.out.fr);have aL:=af (t.out.fr O.out.fr (fun x=>x));clear O ax t s;go_wp2_with fail;refine(L.out _ R.out).mono ?_;rintro e w3⟨rfl,f3⟩;have S:=af (R.out.trans f3);have P:=af (an.out.fr f3 (fun x=>x));have ac:=af (aL.out.fr f3 (fun x=>x));clear f3 L R an aL;go_wp2_with(refine ak rfl 37 rfl aI JB aB rfl ?_);intro a1 n4;have F:=af n4;clear n4;generalize J:w3.heap.size=g5 at*;have au:Hid (aq a1 g5 37 aB):=by have q:=F.out.aH;rw[J]at q;exact q
 have r:Hid (w.heap.size≤g5∧p<g5∧h<g5):=by have:=S.out.size;have:=P.out.lt;have:=ac.out.lt;simp only[Hid];omega
 clear J;go_wp2_with(refine ai rfl 37 (.tmp 5) _ rfl g5 a6 rfl rfl _ _ au.out l.out.JP l.out.zero l.out.one ?_);intro al b5 f5;have av:=af b5;have Q:=af ((P.out.fr F.out.fr (fun x=>x)).fr f5 (fun e=>by have aU:h=g5:=e;have:=r.out;omega));have aN:=af ((ac.out.fr F.out.fr (fun x=>x)).fr f5 (fun e=>by have aU:p=g5:=e;have:=r.out;omega));have T:Hid (Fr ag w al):=(S.out.trans F.out.fr).aw f5 (fun i a9 e=>by have aU:i=g5:=e;have:=r.out;omega);clear b5 f5 F au S P ac;have aT:Hid (∀w',Fr ag al w'→w'.cell? {block:=h,off:=4}=some (.pointer (some ⟨p,0,none⟩))):=fun w' f=>(Q.out.fr f (fun x=>x)).cell 4;have aK:Hid (∀w',Fr ag al w'→Rd w' (fun _=>True) 1 (some ⟨g5,0,none⟩) 32 (dl.map bv)):=fun w' f=>⟨by rw[List.length_map,c.out],fun _=>⟨_,rfl,trivial,fun j v bb=>by
  rw[Addr.add_mid,Nat.zero_add,(av.out.fr f (fun x=>x)).cell j];exact aP.out j v bb⟩⟩;go_upto_region 5 with fail;refine jS 8 [.pointer (some ⟨h,0,none⟩), .pointer (some ⟨h,0,none⟩), .pointer (some ⟨h,4,none⟩), .pointer (some ⟨p,0,none⟩), .slice (some ⟨g5,0,none⟩) 32 32, .string xs, .string ({data:=#[0]}++xs), .agg a7] ?zA ?_;case zA=>
  refine⟨?zH,?zB,?zC,?zD,?zI,?zE,?zF,?zG,trivial⟩;all_goals intro u w' o C
  all_goals simp only[z1,z2,z3,z4,ay,Act.put,z5,z6,z7,Nat.reduceAdd,Nat.zero_add]
  case' zB=>simp only[show u 0=_ from C 0]
  case' zC=>simp only[show u 1=_ from C 1]
  case zD=>
   simp only[show u 2=_ from C 2];refine aG ?_;have q:=aT.out _ o;go_simp;exact aM
  case zE=>
   simp only[show u 4=_ from C 4];refine aG ?_;have ae:=mR w' _ _ 32 32 _ (aK.out _ o);rw[←aa.out]at ae;go_simp;exact aM
  case zF=>
   simp only[show u 5=_ from C 5];refine aG ?_;have y:¬9223372036854775807<1+xs.size:=by have:=ab.out;omega
   go_simp;exact aM
  case zG=>
   simp only[show u 6=_ from C 6];refine aG ?_;go_simp;refine(CL.out _ (T.out.trans o)).mono ?_;rintro e a1⟨rfl,f4⟩;exact⟨rfl,f4⟩
  all_goals
   refine aG ?_;go_simp;exact aM
 intro w' o;simp only[z1,z2,z3,z4,ay,Act.put,z5,z6,z7,z8,z9,jx,jy,Nat.reduceAdd,Nat.zero_add];have M:=af (T.out.trans o);have ao:=af (Q.out.fr o (fun x=>x));have aO:=af (aN.out.fr o (fun x=>x));have U:=af (aC.out.ar M.out);clear o T Q aN aT aK CL av;have g:=af (ap.out p _ (by have:=N.out;omega) (FO aO.out) M.out);unfold aE at g;rw[Y.out]at g;go_wp2_with fail;refine g.out.mono ?_;rintro e a2⟨rfl,am,aQ,K,aX,A,d⟩;have az:Hid (Fr ag w a2):=M.out.aw A (fun i a9 e=>by
  have:=N.out;rcases e with e|e|e;·omega
  ·cases e
  ·simp[Value.ownBlock]at e);have a3:=af (ao.out.fr A (fun e=>by
  have:=aF.out;rcases e with e|e|e;·omega
  ·cases e
  ·simp[Value.ownBlock]at e));have Z:=af aX;have V:Hid (∀k,Lt.TB p am (0+1) aQ K k→w.heap.size≤k):=fun k B=>by
  have:=N.out;rcases d k B with h|h
  ·rcases h with h|h|h;·omega
   ·cases h
   ·simp[Value.ownBlock]at h
  ·have:=M.out.size;omega
 have D:Hid (ft a2 b E):=aC.out.ar az.out;clear aX A d g ap ao aO U;go_wp2;go_ret2;refine⟨h,_,rfl,⟨b,b,p, .slice none 0 0, .slice none 0 0,[],am,aQ,K,⟨a3.out,D.out,ko.nil _,⟨rfl, .inl ⟨rfl,rfl⟩⟩,rfl,(fun i k B=>by simp at B),D.out,?_⟩,rfl⟩,az.out,fun k B=>?_⟩;·rw[W.out];exact Z.out
 ·rcases B with y|y|y|y;·have:=aF.out;have:=N.out;omega
  ·simp[Value.ownBlock]at y
  ·simp[Value.ownBlock]at y
  ·exact V.out k y
end Go.Proofs.YtphjagkehiklkaaGreatDoor
