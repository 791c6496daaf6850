/- Texts. -/
import Derived.Shelf.SlMaps.Clone
import Derived.Test.YtphjagkehiklkaaGreatDoorXK22
import Derived.Test.YtphjagkehiklkaaGreatDoorXK23
set_option linter.unusedVariables false
set_option linter.unusedSimpArgs false
set_option maxRecDepth 100000
set_option maxHeartbeats 8000000
namespace Go.Proofs.YtphjagkehiklkaaGreatDoor
open Go.RowKit Go.Shelf
theorem fF{P:Program}{fn:Func}{p q:Tmp}{ty:TypeId}(h:fn.results=#[.tmp q, .cell p ty])(tmps:Array Value)(w:World)(g:Nat)(t:TypeId)(cs:Array Value)(fr:Nat×Nat)(d:TypeDesc)
  (i:tmps.getD p undef= .pointer (some ⟨g,0,none⟩))(e:w.heap[g]? =some (.cells cs t fr))
  (hu:P.underlying ty=some d)(c:(match d with| .struct _| .array _ _=>true|_=>false)=true)(f:(P.info? ty).map (·.size)=some cs.size)(v:Value)(j:tmps.getD q undef=v):
  (results fn tmps).run P w= .ok (.tuple #[v, .agg cs]) w:=by
 have a:tmps[p]?.getD undef= .pointer (some ⟨g,0,none⟩):=by simpa using i
 have b:tmps[q]?.getD undef=v:=by simpa using j
 simp[results,h,a,b,asAddr,run_loadVar_row w g t ty cs fr d e hu c f]
def sF:List Value:=[.pointer none, .slice none 0 0]
theorem Jp(w:World):(zeroValue 28).run Tryz.prog w= .ok (.agg sF.toArray) w:=by kernel_rfl
theorem gZ:(Tryz.prog.info? 28).map (·.size)=some 2:=by kernel_rfl
theorem JE(b:Nat)(A:Option Addr)(n c:Nat):Tryz.prog.built 28 [(0, .pointer (some ⟨b,0,none⟩)),(1, .slice A n c)]=some [Value.pointer (some ⟨b,0,none⟩), .slice A n c].toArray:=by kernel_rfl
theorem fZ.sz{a:ActV}(h:fZ a):Hw a:=⟨by have:=h.fA;omega,fun c b=>(h.reads c b).cv,fun c b=>(h.writes c b).cv,by have:=h.nr;omega,by have:=h.nw;omega⟩
def Em(w:World)(ms:List Value)(b:Nat)(E:List Ent)(L:List ActV)(a:ActV)(e:Ending)(w':World):Prop:=∃c:List Value,e= .returned (.tuple #[.int .i64 (eo L a).1, .agg c.toArray])∧Mod w' c b E (eo L a).2∧Fr ah w w'∧∀v∈c,∀k,v.ownBlock=some k→w.heap.size≤k∨∃u∈ms,u.ownBlock=some k
theorem zx(ms cs:List Value)(b:Nat)(E:List Ent)(L:List ActV)(a:ActV)(w:World)(bf:Mod w ms b E L)(aN:cy w cs a)(bs:ed w)(aO:cI 24 E)(g:eS L)(aS:fZ a):
  Calls Tryz.prog 31 #[.agg ms.toArray, .agg cs.toArray] w (Em w ms b E L a):=by
 obtain⟨A,n,c,rfl,av,ck,bZ,r,S,aQ⟩:=id bf;obtain⟨i0,ad,aT,T,bl⟩:=info_parts sG;have bT:Hid (¬1*i0.size>2^24):=by simp only[Hid];rw[T];omega
 have bU:Hid (¬1*i0.size=0):=by simp only[Hid];rw[T];omega
 have bV:Hid (∀ds:List Value,ds.length=6→Instr.fill (fun i=>some (i*i0.size,i0.size)) ((Array.range (1*i0.size)).map (eC.cells[· %eC.cells.size]!)) [(0, .agg ds.toArray)]=some ds.toArray):=fun ds cH=>by rw[T];exact Lt.pF _ _ 6 (by simpa using cH) (by simp[eC,Value.cells])
 obtain⟨q,b2⟩:∃q,L.length-1=q:=⟨_,rfl⟩;obtain⟨Y,d,O⟩:∃(Y:Addr)(d:ActV),Hid (0<L.length→A=some Y∧L[q]? =some d∧∀j x,d.key.cells[j]? =some x→w.cell? ((Y.add (q*6)).add j)=some x):=by
  by_cases h:0<L.length;·obtain⟨Y,cR,cC,cD,bK,bL,cg,ap⟩:=kb S aQ av (k:=q) (by omega);refine⟨Y,cC,fun _=>⟨cD,bK,fun j x C=>ap j x ?_⟩⟩;obtain⟨cO,cP,rfl,_,_⟩:=bL;rw[List.getElem?_append_left (List.getElem?_eq_some_iff.1 C).1];exact C
  ·exact⟨⟨0,0,none⟩,a,fun cE=>absurd cE h⟩
 have al:Hid (n=L.length∧n≤16∧n≤c):=by have:=g.len;exact⟨av,by omega,ck⟩
 have bn:Hid (0<L.length→(n:Int)-1=(q:Int)∧q<n):=fun h=>by have:=al.out;exact⟨by omega,by omega⟩
 have bx:Hid (0<L.length→∀w',Calls Tryz.prog 85 #[.agg d.key.cells.toArray, .agg a.key.cells.toArray] w' (aK w' (.int .i64 (dV d.key a.key)))):=fun h w'=>om _ _ w' (by have:=(g.small d (List.mem_of_getElem? (O.out h).2.1)).fA;omega) (by have:=aS.fA;omega);have aA:Hid (gv a=true→∀B:Bool,B=(decide (0<L.length)&&decide (0≤dV d.key a.key))→eo L a=if B=true then(32,L)else(0,L++[a])):=fun b1 B br=>zw b1 B q d (fun h=>⟨b2.symm,(O.out h).2.1⟩) (by
  rw[br];have:=iz.kH d.key a.key;congr 1;exact decide_eq_decide.2 (by omega));have b7:Hid (∀w',Fr ah w w'→Calls Tryz.prog 18 #[.agg cs.toArray] w' (aK w' (kJ a))):=fun w' f=>rK a cs w' (bs.ao f) (aN.ao f) aS.sz;have bm:Hid (∀w',Fr ah w w'→Calls Tryz.prog 41 #[.agg [Value.pointer (some ⟨b,0,none⟩), .slice A n c].toArray, .int .i64 (n:Int)] w' (Cb w' (ee L E))):=fun w' f=>by
  have h:=vS _ b E L n w' (bf.ao f) (bs.ao f) aO g (by omega);rw[av,List.take_length]at h;rw[av];exact h
 have bw:Hid (gv a=true→∀w' s,Fr ah w w'→ec w' s (ee L E)→Calls Tryz.prog 86 #[.agg cs.toArray, .pointer (some ⟨s,0,none⟩)] w' (fun e b3=>∃p,e= .returned (.tuple #[.pointer p, .int .i64 0])∧Fr ah w' b3)):=fun b1 w' s f h=>by
  have G:=iG L E 24 aO g.ok g.small;refine(jq _ a cs _ s w' (aN.ao f) h (bs.ao f) G aS.writes (by have:=aS.nw;have:=g.len;omega)).mono ?_;rintro e w2⟨p,k,rfl,f2,aP⟩;rcases aP with⟨_,rfl,_⟩|⟨⟨x,C,bk⟩,_⟩;·exact⟨_,rfl,f2⟩
  ·rw[nS b1 x C]at bk;cases bk
 have cQ:=af bf;have cc:=af aN;have HB:=af bZ;have bC:=af aQ;have cA:=af S;have aM:Hid ((Tryz.prog.info? 46).map (·.size)=some cs.length):=by rw[Hid,aN.len];exact bM
 have bB:=af (ActV.one aN);have a4:=af aN.len;have y:Hid (∀w' bR,eo L a=(bR,L)→Fr ah w w'→Em w [Value.pointer (some ⟨b,0,none⟩), .slice A n c] b E L a (.returned (.tuple #[.int .i64 bR, .agg [Value.pointer (some ⟨b,0,none⟩), .slice A n c].toArray])) w'):=fun w' bR e f=>⟨_,by rw[e],by rw[e];exact bf.ao f,f,fun v a0 k o=> .inr ⟨v,a0,o⟩⟩;have M:Hid (∀w' a1 aU aY,eo L a=(0,L++[a])→Fr ah w w'→aU=L.length+1→aU≤aY→jr w' (.slice a1 aU aY) (L++[a])→(∀k,(Value.slice a1 aU aY).ownBlock=some k→w.heap.size≤k)→Em w [Value.pointer (some ⟨b,0,none⟩), .slice A n c] b E L a (.returned (.tuple #[.int .i64 0, .agg [Value.pointer (some ⟨b,0,none⟩), .slice a1 aU aY].toArray])) w'):=fun w' a1 aU aY e f bW bd be bX=>⟨_,by rw[e],by rw[e];exact⟨a1,aU,aY,rfl,by rw[aW];exact bW,bd,bZ.ao f,be⟩,f,fun v a0 k o=>by
  rw[List.mem_cons,List.mem_singleton]at a0;rcases a0 with rfl|rfl;·cases o
  ·exact .inl (bX k o)⟩;generalize Em w [Value.pointer (some ⟨b,0,none⟩), .slice A n c] b E L a=PP at*;clear bf aN bs aO g aS bZ S aQ av ck b2;go_enter Tryz.func31,Tryz.ntmps31;go_wp2_with(refine aB rfl 28 (.tmp 0) rfl _ rfl ?_);intro w1 n1;have b9:=af n1.fr;have b4:=af n1.aD;clear n1;generalize bg:w.heap.size=g2 at*;have bF:=af bg;clear bg;go_wp2_with(refine aB rfl 46 (.tmp 1) rfl cs.toArray rfl ?_);intro w2 cq;have bp:=af cq;clear cq;generalize bh:w1.heap.size=g3 at*;have bG:=af bh;clear bh;have b6:Hid (aq w2 g3 46 cs.toArray):=by have h:=bp.out.aD;rw[bG.out]at h;exact h
 have b5:=af (b4.out.fr bp.out.fr (fun x=>x));have bz:=af (b9.out.trans bp.out.fr);clear bp b4 b9;go_wp2_with(refine an rfl 28 rfl (.agg sF.toArray) Jp #[.pointer none, .slice none 0 0] rfl ?_);intro w3 n3;have ba:=af n3;clear n3;generalize bi:w2.heap.size=g5 at*;have a7:=af bi;clear bi;have bq:Hid (aq w3 g5 28 #[.pointer none, .slice none 0 0]):=by have h:=ba.out.aD;rw[a7.out]at h;exact h
 have M2:=af (b5.out.fr ba.out.fr (fun x=>x));have cv:=af (b6.out.fr ba.out.fr (fun x=>x));have ai:=af (bz.out.trans ba.out.fr);have aG:Hid (w.heap.size≤g5):=by have:=bz.out.size;have:=a7.out;simp only[Hid];omega
 clear ba b5 b6 bz;have bH:Hid (∀W,Fr ah w3 W→∀j x,[Value.pointer (some ⟨b,0,none⟩), .slice A n c][j]? =some x→W.cell? ((⟨g2,0,none⟩:Addr).add j)=some x):=fun W f j x C=>by rw[←bQ]at C;rw[Addr.add_mid,Nat.zero_add,(M2.out.fr f (fun x=>x)).cell j];exact C
 have bo:Hid (∀W,Fr ah w3 W→∀j x,cs[j]? =some x→W.cell? ((⟨g3,0,none⟩:Addr).add j)=some x):=fun W f j x C=>by rw[Addr.add_mid,Nat.zero_add,(cv.out.fr f (fun x=>x)).cell j,bQ];exact C
 have cx:Hid (∀W,Fr ah w3 W→∀j x,a.key.cells[j]? =some x→W.cell? ((⟨g3,0,none⟩:Addr).add j)=some x):=fun W f j x C=>bo.out W f j x (by
  obtain⟨cO,cP,e,_,_⟩:=cc.out;rw[e,List.getElem?_append_left (List.getElem?_eq_some_iff.1 C).1];exact C);have ce:Hid ([Value.pointer (some ⟨b,0,none⟩), .slice A n c].toArray.all (·.oneCell')=true):=by simp[Hid,Value.oneCell']
 go_wp2_with(refine aC rfl 46 (.tmp 3) rfl ⟨g3,0,none⟩ rfl cs _ ?zG Tryz.underlying46 rfl aM.out (aR.go ?zH));case zG=>exact bo.out _ az
 unfold aR;go_wp2_with fail;refine(b7.out _ ai.out).mono ?_;rintro e bt⟨rfl,f4⟩;have ay:=af f4;clear f4 b7;by_cases D:gv a=true
 ·have a6:Hid (kJ a= .tuple #[.string ⟨(dj a).toArray⟩, .int .i64 0]):=by rw[Hid,kJ,D];rfl
  rw[a6.out];have ax:=af (bw.out D);have I:=af (aA.out D);generalize(⟨(dj a).toArray⟩:ByteArray)=cV at*;clear a6 D bw aA;obtain⟨P,bO⟩:∃z:Bool,decide (0<L.length)=z:=⟨_,rfl⟩;have aX:=af bO;have a8:Hid (decide (0<n)=P):=by rw[Hid,←aX.out];exact decide_eq_decide.2 (by have:=al.out;omega)
  obtain⟨Q,bP⟩:∃z:Bool,decide (0≤dV d.key a.key)=z:=⟨_,rfl⟩;have EQ:=af bP;rw[bO,bP]at I;clear bO bP;have aI:Hid (0<L.length→A=some Y):=fun h=>(O.out h).1;have cN:bt.cell? ⟨g2,1,none⟩=some (.slice A n c):=(M2.out.fr ay.out (fun x=>x)).cell 1;obtain⟨B,br⟩:∃z:Bool,(bif P then Q else false)=z:=⟨_,rfl⟩;have aE:=af br;clear br;go_upto_region 5 with fail;refine iW 15 [.int .i64 (n:Int), .bool P, .bool P,bif P then .pointer (some ⟨g2,1,none⟩)else undef,bif P then .slice A n c else undef,bif P then .int .i64 (n:Int)else undef,bif P then .int .i64 (q:Int)else undef,bif P then .pointer (some (Y.add (q*6)))else undef,bif P then .pointer (some (Y.add (q*6)))else undef,bif P then .agg d.key.cells.toArray else undef,bif P then .pointer (some ⟨g3,0,none⟩)else undef,bif P then .agg a.key.cells.toArray else undef,bif P then .int .i64 (dV d.key a.key)else undef,bif P then .bool Q else undef, .bool B] ?zI ?_;case zI=>
   refine⟨?yQ,?zN,?zO,?zP,?zQ,?zR,?zS,?zT,?zU,?zV,?zA,?zB,?zC,?zD,?zE,trivial⟩;all_goals intro u w' m g
   all_goals simp only[z1,z2,z3,z4,ar,Act.put,z5,z6,z7,Nat.reduceAdd,Nat.zero_add]
   case zN=>
    simp only[show u 0=_ from g 0];refine aF ?_;have t1:=a8.out;go_simp;exact aL
   case' zO=>simp only[show u 1=_ from g 1]
   case' zP=>
    simp only[show u 2=_ from g 2];cases P;case false=>exact bS
   case zQ=>
    simp only[show u 3=_ from g 3,show u 2=_ from g 2];cases P;case false=>exact bS
    refine aF ?_;have cT:_=some _:=(M2.out.fr (ay.out.trans m) (fun x=>x)).cell 1;go_simp;exact aL
   case' zR=>
    simp only[show u 2=_ from g 2];cases P;case false=>exact bS
   case zS=>
    simp only[show u 5=_ from g 5,show u 2=_ from g 2];cases P;case false=>exact bS
    refine aF ?_;have o:=of_decide_eq_true aX.out;have ap:(n:Int)-1=(q:Int):=(bn.out o).1;have bN:IntKind.i64.wrap (q:Int)=(q:Int):=IntWalk.i64_in _ (by have:=al.out;have:=bn.out o;omega);go_simp;exact aL
   case zT=>
    simp only[show u 4=_ from g 4,show u 6=_ from g 6,show u 2=_ from g 2];cases P;case false=>exact bS
    refine aF ?_;have o:=of_decide_eq_true aX.out;have ap:A=some Y:=aI.out o;have bN:(q:Int)<(n:Int):=by have:=bn.out o;omega
    have ch:(0:Int)≤(q:Int):=by omega
    clear aI;subst ap;go_simp;exact aL
   case' zU=>
    simp only[show u 7=_ from g 7,show u 2=_ from g 2];cases P;case false=>exact bS
   case zV=>
    simp only[show u 8=_ from g 8,show u 2=_ from g 2];cases P;case false=>exact bS
    refine aF ?_;have o:=of_decide_eq_true aX.out;exact aw _ _ rfl (Y.add (q*6)) rfl d.key.cells _ (fun cm v a0=>(ai.out.trans (ay.out.trans m)).aj ((O.out o).2.2 cm v a0) (fun x=>x)) Tryz.underlying43 rfl fQ aL
   case' zA=>
    simp only[show u 2=_ from g 2];cases P;case false=>exact bS
   case zB=>
    simp only[show u 10=_ from g 10,show u 2=_ from g 2];cases P;case false=>exact bS
    refine aF ?_;exact aw _ _ rfl ⟨g3,0,none⟩ rfl a.key.cells _ (cx.out _ (ay.out.trans m)) Tryz.underlying43 rfl fQ aL
   case zC=>
    simp only[show u 9=_ from g 9,show u 11=_ from g 11,show u 2=_ from g 2];cases P;case false=>exact bS
    refine aF ?_;have o:=of_decide_eq_true aX.out;go_simp;refine(bx.out o _).mono ?_;rintro e bt⟨rfl,f4⟩;exact⟨rfl,f4⟩
   case zD=>
    simp only[show u 12=_ from g 12,show u 2=_ from g 2];cases P;case false=>exact bS
    refine aF ?_;have t:=EQ.out;go_simp;exact aL
   case zE=>
    simp only[show u 2=_ from g 2,show u 13=_ from g 13];cases P<;>exact aF (by go_simp;exact⟨by rw[←aE.out];rfl,az⟩)
   all_goals
    try simp only[cond]
    refine aF ?_;go_simp;exact aL
  intro w' m;simp only[z1,z2,z3,z4,ar,Act.put,z5,z6,z7,z8,z9,jn,jo,Nat.reduceAdd,Nat.zero_add];have H:=af (ay.out.trans m);clear m ay cN bx EQ;generalize w'=ct at*;have a5:Hid (B=(P&&Q)):=by have:=aE.out;rw[Hid,←this];cases P<;>rfl
  have K:=af (I.out B a5.out);clear I a5 aE aI aX a8 O bn;cases B
  ·have J:Hid (eo L a=(0,L++[a])):=K.out;go_upto_region 7 with fail;refine y8 10 [iS (.agg cs.toArray),iS (.agg [Value.pointer (some ⟨b,0,none⟩), .slice A n c].toArray),iS (.int .i64 (n:Int)),⟨fun v X=>∃s:Nat,v= .pointer (some ⟨s,0,none⟩)∧ec X s (ee L E),fun _ _ _ f⟨s,e,h⟩=>⟨s,e,h.ao f⟩⟩,⟨fun v _=>∃p:Option Addr,v= .tuple #[.pointer p, .int .i64 0],fun _ _ _ _ h=>h⟩,⟨fun v _=>∃p:Option Addr,v= .tuple #[.pointer p, .int .i64 0],fun _ _ _ _ h=>h⟩,⟨fun v _=>∃p:Option Addr,v= .pointer p,fun _ _ _ _ h=>h⟩,iS (.int .i64 0),⟨fun v _=>∃p:Option Addr,v= .pointer p,fun _ _ _ _ h=>h⟩,iS (.int .i64 0)] ?zL ?_;case zL=>
    refine⟨?zZ,?yA,?yT,?yB,?yC,?yD,?yE,?yF,?yG,?yH,trivial⟩;all_goals intro u w' m g
    all_goals simp only[z1,z2,z3,z4,ar,Act.put,z5,z6,z7,Nat.reduceAdd,Nat.zero_add]
    case zZ=>
     refine aF ?_;exact aw _ _ rfl ⟨g3,0,none⟩ rfl cs _ (bo.out _ (H.out.trans m)) Tryz.underlying46 rfl aM.out ⟨_,rfl,az,rfl⟩
    case yA=>
     refine aF ?_;exact aw _ _ rfl ⟨g2,0,none⟩ rfl [Value.pointer (some ⟨b,0,none⟩), .slice A n c] _ (bH.out _ (H.out.trans m)) Tryz.underlying28 rfl gZ ⟨_,rfl,az,rfl⟩
    case yB=>
     simp only[show u 1=_ from g 1,show u 2=_ from g 2];refine aF ?_;go_simp;refine(bm.out _ (ai.out.trans (H.out.trans m))).mono ?_;rintro e bt⟨s,rfl,aS,f4⟩;exact⟨_,rfl,f4,⟨s,rfl,aS⟩⟩
    case yC=>
     obtain⟨cU,bL,be⟩:=g 3;simp only[show u 0=_ from g 0,bL];refine aF ?_;go_simp;refine(ax.out _ _ (ai.out.trans (H.out.trans m)) be).mono ?_;rintro e bt⟨p,rfl,f4⟩;exact⟨_,rfl,f4,⟨p,rfl⟩⟩
    case yD=>
     obtain⟨cL,cg⟩:=g 4;simp only[cg];refine aF ?_;go_simp;exact⟨_,rfl,az,⟨cL,rfl⟩⟩
    case yE=>
     obtain⟨cr,ap⟩:=g 5;simp only[ap];refine aF ?_;go_simp;exact⟨_,rfl,az,⟨cr,rfl⟩⟩
    case yF=>
     obtain⟨cr,ap⟩:=g 5;simp only[ap];refine aF ?_;go_simp;exact⟨_,rfl,az,rfl⟩
    case yG=>
     obtain⟨cM,bN⟩:=g 6;simp only[bN];refine aF ?_;go_simp;exact⟨_,rfl,az,⟨cM,rfl⟩⟩
    case yH=>
     simp only[show u 7=_ from g 7];refine aF ?_;go_simp;exact⟨_,rfl,az,rfl⟩
    all_goals
     refine aF ?_;go_simp;exact⟨_,rfl,az,rfl⟩
   intro u w' m g;obtain⟨cS,bc⟩:=g 8 (by omega);simp only[z1,z2,z3,z4,ar,Act.put,z5,z6,z7,z8,z9,Nat.reduceAdd,Nat.zero_add,show u 9=_ from g 9 (by omega)];clear g;simp only[bc];clear bc;have F:=af (H.out.trans m);clear m bm ax H y;generalize w'=bu at*;have ac:=af (ai.out.trans F.out);have bv:Hid (∀W,Fr ah w W→dF W r L):=fun W f=>bC.out.cu f (eZ.nothing _);have bb:Hid (∀W,Fr ah w W→Rd W (fun _=>True) 6 A n r.flatten):=fun W f=>by
    have h:W.ownsRow 0 46 6 (.slice A n c) L.length r.flatten:=aJ cA.out f (fun _ _ x=>x);rw[←al.out.1]at h;exact(Rd.gO h).any
   go_upto_region 10 with fail;refine Ef 11 ah (fun i=>i==8) (fun i j=>(i==8&&(j==2||j==5||j==7))) [iS (.pointer (some ⟨g2,0,none⟩)),iS (.pointer (some ⟨b,0,none⟩)),⟨fun V ag=>∃i:Nat,V= .slice (some ⟨i,0,none⟩) 0 0∧ag.ownsRow 0 46 6 (.slice (some ⟨i,0,none⟩) 0 0) 0 []∧bu.heap.size≤i,fun _ _ _ f⟨i,e,h,l⟩=>⟨i,e,aJ h f (fun _ _ x=>x),l⟩⟩,iS (.pointer (some ⟨g2,1,none⟩)),iS (.slice A n c),⟨fun V ag=>ag.ownsRow 0 46 6 V n r.flatten∧∀k,V.ownBlock=some k→bu.heap.size≤k,fun _ _ _ f h=>⟨aJ h.1 f (fun _ _ x=>x),h.2⟩⟩,iS (.agg cs.toArray),⟨fun V ag=>∃i:Nat,V= .slice (some ⟨i,0,none⟩) 1 1∧aq ag i 46 cs.toArray,fun _ _ _ f⟨i,e,h⟩=>⟨i,e,h.fr f (fun x=>x)⟩⟩,⟨fun V ag=>ag.ownsRow 0 46 6 V (L.length+1) (r.flatten++cs)∧∀k,V.ownBlock=some k→bu.heap.size≤k,fun _ _ _ f h=>⟨aJ h.1 f (fun _ _ x=>x),h.2⟩⟩,⟨fun V ag=>∃(ab:Option Addr)(U Z:Nat),V= .agg [Value.pointer (some ⟨b,0,none⟩), .slice ab U Z].toArray∧U=L.length+1∧U≤Z∧ag.ownsRow 0 46 6 (.slice ab U Z) (L.length+1) (r.flatten++cs)∧∀k,(Value.slice ab U Z).ownBlock=some k→bu.heap.size≤k,fun _ _ _ f⟨ab,U,Z,e,bW,bd,be,bX⟩=>⟨ab,U,Z,e,bW,bd,aJ be f (fun _ _ x=>x),bX⟩⟩,iS (.int .i64 0)] ?zM ?_;case zM=>
    refine⟨?yU,?yI,?yJ,?yV,?yK,?yL,?yM,?yN,?yO,?yP,?zF,trivial⟩;all_goals intro u w' m g b2
    all_goals simp only[z1,z2,z3,z4,ar,Act.put,z5,z6,z7,Nat.reduceAdd,Nat.zero_add]
    case yI=>
     simp only[show u 0=_ from g 0];refine aF ?_;have q:_=some _:=(M2.out.fr (F.out.trans m) (fun x=>x)).cell 0;go_simp;exact⟨_,rfl,az,rfl⟩
    case yJ=>
     refine aF ?_;refine jI 26 46 rfl i0 Tryz.underlying26 ad ?_;intro ct av;exact⟨_,rfl,av.fr,⟨w'.heap.size,rfl,av.AI,m.size⟩⟩
    case yK=>
     simp only[show u 3=_ from g 3];refine aF ?_;have q:_=some _:=(M2.out.fr (F.out.trans m) (fun x=>x)).cell 1;go_simp;exact⟨_,rfl,az,rfl⟩
    case yL=>
     obtain⟨i2,bK,bd,l2⟩:=g 2;simp only[bK,show u 4=_ from g 4];refine aF ?_;refine Bm (.tmp 53) (.tmp 55) 26 rfl 46 i0 eC 6 88 Tryz.underlying26 ad aT T bl rfl (by decide) i2 rfl bd (fun _=>True) A n c r.flatten rfl (bb.out _ (ac.out.trans m)) (by have:=al.out;omega) (by have:=al.out;omega) ?_;intro v5 ct cK b0 cJ;exact⟨_,rfl,b0,cK,fun k o=>(cJ k o).elim (fun e=>by omega) (fun e=>Nat.le_trans m.size e)⟩
    case yM=>
     refine aF ?_;exact aw _ _ rfl ⟨g3,0,none⟩ rfl cs _ (bo.out _ (F.out.trans m)) Tryz.underlying46 rfl aM.out ⟨_,rfl,az,rfl⟩
    case yN=>
     simp only[show u 6=_ from g 6];refine aF ?_;refine wp_buildSlice 26 46 1 #[(0, .tmp 57)] rfl cs.toArray i0 eC Tryz.underlying26 ad aT bT.out bU.out ?_ ?_;·simp only[List.map_toArray,List.map_cons,List.map_nil];exact bV.out cs a4.out
     ·exact⟨_,rfl,az.alloc _,⟨w'.heap.size,rfl,aq.new _ _ _⟩⟩
    case yO=>
     obtain⟨cF,cn⟩:=g 5;obtain⟨i7,ch,cG⟩:=g 7;simp only[ch];refine aF ?_;refine tU _ (.tmp 56) (.tmp 58) 26 rfl 46 i0 eC 6 88 Tryz.underlying26 ad aT T bl rfl (by decide) _ _ _ rfl cF (fun _=>True) (some ⟨i7,0,none⟩) 1 1 cs rfl ⟨by have:=a4.out;omega,fun _=>⟨_,rfl,trivial,fun cm x C=>by rw[Addr.add_mid,Nat.zero_add,cG.cell,bQ];exact C⟩⟩ (fun u hu=>by have h:=bB.out;rw[Array.all_eq_true_iff_forall_mem]at h;exact h u (by simpa using hu)) (by have:=al.out;omega) (by decide) ?_;intro cW cX aO;refine⟨_,rfl,⟨m.au aO.fr (fun k o e=>by have:=cn k e;omega),?_⟩,?_,fun k o=>(aO.eE k o).elim (cn k) (fun h=>Nat.le_trans m.size h)⟩;·exact⟨fun _ h=>h,fun _ h=>h,mT,fun _ h=>h,fun _ h=>h,mT,fun _ h=>h,mT,mT,mT,mT,trivial⟩
     ·rw[←al.out.1];exact aO.own
    case yP=>
     obtain⟨bY,co⟩:=g 8;obtain⟨ab,U,Z,bc,cw,bA⟩:=aH bY;rw[bc]at bY co;simp only[show u 1=_ from g 1,bc];refine aF ?_;exact gR 28 _ rfl [Value.pointer (some ⟨b,0,none⟩), .slice ab U Z].toArray _ (by simp only[List.map_toArray,List.map_cons,List.map_nil];rfl) (JE b ab U Z) ⟨_,rfl,az,⟨ab,U,Z,rfl,cw.out,bA.out,bY,co⟩⟩
    case zF=>
     refine aF ?_;go_simp;exact⟨_,rfl,az,rfl⟩
    all_goals
     refine aF ?_;go_simp;exact⟨_,rfl,az,rfl⟩
   intro u w' m g;obtain⟨a2,aV,aZ,ci,cb,a3,cj,cp⟩:=g 9 (by omega);simp only[z1,z2,z3,z4,ar,Act.put,z5,z6,z7,z8,z9,Nat.reduceAdd,Nat.zero_add,show u 10=_ from g 10 (by omega)];clear g;simp only[ci];have bj:=af m;have ca:=af (F.out.trans m);have cf:=af (bq.out.fr ca.out (fun x=>x));have cB:=af cj;have cd:=af cp;have cz:Hid ([Value.pointer (some ⟨b,0,none⟩), .slice a2 aV aZ].toArray.all (·.oneCell')=true):=by simp[Hid,Value.oneCell']
   have b8:Hid (aV=L.length+1∧aV≤aZ):=⟨cb,a3⟩;clear m cj cp ci cb a3 bb;refine ak rfl 28 (.tmp 5) _ rfl g5 [Value.pointer (some ⟨b,0,none⟩), .slice a2 aV aZ].toArray rfl rfl _ _ cf.out gZ rfl cz.out ?_;intro ae am aa;have a9:=af am;have bE:Hid (eZ w' (fun k=>k=g5)):=eZ.of (fun k o=>⟨28,(show k=g5 from o)▸cf.out.ty,by decide,by decide,by decide⟩);have bD:Hid (jr ae (.slice a2 aV aZ) (L++[a])):=by
    refine⟨r++[cs],?_,?_⟩
    ·rw[aW,List.length_singleton,List.flatten_append,List.flatten_singleton];exact aJ cB.out aa (fun k o e=>by
      have bJ:k=g5:=e;have:=cd.out k o;have:=(bq.out.fr F.out (fun x=>x)).lt;omega)
    ·exact((bv.out _ (ac.out.trans (by exact bj.out))).snoc (cc.out.ao (ac.out.trans bj.out))).cu aa bE.out
   have N:=af (M.out ae a2 aV aZ J.out ((ai.out.trans ca.out).au aa (fun i cl e=>by have bJ:i=g5:=e;have:=aG.out;omega)) b8.out.1 b8.out.2 bD.out (fun k o=>by have:=cd.out k o;have:=ac.out.size;have:=bF.out;omega));clear am aa;go_wp2;exact bodyPost_ret (fF (fn:=Tryz.f31) (p:=5) (q:=4) (ty:=28) Tryz.results31 _ ae _ 28 [Value.pointer (some ⟨b,0,none⟩), .slice a2 aV aZ].toArray (0,0) _ rfl a9.out Tryz.underlying28 rfl gZ _ rfl) rfl N.out
  ·have J:Hid (eo L a=(32,L)):=K.out;clear K M ax bm;go_upto_region 6 with fail;refine iW 2 [.agg [Value.pointer (some ⟨b,0,none⟩), .slice A n c].toArray, .int .i64 32] ?zJ ?_;case zJ=>
    refine⟨?zW,?yR,trivial⟩;all_goals intro u w' m g
    all_goals simp only[z1,z2,z3,z4,ar,Act.put,z5,z6,z7,Nat.reduceAdd,Nat.zero_add]
    case zW=>
     refine aF ?_;exact aw _ _ rfl ⟨g2,0,none⟩ rfl [Value.pointer (some ⟨b,0,none⟩), .slice A n c] _ (bH.out _ (H.out.trans m)) Tryz.underlying28 rfl gZ aL
    all_goals
     refine aF ?_;go_simp;exact aL
   intro w' m;simp only[z1,z2,z3,z4,ar,Act.put,z5,z6,z7,z8,z9,jn,jo,Nat.reduceAdd,Nat.zero_add];have F:=af (H.out.trans m);have bI:=af (bq.out.fr F.out (fun x=>x));clear m;refine ak rfl 28 (.tmp 5) _ rfl g5 [Value.pointer (some ⟨b,0,none⟩), .slice A n c].toArray rfl rfl _ _ bI.out gZ rfl ce.out ?_;intro ae am aa;have a9:=af am;have N:=af (y.out ae 32 J.out ((ai.out.trans F.out).au aa (fun i cl e=>by have bJ:i=g5:=e;have:=aG.out;omega)));clear am aa;go_wp2;exact bodyPost_ret (fF (fn:=Tryz.f31) (p:=5) (q:=4) (ty:=28) Tryz.results31 _ ae _ 28 [Value.pointer (some ⟨b,0,none⟩), .slice A n c].toArray (0,0) _ rfl a9.out Tryz.underlying28 rfl gZ _ rfl) rfl N.out
 ·have R:gv a=false:=by simpa using D
  have a6:Hid (kJ a= .tuple #[.string ByteArray.empty, .int .i64 3]):=by rw[Hid,kJ,R];rfl
  have J:=af (wY (L:=L) R);rw[a6.out];clear D R a6 M bw bm aA bx;go_upto_region 3 with fail;have H:=ay;refine iW 3 [.int .i64 3, .agg [Value.pointer (some ⟨b,0,none⟩), .slice A n c].toArray, .int .i64 3] ?zK ?_;case zK=>
   refine⟨?yS,?zX,?zY,trivial⟩;all_goals intro u w' m g
   all_goals simp only[z1,z2,z3,z4,ar,Act.put,z5,z6,z7,Nat.reduceAdd,Nat.zero_add]
   case zX=>
    refine aF ?_;exact aw _ _ rfl ⟨g2,0,none⟩ rfl [Value.pointer (some ⟨b,0,none⟩), .slice A n c] _ (bH.out _ (H.out.trans m)) Tryz.underlying28 rfl gZ aL
   case' zY=>simp only[show u 0=_ from g 0]
   all_goals
    refine aF ?_;go_simp;exact aL
  intro w' m;simp only[z1,z2,z3,z4,ar,Act.put,z5,z6,z7,z8,z9,jn,jo,Nat.reduceAdd,Nat.zero_add];have F:=af (H.out.trans m);have bI:=af (bq.out.fr F.out (fun x=>x));clear m;refine ak rfl 28 (.tmp 5) _ rfl g5 [Value.pointer (some ⟨b,0,none⟩), .slice A n c].toArray rfl rfl _ _ bI.out gZ rfl ce.out ?_;intro ae am aa;have a9:=af am;have N:=af (y.out ae 3 J.out ((ai.out.trans F.out).au aa (fun i cl e=>by have bJ:i=g5:=e;have:=aG.out;omega)));clear am aa;go_wp2;exact bodyPost_ret (fF (fn:=Tryz.f31) (p:=5) (q:=4) (ty:=28) Tryz.results31 _ ae _ 28 [Value.pointer (some ⟨b,0,none⟩), .slice A n c].toArray (0,0) _ rfl a9.out Tryz.underlying28 rfl gZ _ rfl) rfl N.out
theorem Bz(w:World)(h b:Nat)(c:w.cell? ⟨h,0,none⟩=some (.pointer (some ⟨b,0,none⟩))):Calls Tryz.prog 47 #[.pointer (some ⟨h,0,none⟩)] w (bG w (.pointer (some ⟨b,0,none⟩))):=by
 have a:=af (iO w h b c);go_enter Tryz.func47,Tryz.ntmps47;go_wp2_with fail;refine a.out.mono ?_;rintro e w'⟨rfl,rfl⟩;go_wp2;go_ret;exact⟨rfl,rfl⟩
def zh(w:World)(L:List ActV)(e:Ending)(w':World):Prop:=∃g,e= .returned (.slice (some ⟨g,0,none⟩) L.length L.length)∧jr w' (.slice (some ⟨g,0,none⟩) L.length L.length) L∧Fr ah w w'∧w.heap.size≤g
structure Bq(w wr:World)(g n k:Nat)(L:List ActV):Prop where
 fr:Fr ah w wr
 lt:w.heap.size≤g
 row:∃(cs:List (List Value))(Z:List Value),aq wr g 46 (cs.flatten++Z).toArray∧cs.flatten.length=k*6∧Z.length=(n-k)*6∧dF wr cs (L.take k)
theorem vY(h:Nat)(E:List Ent)(L:List ActV)(T:Nat→Prop)(w:World)(aU:eD w h E L T)(aV:L.length≤65536)(aI:∀a∈L,a.reads.length≤1099511627776∧a.writes.length≤1099511627776):
  Calls Tryz.prog 48 #[.pointer (some ⟨h,0,none⟩)] w (zh w L):=by
 obtain⟨b,s,g0,va,vk,K,A,c,mb,Q,rfl⟩:=aU;obtain⟨d,p,J⟩:=Q.jt;obtain⟨V,n1,zB,rfl,H1,_⟩:=aH p;obtain⟨i0,O,ar,U,av⟩:=info_parts sG;have aa:Hid (∀j,j<L.length→∃I m a,V=some I∧L[j]? =some a∧cy w m a∧m.length=6∧∀i x,m[i]? =some x→w.cell? ((I.add (j*6)).add i)=some x):=fun j an=>kb p J H1.out an;have G:Hid (n1=L.length∧n1≤65536):=by have:=H1.out;exact⟨this,by omega⟩
 have ay:=af (iO w h b (Q.aD.cell 0));have a0:w.cell? ⟨h,1,none⟩=some (.slice V n1 zB):=Q.aD.cell 1;have ag:Hid (∀W,Fr ah w W→W.cell? ⟨h,1,none⟩=some (.slice V n1 zB)):=fun W f=>(Q.aD.fr f (fun x=>x)).cell 1;have aN:=af aI;clear Q p J H1 aV aI;go_enter Tryz.func48,Tryz.ntmps48;go_wp2_with fail;refine ay.out.mono ?_;rintro e w'⟨rfl,rfl⟩;clear ay;go_wp2_with(at_make;refine wpList_make_full _ rfl _ _ 26 rfl 0 46 i0 eC 6 Tryz.underlying26 O ar U _ _ _ _ n1 rfl rfl rfl rfl ?zB ?zH (Nat.zero_le _) ?_);case zB=>rw[av];have:=G.out;omega
 case zH=>unfold maxLen;have:=G.out;omega
 intro w1 S N;have ac:Hid (Fr ah w w1):=(Fr.grown N).mono (fun k _ X=>by cases X);have aA:Hid (∃Z:List Value,aq w1 w.heap.size 46 Z.toArray∧Z.length=n1*6):=by
  rcases S.2 with⟨R,_⟩|⟨a2,cap,cur,R,_,u,_,_,ap,_⟩;·cases R
  ·cases R;exact⟨cur.toList,by rw[Array.toArray_toList];exact u,by rw[Array.length_toList];exact ap⟩
 have n:Hid (w.heap.size≤w.heap.size):=Nat.le_refl _;generalize aG:w.heap.size=g at*;have aB:Hid (Bq w w1 g n1 0 L):=by
  obtain⟨Z,u,aY⟩:=aA.out;exact⟨ac.out,by rw[aG];exact Nat.le_refl _,[],Z,by simpa using u,by simp,by simpa using aY,by simp[dF]⟩
 have aw:w1.cell? ⟨h,1,none⟩=some (.slice V n1 zB):=ag.out _ ac.out;clear S N aA ac a0 aG n;go_wp2;go_loopw[19](fun i wr=>∃k:Nat,k≤n1∧i= .int .i64 (k:Int)∧Bq w wr g n1 k L)(fun i _=>n1-(intOf i).toNat);case atStart=>exact⟨0,Nat.zero_le _,rfl,aB.out⟩
 case round=>
  obtain⟨k,X,rfl,aF⟩:=hrel;have r:=af aF;have aM:=af X;clear aF X aB aw;by_cases C:k<n1
  ·have t0:decide ((k:Int)<(n1:Int))=true:=cT (by omega);obtain⟨I,m,a,rfl,B,z,l,o⟩:=aa.out k (by have:=G.out;omega);have i1:(k:Int)<(n1:Int):=by omega
   have i2:(0:Int)≤(k:Int):=by omega
   have aE:Hid ((Tryz.prog.info? 46).map (·.size)=some m.length):=by rw[Hid,l];exact bM
   have ak:Hid ((Tryz.prog.info? 46).map (·.size)=some m.toArray.size):=by rw[Hid,List.size_toArray,l];exact bM
   have ai:Hid (6=m.toArray.size):=by rw[Hid,List.size_toArray,l]
   have F:Hid (∀i x,m[i]? =some x→wr.cell? ((I.add (k*6)).add i)=some x):=fun i x zC=>r.out.fr.aj (o i x zC) (fun x=>x);have aQ:=af (ActV.one z);have aJ:Hid (∀W,Fr ah w W→cy W m a):=fun W f=>z.ao f;have aO:Hid (L.take (k+1)=L.take k++[a]):=by rw[Hid,List.take_add_one,B,Option.toList_some]
   have H:=af (aN.out a (List.mem_of_getElem? B));have a5:IntKind.i64.wrap ((k:Int)+1)=(k:Int)+1:=IntWalk.i64_in _ (by have:=G.out;omega);have n:=af C;clear o z l B C;go_wp2_with(refine aC rfl 46 (.tmp 22) rfl (I.add (k*6)) rfl m _ ?zA Tryz.underlying46 rfl aE.out (aR.go ?zF));case zA=>exact F.out
   unfold aR;go_wp2_with(refine po rfl rfl rfl 46 5 rfl rfl (.tmp 21) rfl _ rfl eC j8 #[.int .i64 0, .int .i64 0, .int .i64 0, .string ByteArray.empty, .slice none 0 0, .slice none 0 0] rfl (.int .i64 (k:Int)) m.toArray (fun _=>rfl) (fun _=>rfl) (fun _=>rfl) ak.out ai.out aQ.out ?_);intro w2 g5 M _ b2 f2;have ax:=af b2;have az:=af f2;have aL:=af M;clear b2 f2 M F;have al:Hid (∀j x,m[j]? =some x→w2.cell? ((⟨g5,0,none⟩:Addr).add j)=some x):=jJ ax.out;go_wp2_with(refine aC rfl 46 (.tmp 5) rfl ⟨g5,0,none⟩ rfl m _ ?zD Tryz.underlying46 rfl aE.out (aR.go ?zG));case zD=>first|exact al.out|exact fun j x zC=>by have q:=al.out j x zC;rw[Addr.add_mid,Nat.zero_add]at q;exact q
   unfold aR;go_wp2_with fail;refine(oO a m w2 (aJ.out _ (r.out.fr.trans az.out)) H.out.1 H.out.2).mono ?_;rintro e w3⟨cs,rfl,t,f3,P⟩;have aK:=af t;have Y:=af (az.out.trans f3);obtain⟨d,Z,u,l,D,zA⟩:=r.out.row;have HB:=af (u.fr Y.out (fun x=>x));have ab:=af (dF.cu Y.out (eZ.nothing _) zA);have ae:Hid (d.flatten.length=k*6∧Z.length=(n1-k)*6∧cs.length=6):=⟨l,D,t.len⟩;have am:Hid (∀v∈cs,v.oneCell'=true):=fun v R=>by
    have q:=ActV.one t;rw[List.all_toArray,List.all_eq_true]at q;exact q v R
   have ad:Hid (k*6+cs.length≤(d.flatten++Z).length):=by
    have:=ae.out;have:=n.out;simp only[Hid,aW];omega
   clear t f3 P u l D zA al ax;go_wp2_with(refine ox rfl 46 (.tmp 28) (.tmp 27) rfl g (k*6) ?zC i0 O cs rfl (by rw[ae.out.2.2,U]) am.out 46 (d.flatten++Z) HB.out ad.out (aR.go ?zE));case zC=>first|rfl|simp[Addr.add_mid]
   unfold aR;intro aZ b4 f4;have aP:Hid (Bq w aZ g n1 (k+1) L):=by
    have a4:=ae.out;have y:eZ w3 (fun j=>j=g):=eZ.of (fun j an=>⟨46,(show j=g from an)▸HB.out.ty,by decide,by decide,by decide⟩);refine⟨(r.out.fr.trans Y.out).au f4 (fun i a3 e=>by have a1:i=g:=e;have:=r.out.lt;omega),r.out.lt,d++[cs],Z.drop 6,?_,?_,?_,?_⟩
    ·have aS:(d.flatten++Z).take (k*6)=d.flatten:=by rw[List.take_append_of_le_length (by omega),List.take_of_length_le (by omega)]
     have aT:(d.flatten++Z).drop (k*6+cs.length)=Z.drop 6:=by
      rw[List.drop_append,List.drop_of_length_le (by omega),List.nil_append];congr 1;omega
     have e:(d.flatten++Z).take (k*6)++(cs++(d.flatten++Z).drop (k*6+cs.length))=(d++[cs]).flatten++Z.drop 6:=by
      rw[aS,aT];simp
     first|rw[e]at b4|rw[List.append_assoc,e]at b4
     exact b4
    ·simp only[List.flatten_append,aW,List.flatten_cons,List.flatten_nil,List.append_nil];omega
    ·rw[List.length_drop];omega
    ·rw[aO.out];exact dF.snoc (dF.cu f4 y ab.out) (aK.out.cu f4 y)
   clear b4 f4;go_wp2;go_roundw;case rel=>exact⟨k+1,by have:=n.out;omega,by go_num,aP.out⟩
   case measure=>simp[intOf];have:=n.out;omega
  ·have t0:decide ((k:Int)<(n1:Int))=false:=bZ (by omega);obtain rfl:k=n1:=by have:=aM.out;omega
   clear C;go_wp2;go_ret;obtain⟨d,Z,u,l,D,zA⟩:=r.out.row;obtain rfl:Z=[]:=List.length_eq_zero_iff.1 (by omega);rw[List.append_nil]at u;have aX:=G.out;rw[List.take_of_length_le (by omega)]at zA;have e:=aX.1;subst e;exact⟨g,rfl,⟨d,⟨by rw[l], .inr ⟨g,L.length,d.flatten.toArray,rfl,Nat.zero_le _,u,Nat.le_refl _,by unfold maxLen;omega,by rw[List.size_toArray,l],by rw[List.toList_toArray];exact List.take_of_length_le (by omega)⟩⟩,zA⟩,r.out.fr,r.out.lt⟩
def uj(w:World)(A:Option Addr)(n:Nat):Prop:=∀k,k<n→∃a b,A=some a∧qS w b∧∀j x,b[j]? =some x→w.cell? ((a.add (k*6)).add j)=some x
theorem uj.ao{w w':World}{A:Option Addr}{n:Nat}(h:uj w A n)(a:Fr ah w w'):uj w' A n:=fun k g=>by
 obtain⟨b,c,d,e,f⟩:=h k g;exact⟨b,c,d,e.ao a,fun j x i=>a.aj (f j x i) (fun x=>x)⟩
theorem qS.len{w:World}{cs:List Value}(h:qS w cs):cs.length=6:=by
 obtain⟨_,_,_,_,_,_,_,_,_,_,_,_,_,_,_,_,rfl,_⟩:=h;rfl
theorem Mod.jx{w w':World}{T:Nat→Prop}{cs:List Value}{b:Nat}{E:List Ent}{L:List ActV}(h:Mod w cs b E L)(a:Fr T w w')(hF:eZ w T)(i:∀v∈cs,∀k,v.ownBlock=some k→¬T k):Mod w' cs b E L:=by
 obtain⟨A,n,c,rfl,d,e,f,g⟩:=h;exact⟨A,n,c,rfl,d,e,f.cu a hF,g.cu a hF (i _ (by simp))⟩
theorem Mod.lt{w:World}{cs:List Value}{b:Nat}{E:List Ent}{L:List ActV}(h:Mod w cs b E L):∀v∈cs,∀k,v.ownBlock=some k→Ty w k 46:=by
 obtain⟨A,n,c,rfl,g,i,j,e,f,l⟩:=h;intro v d k a;rw[List.mem_cons,List.mem_singleton]at d;rcases d with rfl|rfl;·cases a
 ·exact jc f a
theorem Ty.lt{w:World}{k:Nat}{t:TypeId}(h:Ty w k t):k<w.heap.size:=by
 obtain⟨cs,h⟩:=h;exact aq.lt (cs:=cs) (t:=t) h
theorem Mod.len{w:World}{cs:List Value}{b:Nat}{E:List Ent}{L:List ActV}(h:Mod w cs b E L):cs.length=2:=by
 obtain⟨A,n,c,rfl,_⟩:=h;rfl
theorem Mod.one{w:World}{cs:List Value}{b:Nat}{E:List Ent}{L:List ActV}(h:Mod w cs b E L):cs.toArray.all (·.oneCell')=true:=by
 obtain⟨A,n,c,rfl,_⟩:=h;simp[Value.oneCell']
theorem Ij(b:Nat):Tryz.prog.built 28 [(0, .pointer (some ⟨b,0,none⟩))]=some [Value.pointer (some ⟨b,0,none⟩), .slice none 0 0].toArray:=by kernel_rfl
def pq(w:World)(e:Ending)(w':World):Prop:=∃(h b:Nat)(ms:List Value)(E:List Ent)(L:List ActV)(T:Nat→Prop),e= .returned (.tuple #[.pointer (some ⟨h,0,none⟩), .agg ms.toArray])∧
 eD w' h E L T∧Mod w' ms b E L∧cI 6 E∧eS L∧(∀k,T k→w.heap.size≤k)∧Fr ah w w'∧∀v∈ms,∀j,v.ownBlock=some j→¬T j
structure xO(w w3 wr:World)(h b g5 g6 k:Nat)(E:List Ent)(L:List ActV)(T:Nat→Prop)(ms:List Value):Prop where
 uR:eD wr h E L T
 mod:Mod wr ms b E L
 box:aq wr g6 28 ms.toArray
 run:eS L
 len:L.length≤k
 new:∀j,T j→w3.heap.size≤j
 rows:∀v∈ms,∀j,v.ownBlock=some j→¬T j
 fr:Fr ah w wr
 size:w3.heap.size≤wr.heap.size
 out:aq wr g5 28 #[.pointer none, .slice none 0 0]
theorem Ab(n:Nat)(xs:List CV)(A:Option Addr)(bt:Nat)(S:Nat→Prop)(Z:Nat)(bW:Option Addr)(cq:Nat)(w:World)(cc:CL w S A n xs)(ck:n≤9223372036854775807)(cj:n≤bt)(cg:uj w bW Z)(bR:ed w)(ch:bU w):
  Calls Tryz.prog 14 #[.slice A n bt, .slice bW Z cq] w (pq w):=by
 have b0:Hid (∀w',Fr ah w w'→Calls Tryz.prog 28 #[.slice A n bt] w' (Hj w')):=fun w' f=>Cg n xs A bt S w' (cc.ao f) ck cj (bR.ao f);have bs:=af bR;have br:=af ch;have co:=af cg;clear cc ck cj bR ch cg;go_enter Tryz.func14,Tryz.ntmps14;go_wp2_with(refine an rfl 28 rfl (.agg sF.toArray) Jp #[.pointer none, .slice none 0 0] rfl ?_);intro w1 n1;have bz:=af n1.fr;have bX:=af n1.aD;clear n1;generalize bj:w.heap.size=g5 at*;have H:=af bj;clear bj;go_wp2_with fail;refine(b0.out _ bz.out).mono ?_;rintro e w2⟨b,E,rfl,bv,cd,f2⟩;have b1:=af (bz.out.trans f2);have bw:=af (bX.out.fr f2 (fun x=>x));have ca:=af bv;have a8:=af cd;have a6:=af (Ij b);clear f2 bv cd bz bX b0;go_wp2_with(refine dL rfl 28 _ rfl [Value.pointer (some ⟨b,0,none⟩), .slice none 0 0].toArray _ (by simp only[List.map_toArray,List.map_cons,List.map_nil];rfl) a6.out (aR.go ?zA));unfold aR;go_wp2_with(refine an rfl 28 rfl (.agg sF.toArray) Jp #[.pointer none, .slice none 0 0] rfl ?_);intro bV bo;have aP:=af bo;clear bo;generalize bk:w2.heap.size=g6 at*;have Q:=af bk;clear bk;have a4:Hid (aq bV g6 28 #[.pointer none, .slice none 0 0]):=by have h:=aP.out.aD;rw[Q.out]at h;exact h
 have b9:Hid ([Value.pointer (some ⟨b,0,none⟩), .slice none 0 0].toArray.all (·.oneCell')=true):=by simp[Hid,Value.oneCell']
 go_wp2_with(refine ak rfl 28 (.tmp 6) _ rfl g6 [Value.pointer (some ⟨b,0,none⟩), .slice none 0 0].toArray rfl rfl _ _ a4.out gZ rfl b9.out ?_);intro w3 b3 f3;have bq:Hid (aq w3 g6 28 [Value.pointer (some ⟨b,0,none⟩), .slice none 0 0].toArray):=b3;have f23:Fr ah w2 w3:=aP.out.fr.au f3 (fun i aV e=>by have M:i=g6:=e;have:=Q.out;omega);have a5:=af (b1.out.trans f23);have aS:=af (ca.out.ao f23);have cn:=af (bw.out.fr f23 (fun x=>x));have d:Hid (g6<w3.heap.size∧g5<g6∧w.heap.size≤w3.heap.size):=⟨bq.out.lt,by have:=bw.out.lt;have:=Q.out;omega,a5.out.size⟩;clear b3 f3 f23 aP a4 b9 b1 bw ca a6;have cv:w3.cell? ⟨g6,0,none⟩=some (.pointer (some ⟨b,0,none⟩)):=bq.out.cell 0;go_wp2_with fail;refine(rN E b w3 aS.out (bs.out.ao a5.out) (br.out.ao a5.out) (a8.out.more (by decide))).mono ?_;rintro e cx⟨h,T,rfl,ce,f4,ci⟩;have b5:Hid (xO w w3 cx h b g5 g6 0 E [] T [Value.pointer (some ⟨b,0,none⟩), .slice none 0 0]):=⟨ce,⟨none,0,0,rfl,rfl,Nat.le_refl _,aS.out.ao f4,jr.nil _⟩,bq.out.fr f4 (fun x=>x),eS.nil,Nat.le_refl _,ci,(fun v z k zA=>by
  rw[List.mem_cons,List.mem_singleton]at z;rcases z with rfl|rfl;·cases zA
  ·cases zA),a5.out.trans f4,f4.size,cn.out.fr f4 (fun x=>x)⟩;clear ce f4 ci cv bq aS;go_wp2;go_loopw[9](fun i wr=>∃(k:Nat)(L:List ActV)(T:Nat→Prop)(ms:List Value),k≤16∧k≤Z∧i= .int .i64 (k:Int)∧xO w w3 wr h b g5 g6 k E L T ms)(fun i _=>16-(intOf i).toNat);case atStart=>exact⟨0,[],T,_,Nat.zero_le _,Nat.zero_le _,rfl,b5.out⟩
 case round=>
  obtain⟨k,L,T,ms,zA,bl,rfl,cf⟩:=hrel;have c:=af cf;have b4:Hid (k≤16∧k≤Z):=⟨zA,bl⟩;clear cf zA bl b5;by_cases X:k<Z∧k<16
  ·have t0:decide ((k:Int)<(Z:Int))=true:=cT (by omega);have t1:decide ((k:Int)<16)=true:=cT (by omega);have t2:(k:Int)<(Z:Int):=by omega
   have t3:(0:Int)≤(k:Int):=by omega
   have t4:(k:Int)<16:=by omega
   have t:=af X;obtain⟨cp,bN,rfl,aX,U⟩:=(co.out.ao c.out.fr) k X.1;have bc:=af aX;have a7:=af U;have IR:Hid ((Tryz.prog.info? 72).map (·.size)=some bN.length):=by rw[Hid,aX.len];exact IL
   clear aX U X;go_wp2_with(refine aC rfl 72 (.tmp 34) rfl (cp.add (k*6)) rfl bN _ ?zB Tryz.underlying72 rfl IR.out (aR.go ?zH));case zB=>exact a7.out
   unfold aR;go_wp2_with fail;refine(zq bN _ bc.out).mono ?_;rintro e cl⟨cs,a,rfl,K,bm,bS,f5⟩;have b2:=af f5;have a0:=af K;have aY:=af bm;have bF:Hid ((Tryz.prog.info? 46).map (·.size)=some cs.toArray.size):=by rw[Hid,List.size_toArray,K.len];exact bM
   have ap:Hid ((Tryz.prog.info? 46).map (·.size)=some cs.length):=by rw[Hid,K.len];exact bM
   have bD:Hid (6=cs.toArray.size):=by rw[Hid,List.size_toArray,K.len]
   have bJ:=af (ActV.one K);clear f5 K bm bS a7 bc IR t0 t1 t2 t3 t4;go_wp2_with(refine an rfl 46 rfl eC j8 #[.int .i64 0, .int .i64 0, .int .i64 0, .string ByteArray.empty, .slice none 0 0, .slice none 0 0] rfl ?_);intro bV bo;have aP:=af bo;clear bo;generalize ax:cl.heap.size=g10 at*;have al:=af ax;clear ax;have a4:Hid (aq bV g10 46 #[.int .i64 0, .int .i64 0, .int .i64 0, .string ByteArray.empty, .slice none 0 0, .slice none 0 0]):=by have h:=aP.out.aD;rw[al.out]at h;exact h
   go_wp2_with(refine ak rfl 46 (.tmp 10) _ rfl g10 cs.toArray rfl rfl _ _ a4.out bF.out bD.out bJ.out ?_);intro bT cb f6;have aB:=af cb;have f56:Fr ah cl bT:=aP.out.fr.au f6 (fun i aV e=>by have M:i=g10:=e;have:=al.out;omega);have D:=af (b2.out.trans f56);have aA:=af (a0.out.ao f56);clear cb f6 f56 aP a4 b2 a0;have b7:Hid (∀j x,ms[j]? =some x→bT.cell? ((⟨g6,0,none⟩:Addr).add j)=some x):=jJ (c.out.box.fr D.out (fun x=>x));have ad:Hid ((Tryz.prog.info? 28).map (·.size)=some ms.length):=by rw[Hid,c.out.mod.len];exact gZ
   have aj:Hid (∀j x,cs[j]? =some x→bT.cell? ((⟨g10,0,none⟩:Addr).add j)=some x):=jJ aB.out;go_wp2_with(refine aC rfl 28 (.tmp 6) rfl ⟨g6,0,none⟩ rfl ms _ ?zD Tryz.underlying28 rfl ad.out (aR.go ?zJ));case zD=>exact b7.out
   unfold aR;go_wp2_with(refine aC rfl 46 (.tmp 10) rfl ⟨g10,0,none⟩ rfl cs _ ?zC Tryz.underlying46 rfl ap.out (aR.go ?zI));case zC=>exact aj.out
   unfold aR;go_wp2_with fail;refine(zx ms cs b E L a _ (c.out.mod.ao D.out) aA.out (bs.out.ao (c.out.fr.trans D.out)) (a8.out.more (by decide)) c.out.run aY.out).mono ?_;rintro e cm⟨g,rfl,Y,f7,az⟩;have bA:=af (D.out.trans f7);have b6:=af Y;have aI:Hid (∀v∈g,∀j,v.ownBlock=some j→¬T j):=fun v z j l N=>by
    rcases az v z j l with o|⟨u,hu,o⟩;·have:=c.out.uR.lt j N;have:=D.out.size;omega
    ·exact c.out.rows u hu j o N
   have a1:=af (aA.out.ao f7);have ag:=af (aB.out.fr f7 (fun x=>x));have y:Hid ((Tryz.prog.info? 28).map (·.size)=some g.toArray.size):=by rw[Hid,List.size_toArray,Y.len];exact gZ
   have I:Hid (2=g.toArray.size):=by rw[Hid,List.size_toArray,Y.len]
   have J:=af Y.one;clear f7 Y az aA aB D b7 aj;go_wp2_with(refine an rfl 28 rfl (.agg sF.toArray) Jp #[.pointer none, .slice none 0 0] rfl ?_);intro cy nb;have bI:=af nb;clear nb;generalize ay:cm.heap.size=g12 at*;have P:=af ay;clear ay;have bY:Hid (aq cy g12 28 #[.pointer none, .slice none 0 0]):=by have h:=bI.out.aD;rw[P.out]at h;exact h
   go_wp2_with(refine ak rfl 28 (.tmp 12) _ rfl g12 g.toArray rfl rfl _ _ bY.out y.out I.out J.out ?_);intro aa b8 f8;have ab:=af b8;have f78:Fr ah cm aa:=bI.out.fr.au f8 (fun i aV e=>by have M:i=g12:=e;have:=P.out;omega);have F:=af (bA.out.trans f78);have a2:=af (a1.out.ao f78);have be:=af (b6.out.ao f78);have a3:=af (ag.out.fr f78 (fun x=>x));have a9:Hid (wr.heap.size≤g12):=by have:=bA.out.size;have:=P.out;simp only[Hid];omega
   clear b8 f8 f78 bI bY bA a1 b6 ag;have bx:Hid (∀j x,cs[j]? =some x→aa.cell? ((⟨g10,0,none⟩:Addr).add j)=some x):=jJ a3.out;have cE:IntKind.i64.wrap ((k:Int)+1)=(k:Int)+1:=IntWalk.i64_in _ (by have:=t.out;omega);have bb:=af (c.out.run.append aY.out (by have:=c.out.len;have:=t.out;omega));have am:Hid ((eo L a).2.length≤k+1):=by
    have:=c.out.len;rcases oL L a with⟨_,e⟩|⟨_,e,_⟩;·rw[Hid,e];omega
    ·rw[Hid,e,aW,List.length_singleton];omega
   have aG:Hid (Calls Tryz.prog 32 #[.pointer (some ⟨h,0,none⟩), .agg cs.toArray] aa (wU aa h E L T a)):=by
    have bC:=c.out.fr.trans F.out;refine nf h E L T a cs aa (c.out.uR.ao F.out) a2.out (bs.out.ao bC) (br.out.ao bC) aY.out.sz (fun b bv=>by have:=(c.out.run.small b bv).fA;omega) (by have:=c.out.run.len;omega) (fun _=>by have:=aY.out.len;omega) (fun k zA N=>?_) (fun cD w' s f cr=>?_);·have o:=c.out.new k N;have cA:=br.out.Dm;have cB:=br.out.Dn;have cC:=a5.out.size;rcases zA with rfl|rfl<;>omega
    ·have G:=iG L E 24 (a8.out.more (by decide)) c.out.run.ok c.out.run.small;exact jq _ a cs _ s w' (a2.out.ao f) cr (bs.out.ao (bC.trans f)) G aY.out.writes (by have:=aY.out.nw;have:=c.out.run.len;omega)
   have C:Hid ((eo L a).1≠0→(eo L a).2=L):=fun h=>by
    rcases oL L a with⟨_,e⟩|⟨e,_,_⟩;·exact e
    ·exact absurd e h
   by_cases aZ:(eo L a).1=0
   ·rw[aZ];have ai:Hid (Calls Tryz.prog 32 #[.pointer (some ⟨h,0,none⟩), .agg cs.toArray] aa (wU aa h E L T a)):=aG;clear C aG aZ;generalize ba:(eo L a).2=aM at*;go_wp2_with(refine aC rfl 46 (.tmp 10) rfl ⟨g10,0,none⟩ rfl cs _ ?zG Tryz.underlying46 rfl ap.out (aR.go ?zK));case zG=>exact bx.out
    unfold aR;go_wp2_with fail;refine ai.out.mono ?_;rintro e bp⟨T',rfl,bh,f9,aU⟩;have av:=(c.out.uR.ao F.out).cu;have bE:Hid (eD bp h E aM T'):=by rw[Hid,←ba];exact bh
    have bf:=af (be.out.jx f9 av (fun v z j l=>aI.out v z j l));have O:=af (ab.out.fr f9 (fun N=>by have:=c.out.uR.lt _ N;have:=a9.out;omega));have B:=af ((c.out.box.fr F.out (fun x=>x)).fr f9 (fun N=>by have:=c.out.new _ N;have:=d.out;omega));have aE:=af ((c.out.out.fr F.out (fun x=>x)).fr f9 (fun N=>by have:=c.out.new _ N;have:=d.out;omega));have bB:Hid (Fr ah w bp):=(c.out.fr.trans F.out).au f9 (fun i aV e=>by have:=c.out.new i e;have:=d.out;omega);have bg:Hid (∀j,T' j→w3.heap.size≤j):=fun j l=>by
     rcases aU j l with o|o;·exact c.out.new j o
     ·have:=c.out.size;have:=F.out.size;omega
    have bK:Hid (∀v∈g,∀j,v.ownBlock=some j→¬T' j):=fun v z j l N=>by
     rcases aU j N with o|o;·exact aI.out v z j l o
     ·have:=(be.out.lt v z j l).lt;omega
    have bL:Hid (w3.heap.size≤bp.heap.size):=by have:=c.out.size;have:=F.out.size;have:=f9.size;simp only[Hid];omega
    clear bh f9 aU av ai be ab;have aN:Hid (∀j x,g[j]? =some x→bp.cell? ((⟨g12,0,none⟩:Addr).add j)=some x):=jJ O.out;have aK:Hid ((Tryz.prog.info? 28).map (·.size)=some g.length):=by have:=y.out;rw[List.size_toArray]at this;exact this
    have aJ:Hid (ms.toArray.size=g.toArray.size):=by rw[Hid,←I.out,List.size_toArray,c.out.mod.len]
    go_wp2_with(refine aC rfl 28 (.tmp 12) rfl ⟨g12,0,none⟩ rfl g _ ?zF Tryz.underlying28 rfl aK.out (aR.go ?zS));case zF=>exact aN.out
    unfold aR;go_wp2_with(refine ak rfl 28 (.tmp 6) _ rfl g6 g.toArray rfl rfl _ _ B.out y.out aJ.out J.out ?_);intro ae R r;have m:eZ bp (fun k=>k=g6):=eZ.of (fun k zA=>⟨28,(show k=g6 from zA)▸B.out.ty,by decide,by decide,by decide⟩);have bG:Hid (xO w w3 ae h b g5 g6 (k+1) E aM T' g):=⟨bE.out.jx r m (fun j l e=>by have M:j=g6:=e;have:=bg.out j l;have:=d.out;omega),by
      have bO:=bf.out;exact bO.jx r m (fun v z j l e=>by
       have M:j=g6:=e;have o:=bf.out.lt v z j l;rw[M]at o;exact absurd (o.one B.out.ty) (by decide)),R,bb.out,am.out,bg.out,bK.out,bB.out.au r (fun i aV e=>by have M:i=g6:=e;have:=d.out;have:=Q.out;have:=H.out;omega),by have:=r.size;have:=bL.out;omega,aE.out.fr r (fun e=>by have M:g5=g6:=e;have:=d.out;omega)⟩;clear R r;go_wp2;go_roundw;case rel=>exact⟨k+1,aM,T',g,by have:=t.out;omega,by have:=t.out;omega,by go_num,bG.out⟩
    case measure=>simp[intOf];have:=t.out;omega
   ·have bn:=C.out aZ;obtain⟨bu,bi⟩:∃bu,(eo L a).1=bu:=⟨_,rfl⟩;rw[bi]at aZ⊢;have t5:decide (bu=0)=false:=decide_eq_false aZ;have t6:(bu==0)=false:=iK aZ;generalize ba:(eo L a).2=aM at*;have bE:Hid (eD aa h E aM T):=by rw[Hid,bn];exact c.out.uR.ao F.out
    have bf:=be;have O:=ab;have B:=af (c.out.box.fr F.out (fun x=>x));have aE:=af (c.out.out.fr F.out (fun x=>x));have bB:=af (c.out.fr.trans F.out);have bg:=af c.out.new;have bK:=aI;have bL:Hid (w3.heap.size≤aa.heap.size):=by have:=c.out.size;have:=F.out.size;simp only[Hid];omega
    clear bi bn C aG be ab;have aN:Hid (∀j x,g[j]? =some x→aa.cell? ((⟨g12,0,none⟩:Addr).add j)=some x):=jJ O.out;have aK:Hid ((Tryz.prog.info? 28).map (·.size)=some g.length):=by have:=y.out;rw[List.size_toArray]at this;exact this
    have aJ:Hid (ms.toArray.size=g.toArray.size):=by rw[Hid,←I.out,List.size_toArray,c.out.mod.len]
    go_wp2_with(refine aC rfl 28 (.tmp 12) rfl ⟨g12,0,none⟩ rfl g _ ?zE Tryz.underlying28 rfl aK.out (aR.go ?zR));case zE=>exact aN.out
    unfold aR;go_wp2_with(refine ak rfl 28 (.tmp 6) _ rfl g6 g.toArray rfl rfl _ _ B.out y.out aJ.out J.out ?_);intro ae R r;have m:eZ aa (fun k=>k=g6):=eZ.of (fun k zA=>⟨28,(show k=g6 from zA)▸B.out.ty,by decide,by decide,by decide⟩);have bG:Hid (xO w w3 ae h b g5 g6 (k+1) E aM T g):=⟨bE.out.jx r m (fun j l e=>by have M:j=g6:=e;have:=bg.out j l;have:=d.out;omega),by
      have bO:=bf.out;exact bO.jx r m (fun v z j l e=>by
       have M:j=g6:=e;have o:=bf.out.lt v z j l;rw[M]at o;exact absurd (o.one B.out.ty) (by decide)),R,bb.out,am.out,bg.out,bK.out,bB.out.au r (fun i aV e=>by have M:i=g6:=e;have:=d.out;have:=Q.out;have:=H.out;omega),by have:=r.size;have:=bL.out;omega,aE.out.fr r (fun e=>by have M:g5=g6:=e;have:=d.out;omega)⟩;clear R r;go_wp2;go_roundw;case rel=>exact⟨k+1,aM,T,g,by have:=t.out;omega,by have:=t.out;omega,by go_num,bG.out⟩
    case measure=>simp[intOf];have:=t.out;omega
  ·have cz:=c;have bd:Hid (∀W,Fr ah wr W→∀j x,ms[j]? =some x→W.cell? ((⟨g6,0,none⟩:Addr).add j)=some x):=fun W f j x ct=>by rw[Addr.add_mid,Nat.zero_add,(c.out.box.fr f (fun x=>x)).cell j,bQ];exact ct
   have ad:Hid ((Tryz.prog.info? 28).map (·.size)=some ms.length):=by rw[Hid,c.out.mod.len];exact gZ
   have ac:Hid ((Tryz.prog.info? 28).map (·.size)=some ms.toArray.size):=by rw[Hid,List.size_toArray,c.out.mod.len];exact gZ
   have I:Hid (2=ms.toArray.size):=by rw[Hid,List.size_toArray,c.out.mod.len]
   have J:=af c.out.mod.one;by_cases o:k<Z
   ·obtain rfl:k=16:=by have:=b4.out;omega
    have t0:decide (((16:Nat):Int)<(Z:Int))=true:=cT (by omega);have cw:decide ((16:Int)<(Z:Int))=true:=cT (by omega);clear o X;go_upto_region 11 with fail;refine iW 3 [.pointer (some ⟨h,0,none⟩), .agg ms.toArray, .pointer (some ⟨h,0,none⟩)] ?zL ?_;case zL=>
     refine⟨?zT,?zN,?zO,trivial⟩;all_goals intro u w' V bP
     all_goals simp only[z1,z2,z3,z4,ar,Act.put,z5,z6,z7,Nat.reduceAdd,Nat.zero_add]
     case zN=>
      refine aF ?_;exact aw _ _ rfl ⟨g6,0,none⟩ rfl ms _ (bd.out _ V) Tryz.underlying28 rfl ad.out aL
     case' zO=>simp only[show u 0=_ from bP 0]
     all_goals
      refine aF ?_;go_simp;exact aL
    intro w' V;simp only[z1,z2,z3,z4,ar,Act.put,z5,z6,z7,z8,z9,jn,jo,Nat.reduceAdd,Nat.zero_add];have D:=af V;have aQ:=af (c.out.out.fr V (fun x=>x));clear V;refine ak rfl 28 (.tmp 5) _ rfl g5 ms.toArray rfl rfl _ _ aQ.out ac.out I.out J.out ?_;intro ae R r;have bH:=af R;have m:eZ w' (fun j=>j=g5):=eZ.of (fun j l=>⟨28,(show j=g5 from l)▸aQ.out.ty,by decide,by decide,by decide⟩);have aO:=c.out.mod.ao D.out;have aH:Hid (pq w (.returned (.tuple #[.pointer (some ⟨h,0,none⟩), .agg ms.toArray])) ae):=⟨h,b,ms,E,L,T,rfl,(c.out.uR.ao D.out).jx r m (fun j l e=>by have aT:j=g5:=e;have:=c.out.new j l;have:=d.out;omega),aO.jx r m (fun v z j l e=>by
      have aT:j=g5:=e;have o:=aO.lt v z j l;rw[aT]at o;exact absurd (o.one aQ.out.ty) (by decide)),a8.out,c.out.run,(fun j l=>by have:=c.out.new j l;have:=d.out;have:=H.out;omega),(c.out.fr.trans D.out).au r (fun i aV e=>by have aT:i=g5:=e;have:=H.out;omega),c.out.rows⟩;clear R r aO m;go_wp2;exact bodyPost_ret (fF (fn:=Tryz.f14) (p:=5) (q:=4) (ty:=28) Tryz.results14 _ ae _ 28 ms.toArray (0,0) _ rfl bH.out Tryz.underlying28 rfl ac.out _ rfl) rfl aH.out
   ·obtain rfl:k=Z:=by have:=b4.out;omega
    have t0:decide ((k:Int)<(k:Int))=false:=bZ (by omega);clear o X;go_upto_region 11 with fail;refine iW 3 [.pointer (some ⟨h,0,none⟩), .agg ms.toArray, .pointer (some ⟨h,0,none⟩)] ?zM ?_;case zM=>
     refine⟨?zU,?zP,?zQ,trivial⟩;all_goals intro u w' V bP
     all_goals simp only[z1,z2,z3,z4,ar,Act.put,z5,z6,z7,Nat.reduceAdd,Nat.zero_add]
     case zP=>
      refine aF ?_;exact aw _ _ rfl ⟨g6,0,none⟩ rfl ms _ (bd.out _ V) Tryz.underlying28 rfl ad.out aL
     case' zQ=>simp only[show u 0=_ from bP 0]
     all_goals
      refine aF ?_;go_simp;exact aL
    intro w' V;simp only[z1,z2,z3,z4,ar,Act.put,z5,z6,z7,z8,z9,jn,jo,Nat.reduceAdd,Nat.zero_add];have D:=af V;have aQ:=af (c.out.out.fr V (fun x=>x));clear V;refine ak rfl 28 (.tmp 5) _ rfl g5 ms.toArray rfl rfl _ _ aQ.out ac.out I.out J.out ?_;intro ae R r;have bH:=af R;have m:eZ w' (fun j=>j=g5):=eZ.of (fun j l=>⟨28,(show j=g5 from l)▸aQ.out.ty,by decide,by decide,by decide⟩);have aO:=c.out.mod.ao D.out;have aH:Hid (pq w (.returned (.tuple #[.pointer (some ⟨h,0,none⟩), .agg ms.toArray])) ae):=⟨h,b,ms,E,L,T,rfl,(c.out.uR.ao D.out).jx r m (fun j l e=>by have aT:j=g5:=e;have:=c.out.new j l;have:=d.out;omega),aO.jx r m (fun v z j l e=>by
      have aT:j=g5:=e;have o:=aO.lt v z j l;rw[aT]at o;exact absurd (o.one aQ.out.ty) (by decide)),a8.out,c.out.run,(fun j l=>by have:=c.out.new j l;have:=d.out;have:=H.out;omega),(c.out.fr.trans D.out).au r (fun i aV e=>by have aT:i=g5:=e;have:=H.out;omega),c.out.rows⟩;clear R r aO m;go_wp2;exact bodyPost_ret (fF (fn:=Tryz.f14) (p:=5) (q:=4) (ty:=28) Tryz.results14 _ ae _ 28 ms.toArray (0,0) _ rfl bH.out Tryz.underlying28 rfl ac.out _ rfl) rfl aH.out
end Go.Proofs.YtphjagkehiklkaaGreatDoor
namespace Go.Proofs.YtphjagkehiklkaaGreatDoor.Lt
open Go.RowKit
theorem Ir(l i n q g3:Nat)(x:Array Value)(j:Bool)(w:World)(y:q=(i+1)*2^l)(R:l≤40)(N:q≤1048576)(D:n≤1048576)(t:aq w g3 3 #[.int .i64 (n:Int)])(o:j=decide (n<q)):
  Calls Tryz.prog 142 #[dS l i, .agg x, .pointer (some ⟨g3,0,none⟩)] w (aK w (.bool j)):=by
 have i4:i+1≤1048576:=by
  have:(i+1)*1≤(i+1)*2^l:=Nat.mul_le_mul_left _ Nat.one_le_two_pow;omega
 obtain⟨i1,M⟩:∃i1:Nat,(i:Int)+1=(i1:Int):=⟨i+1,rfl⟩;have c:i1=i+1:=by omega
 have P:IntKind.i64.wrap (i1:Int)=(i1:Int):=IntWalk.i64_in _ (by omega);have O:IntKind.i64.wrap ((i1:Int)*2^l)=((q:Nat):Int):=by
  have:(i1:Int)*2^l=((q:Nat):Int):=by rw[y,←c];simp
  rw[this];exact IntWalk.i64_in _ (by omega)
 have d1:decide ((n:Int)<(q:Int))=j:=by rw[o];exact decide_eq_decide.2 (by omega)
 have d2:decide (n<q)=j:=o.symm;have s:=af t;clear t y c o;change Calls _ _ #[.agg #[.int .i64 (l:Int), .int .i64 (i:Int)],_,_] _ _;go_enter Tryz.func142,Tryz.ntmps142;go_wp2_with(refine aB rfl 212 (.tmp 0) rfl _ rfl ?_);intro w1 n1;have m:=af n1;clear n1;go_wp2_with(refine aB rfl 38 (.tmp 1) rfl _ rfl ?_);intro w2 p;have r:=af (m.out.fr.trans p.fr);have k:=af (m.out.aD.fr p.fr (fun x=>x));clear p m;generalize w.heap.size=gk at*;generalize w1.heap.size=Q at*;have B:Hid (w2.cell? ⟨gk,0,none⟩=some (.int .i64 (l:Int))):=k.out.cell 0;have C:Hid (w2.cell? ⟨gk,1,none⟩=some (.int .i64 (i:Int))):=k.out.cell 1;have A:Hid (w2.cell? ⟨g3,0,none⟩=some (.int .i64 (n:Int))):=(s.out.fr r.out (fun x=>x)).cell 0;clear k s;go_upto_region 1 with fail;refine ay 8 ah [Is (.pointer (some ⟨gk,1,none⟩)),Is (.int .i64 i),Is (.int .i64 i1),Is (.pointer (some ⟨gk,0,none⟩)),Is (.int .i64 l),Is (.int .i64 q),Is (.int .i64 n),Is (.bool j)] [] (fun _=>True) (fun _ _=>false) (by kernel_rfl) (by kernel_rfl) (by kernel_rfl) (by kernel_rfl) ⟨Is.ag _,Is.ag _,Is.ag _,Is.ag _,Is.ag _,Is.ag _,Is.ag _,Is.ag _,trivial⟩ trivial (fun _ _ _ _ h=>h) trivial ?_ ?_
 ·refine⟨?_,?_,?_,?_,?_,?_,?_,?_,trivial⟩;all_goals intro u w' d g a f e b
  all_goals simp only[bm,bp,bw,bC,ar,Act.put,bD,bE,bF,Nat.reduceAdd,Nat.zero_add]
  ·clear a f e b;refine ai ?_;go_simp;exact⟨_,rfl,al⟩
  ·have E:u 0=_:=a 0;clear a f e b;simp only[E];refine ai ?_;have v:w'.cell? ⟨gk,1,none⟩=some (.int .i64 i):=g.aj C.out (fun x=>x);go_simp;exact⟨_,rfl,al⟩
  ·have F:u 1=_:=a 1;clear a f e b;simp only[F];refine ai ?_;go_simp;exact⟨_,rfl,al⟩
  ·clear a f e b;refine ai ?_;go_simp;exact⟨_,rfl,al⟩
  ·have H:u 3=_:=a 3;clear a f e b;simp only[H];refine ai ?_;have v:w'.cell? ⟨gk,0,none⟩=some (.int .i64 l):=g.aj B.out (fun x=>x);go_simp;exact⟨_,rfl,al⟩
  ·have G:u 2=_:=a 2;have I:u 4=_:=a 4;clear a f e b;simp only[G,I];refine ai ?_;go_simp;exact⟨_,rfl,al⟩
  ·clear a f e b;refine ai ?_;have v:w'.cell? ⟨g3,0,none⟩=some (.int .i64 n):=g.aj A.out (fun x=>x);go_simp;exact⟨_,rfl,al⟩
  ·have J:u 5=_:=a 5;have K:u 6=_:=a 6;clear a f e b;simp only[J,K];refine ai ?_;go_simp;exact⟨_,rfl,al⟩
 ·intro u w' g a b;have L:u 7=_:=a 7 (by omega);clear a b;simp only[bm,bp,bw,bC,ar,Act.put,bD,bE,bF,cZ,da,Nat.reduceAdd,Nat.zero_add,L];have z:=af (r.out.trans g);clear g;go_wp2;go_ret;exact⟨rfl,z.out⟩
def xK:Value:= .agg #[.int .i64 0, .int .i64 0]
theorem pM(w:World):(zeroValue 212).run Tryz.prog w= .ok xK w:=by kernel_rfl
theorem qq:(Tryz.prog.info? 212).map (·.size)=some 2:=by kernel_rfl
theorem yl(b n m g3:Nat)(ds:List (List UInt8))(w:World)(V:df w b ds (aY m))(u:aq w g3 3 #[.int .i64 (n:Int)])(hm:m≤1048576)(a3:n≤1048576)(aC:ds.length=m)(he:∀d∈ds,d.length=32):
  Calls Tryz.prog 141 #[.map (some b), .func (.func 142) #[] #[.pointer (some ⟨g3,0,none⟩)]] w (fun e w'=>e= .returned (.tuple #[])∧df w' b ds (fun l i=>aY m l i∧(i+1)*2^l≤n)∧Fr (fun k=>k=b) w w'):=by
 have aS:=af V;have aO:=af u;have ab:Hid (b≠g3):=V.kh u;have LT:Hid (b<w.heap.size∧g3<w.heap.size):=⟨V.lt,u.lt⟩;have aP:=af he;have aQ:=af aC;clear V u he aC;go_enter Tryz.func141,Tryz.ntmps141;go_wp2_with(at_range;refine qH rfl _ rfl b n ds (aY m) rfl aS.out ?_);intro bb L E ai;have aX:=af L;have aM:=af E;clear L E ai;generalize aF:w.heap.size=r at*;have ac:=af aF;clear aF;go_wp2;go_loopw[8](fun _ wr=>fh wr b r n ds (aY m) qe∧Fr (fun k=>k=b) w wr)(fun _ wr=>wr.rangeLeft b r);case atStart=>exact⟨aX.out,aM.out.bJ⟩
 case round=>
  obtain⟨aH,aB⟩:=hrel;have a0:=af aH;have av:=af aB;clear aH aB;go_wp2_with(at_next;refine rG rfl _ rfl b r n ds (aY m) rfl a0.out ?_ ?_);·intro az;have aT:=af az;clear az;go_wp2;go_end0;exact⟨rfl,aT.out,av.out⟩
  ·intro l i w2 C M K F aj p;have ag:=af M;have A:=af K;have aw:=af (av.out.au F (fun k ba e=>by have U:k=r:=e;have:=ac.out;omega));have a7:=af C;have al:l≤40:=by
    have a8:(i+1)*2^l≤m:=C.2;have a9:1*2^l≤(i+1)*2^l:=Nat.mul_le_mul_right _ (by omega);rcases Nat.lt_or_ge 40 l with h|h;·have:2^41≤2^l:=Nat.pow_le_pow_right (by omega) h;omega
    ·exact h
   have am:(aG ds l i).length=32:=dJ ds aP.out l i (by rw[aQ.out];exact C.2);have Z:Hid (dB (aA (aG ds l i)).toArray):=dB.of am;have ad:Hid ((Tryz.prog.info? 38).map (·.size)=some (aA (aG ds l i)).length):=by rw[aA,List.length_map,am];exact eW
   obtain⟨q,v⟩:∃q,q=(i+1)*2^l:=⟨_,rfl⟩;have a4:q≤m:=by rw[v];exact C.2
   have ar:Hid (∀w',aq w' g3 3 #[.int .i64 (n:Int)]→∀x,Calls Tryz.prog 142 #[dS l i, .agg x, .pointer (some ⟨g3,0,none⟩)] w' (aK w' (.bool (decide (n<q))))):=fun w' u x=>Ir l i n q g3 x _ w' v al (by omega) a3 u rfl;have D:aU (aG ds l i)= .agg (aA (aG ds l i)).toArray:=rfl;rw[D]at p⊢;generalize aA (aG ds l i)=P at*;unfold dS at p⊢;clear M K F aj C am D;go_wp2_with(refine an rfl 212 rfl xK pM #[.int .i64 0, .int .i64 0] rfl ?_);intro w3 n3;have s:=af n3;clear n3 p;generalize H:w2.heap.size=o at*;have f:=af H;clear H;go_wp2_with(refine an rfl 38 rfl aZ iJ aE rfl ?_);intro a5 n4;have S:=af n4;clear n4;generalize I:w3.heap.size=B at*;have g:=af I;clear I;have aW:Hid ((#[Value.int .i64 (l:Int), .int .i64 (i:Int)]:Array Value).all (·.oneCell')=true):=by simp[Hid,Value.oneCell']
   have aI:Hid (aq a5 o 212 #[.int .i64 0, .int .i64 0]):=by have h:=s.out.aD;rw[f.out]at h;exact h.fr S.out.fr (fun x=>x)
   go_wp2_with(refine ak rfl 212 (.tmp 4) _ rfl o #[.int .i64 (l:Int), .int .i64 (i:Int)] rfl rfl _ _ aI.out qq rfl aW.out ?_);intro bc b5 f5;have ap:=af b5;have aa:=af f5;clear b5 f5;go_wp2_with(refine ak rfl 38 (.tmp 5) _ rfl B P.toArray rfl rfl _ _ (by have h:=S.out.aD;rw[g.out]at h;exact h.fr aa.out (fun e=>by have U:B=o:=e;have W:=f.out;have X:=g.out;have Y:=s.out.size;omega)) Z.out.info Z.out.zero Z.out.one ?_);intro ao ay f6;have aL:=af ay;have j:Hid (Fr ah w2 ao):=((s.out.fr.trans S.out.fr).au aa.out (fun i a2 e=>by have U:i=o:=e;have W:=f.out;omega)).au f6 (fun i a2 e=>by have U:i=B:=e;have W:=f.out;have X:=g.out;have Y:=s.out.size;omega);have O:=af (ap.out.fr f6 (fun e=>by have U:o=B:=e;have W:=f.out;have X:=g.out;have Y:=s.out.size;omega));have t:=af (ag.out.fr j.out (fun x=>x) (fun x=>x));have R:=af (ag.out.uW j.out (fun x=>x) (fun x=>x));have y:=af (aw.out.trans j.out.bJ);clear ay f6 ap aa s S f g ag aw;go_wp2_with(refine dA rfl 212 (.tmp 4) rfl o rfl _ [.int .i64 (l:Int), .int .i64 (i:Int)] O.out _ Tryz.underlying212 rfl qq (aR.go ?hold));unfold aR;refine dA rfl 38 (.tmp 5) rfl B rfl _ P aL.out _ Tryz.underlying38 rfl ad.out ?_;have ax:=af (aO.out.fr y.out (fun e=>ab.out e.symm));go_wp2_with fail;by_cases a:n<q
   ·have c:=ar.out ao ax.out P.toArray;rw[decide_eq_true a]at c;refine c.mono ?_;rintro e a6⟨rfl,f7⟩;have T:=af (t.out.fr f7 (fun x=>x) (fun x=>x));have ae:=af ((t.out.uW f7 (fun x=>x) (fun x=>x)).trans R.out);have aJ:=af (O.out.fr f7 (fun x=>x));have Q:=af (y.out.trans f7.bJ);have z:Hid (n<(i+1)*2^l):=by rw[←v];exact a
    clear f7 t R O y c a v;go_wp2_with(refine dA rfl 212 (.tmp 4) rfl o rfl _ [.int .i64 (l:Int), .int .i64 (i:Int)] aJ.out _ Tryz.underlying212 rfl qq (aR.go ?zA));unfold aR;refine pO rfl _ _ rfl b r n l i ds (aY m) rfl rfl T.out z.out ?_;intro bd N J G;have a1:=af N;have aV:=af J;have aN:=af (Q.out.trans G);clear N J G T Q;simp only[Act.put];go_wp2;go_roundw;case rel=>exact⟨a1.out,aN.out⟩
    case measure=>have W:=aV.out;have X:=ae.out;have Y:=A.out;omega
   ·have c:=ar.out ao ax.out P.toArray;rw[decide_eq_false a]at c;refine c.mono ?_;rintro e a6⟨rfl,f7⟩;have T:=af ((t.out.fr f7 (fun x=>x) (fun x=>x)).J1 (by rw[←v];omega));have ae:=af ((t.out.uW f7 (fun x=>x) (fun x=>x)).trans R.out);have Q:=af (y.out.trans f7.bJ);clear f7 t R O y c a v;go_wp2;go_roundw;case rel=>exact⟨T.out,Q.out⟩
    case measure=>have X:=ae.out;have Y:=A.out;omega
theorem ym(a:Value)(w:World):Calls Tryz.prog 141 #[.map none,a] w (fun e w'=>e= .returned (.tuple #[])∧Fr ah w w'):=by
 have c:=run_range_nilMap (P:=Tryz.prog) w 178 _ _ mW;have b:∀ty,(Instr.next (.pointer (some ⟨w.heap.size,0,none⟩)) false ty).run Tryz.prog (w.alloc (.mapIter none 0 #[] 0))=_:=fun ty=>run_next_nilMap _ ty 0 0 #[];go_enter Tryz.func141,Tryz.ntmps141;go_wp2;refine wp_loop_rounds 1 ?_;rw[rounds_succ];go_wp2;go_end0;exact⟨rfl,az.alloc _⟩
end Go.Proofs.YtphjagkehiklkaaGreatDoor.Lt
namespace Go.Proofs.YtphjagkehiklkaaGreatDoor
open Go.ChangeShapes Go.WideShapes Go.ChangeAt Go.RowKit Go.Deep
theorem xe:Tryz.prog.cellsOf 72=6:=by kernel_rfl
theorem Il:Tryz.prog.cellsOf 55=1:=by kernel_rfl
theorem xB{H:Type}{enc:TypeId×Value→H}{w:World}{fuel:Nat}{v:Value}{x:DataW H×List MemPlace}
  (h:DataW.trod enc Tryz.prog w 0 (fun _=>true) true fuel 55 [v]=some x):
  ∃(A:Option Addr)(n c:Nat)(xs:List CV),v= .slice A n c∧CL w (Old w) A n xs∧n≤9223372036854775807∧n≤c:=by
 rcases open_slice Tryz.underlying55 h with⟨a,_⟩|⟨g,j,i,m,n,D,f,a,_⟩;·simp only[List.cons.injEq,and_true]at a;subst a;obtain⟨cs,b,_,d,e⟩:=AD h;exact⟨_,_,_,cs,rfl,b,by omega,d⟩
 ·simp only[List.cons.injEq,and_true]at a;subst a;obtain⟨cs,b,_,d,e⟩:=AD h;exact⟨_,_,_,cs,rfl,b,by omega,d⟩
theorem Gx{H:Type}{enc:TypeId×Value→H}{w:World}{fuel:Nat}{l:List Value}{x:DataW H×List MemPlace}
  (h:DataW.trod enc Tryz.prog w 0 (fun _=>true) true fuel 72 l=some x):qS w l:=by
 obtain⟨s,t,_,rfl,b,c,a⟩:=DataW.trod_struct Tryz.underlying72 h;rw[xe]at b;match l,b with
 |[v,y,z,x3,A,B],_=>
  have g0:=a 0 _ rfl;have g1:=a 1 _ rfl;have g2:=a 2 _ rfl;have g3:=a 3 _ rfl;have g4:=a 4 _ rfl;have g5:=a 5 _ rfl;match s,c with
  |[C,D,E,y3,y4,F],_=>
   simp[rS,zK,Il]at g0 g1 g2 g3 g4 g5;obtain⟨a0,f,rfl,b0⟩:=DataW.trod_int Tryz.underlying3 g0;obtain⟨n,g,rfl,b1⟩:=DataW.trod_int Tryz.underlying3 g1;obtain⟨a2,i,rfl,b2⟩:=DataW.trod_int Tryz.underlying3 g2;obtain⟨a3,j,rfl,b3⟩:=DataW.trod_int Tryz.underlying5 g3;obtain⟨k,n4,o,d,rfl,p,m4,o4⟩:=xB g4;obtain⟨m,n5,c5,e,rfl,q,m5,r⟩:=xB g5;simp only[List.cons.injEq,and_true]at f g i j;subst f g i j;have u:=bounds_u8 b3;exact⟨a0,n,a2,a3,k,n4,o,d,_,m,n5,c5,e,_,by omega,by omega,rfl,⟨p,m4,o4⟩,⟨q,m5,r⟩⟩
theorem Dz{H:Type}{enc:TypeId×Value→H}{w:World}{fuel:Nat}{a:Option Addr}{len cap:Nat}{x:DataW H×List MemPlace}
  (h:DataW.trod enc Tryz.prog w 0 (fun _=>true) true fuel 22 [.slice a len cap]=some x):uj w a len:=by
 rcases open_slice Tryz.underlying22 h with⟨b,_⟩|⟨l,z,t,m,n,D,s,b,_,y,hm,d,_,f⟩;·simp only[List.cons.injEq,Value.slice.injEq,and_true]at b;obtain⟨rfl,rfl,rfl⟩:=b;intro k v;omega
 ·simp only[List.cons.injEq,Value.slice.injEq,and_true]at b;obtain⟨rfl,rfl,rfl⟩:=b;simp only[if_true]at d;rw[xe]at f;intro i q;obtain⟨cs',o,e⟩:=f i (by omega);have g:=Gx e;obtain⟨_,p,c⟩:=World.cells?_some o;refine⟨l,cs',rfl,g,fun j u hu=>?_⟩;have r:j<6:=by
   have:=(List.getElem?_eq_some_iff.1 hu).1;rw[g.len]at this;exact this
  rw[c j r,←hu]
theorem Dy{H:Type}{enc:TypeId×Value→H}{w:World}{fuel:Nat}{a:Option Addr}{len cap:Nat}{x:DataW H×List MemPlace}
  (h:DataW.trod enc Tryz.prog w 0 (fun _=>true) true fuel 22 [.slice a len cap]=some x):
  ∃e:Unit,uj w a len∧True∧len≤cap∧cap≤9223372036854775807:=by
 refine⟨(),Dz h,trivial,?_⟩;rcases open_slice Tryz.underlying22 h with⟨b,_⟩|⟨f,i,g,m,n,D,d,b,_,c,hm,_⟩;·simp only[List.cons.injEq,Value.slice.injEq,and_true]at b;obtain⟨rfl,rfl,rfl⟩:=b;exact⟨Nat.le_refl _,Nat.zero_le _⟩
 ·simp only[List.cons.injEq,Value.slice.injEq,and_true]at b;obtain⟨rfl,rfl,rfl⟩:=b;exact⟨c,by unfold maxLen at hm;exact hm⟩
end Go.Proofs.YtphjagkehiklkaaGreatDoor
