/- Texts. -/
import Derived.Test.YtphjagkehiklkaaGreatDoorUK20
set_option linter.unusedVariables false
set_option linter.unusedSimpArgs false
set_option maxRecDepth 100000
set_option maxHeartbeats 4000000
namespace Go.Proofs.YtphjagkehiklkaaGreatDoor
open Go.RowKit Go.Shelf
structure ly(c:CV):Prop where
 owner:c.nm.owner.size≤1099511627776
 text:c.nm.text.size≤1099511627776
theorem fL.fit{c:CV}(h:fL c):ly c:=⟨by have:=h.owner;omega,by have:=h.text;omega⟩
def Ef(w:World)(b:Bool)(e:Ending)(w':World):Prop:=aH w (.bool b) e w'
theorem pX(xs:List CV)(n:Nat)(A:Option Addr)(a2:Nat)(S:Nat→Prop)(w:World)(a9:dy w)(aM:CL w S A n xs)(ba:∀c∈xs,ly c)(bc:n≤1099511627776):
  Calls Tryz.prog 112 #[.slice A n a2] w (Ef w (fh xs)):=by
 have aW:=Lib.hid aM;have bf:=Lib.hid a9;have a0:=Lib.hid ba;have aY:=Lib.hid aM.len;have I:=Lib.hid bc;have m:Hid (∀k,k<xs.length→ea xs k=false→fh xs=false):=fun k X h=>Dz X h;have C:Hid ((∀k,k<xs.length→ea xs k=true)→fh xs=true):=Dy;obtain⟨R,a⟩:∃R,fh xs=R:=⟨_,rfl⟩;rw[a]at m C⊢;clear aM ba a9 bc a;go_enter Tryz.func112,Tryz.ntmps112;go_wp2;go_loopw[7](fun i wr=>∃k:Nat,k≤n∧i= .int .i64 (k:Int)∧(∀j,j<k→ea xs j=true)∧Fr af w wr)(fun i _=>n-(intOf i).toNat);case atStart=>exact⟨0,Nat.zero_le _,rfl,(fun j aO=>by omega),Fr.refl _ _⟩
 case round=>
  obtain⟨k,X,rfl,a8,hF⟩:=hrel;have aG:=Lib.hid hF;have a1:=Lib.hid a8;clear a8 hF;by_cases au:k<n
  ·have a7:(k:Int)<(n:Int):=by omega
   have bl:(0:Int)≤(k:Int):=by omega
   have t0:decide ((k:Int)<(n:Int))=true:=decide_eq_true a7;obtain⟨L,c,rfl,aN,o⟩:=(aW.out.al aG.out).at_ au;have Z:=Lib.hid o;have be:=Lib.hid c.one;have G:Hid (xs[k]? =some c):=aN;have aL:Hid (ly c):=a0.out c (List.mem_of_getElem? aN);have aJ:Hid (k<xs.length):=by rw[Hid,aY.out];exact au
   clear o aN;go_wp2_with(refine aw rfl 119 (.tmp 10) rfl _ rfl c.cells _ ?zN Tryz.underlying119 rfl iD (aR.go ?hold));case zN=>exact Z.out
   unfold aR;go_wp2_with(refine ai rfl 119 rfl cE BU #[.int .i64 0, .string ByteArray.empty, .int .i64 0, .int .i64 0, .string ByteArray.empty, .string ByteArray.empty, .bool false] rfl ?_);intro bq bd;have aK:=Lib.hid bd;clear bd;generalize aq:wr.heap.size=g4 at*;have ab:=Lib.hid aq;clear aq;have aQ:Hid (ak bq g4 119 #[.int .i64 0, .string ByteArray.empty, .int .i64 0, .int .i64 0, .string ByteArray.empty, .string ByteArray.empty, .bool false]):=by have h:=aK.out.az;rw[ab.out]at h;exact h
   go_wp2_with(refine ah rfl 119 (.tmp 4) _ rfl g4 c.cells.toArray rfl rfl _ _ aQ.out iD rfl be.out ?_);intro U bb a5;have aA:Hid (ak U g4 119 c.cells.toArray):=bb;have aU:Hid (Fr af wr U):=aK.out.fr.ao a5 (fun i bw e=>by have bt:i=g4:=e;have:=ab.out;omega);clear bb a5 aK aQ Z;have Y:Hid (∀w',Fr af U w'→∀j x,c.nm.cells[j]? =some x→w'.cell? ((⟨g4,0,none⟩:Addr).add j)=some x):=fun w' f j x ax=>by
    rw[Addr.add_mid,Nat.zero_add,(aA.out.fr f (fun x=>x)).cell j,List.getElem?_toArray,CV.cells,List.getElem?_append_left (List.getElem?_eq_some_iff.1 ax).1];exact ax
   have p:Hid (Fr af w U):=aG.out.trans aU.out;have K:Hid (iA c=(cU c.nm&&decide (c.value.size≤65536)&&(!c.aV||c.value.toList.isEmpty))):=rfl;have F:Hid (iA c=false→R=false):=fun h=>m.out k aJ.out (by
    have e:=G.out;simp only[ea,e,h,Bool.false_and]);obtain⟨ok,T⟩:∃z,cU c.nm=z:=⟨_,rfl⟩;obtain⟨V,aE⟩:∃z,decide (65536<c.value.size)=z:=⟨_,rfl⟩;obtain⟨em,hem⟩:∃z,c.value.toList.isEmpty=z:=⟨_,rfl⟩;obtain⟨g,N⟩:∃z,c.aV=z:=⟨_,rfl⟩;have aT:Hid (∀w',Fr af U w'→Calls Tryz.prog 115 #[.agg c.nm.cells.toArray] w' (fun e l=>∃t:Int,e= .returned (.int .i64 t)∧(t==0)=ok∧Fr af w' l)):=fun w' f=>by
    rw[←T];exact j9 c.nm w' (bf.out.al (p.out.trans f)) (by have:=aL.out.owner;omega) (by have:=aL.out.text;omega)
   have ap:decide (c.value.size≤65536)=!V:=by
    rw[←aE];by_cases h:c.value.size≤65536;·rw[decide_eq_true h,decide_eq_false (by omega)];rfl
    ·rw[decide_eq_false h,decide_eq_true (by omega)];rfl
   have am:decide ((65536:Int)<(c.value.size:Int))=V:=by
    rw[←aE];exact decide_eq_decide.2 (by omega)
   rw[T,ap,N,hem]at K;have ad:=Lib.hid am;have ac:=Lib.hid aE;have aa:=Lib.hid hem;have c5:Hid (∀w',Fr af U w'→w'.cell? {block:=g4,off:=5}=some (.string c.value)):=fun w' f=>(aA.out.fr f (fun x=>x)).cell 5;have a3:Hid (∀w',Fr af U w'→w'.cell? {block:=g4,off:=6}=some (.bool g)):=fun w' f=>by rw[←N];exact(aA.out.fr f (fun x=>x)).cell 6
   clear T aE hem N ap am;obtain⟨aF,ag⟩:∃z:Bool,(bif ok then(bif V then true else(bif g then(!em)else false))else true)=z:=⟨_,rfl⟩;have E:=Lib.hid ag;clear ag;go_upto_region 4 with fail;refine AY 19 [iS (.pointer (some ⟨g4,0,none⟩)),iS (.agg c.nm.cells.toArray),⟨fun br _=>∃t:Int,br= .int .i64 t∧(t==0)=ok,fun _ _ _ _ h=>h⟩,iS (.bool (!ok)),iS (.bool (!ok)),iS ((bif ok then .pointer (some ⟨g4,5,none⟩)else undef)),iS ((bif ok then .string c.value else undef)),iS ((bif ok then .int .i64 (c.value.size:Nat)else undef)),iS ((bif ok then .bool V else undef)),iS ((bif ok then .bool V else .bool true)),iS ((bif ok then .bool V else .bool true)),iS ((bif ok then(bif V then undef else .pointer (some ⟨g4,6,none⟩))else undef)),iS ((bif ok then(bif V then undef else .bool g)else undef)),iS ((bif ok then(bif V then undef else .bool g)else undef)),iS ((bif ok then(bif V then undef else(bif g then .pointer (some ⟨g4,5,none⟩)else undef))else undef)),iS ((bif ok then(bif V then undef else(bif g then .string c.value else undef))else undef)),iS ((bif ok then(bif V then undef else(bif g then .bool (!em)else undef))else undef)),iS ((bif ok then(bif V then undef else(bif g then .bool (!em)else .bool false))else undef)),iS (.bool aF)] ?zO ?_;case zO=>
    refine⟨?yJ,?zQ,?zR,?zS,?zT,?zU,?zV,?zW,?zX,?zY,?zA,?zB,?zC,?zD,?zE,?zF,?zG,?zH,?zI,trivial⟩;all_goals intro u w' b a
    all_goals simp only[z1,z2,z3,z4,an,Act.put,z5,z6,z7,Nat.reduceAdd,Nat.zero_add]
    case zQ=>
     simp only[show u 0=_ from a 0];refine aB ?_;exact ar _ _ rfl ⟨g4,0,none⟩ rfl c.nm.cells _ (fun ay v av=>Y.out _ b ay v av) Tryz.underlying106 rfl aX ⟨_,rfl,Fr.refl _ _,rfl⟩
    case zR=>
     simp only[show u 1=_ from a 1];refine aB ?_;go_simp;refine(aT.out _ b).mono ?_;rintro e bp⟨t,rfl,O,f4⟩;exact⟨_,rfl,f4,t,rfl,O⟩
    case zS=>
     obtain⟨t,aC,O⟩:=a 2;simp only[aC];refine aB ?_;have t1:(t !=0)=!ok:=by rw[bne,O]
     go_simp;exact⟨_,rfl,Fr.refl _ _,rfl⟩
    case' zT=>simp only[show u 3=_ from a 3]
    case' zU=>
     simp only[show u 4=_ from a 4];cases ok;case false=>exact iz
    case zV=>
     simp only[show u 5=_ from a 5,show u 4=_ from a 4];cases ok;case false=>exact iz
     refine aB ?_;have q:=c5.out _ b;go_simp;exact⟨_,rfl,Fr.refl _ _,rfl⟩
    case' zW=>
     simp only[show u 6=_ from a 6,show u 4=_ from a 4];cases ok;case false=>exact iz
    case zX=>
     simp only[show u 7=_ from a 7,show u 4=_ from a 4];cases ok;case false=>exact iz
     refine aB ?_;have t1:=ad.out;have t2:=ac.out;go_simp;exact⟨_,rfl,Fr.refl _ _,rfl⟩
    case' zY=>
     simp only[show u 4=_ from a 4,show u 8=_ from a 8];cases ok
    case' zA=>
     simp only[show u 9=_ from a 9];cases ok
    case' zB=>
     simp only[show u 10=_ from a 10];cases ok;case false=>exact iz
     cases V;case true=>exact iz
    case zC=>
     simp only[show u 11=_ from a 11,show u 10=_ from a 10];cases ok;case false=>exact iz
     cases V;case true=>exact iz
     refine aB ?_;have q:=a3.out _ b;go_simp;exact⟨_,rfl,Fr.refl _ _,rfl⟩
    case' zD=>
     simp only[show u 12=_ from a 12,show u 10=_ from a 10];cases ok;case false=>exact iz
     cases V;case true=>exact iz
    case' zE=>
     simp only[show u 13=_ from a 13];cases ok;case false=>exact iz
     cases V;case true=>exact iz
     cases g;case false=>exact iz
    case zF=>
     simp only[show u 14=_ from a 14,show u 13=_ from a 13];cases ok;case false=>exact iz
     cases V;case true=>exact iz
     cases g;case false=>exact iz
     refine aB ?_;have q:=c5.out _ b;go_simp;exact⟨_,rfl,Fr.refl _ _,rfl⟩
    case zG=>
     simp only[show u 15=_ from a 15,show u 13=_ from a 13];cases ok;case false=>exact iz
     cases V;case true=>exact iz
     cases g;case false=>exact iz
     refine aB ?_;have t1:=aa.out;go_simp;exact⟨_,rfl,Fr.refl _ _,rfl⟩
    case' zH=>
     simp only[show u 13=_ from a 13,show u 16=_ from a 16,show u 10=_ from a 10];cases ok;case false=>exact iz
     cases V;case true=>exact iz
     cases g
    case zI=>
     simp only[show u 10=_ from a 10,show u 17=_ from a 17];cases ok<;>cases V<;>cases g<;>exact aB (by go_simp;exact⟨_,rfl,Fr.refl _ _,congrArg Value.bool E.out⟩)
    all_goals
     try simp only[cond]
     refine aB ?_;go_simp;exact⟨_,rfl,Fr.refl _ _,rfl⟩
   intro u w' b a;simp only[z1,z2,z3,z4,an,Act.put,z5,z6,z7,z8,z9,Nat.reduceAdd,Nat.zero_add,show u 18=_ from a 18 (by omega)];clear a;have p:Hid (Fr af w w'):=p.out.trans b;have Y:Hid (∀l,Fr af w' l→∀j x,c.nm.cells[j]? =some x→l.cell? ((⟨g4,0,none⟩:Addr).add j)=some x):=fun l f=>Y.out l (b.trans f);clear b aT c5 a3 ad ac aa aA aU;generalize w'=bo at*;have r:Hid (iA c=!aF):=by
    rw[Hid,K.out,←E.out];cases ok<;>cases V<;>cases g<;>cases em<;>rfl
   clear K E;cases y:aF;case true=>
    obtain rfl:R=false:=F.out (by rw[r.out,y];rfl);clear y r F;go_wp2;go_ret;exact⟨rfl,p.out⟩
   have D:Hid (iA c=true):=by rw[Hid,r.out,y];rfl
   clear y r F;obtain⟨q,bm⟩:∃q:Nat,k-1=q:=⟨_,rfl⟩;have aZ:Hid (0<k→(k:Int)-1=(q:Int)):=fun h=>by omega
   obtain⟨d,H⟩:∃d:CV,Hid (0<k→xs[q]? =some d):=by
    by_cases aD:0<k;·exact⟨_,fun _=>List.getElem?_eq_getElem (show q<xs.length by have:=aJ.out;omega)⟩
    ·exact⟨c,fun h=>absurd h aD⟩
   have ae:Hid (0<k→some L=some L∧∀j x,d.nm.cells[j]? =some x→bo.cell? ((L.add (q*7)).add j)=some x):=fun h=>by
    obtain⟨bh,bs,bi,aC,bj⟩:=(aW.out.al p.out).at_ (show q<n by omega);cases bi;rw[H.out h]at aC;cases aC;refine⟨rfl,fun j x ax=>bj j x ?_⟩;rw[CV.cells,List.getElem?_append_left (List.getElem?_eq_some_iff.1 ax).1];exact ax
   have bg:Hid (0<k→ly d):=fun h=>a0.out d (List.mem_of_getElem? (H.out h));have aS:Hid (0<k→∀w',Calls Tryz.prog 128 #[.agg d.nm.cells.toArray, .agg c.nm.cells.toArray] w' (aH w' (.int .i64 (cp d.nm c.nm)))):=fun h w'=>fO d.nm c.nm w' (by have:=(bg.out h).owner;omega) (by have:=aL.out.owner;omega);have J:Hid (ea xs k=!(decide (0<k)&&decide (0≤cp d.nm c.nm))):=by
    by_cases aD:0<k
    ·obtain⟨aP,rfl⟩:∃aP,k=aP+1:=⟨k-1,by omega⟩;obtain rfl:aP=q:=by omega
     rw[Hid,yz G.out (H.out aD),D.out,decide_eq_true aD,Bool.true_and,Bool.true_and];by_cases a6:cp d.nm c.nm<0;·rw[decide_eq_true a6,decide_eq_false (show¬0≤cp d.nm c.nm by omega)];rfl
     ·rw[decide_eq_false a6,decide_eq_true (show 0≤cp d.nm c.nm by omega)];rfl
    ·obtain rfl:k=0:=by omega
     rw[Hid,yA G.out,D.out];rfl
   obtain⟨P,W⟩:∃z:Bool,decide (0<k)=z:=⟨_,rfl⟩;obtain⟨Q,a4⟩:∃z:Bool,decide (0≤cp d.nm c.nm)=z:=⟨_,rfl⟩;obtain⟨B,M⟩:∃z:Bool,(bif P then Q else false)=z:=⟨_,rfl⟩;have HB:=Lib.hid M;clear M;rw[W,a4]at J;clear bm;go_upto_region 6 with fail;refine iP 14 [.int .i64 (k:Int), .bool P, .bool P,bif P then .slice (some L) n a2 else undef,bif P then .int .i64 (k:Int)else undef,bif P then .int .i64 (q:Int)else undef,bif P then .pointer (some (L.add (q*7)))else undef,bif P then .pointer (some (L.add (q*7)))else undef,bif P then .agg d.nm.cells.toArray else undef,bif P then .pointer (some ⟨g4,0,none⟩)else undef,bif P then .agg c.nm.cells.toArray else undef,bif P then .int .i64 (cp d.nm c.nm)else undef,bif P then .bool Q else undef, .bool B] ?zP ?_;case zP=>
    refine⟨?yK,?zZ,?yB,?yC,?yD,?yE,?yF,?yG,?yH,?yI,?zJ,?zK,?zL,?zM,trivial⟩;all_goals intro u w' b a
    all_goals simp only[z1,z2,z3,z4,an,Act.put,z5,z6,z7,Nat.reduceAdd,Nat.zero_add]
    case' zZ=>simp only[show u 0=_ from a 0]
    case' yB=>simp only[show u 1=_ from a 1]
    case' yC=>
     simp only[show u 2=_ from a 2];cases P;case false=>exact bB
    case' yD=>
     simp only[show u 2=_ from a 2];cases P;case false=>exact bB
    case yE=>
     simp only[show u 4=_ from a 4,show u 2=_ from a 2];cases P;case false=>exact bB
     refine aB ?_;have X:=of_decide_eq_true W;have bu:(k:Int)-1=(q:Int):=aZ.out X;have bk:IntKind.i64.wrap (q:Int)=(q:Int):=IntWalk.i64_in _ (by have:=I.out;omega);go_simp;exact⟨rfl,Fr.refl _ _⟩
    case yF=>
     simp only[show u 3=_ from a 3,show u 5=_ from a 5,show u 2=_ from a 2];cases P;case false=>exact bB
     refine aB ?_;have X:=of_decide_eq_true W;have bk:(q:Int)<(n:Int):=by have:=aZ.out X;omega
     have bv:(0:Int)≤(q:Int):=by omega
     go_simp;exact⟨rfl,Fr.refl _ _⟩
    case' yG=>
     simp only[show u 6=_ from a 6,show u 2=_ from a 2];cases P;case false=>exact bB
    case yH=>
     simp only[show u 7=_ from a 7,show u 2=_ from a 2];cases P;case false=>exact bB
     refine aB ?_;exact ar _ _ rfl (L.add (q*7)) rfl d.nm.cells _ (fun ay v av=>b.aj ((ae.out (of_decide_eq_true W)).2 ay v av) (fun x=>x)) Tryz.underlying106 rfl aX ⟨rfl,Fr.refl _ _⟩
    case' yI=>
     simp only[show u 2=_ from a 2];cases P;case false=>exact bB
    case zJ=>
     simp only[show u 9=_ from a 9,show u 2=_ from a 2];cases P;case false=>exact bB
     refine aB ?_;exact ar _ _ rfl ⟨g4,0,none⟩ rfl c.nm.cells _ (fun ay v av=>Y.out _ b ay v av) Tryz.underlying106 rfl aX ⟨rfl,Fr.refl _ _⟩
    case zK=>
     simp only[show u 8=_ from a 8,show u 10=_ from a 10,show u 2=_ from a 2];cases P;case false=>exact bB
     refine aB ?_;go_simp;refine(aS.out (of_decide_eq_true W) _).mono ?_;rintro e bp⟨rfl,f4⟩;exact⟨rfl,f4⟩
    case' zL=>
     simp only[show u 11=_ from a 11,show u 2=_ from a 2];cases P;case false=>exact bB
    case zM=>
     simp only[show u 2=_ from a 2,show u 12=_ from a 12];cases P<;>exact aB (by go_simp;exact⟨by rw[←HB.out];rfl,Fr.refl _ _⟩)
    all_goals
     try simp only[cond]
     refine aB ?_;go_simp;exact⟨rfl,Fr.refl _ _⟩
   intro w' b;simp only[z1,z2,z3,z4,an,Act.put,z5,z6,z7,z8,z9,jl,jm,Nat.reduceAdd,Nat.zero_add];have p:Hid (Fr af w w'):=p.out.trans b;clear b aS ae W a4 Y;have s:Hid (ea xs k=!B):=by
    rw[Hid,J.out,←HB.out];cases P<;>cases Q<;>rfl
   clear J HB;cases M:B;case true=>
    obtain rfl:R=false:=m.out k aJ.out (by rw[s.out,M];rfl);clear M s;go_wp2;go_ret;exact⟨rfl,p.out⟩
   have aI:Hid (ea xs k=true):=by rw[Hid,s.out,M];rfl
   clear M s;have bn:n≤1099511627776:=I.out;go_wp2;go_roundw;case rel=>
    refine⟨k+1,by omega,by go_num,fun j aO=>?_,p.out⟩;by_cases h:j=k;·rw[h];exact aI.out
    ·exact a1.out j (by omega)
   case measure=>have bn:=I.out;simp[intOf];omega
  ·obtain rfl:k=n:=by omega
   have a7:¬(k:Int)<(k:Int):=by omega
   obtain rfl:R=true:=C.out (fun j aO=>a1.out j (by rw[←aY.out];exact aO));go_wp2;go_ret;exact⟨rfl,aG.out⟩
theorem mP(a:ActV)(cs:List Value)(w:World)(L:dy w)(ae:ck w cs a)(V:a.key.ez.size≤1099511627776)(W:∀c∈a.reads,ly c)(hw:∀c∈a.writes,ly c)(nr:a.reads.length≤1099511627776)(nw:a.writes.length≤1099511627776):
  Calls Tryz.prog 60 #[.agg cs.toArray] w (Ef w (eW a)):=by
 obtain⟨am,ao,rfl,S,T⟩:=ae;obtain⟨p,ai,A,rfl,rfl,_,m⟩:=S.cl;obtain⟨r,aj,C,rfl,rfl,_,o⟩:=T.cl;have D:Hid (∀w',Calls Tryz.prog 111 #[.agg a.key.cells.toArray] w' (fun e M=>∃d:Int,e= .returned (.int .i64 d)∧(d==0)=de a.key∧Fr af w' M)):=fun w'=>ue a.key w' V;have N:Hid (∀w',Fr af w w'→Calls Tryz.prog 112 #[.slice p a.reads.length A] w' (aH w' (.bool (fh a.reads)))):=fun w' f=>pX a.reads _ p A _ w' (L.al f) (m.al f) W nr;have CW:Hid (∀w',Fr af w w'→Calls Tryz.prog 112 #[.slice r a.writes.length C] w' (aH w' (.bool (fh a.writes)))):=fun w' f=>pX a.writes _ r C _ w' (L.al f) (o.al f) hw nw;have k:Hid (eW a=(de a.key&&fh a.reads&&fh a.writes)):=rfl;obtain⟨P,I⟩:∃z,de a.key=z:=⟨_,rfl⟩;obtain⟨Q,J⟩:∃z,fh a.reads=z:=⟨_,rfl⟩;obtain⟨R,K⟩:∃z,fh a.writes=z:=⟨_,rfl⟩;obtain⟨O,H⟩:∃z,eW a=z:=⟨_,rfl⟩;rw[I]at D;rw[J]at N;rw[K]at CW;rw[I,J,K,H]at k;rw[H];generalize a.reads.length=Y at*;generalize a.writes.length=Z at*;obtain⟨⟨t,c,n,s⟩,_,_⟩:=a;simp only[dV.cells,List.cons_append,List.nil_append]at D⊢;clear L V W hw nr nw S T m o I J K H;go_enter Tryz.func60,Tryz.ntmps60;go_wp2_with(refine au rfl 46 (.tmp 0) rfl _ rfl ?_);intro w1 n1;have F:=Lib.hid n1.fr;have y:=Lib.hid n1.az;clear n1;generalize w.heap.size=g at*;have E:Hid (∀w',Fr af w1 w'→∀j x,[Value.int .i64 t, .int .i64 c, .int .i64 n, .string s][j]? =some x→w'.cell? ((⟨g,0,none⟩:Addr).add j)=some x):=fun w' f j x X=>by
  rw[Addr.add_mid,Nat.zero_add,(y.out.fr f (fun x=>x)).cell j];rcases j with _|_|_|_|j<;>simp at X<;>simp[←X]
 have ac:Hid (∀w',Fr af w1 w'→w'.cell? {block:=g,off:=4}=some (.slice p Y A)):=fun w' f=>(y.out.fr f (fun x=>x)).cell 4;have c5:Hid (∀w',Fr af w1 w'→w'.cell? {block:=g,off:=5}=some (.slice r Z C)):=fun w' f=>(y.out.fr f (fun x=>x)).cell 5;clear y;obtain⟨B,U⟩:∃z:Bool,(bif P then(bif Q then R else false)else false)=z:=⟨_,rfl⟩;have HB:=Lib.hid U;clear U;go_upto_region 1 with fail;refine AY 15 [iS (.pointer (some ⟨g,0,none⟩)),iS (.agg [Value.int .i64 t, .int .i64 c, .int .i64 n, .string s].toArray),⟨fun ak _=>∃d:Int,ak= .int .i64 d∧(d==0)=P,fun _ _ _ _ h=>h⟩,iS (.bool P),iS (.bool P),iS ((bif P then .pointer (some ⟨g,4,none⟩)else undef)),iS ((bif P then .slice p Y A else undef)),iS ((bif P then .bool Q else undef)),iS ((bif P then .bool Q else .bool false)),iS ((bif P then .bool Q else .bool false)),iS ((bif P then(bif Q then .pointer (some ⟨g,5,none⟩)else undef)else undef)),iS ((bif P then(bif Q then .slice r Z C else undef)else undef)),iS ((bif P then(bif Q then .bool R else undef)else undef)),iS (.bool B),iS (.bool B)] ?zF ?_;case zF=>
  refine⟨?zP,?zG,?zH,?zI,?zJ,?zK,?zL,?zM,?zN,?zO,?zA,?zB,?zC,?zD,?zE,trivial⟩;all_goals intro u w' i b
  all_goals simp only[z1,z2,z3,z4,an,Act.put,z5,z6,z7,Nat.reduceAdd,Nat.zero_add]
  case zG=>
   simp only[show u 0=_ from b 0];refine aB ?_;exact ar _ _ rfl ⟨g,0,none⟩ rfl [Value.int .i64 t, .int .i64 c, .int .i64 n, .string s] _ (fun ah v ag=>E.out _ i ah v ag) Tryz.underlying43 rfl eM ⟨_,rfl,Fr.refl _ _,rfl⟩
  case zH=>
   simp only[show u 1=_ from b 1];refine aB ?_;go_simp;refine(D.out _).mono ?_;rintro e aa⟨d,rfl,l,f4⟩;exact⟨_,rfl,f4,d,rfl,l⟩
  case zI=>
   obtain⟨d,ad,l⟩:=b 2;simp only[ad];refine aB ?_;have t1:(d==0)=P:=l;go_simp;exact⟨_,rfl,Fr.refl _ _,rfl⟩
  case' zJ=>simp only[show u 3=_ from b 3]
  case' zK=>
   simp only[show u 4=_ from b 4];cases P;case false=>exact iz
  case zL=>
   simp only[show u 5=_ from b 5,show u 4=_ from b 4];cases P;case false=>exact iz
   refine aB ?_;have q:=ac.out _ i;go_simp;exact⟨_,rfl,Fr.refl _ _,rfl⟩
  case zM=>
   simp only[show u 6=_ from b 6,show u 4=_ from b 4];cases P;case false=>exact iz
   refine aB ?_;go_simp;refine(N.out _ (F.out.trans i)).mono ?_;rintro e aa⟨rfl,f4⟩;exact⟨_,rfl,f4,rfl⟩
  case' zN=>
   simp only[show u 4=_ from b 4,show u 7=_ from b 7];cases P
  case' zO=>
   simp only[show u 8=_ from b 8];cases P
  case' zA=>
   simp only[show u 9=_ from b 9];cases P;case false=>exact iz
   cases Q;case false=>exact iz
  case zB=>
   simp only[show u 10=_ from b 10,show u 9=_ from b 9];cases P;case false=>exact iz
   cases Q;case false=>exact iz
   refine aB ?_;have q:=c5.out _ i;go_simp;exact⟨_,rfl,Fr.refl _ _,rfl⟩
  case zC=>
   simp only[show u 11=_ from b 11,show u 9=_ from b 9];cases P;case false=>exact iz
   cases Q;case false=>exact iz
   refine aB ?_;go_simp;refine(CW.out _ (F.out.trans i)).mono ?_;rintro e aa⟨rfl,f4⟩;exact⟨_,rfl,f4,rfl⟩
  case zD=>
   simp only[show u 9=_ from b 9,show u 12=_ from b 12];cases P<;>cases Q<;>exact aB (by go_simp;exact⟨_,rfl,Fr.refl _ _,congrArg Value.bool HB.out⟩)
  case' zE=>simp only[show u 13=_ from b 13]
  all_goals
   try simp only[cond]
   refine aB ?_;go_simp;exact⟨_,rfl,Fr.refl _ _,rfl⟩
 intro u w' i b;simp only[z1,z2,z3,z4,an,Act.put,z5,z6,z7,z8,z9,Nat.reduceAdd,Nat.zero_add,show u 14=_ from b 14 (by omega)];clear b;have ab:=Lib.hid (F.out.trans i);have G:Hid (O=B):=by
  rw[Hid,k.out,←HB.out];cases P<;>cases Q<;>cases R<;>rfl
 clear i k HB;go_wp2;go_ret;rw[G.out];exact⟨rfl,ab.out⟩
end Go.Proofs.YtphjagkehiklkaaGreatDoor
namespace Go.Proofs.YtphjagkehiklkaaGreatDoor
open Go.RowKit Go.Shelf
structure Wi(a W:World)(b:Nat)(l:List UInt8):Prop where
 fr:Fr af a W
 wr:∃v,Wr W b v l 0∧∀k,v.ownBlock=some k→a.heap.size≤k
 new:a.heap.size≤b
def lX(W W':World):Prop:=∀g t cs,ak W g t cs→t≠185→t≠5→ak W' g t cs
theorem lX.of{W W':World}(h:Fr af W W'):lX W W':=fun _ _ _ a _ _=>a.fr h (fun x=>x)
theorem lX.trans{W W' a:World}(h:lX W W')(k:lX W' a):lX W a:=fun g t cs d b c=>k g t cs (h g t cs d b c) b c
theorem Wi.later{b W W':World}{a:Nat}{l:List UInt8}(h:Wi b W a l)(f:Fr af W W'):Wi b W' a l:=by
 obtain⟨v,c,d⟩:=h.wr;exact⟨h.fr.trans f,⟨v,c.bV f (fun _ _ x=>x),d⟩,h.new⟩
def rX(b W:World)(a:Nat)(l:List UInt8)(e:Ending)(W':World):Prop:=e= .returned (.tuple #[])∧Wi b W' a l∧lX W W'
theorem Wi.step{c W W':World}{a:Nat}{l f:List UInt8}{v j:Value}(h:Wi c W a l)(hw:Wr W a v l 0)(d:∀k,v.ownBlock=some k→c.heap.size≤k)(st:cF W a v W' j (f,0)):Wi c W' a f∧lX W W':=by
 refine⟨⟨h.fr.ao st.fr (fun i p e=>?_),⟨j,st.wr,fun k o=>?_⟩,h.new⟩,fun g t cs b m n=>b.fr st.fr (fun e=>?_)⟩
 ·rcases e with e|e;·have:=h.new;omega
  ·have:=d i e;omega
 ·rcases st.dD k o with e|e;·exact d k e
  ·exact Nat.le_trans h.fr.size e
 ·rcases e with e|e;·exact dB b hw.az m e
  ·exact bh hw.own b (fun x=>n x.symm) e
theorem Wi.number{c W:World}{a:Nat}{l:List UInt8}(h:Wi c W a l)(n:Nat)(f:l.length≤1099511627776)(g:n≤9223372036854775807):
  Calls Tryz.prog 63 #[.pointer (some ⟨a,0,none⟩), .int .i64 (n:Int)] W (rX c W a (l++enc n)):=by
 obtain⟨v,b,d⟩:=h.wr;refine(iL a v l 0 (n:Int) W b f (by omega)).mono ?_;rintro e w'⟨rfl,i,st⟩;rw[gN]at st;exact⟨rfl,h.step b d st⟩
theorem Wi.text{c W:World}{a:Nat}{l:List UInt8}(h:Wi c W a l)(s:ByteArray)(f:l.length≤1099511627776)(g:s.size≤16777216):
  Calls Tryz.prog 65 #[.pointer (some ⟨a,0,none⟩), .string s] W (rX c W a (l++aY (aC s))):=by
 obtain⟨v,b,d⟩:=h.wr;refine(kF a v l 0 s W b f (by omega)).mono ?_;rintro e w'⟨rfl,i,st⟩;rw[gO _ _ (by omega),ua]at st;exact⟨rfl,h.step b d st⟩
theorem Wi.flag{d W:World}{a:Nat}{l:List UInt8}(h:Wi d W a l)(b:Bool)(i:l.length≤1099511627776):
  Calls Tryz.prog 66 #[.pointer (some ⟨a,0,none⟩), .bool b] W (rX d W a (l++gZ b)):=by
 obtain⟨v,c,g⟩:=h.wr;refine(AU a v l 0 b W c i).mono ?_;rintro e w'⟨rfl,j,st⟩;have f:qP (l,0) b=(l++gZ b,0):=by unfold qP;rw[if_pos rfl];rfl
 rw[f]at st;exact⟨rfl,h.step c g st⟩
theorem Wi.start{b W:World}(h:Fr af b W):
  Calls Tryz.prog 61 #[] W (fun e W'=>e= .returned (.pointer (some ⟨W.heap.size,0,none⟩))∧Wi b W' W.heap.size []∧Fr af W W'):=by
 refine(kb W).mono ?_;rintro e w'⟨rfl,c,a⟩;exact⟨rfl,⟨h.trans a,⟨_,c,fun k d=>by simp[Value.ownBlock]at d⟩,h.size⟩,a⟩
theorem xq(p W:World)(b:Nat)(l:List UInt8)(h:Wi p W b l)(n:l.length≤1099511627776):
  Calls Tryz.prog 67 #[.pointer (some ⟨b,0,none⟩)] W (aH W (.tuple #[.string ⟨l.toArray⟩, .int .i64 0])):=by
 obtain⟨v,d,k⟩:=h.wr;have c:Hid (Calls Tryz.prog 103 #[.pointer (some ⟨b,0,none⟩)] W (si W l 0)):=nN b v l 0 W d n;clear d k h;go_enter Tryz.func67,Tryz.ntmps67;go_wp2_with fail;refine c.out.mono ?_;rintro e w1⟨_,f⟩;obtain⟨q,rfl,a⟩:=f rfl;obtain⟨g,o,j,rfl,i,_⟩:=aP a.own;have m:=lR w1 _ g o j _ (oz.rd a.own i.out);have F:=Lib.hid a.al;clear a f c;go_wp2;go_ret2;exact⟨rfl,F.out⟩
theorem uf(N W:World)(m:Nat)(l:List UInt8)(k:dV)(h:Wi N W m l)(L:l.length≤1000000000000)(K:de k=true)(o:k.ez.size≤16777216):
  Calls Tryz.prog 62 #[.agg k.cells.toArray, .pointer (some ⟨m,0,none⟩)] W (rX N W m (l++oG k)):=by
 obtain⟨t,c,n,s⟩:=k;simp only at o;simp only[de,Bool.and_eq_true,decide_eq_true_eq]at K;obtain⟨⟨⟨⟨t0,t1⟩,i,j⟩,⟨n0,n1⟩,_⟩,_⟩:=K;obtain⟨t,rfl⟩:∃q:Nat,t=(q:Int):=⟨t.toNat,by omega⟩;obtain⟨c,rfl⟩:∃q:Nat,c=(q:Int):=⟨c.toNat,by omega⟩;obtain⟨n,rfl⟩:∃q:Nat,n=(q:Int):=⟨n.toNat,by omega⟩;have x:=Lib.hid h;have S:=Lib.hid o;have O:=aO t;have P:=aO c;have Q:=aO n;have R:Hid (l.length≤1000000000000):=L;have w:Hid (l++oG ⟨t,c,n,s⟩=((l++enc t)++enc c++enc n)++aY (aC s)):=by simp[Hid,oG]
 have U:Hid ((l++enc t).length≤1099511627776):=by simp only[Hid,List.length_append];omega
 have V:Hid ((l++enc t++enc c).length≤1099511627776):=by simp only[Hid,List.length_append];omega
 have X:Hid ((l++enc t++enc c++enc n).length≤1099511627776):=by simp only[Hid,List.length_append];omega
 have f:Hid (t≤1073741824∧c≤2∧n≤999999):=⟨by omega,by omega,by omega⟩;unfold dV.cells;rw[w.out];clear h o L t0 t1 i j n0 n1 O P Q w;go_enter Tryz.func62,Tryz.ntmps62;go_wp2_with(refine au rfl 43 (.tmp 0) rfl _ rfl ?_);intro w1 n1;have a:Hid (ak w1 W.heap.size 43 #[.int .i64 (t:Int), .int .i64 (c:Int), .int .i64 (n:Int), .string s]):=n1.az;have C:=Lib.hid (x.out.later n1.fr);have y:=Lib.hid (lX.of n1.fr);clear n1 x;generalize W.heap.size=g at*;have i:w1.cell? ⟨g,0,none⟩=some (.int .i64 t):=a.out.cell 0;go_wp2_with fail;refine(C.out.number t (by have:=R.out;omega) (by have:=f.out;omega)).mono ?_;rintro e w2⟨rfl,G,p⟩;have D:=Lib.hid G;have b:=Lib.hid (p _ _ _ a.out (by decide) (by decide));have z:=Lib.hid (y.out.trans p);clear G p i C a y;have j:w2.cell? ⟨g,1,none⟩=some (.int .i64 c):=b.out.cell 1;go_wp2_with fail;refine(D.out.number c U.out (by have:=f.out;omega)).mono ?_;rintro e aa⟨rfl,H,r⟩;have E:=Lib.hid H;have d:=Lib.hid (r _ _ _ b.out (by decide) (by decide));have A:=Lib.hid (z.out.trans r);clear H r j D b z;have Z:aa.cell? ⟨g,2,none⟩=some (.int .i64 n):=d.out.cell 2;go_wp2_with fail;refine(E.out.number n V.out (by have:=f.out;omega)).mono ?_;rintro e ab⟨rfl,I,u⟩;have F:=Lib.hid I;have v:=Lib.hid (u _ _ _ d.out (by decide) (by decide));have B:=Lib.hid (A.out.trans u);clear I u Z E d A;have c3:ab.cell? ⟨g,3,none⟩=some (.string s):=v.out.cell 3;go_wp2_with fail;refine(F.out.text s X.out S.out).mono ?_;rintro e ac⟨rfl,J,M⟩;have Y:=Lib.hid J;have T:=Lib.hid (B.out.trans M);clear J M c3 F v B;go_wp2;go_end0;exact⟨rfl,Y.out,T.out⟩
end Go.Proofs.YtphjagkehiklkaaGreatDoor
