/- Texts. -/
import Derived.Test.YtphjagkehiklkaaGreatDoorWK20
set_option linter.unusedVariables false
set_option linter.unusedSimpArgs false
set_option maxRecDepth 100000
set_option maxHeartbeats 4000000
namespace Go.Proofs.YtphjagkehiklkaaGreatDoor
open Go.RowKit Go.Shelf
structure mx(c:CV):Prop where
 owner:c.nm.owner.size≤1099511627776
 text:c.nm.text.size≤1099511627776
theorem gL.fit{c:CV}(h:gL c):mx c:=⟨by have:=h.owner;omega,by have:=h.text;omega⟩
def Gf(w:World)(b:Bool)(e:Ending)(w':World):Prop:=aJ w (.bool b) e w'
theorem q8(xs:List CV)(n:Nat)(A:Option Addr)(a2:Nat)(S:Nat→Prop)(w:World)(a9:eE w)(aP:CL w S A n xs)(ba:∀c∈xs,mx c)(bc:n≤1099511627776):
  Calls Tryz.prog 112 #[.slice A n a2] w (Gf w (fW xs)):=by
 have aX:=af aP;have bf:=af a9;have a0:=af ba;have aY:=af aP.len;have I:=af bc;have m:Hid (∀k,k<xs.length→eV xs k=false→fW xs=false):=fun k X h=>Fm X h;have C:Hid ((∀k,k<xs.length→eV xs k=true)→fW xs=true):=Fl;obtain⟨R,a⟩:∃R,fW xs=R:=⟨_,rfl⟩;rw[a]at m C⊢;clear aP ba a9 bc a;go_enter Tryz.func112,Tryz.ntmps112;go_wp2;go_loopw[7](fun i wr=>∃k:Nat,k≤n∧i= .int .i64 (k:Int)∧(∀j,j<k→eV xs j=true)∧Fr ag w wr)(fun i _=>n-(intOf i).toNat);case atStart=>exact⟨0,Nat.zero_le _,rfl,(fun j aR=>by omega),aD⟩
 case round=>
  obtain⟨k,X,rfl,a8,hF⟩:=hrel;have aI:=af hF;have a1:=af a8;clear a8 hF;by_cases ao:k<n
  ·have a7:(k:Int)<(n:Int):=by omega
   have bm:(0:Int)≤(k:Int):=by omega
   have t0:decide ((k:Int)<(n:Int))=true:=decide_eq_true a7;obtain⟨L,c,rfl,aQ,o⟩:=(aX.out.ar aI.out).at_ ao;have Z:=af o;have be:=af c.one;have G:Hid (xs[k]? =some c):=aQ;have aO:Hid (mx c):=a0.out c (List.mem_of_getElem? aQ);have aL:Hid (k<xs.length):=by rw[Hid,aY.out];exact ao
   clear o aQ;go_wp2_with(refine aF rfl 119 (.tmp 10) rfl _ rfl c.cells _ ?zP Tryz.underlying119 rfl jr (bj.go ?hold));case zP=>exact Z.out
   unfold bj;go_wp2_with(refine ak rfl 119 rfl di DW #[.int .i64 0, .string ByteArray.empty, .int .i64 0, .int .i64 0, .string ByteArray.empty, .string ByteArray.empty, .bool false] rfl ?_);intro bq bd;have aN:=af bd;clear bd;generalize am:wr.heap.size=g4 at*;have ab:=af am;clear am;have aT:Hid (aq bq g4 119 #[.int .i64 0, .string ByteArray.empty, .int .i64 0, .int .i64 0, .string ByteArray.empty, .string ByteArray.empty, .bool false]):=by have h:=aN.out.aH;rw[ab.out]at h;exact h
   go_wp2_with(refine ai rfl 119 (.tmp 4) _ rfl g4 c.cells.toArray rfl rfl _ _ aT.out jr rfl be.out ?_);intro U bb a5;have ax:Hid (aq U g4 119 c.cells.toArray):=bb;have aW:Hid (Fr ag wr U):=aN.out.fr.aw a5 (fun i bw e=>by have bt:i=g4:=e;have:=ab.out;omega);clear bb a5 aN aT Z;have Y:Hid (∀w',Fr ag U w'→∀j x,c.nm.cells[j]? =some x→w'.cell? ((⟨g4,0,none⟩:Addr).add j)=some x):=fun w' f j x au=>by
    rw[Addr.add_mid,Nat.zero_add,(ax.out.fr f (fun x=>x)).cell j,bR,CV.cells,List.getElem?_append_left (List.getElem?_eq_some_iff.1 au).1];exact au
   have p:Hid (Fr ag w U):=aI.out.trans aW.out;have K:Hid (jn c=(dA c.nm&&decide (c.value.size≤65536)&&(!c.bA||c.value.toList.isEmpty))):=rfl;have F:Hid (jn c=false→R=false):=fun h=>m.out k aL.out (by
    have e:=G.out;simp only[eV,e,h,Bool.false_and]);obtain⟨ok,T⟩:∃z,dA c.nm=z:=⟨_,rfl⟩;obtain⟨V,aC⟩:∃z,decide (65536<c.value.size)=z:=⟨_,rfl⟩;obtain⟨em,hem⟩:∃z,c.value.toList.isEmpty=z:=⟨_,rfl⟩;obtain⟨g,N⟩:∃z,c.bA=z:=⟨_,rfl⟩;have aV:Hid (∀w',Fr ag U w'→Calls Tryz.prog 115 #[.agg c.nm.cells.toArray] w' (fun e l=>∃t:Int,e= .returned (.int .i64 t)∧(t==0)=ok∧Fr ag w' l)):=fun w' f=>by
    rw[←T];exact kS c.nm w' (bf.out.ar (p.out.trans f)) (by have:=aO.out.owner;omega) (by have:=aO.out.text;omega)
   have al:decide (c.value.size≤65536)=!V:=by
    rw[←aC];by_cases h:c.value.size≤65536;·rw[decide_eq_true h,ct (by omega)];rfl
    ·rw[decide_eq_false h,dh (by omega)];rfl
   have aj:decide ((65536:Int)<(c.value.size:Int))=V:=by
    rw[←aC];exact decide_eq_decide.2 (by omega)
   rw[T,al,N,hem]at K;have ad:=af aj;have ac:=af aC;have aa:=af hem;have c5:Hid (∀w',Fr ag U w'→w'.cell? {block:=g4,off:=5}=some (.string c.value)):=fun w' f=>(ax.out.fr f (fun x=>x)).cell 5;have a3:Hid (∀w',Fr ag U w'→w'.cell? {block:=g4,off:=6}=some (.bool g)):=fun w' f=>by rw[←N];exact(ax.out.fr f (fun x=>x)).cell 6
   clear T aC hem N al aj;obtain⟨aE,ah⟩:∃z:Bool,(bif ok then(bif V then true else(bif g then(!em)else false))else true)=z:=⟨_,rfl⟩;have E:=af ah;clear ah;go_upto_region 4 with fail;refine Dh 19 [iS (.pointer (some ⟨g4,0,none⟩)),iS (.agg c.nm.cells.toArray),⟨fun br _=>∃t:Int,br= .int .i64 t∧(t==0)=ok,fun _ _ _ _ h=>h⟩,iS (.bool (!ok)),iS (.bool (!ok)),iS ((bif ok then .pointer (some ⟨g4,5,none⟩)else undef)),iS ((bif ok then .string c.value else undef)),iS ((bif ok then .int .i64 (c.value.size:Nat)else undef)),iS ((bif ok then .bool V else undef)),iS ((bif ok then .bool V else .bool true)),iS ((bif ok then .bool V else .bool true)),iS ((bif ok then(bif V then undef else .pointer (some ⟨g4,6,none⟩))else undef)),iS ((bif ok then(bif V then undef else .bool g)else undef)),iS ((bif ok then(bif V then undef else .bool g)else undef)),iS ((bif ok then(bif V then undef else(bif g then .pointer (some ⟨g4,5,none⟩)else undef))else undef)),iS ((bif ok then(bif V then undef else(bif g then .string c.value else undef))else undef)),iS ((bif ok then(bif V then undef else(bif g then .bool (!em)else undef))else undef)),iS ((bif ok then(bif V then undef else(bif g then .bool (!em)else .bool false))else undef)),iS (.bool aE)] ?zQ ?_;case zQ=>
    refine⟨?yK,?zS,?zT,?zU,?zV,?zW,?zX,?zY,?zZ,?yA,?zA,?zB,?zC,?zD,?zE,?zF,?zG,?zH,?zI,trivial⟩;all_goals intro u w' b a
    all_goals simp only[z1,z2,z3,z4,ay,Act.put,z5,z6,z7,Nat.reduceAdd,Nat.zero_add]
    case zS=>
     simp only[show u 0=_ from a 0];refine aG ?_;exact az _ _ rfl ⟨g4,0,none⟩ rfl c.nm.cells _ (fun av v ap=>Y.out _ b av v ap) Tryz.underlying106 rfl bD ⟨_,rfl,aD,rfl⟩
    case zT=>
     simp only[show u 1=_ from a 1];refine aG ?_;go_simp;refine(aV.out _ b).mono ?_;rintro e bp⟨t,rfl,O,f4⟩;exact⟨_,rfl,f4,t,rfl,O⟩
    case zU=>
     obtain⟨t,aA,O⟩:=a 2;simp only[aA];refine aG ?_;have t1:(t !=0)=!ok:=by rw[bne,O]
     go_simp;exact⟨_,rfl,aD,rfl⟩
    case' zV=>simp only[show u 3=_ from a 3]
    case' zW=>
     simp only[show u 4=_ from a 4];cases ok;case false=>exact jm
    case zX=>
     simp only[show u 5=_ from a 5,show u 4=_ from a 4];cases ok;case false=>exact jm
     refine aG ?_;have q:=c5.out _ b;go_simp;exact⟨_,rfl,aD,rfl⟩
    case' zY=>
     simp only[show u 6=_ from a 6,show u 4=_ from a 4];cases ok;case false=>exact jm
    case zZ=>
     simp only[show u 7=_ from a 7,show u 4=_ from a 4];cases ok;case false=>exact jm
     refine aG ?_;have t1:=ad.out;have t2:=ac.out;go_simp;exact⟨_,rfl,aD,rfl⟩
    case' yA=>
     simp only[show u 4=_ from a 4,show u 8=_ from a 8];cases ok
    case' zA=>
     simp only[show u 9=_ from a 9];cases ok
    case' zB=>
     simp only[show u 10=_ from a 10];cases ok;case false=>exact jm
     cases V;case true=>exact jm
    case zC=>
     simp only[show u 11=_ from a 11,show u 10=_ from a 10];cases ok;case false=>exact jm
     cases V;case true=>exact jm
     refine aG ?_;have q:=a3.out _ b;go_simp;exact⟨_,rfl,aD,rfl⟩
    case' zD=>
     simp only[show u 12=_ from a 12,show u 10=_ from a 10];cases ok;case false=>exact jm
     cases V;case true=>exact jm
    case' zE=>
     simp only[show u 13=_ from a 13];cases ok;case false=>exact jm
     cases V;case true=>exact jm
     cases g;case false=>exact jm
    case zF=>
     simp only[show u 14=_ from a 14,show u 13=_ from a 13];cases ok;case false=>exact jm
     cases V;case true=>exact jm
     cases g;case false=>exact jm
     refine aG ?_;have q:=c5.out _ b;go_simp;exact⟨_,rfl,aD,rfl⟩
    case zG=>
     simp only[show u 15=_ from a 15,show u 13=_ from a 13];cases ok;case false=>exact jm
     cases V;case true=>exact jm
     cases g;case false=>exact jm
     refine aG ?_;have t1:=aa.out;go_simp;exact⟨_,rfl,aD,rfl⟩
    case' zH=>
     simp only[show u 13=_ from a 13,show u 16=_ from a 16,show u 10=_ from a 10];cases ok;case false=>exact jm
     cases V;case true=>exact jm
     cases g
    case zI=>
     simp only[show u 10=_ from a 10,show u 17=_ from a 17];cases ok<;>cases V<;>cases g<;>exact aG (by go_simp;exact⟨_,rfl,aD,congrArg Value.bool E.out⟩)
    all_goals
     try simp only[cond]
     refine aG ?_;go_simp;exact⟨_,rfl,aD,rfl⟩
   intro u w' b a;simp only[z1,z2,z3,z4,ay,Act.put,z5,z6,z7,z8,z9,Nat.reduceAdd,Nat.zero_add,show u 18=_ from a 18 (by omega)];clear a;have p:Hid (Fr ag w w'):=p.out.trans b;have Y:Hid (∀l,Fr ag w' l→∀j x,c.nm.cells[j]? =some x→l.cell? ((⟨g4,0,none⟩:Addr).add j)=some x):=fun l f=>Y.out l (b.trans f);clear b aV c5 a3 ad ac aa ax aW;generalize w'=w3 at*;have r:Hid (jn c=!aE):=by
    rw[Hid,K.out,←E.out];cases ok<;>cases V<;>cases g<;>cases em<;>rfl
   clear K E;cases y:aE;case true=>
    obtain rfl:R=false:=F.out (by rw[r.out,y];rfl);clear y r F;go_wp2;go_ret;exact⟨rfl,p.out⟩
   have D:Hid (jn c=true):=by rw[Hid,r.out,y];rfl
   clear y r F;obtain⟨q,bn⟩:∃q:Nat,k-1=q:=⟨_,rfl⟩;have aZ:Hid (0<k→(k:Int)-1=(q:Int)):=fun h=>by omega
   obtain⟨d,H⟩:∃d:CV,Hid (0<k→xs[q]? =some d):=by
    by_cases aB:0<k;·exact⟨_,fun _=>List.getElem?_eq_getElem (show q<xs.length by have:=aL.out;omega)⟩
    ·exact⟨c,fun h=>absurd h aB⟩
   have ae:Hid (0<k→some L=some L∧∀j x,d.nm.cells[j]? =some x→w3.cell? ((L.add (q*7)).add j)=some x):=fun h=>by
    obtain⟨bh,bs,bi,aA,bk⟩:=(aX.out.ar p.out).at_ (show q<n by omega);cases bi;rw[H.out h]at aA;cases aA;refine⟨rfl,fun j x au=>bk j x ?_⟩;rw[CV.cells,List.getElem?_append_left (List.getElem?_eq_some_iff.1 au).1];exact au
   have bg:Hid (0<k→mx d):=fun h=>a0.out d (List.mem_of_getElem? (H.out h));have aU:Hid (0<k→∀w',Calls Tryz.prog 128 #[.agg d.nm.cells.toArray, .agg c.nm.cells.toArray] w' (aJ w' (.int .i64 (cT d.nm c.nm)))):=fun h w'=>gN d.nm c.nm w' (by have:=(bg.out h).owner;omega) (by have:=aO.out.owner;omega);have J:Hid (eV xs k=!(decide (0<k)&&decide (0≤cT d.nm c.nm))):=by
    by_cases aB:0<k
    ·obtain⟨aS,rfl⟩:∃aS,k=aS+1:=⟨k-1,by omega⟩;obtain rfl:aS=q:=by omega
     rw[Hid,zM G.out (H.out aB),D.out,decide_eq_true aB,Bool.true_and,Bool.true_and];by_cases a6:cT d.nm c.nm<0;·rw[decide_eq_true a6,ct (show¬0≤cT d.nm c.nm by omega)];rfl
     ·rw[decide_eq_false a6,dh (show 0≤cT d.nm c.nm by omega)];rfl
    ·obtain rfl:k=0:=by omega
     rw[Hid,zN G.out,D.out];rfl
   obtain⟨P,W⟩:∃z:Bool,decide (0<k)=z:=⟨_,rfl⟩;obtain⟨Q,a4⟩:∃z:Bool,decide (0≤cT d.nm c.nm)=z:=⟨_,rfl⟩;obtain⟨B,M⟩:∃z:Bool,(bif P then Q else false)=z:=⟨_,rfl⟩;have HB:=af M;clear M;rw[W,a4]at J;clear bn;go_upto_region 6 with fail;refine jS 14 [.int .i64 (k:Int), .bool P, .bool P,bif P then .slice (some L) n a2 else undef,bif P then .int .i64 (k:Int)else undef,bif P then .int .i64 (q:Int)else undef,bif P then .pointer (some (L.add (q*7)))else undef,bif P then .pointer (some (L.add (q*7)))else undef,bif P then .agg d.nm.cells.toArray else undef,bif P then .pointer (some ⟨g4,0,none⟩)else undef,bif P then .agg c.nm.cells.toArray else undef,bif P then .int .i64 (cT d.nm c.nm)else undef,bif P then .bool Q else undef, .bool B] ?zR ?_;case zR=>
    refine⟨?yL,?yB,?yC,?yD,?yE,?yF,?yG,?yH,?yI,?yJ,?zJ,?zK,?zL,?zO,trivial⟩;all_goals intro u w' b a
    all_goals simp only[z1,z2,z3,z4,ay,Act.put,z5,z6,z7,Nat.reduceAdd,Nat.zero_add]
    case' yB=>simp only[show u 0=_ from a 0]
    case' yC=>simp only[show u 1=_ from a 1]
    case' yD=>
     simp only[show u 2=_ from a 2];cases P;case false=>exact bE
    case' yE=>
     simp only[show u 2=_ from a 2];cases P;case false=>exact bE
    case yF=>
     simp only[show u 4=_ from a 4,show u 2=_ from a 2];cases P;case false=>exact bE
     refine aG ?_;have X:=of_decide_eq_true W;have bu:(k:Int)-1=(q:Int):=aZ.out X;have bl:IntKind.i64.wrap (q:Int)=(q:Int):=IntWalk.i64_in _ (by have:=I.out;omega);go_simp;exact aM
    case yG=>
     simp only[show u 3=_ from a 3,show u 5=_ from a 5,show u 2=_ from a 2];cases P;case false=>exact bE
     refine aG ?_;have X:=of_decide_eq_true W;have bl:(q:Int)<(n:Int):=by have:=aZ.out X;omega
     have bv:(0:Int)≤(q:Int):=by omega
     go_simp;exact aM
    case' yH=>
     simp only[show u 6=_ from a 6,show u 2=_ from a 2];cases P;case false=>exact bE
    case yI=>
     simp only[show u 7=_ from a 7,show u 2=_ from a 2];cases P;case false=>exact bE
     refine aG ?_;exact az _ _ rfl (L.add (q*7)) rfl d.nm.cells _ (fun av v ap=>b.an ((ae.out (of_decide_eq_true W)).2 av v ap) (fun x=>x)) Tryz.underlying106 rfl bD aM
    case' yJ=>
     simp only[show u 2=_ from a 2];cases P;case false=>exact bE
    case zJ=>
     simp only[show u 9=_ from a 9,show u 2=_ from a 2];cases P;case false=>exact bE
     refine aG ?_;exact az _ _ rfl ⟨g4,0,none⟩ rfl c.nm.cells _ (fun av v ap=>Y.out _ b av v ap) Tryz.underlying106 rfl bD aM
    case zK=>
     simp only[show u 8=_ from a 8,show u 10=_ from a 10,show u 2=_ from a 2];cases P;case false=>exact bE
     refine aG ?_;go_simp;refine(aU.out (of_decide_eq_true W) _).mono ?_;rintro e bp⟨rfl,f4⟩;exact⟨rfl,f4⟩
    case' zL=>
     simp only[show u 11=_ from a 11,show u 2=_ from a 2];cases P;case false=>exact bE
    case zO=>
     simp only[show u 2=_ from a 2,show u 12=_ from a 12];cases P<;>exact aG (by go_simp;exact⟨by rw[←HB.out];rfl,aD⟩)
    all_goals
     try simp only[cond]
     refine aG ?_;go_simp;exact aM
   intro w' b;simp only[z1,z2,z3,z4,ay,Act.put,z5,z6,z7,z8,z9,jx,jy,Nat.reduceAdd,Nat.zero_add];have p:Hid (Fr ag w w'):=p.out.trans b;clear b aU ae W a4 Y;have s:Hid (eV xs k=!B):=by
    rw[Hid,J.out,←HB.out];cases P<;>cases Q<;>rfl
   clear J HB;cases M:B;case true=>
    obtain rfl:R=false:=m.out k aL.out (by rw[s.out,M];rfl);clear M s;go_wp2;go_ret;exact⟨rfl,p.out⟩
   have aK:Hid (eV xs k=true):=by rw[Hid,s.out,M];rfl
   clear M s;have bo:n≤1099511627776:=I.out;go_wp2;go_roundw;case rel=>
    refine⟨k+1,by omega,by go_num,fun j aR=>?_,p.out⟩;by_cases h:j=k;·rw[h];exact aK.out
    ·exact a1.out j (by omega)
   case measure=>have bo:=I.out;simp[intOf];omega
  ·obtain rfl:k=n:=by omega
   have a7:¬(k:Int)<(k:Int):=by omega
   obtain rfl:R=true:=C.out (fun j aR=>a1.out j (by rw[←aY.out];exact aR));go_wp2;go_ret;exact⟨rfl,aI.out⟩
theorem oi(a:ActV)(cs:List Value)(w:World)(L:eE w)(ae:df w cs a)(V:a.key.fA.size≤1099511627776)(W:∀c∈a.reads,mx c)(hw:∀c∈a.writes,mx c)(nr:a.reads.length≤1099511627776)(nw:a.writes.length≤1099511627776):
  Calls Tryz.prog 60 #[.agg cs.toArray] w (Gf w (gm a)):=by
 obtain⟨am,an,rfl,S,T⟩:=ae;obtain⟨p,aj,A,rfl,rfl,_,m⟩:=S.cl;obtain⟨r,ak,C,rfl,rfl,_,o⟩:=T.cl;have D:Hid (∀w',Calls Tryz.prog 111 #[.agg a.key.cells.toArray] w' (fun e M=>∃d:Int,e= .returned (.int .i64 d)∧(d==0)=dM a.key∧Fr ag w' M)):=fun w'=>vB a.key w' V;have N:Hid (∀w',Fr ag w w'→Calls Tryz.prog 112 #[.slice p a.reads.length A] w' (aJ w' (.bool (fW a.reads)))):=fun w' f=>q8 a.reads _ p A _ w' (L.ar f) (m.ar f) W nr;have CW:Hid (∀w',Fr ag w w'→Calls Tryz.prog 112 #[.slice r a.writes.length C] w' (aJ w' (.bool (fW a.writes)))):=fun w' f=>q8 a.writes _ r C _ w' (L.ar f) (o.ar f) hw nw;have k:Hid (gm a=(dM a.key&&fW a.reads&&fW a.writes)):=rfl;obtain⟨P,I⟩:∃z,dM a.key=z:=⟨_,rfl⟩;obtain⟨Q,J⟩:∃z,fW a.reads=z:=⟨_,rfl⟩;obtain⟨R,K⟩:∃z,fW a.writes=z:=⟨_,rfl⟩;obtain⟨O,H⟩:∃z,gm a=z:=⟨_,rfl⟩;rw[I]at D;rw[J]at N;rw[K]at CW;rw[I,J,K,H]at k;rw[H];generalize a.reads.length=Y at*;generalize a.writes.length=Z at*;obtain⟨⟨t,c,n,s⟩,_,_⟩:=a;simp only[eN.cells,List.cons_append,List.nil_append]at D⊢;clear L V W hw nr nw S T m o I J K H;go_enter Tryz.func60,Tryz.ntmps60;go_wp2_with(refine aA rfl 46 (.tmp 0) rfl _ rfl ?_);intro w1 n1;have F:=af n1.fr;have y:=af n1.aH;clear n1;generalize w.heap.size=g at*;have E:Hid (∀w',Fr ag w1 w'→∀j x,[Value.int .i64 t, .int .i64 c, .int .i64 n, .string s][j]? =some x→w'.cell? ((⟨g,0,none⟩:Addr).add j)=some x):=fun w' f j x X=>by
  rw[Addr.add_mid,Nat.zero_add,(y.out.fr f (fun x=>x)).cell j];rcases j with _|_|_|_|j<;>simp at X<;>simp[←X]
 have ac:Hid (∀w',Fr ag w1 w'→w'.cell? {block:=g,off:=4}=some (.slice p Y A)):=fun w' f=>(y.out.fr f (fun x=>x)).cell 4;have c5:Hid (∀w',Fr ag w1 w'→w'.cell? {block:=g,off:=5}=some (.slice r Z C)):=fun w' f=>(y.out.fr f (fun x=>x)).cell 5;clear y;obtain⟨B,U⟩:∃z:Bool,(bif P then(bif Q then R else false)else false)=z:=⟨_,rfl⟩;have HB:=af U;clear U;go_upto_region 1 with fail;refine Dh 15 [iS (.pointer (some ⟨g,0,none⟩)),iS (.agg [Value.int .i64 t, .int .i64 c, .int .i64 n, .string s].toArray),⟨fun al _=>∃d:Int,al= .int .i64 d∧(d==0)=P,fun _ _ _ _ h=>h⟩,iS (.bool P),iS (.bool P),iS ((bif P then .pointer (some ⟨g,4,none⟩)else undef)),iS ((bif P then .slice p Y A else undef)),iS ((bif P then .bool Q else undef)),iS ((bif P then .bool Q else .bool false)),iS ((bif P then .bool Q else .bool false)),iS ((bif P then(bif Q then .pointer (some ⟨g,5,none⟩)else undef)else undef)),iS ((bif P then(bif Q then .slice r Z C else undef)else undef)),iS ((bif P then(bif Q then .bool R else undef)else undef)),iS (.bool B),iS (.bool B)] ?zF ?_;case zF=>
  refine⟨?zP,?zG,?zH,?zI,?zJ,?zK,?zL,?zM,?zN,?zO,?zA,?zB,?zC,?zD,?zE,trivial⟩;all_goals intro u w' i b
  all_goals simp only[z1,z2,z3,z4,ay,Act.put,z5,z6,z7,Nat.reduceAdd,Nat.zero_add]
  case zG=>
   simp only[show u 0=_ from b 0];refine aG ?_;exact az _ _ rfl ⟨g,0,none⟩ rfl [Value.int .i64 t, .int .i64 c, .int .i64 n, .string s] _ (fun ai v ah=>E.out _ i ai v ah) Tryz.underlying43 rfl fP ⟨_,rfl,aD,rfl⟩
  case zH=>
   simp only[show u 1=_ from b 1];refine aG ?_;go_simp;refine(D.out _).mono ?_;rintro e aa⟨d,rfl,l,f4⟩;exact⟨_,rfl,f4,d,rfl,l⟩
  case zI=>
   obtain⟨d,ad,l⟩:=b 2;simp only[ad];refine aG ?_;have t1:(d==0)=P:=l;go_simp;exact⟨_,rfl,aD,rfl⟩
  case' zJ=>simp only[show u 3=_ from b 3]
  case' zK=>
   simp only[show u 4=_ from b 4];cases P;case false=>exact jm
  case zL=>
   simp only[show u 5=_ from b 5,show u 4=_ from b 4];cases P;case false=>exact jm
   refine aG ?_;have q:=ac.out _ i;go_simp;exact⟨_,rfl,aD,rfl⟩
  case zM=>
   simp only[show u 6=_ from b 6,show u 4=_ from b 4];cases P;case false=>exact jm
   refine aG ?_;go_simp;refine(N.out _ (F.out.trans i)).mono ?_;rintro e aa⟨rfl,f4⟩;exact⟨_,rfl,f4,rfl⟩
  case' zN=>
   simp only[show u 4=_ from b 4,show u 7=_ from b 7];cases P
  case' zO=>
   simp only[show u 8=_ from b 8];cases P
  case' zA=>
   simp only[show u 9=_ from b 9];cases P;case false=>exact jm
   cases Q;case false=>exact jm
  case zB=>
   simp only[show u 10=_ from b 10,show u 9=_ from b 9];cases P;case false=>exact jm
   cases Q;case false=>exact jm
   refine aG ?_;have q:=c5.out _ i;go_simp;exact⟨_,rfl,aD,rfl⟩
  case zC=>
   simp only[show u 11=_ from b 11,show u 9=_ from b 9];cases P;case false=>exact jm
   cases Q;case false=>exact jm
   refine aG ?_;go_simp;refine(CW.out _ (F.out.trans i)).mono ?_;rintro e aa⟨rfl,f4⟩;exact⟨_,rfl,f4,rfl⟩
  case zD=>
   simp only[show u 9=_ from b 9,show u 12=_ from b 12];cases P<;>cases Q<;>exact aG (by go_simp;exact⟨_,rfl,aD,congrArg Value.bool HB.out⟩)
  case' zE=>simp only[show u 13=_ from b 13]
  all_goals
   try simp only[cond]
   refine aG ?_;go_simp;exact⟨_,rfl,aD,rfl⟩
 intro u w' i b;simp only[z1,z2,z3,z4,ay,Act.put,z5,z6,z7,z8,z9,Nat.reduceAdd,Nat.zero_add,show u 14=_ from b 14 (by omega)];clear b;have ab:=af (F.out.trans i);have G:Hid (O=B):=by
  rw[Hid,k.out,←HB.out];cases P<;>cases Q<;>cases R<;>rfl
 clear i k HB;go_wp2;go_ret;rw[G.out];exact⟨rfl,ab.out⟩
end Go.Proofs.YtphjagkehiklkaaGreatDoor
