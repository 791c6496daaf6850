/- Texts. -/
import Derived.Test.YtphjagkehiklkaaGreatDoorUK32
import Derived.Test.YtphjagkehiklkaaGreatDoorUK37
set_option linter.unusedVariables false
set_option linter.unusedSimpArgs false
set_option maxRecDepth 100000
set_option maxHeartbeats 4000000
namespace Go.Proofs.YtphjagkehiklkaaGreatDoor
open Go.RowKit Go.Shelf
def Bf(w:World)(e:Ending)(w':World):Prop:=∃cs a,e= .returned (.agg cs.toArray)∧ck w' cs a∧fX a∧jE w.heap.size cs∧Fr af w w'
def Bv:Array Value:=#[.string ⟨#[49]⟩, .string ⟨#[49,46,49]⟩, .string ⟨#[50]⟩, .string ⟨#[49,48]⟩]
theorem GJ:∀{q:Nat},q<4→∃s:ByteArray,s.size≤100∧Bv[q]? =some (.string s)
 |0,_=>⟨_,by decide,rfl⟩
 |1,_=>⟨_,by decide,rfl⟩
 |2,_=>⟨_,by decide,rfl⟩
 |3,_=>⟨_,by decide,rfl⟩
 |q+4,h=>by omega
theorem zA(t c n:Int):Tryz.prog.built 43 [(0, .int .i64 t),(1, .int .i64 c),(2, .int .i64 n)]=some [Value.int .i64 t, .int .i64 c, .int .i64 n, .string ByteArray.empty].toArray:=by kernel_rfl
theorem Dn:(Tryz.prog.info? 41).map (fun i=>(i.zero,i.size,i.bytes))=some (some (.string ByteArray.empty),1,16):=by kernel_rfl
theorem Fb:(Tryz.prog.info? 72).map (·.size)=some 6:=by kernel_rfl
theorem xA(cs:List Value)(w:World)(b:q8 w cs):Calls Tryz.prog 30 #[.agg cs.toArray] w (Bf w):=by
 obtain⟨t,c,n,l,V,nr,Z,xs,bC,W,nw,aa,b2,bD,g,m,rfl,⟨a6,a7,F⟩,a8,ac,ba⟩:=b;have aZ:Hid (∀w',Fr af w w'→Calls Tryz.prog 81 #[.slice V nr Z] w' (nU w')):=fun w' f=>me nr xs V Z bC w' (a6.al f) a7 F;have a0:Hid (∀w',Fr af w w'→Calls Tryz.prog 81 #[.slice W nw aa] w' (nU w')):=fun w' f=>me nw b2 W aa bD w' (a8.al f) ac ba;have aY:=Lib.hid (zA t c n);have bs:Hid (∀(s:ByteArray)(A B:Option Addr)(x y z u:Nat),Tryz.prog.built 46 [(0, .agg [Value.int .i64 t, .int .i64 c, .int .i64 n, .string s].toArray),(1, .slice A x y),(2, .slice B z u)]=some ([Value.int .i64 t, .int .i64 c, .int .i64 n, .string s]++[Value.slice A x y, .slice B z u]).toArray):=fun s A B x y z u=>uL t c n s A B x y z u;obtain⟨q,be,aP⟩:∃q:Nat,l.tmod 4=(q:Int)∧q<4:=⟨(l.tmod 4).toNat,by rw[Int.tmod_eq_emod_of_nonneg g];omega,by rw[Int.tmod_eq_emod_of_nonneg g];omega⟩;have ax:=Lib.hid aP;clear a6 a7 F a8 ac ba;have bv:Hid (0≤l∧l<256):=⟨g,m⟩;clear g m;go_enter Tryz.func30,Tryz.ntmps30;go_wp2_with(refine au rfl 72 (.tmp 0) rfl _ rfl ?_);intro w1 n1;have av:=Lib.hid n1.fr;have ae:=Lib.hid n1.az;clear n1;generalize Q:w.heap.size=g1 at*;have bu:=Lib.hid Q;clear Q;go_wp2_with(refine ai rfl 46 rfl dU jN #[.int .i64 0, .int .i64 0, .int .i64 0, .string ByteArray.empty, .slice none 0 0, .slice none 0 0] rfl ?_);intro w2 bi;have Y:=Lib.hid bi;clear bi;generalize R:w1.heap.size=g2 at*;have N:=Lib.hid R;clear R;have aW:Hid (ak w2 g2 46 #[.int .i64 0, .int .i64 0, .int .i64 0, .string ByteArray.empty, .slice none 0 0, .slice none 0 0]):=by have h:=Y.out.az;rw[N.out]at h;exact h
 have X:=Lib.hid (av.out.trans Y.out.fr);have o:=Lib.hid (ae.out.fr Y.out.fr (fun x=>x));have E:Hid (w.heap.size≤g2∧g1<g2):=by have:=av.out.size;have:=N.out;have:=ae.out.lt;exact⟨by omega,by omega⟩
 clear Y ae av;have bS:w2.cell? ⟨g1,0,none⟩=some (.int .i64 t):=o.out.cell 0;have aU:w2.cell? ⟨g1,1,none⟩=some (.int .i64 c):=o.out.cell 1;have bT:w2.cell? ⟨g1,2,none⟩=some (.int .i64 n):=o.out.cell 2;go_wp2_with(refine dH rfl 43 _ rfl [Value.int .i64 t, .int .i64 c, .int .i64 n, .string ByteArray.empty].toArray _ (by simp only[List.map_toArray,List.map_cons,List.map_nil];rfl) aY.out (aR.go ?zB));unfold aR;go_wp2_with(refine ai rfl 43 rfl xt Bb #[.int .i64 0, .int .i64 0, .int .i64 0, .string ByteArray.empty] rfl ?_);intro bZ n3;have aC:=Lib.hid n3;clear n3 bS aU bT;generalize S:w2.heap.size=g3 at*;have G:=Lib.hid S;clear S;have aX:Hid (ak bZ g3 43 #[.int .i64 0, .int .i64 0, .int .i64 0, .string ByteArray.empty]):=by have h:=aC.out.az;rw[G.out]at h;exact h
 have aD:Hid ([Value.int .i64 t, .int .i64 c, .int .i64 n, .string ByteArray.empty].toArray.all (·.oneCell')=true):=by simp[Hid,Value.oneCell']
 go_wp2_with(refine ah rfl 43 (.tmp 3) _ rfl g3 [Value.int .i64 t, .int .i64 c, .int .i64 n, .string ByteArray.empty].toArray rfl rfl _ _ aX.out eM rfl aD.out ?_);intro aV b4 f4;have ag:Hid (ak aV g3 43 #[.int .i64 t, .int .i64 c, .int .i64 n, .string ByteArray.empty]):=b4;have M:Hid (Fr af w2 aV):=aC.out.fr.ao f4 (fun i bJ e=>by have O:i=g3:=e;have:=G.out;omega);clear b4 f4 aC aX;have aw:Hid (g2<g3):=by have:=aW.out.lt;have:=G.out;simp only[Hid];omega
 have aU:aV.cell? ⟨g1,1,none⟩=some (.int .i64 c):=(o.out.fr M.out (fun x=>x)).cell 1;obtain⟨D,bb⟩:∃z:Bool,(c !=0)=z:=⟨_,rfl⟩;have aK:decide (c=0)=!D:=by rw[←bb];by_cases h:c=0<;>simp[h]
 go_upto_if 13 with fail;clear bb aK aU;go_cut[1,2,3](fun bP bQ bR bo=>bP= .pointer (some ⟨g1,0,none⟩)∧bQ= .pointer (some ⟨g2,0,none⟩)∧bR= .pointer (some ⟨g3,0,none⟩)∧Fr af w2 bo∧∃s:ByteArray,s.size≤100∧ak bo g3 43 #[.int .i64 t, .int .i64 c, .int .i64 n, .string s]);case first=>
  cases D;·go_wp2;go_meet;exact⟨rfl,rfl,rfl,M.out,ByteArray.empty,by decide,ag.out⟩
  ·obtain⟨i0,bK,bh,U,bL⟩:=info_parts Dn;have bH:Hid (¬4*i0.size>2^24):=by simp only[Hid];rw[U];omega
   have bI:Hid (¬4*i0.size=0):=by simp only[Hid];rw[U];omega
   have b8:IntKind.u8.wrap (q:Int)=(q:Int):=IntWalk.u8_in _ (by have:=ax.out;omega);have b6:(q:Int)<4:=by have:=ax.out;omega
   have b7:(0:Int)≤(q:Int):=by omega
   go_upto_region 3 with fail;refine AY 6 [⟨fun r C=>∃i:Nat,r= .slice (some ⟨i,0,none⟩) 4 4∧ak C i 41 Bv,fun _ _ _ f⟨i,e,h⟩=>⟨i,e,h.fr f (fun x=>x)⟩⟩,iS (.pointer (some ⟨g1,3,none⟩)),iS (.int .u8 l),iS (.int .u8 (q:Int)),⟨fun r C=>∃(i:Nat)(s:ByteArray),s.size≤100∧r= .pointer (some ⟨i,q,none⟩)∧C.cell? ⟨i,q,none⟩=some (.string s),fun _ _ _ f⟨i,s,h,e,c⟩=>⟨i,s,h,e,f.aj c (fun x=>x)⟩⟩,⟨fun r _=>∃s:ByteArray,s.size≤100∧r= .string s,fun _ _ _ _ h=>h⟩] ?zD ?_;case zD=>
    refine⟨?zL,?zS,?zM,?zN,?zO,?zP,trivial⟩;all_goals intro u w' d b
    all_goals simp only[z1,z2,z3,z4,an,Act.put,z5,z6,z7,Nat.reduceAdd,Nat.zero_add]
    case zL=>
     refine aB ?_;go_simp;exact⟨_,rfl,(Fr.refl _ _).alloc _,⟨w'.heap.size,rfl,ak.new _ _ _⟩⟩
    case zM=>
     simp only[show u 1=_ from b 1];refine aB ?_;have q:_=some _:=(o.out.fr (M.out.trans d) (fun x=>x)).cell 3;go_simp;exact⟨_,rfl,Fr.refl _ _,rfl⟩
    case zN=>
     simp only[show u 2=_ from b 2];refine aB ?_;go_simp;exact⟨_,rfl,Fr.refl _ _,rfl⟩
    case zO=>
     obtain⟨aT,bF,b0⟩:=b 0;simp only[bF,show u 3=_ from b 3];refine aB ?_;obtain⟨bU,aQ,aN⟩:=GJ ax.out;go_simp;exact⟨_,rfl,Fr.refl _ _,⟨aT,bU,aQ,rfl,by rw[←aN];exact b0.cell q⟩⟩
    case zP=>
     obtain⟨i4,bW,aS,aH,b5⟩:=b 4;simp only[aH];refine aB ?_;go_simp;exact⟨_,rfl,Fr.refl _ _,⟨bW,aS,rfl⟩⟩
    all_goals
     refine aB ?_;go_simp;exact⟨_,rfl,Fr.refl _ _,rfl⟩
   intro u w' d b;obtain⟨ad,T,P⟩:=b 5 (by omega);simp only[z1,z2,z3,z4,an,Act.put,z5,z6,z7,z8,z9,Nat.reduceAdd,Nat.zero_add];clear b;simp only[P];have H:=Lib.hid (M.out.trans d);have am:=Lib.hid (ag.out.fr d (fun x=>x));have ay:=Lib.hid T;have aE:Hid ((Value.string ad).oneCell'=true):=by simp[Hid,Value.oneCell']
   clear d P T;go_wp2_with(refine aM rfl 41 _ _ rfl g3 3 (.string ad) rfl rfl aE.out tg _ _ #[.int .i64 t, .int .i64 c, .int .i64 n, .string ad] am.out (show 3<4 by decide) rfl ?_);intro bn L f6;have br:=Lib.hid L;have bt:Hid (Fr af w2 bn):=H.out.ao f6 (fun i bJ e=>by have O:i=g3:=e;have:=G.out;omega);clear L f6;go_wp2;go_meet;exact⟨rfl,rfl,rfl,bt.out,ad,ay.out,br.out⟩
 case rest=>
  obtain⟨rfl,rfl,rfl,d,s,bf,bc⟩:=hcut;have H:=Lib.hid d;have am:=Lib.hid bc;have bx:=Lib.hid bf;clear d bc bf ag M;have a2:Hid (ak wc g2 46 #[.int .i64 0, .int .i64 0, .int .i64 0, .string ByteArray.empty, .slice none 0 0, .slice none 0 0]):=aW.out.fr H.out (fun x=>x);have a1:=Lib.hid (o.out.fr H.out (fun x=>x));have ap:Hid (∀w',Fr (fun k=>k=g2) wc w'→Calls Tryz.prog 81 #[.slice V nr Z] w' (nU w')):=fun w' f=>aZ.out w' ((X.out.trans H.out).ao f (fun k zB e=>by have O:k=g2:=e;have:=E.out;omega));have aq:Hid (∀w',Fr (fun k=>k=g2) wc w'→Calls Tryz.prog 81 #[.slice W nw aa] w' (nU w')):=fun w' f=>a0.out w' ((X.out.trans H.out).ao f (fun k zB e=>by have O:k=g2:=e;have:=E.out;omega));have aA:Hid (w.heap.size≤wc.heap.size):=(X.out.trans H.out).size;have bz:Hid ((Tryz.prog.info? 46).map (·.size)=some 6):=bm;clear aZ a0 aY;go_upto_region 4 with fail;refine xp 9 (fun k=>k=g2) (fun i=>i==8) (fun i j=>(i==8&&(j==0||j==1||j==2||j==3||j==4||j==5||j==6||j==7))) [iS (.agg [Value.int .i64 t, .int .i64 c, .int .i64 n, .string s].toArray),iS (.pointer (some ⟨g1,4,none⟩)),iS (.slice V nr Z),⟨fun r C=>∃l,dh C r l∧l.length≤6∧(∀c∈l,du c)∧∀k,r.ownBlock=some k→wc.heap.size≤k,fun _ _ _ f⟨l,g,m⟩=>⟨l,g.al f,m⟩⟩,iS (.pointer (some ⟨g1,5,none⟩)),iS (.slice W nw aa),⟨fun r C=>∃l,dh C r l∧l.length≤6∧(∀c∈l,du c)∧∀k,r.ownBlock=some k→wc.heap.size≤k,fun _ _ _ f⟨l,g,m⟩=>⟨l,g.al f,m⟩⟩,⟨fun r C=>∃(ds:List Value)(I:ActV),r= .agg ds.toArray∧ck C ds I∧fX I∧jE wc.heap.size ds,fun _ _ _ f⟨l,a,aI,g,m⟩=>⟨l,a,aI,g.al f,m⟩⟩,⟨fun _ C=>∃(ds:List Value)(I:ActV),ak C g2 46 ds.toArray∧ck C ds I∧fX I∧jE wc.heap.size ds,fun _ _ _ f⟨l,a,aI,g,m⟩=>⟨l,a,aI.fr f (fun x=>x),g.al f,m⟩⟩] ?zC ?_;case zC=>
   refine⟨?zE,?zQ,?zF,?zG,?zR,?zH,?zI,?zJ,?zK,trivial⟩;all_goals intro u w' d b be
   all_goals simp only[z1,z2,z3,z4,an,Act.put,z5,z6,z7,Nat.reduceAdd,Nat.zero_add]
   case zE=>
    refine aB ?_;exact ar _ _ rfl ⟨g3,0,none⟩ rfl [Value.int .i64 t, .int .i64 c, .int .i64 n, .string s] _ (fun bM v bg=>by rw[←List.getElem?_toArray]at bg;rw[Addr.add_mid,Nat.zero_add,(am.out.fr d (fun e=>by have a3:g3=g2:=e;have:=aw.out;omega)).cell bM];exact bg) Tryz.underlying43 rfl eM ⟨_,rfl,Fr.refl _ _,rfl⟩
   case zF=>
    simp only[show u 1=_ from b 1];refine aB ?_;have q:_=some _:=(a1.out.fr d (fun e=>by have a3:g1=g2:=e;have:=E.out;omega)).cell 4;go_simp;exact⟨_,rfl,Fr.refl _ _,rfl⟩
   case zG=>
    simp only[show u 2=_ from b 2];refine aB ?_;go_simp;refine(ap.out _ d).mono ?_;rintro e b1⟨v,l,rfl,g,m,K,f5,F⟩;exact⟨_,rfl,f5,l,g,m,K,fun k zB=>by have:=F k zB;have:=d.size;omega⟩
   case zH=>
    simp only[show u 4=_ from b 4];refine aB ?_;have q:_=some _:=(a1.out.fr d (fun e=>by have a3:g1=g2:=e;have:=E.out;omega)).cell 5;go_simp;exact⟨_,rfl,Fr.refl _ _,rfl⟩
   case zI=>
    simp only[show u 5=_ from b 5];refine aB ?_;go_simp;refine(aq.out _ d).mono ?_;rintro e b1⟨v,l,rfl,g,m,K,f5,F⟩;exact⟨_,rfl,f5,l,g,m,K,fun k zB=>by have:=F k zB;have:=d.size;omega⟩
   case zJ=>
    obtain⟨bN,K,b3,bV,n3⟩:=b 3;obtain⟨bO,F,L,bX,n6⟩:=b 6;simp only[show u 0=_ from b 0];refine aB ?_;obtain⟨bp,m3,c3,a4,K⟩:=K.form;obtain⟨bq,m6,bE,a5,F⟩:=F.form;rw[a4]at n3;rw[a5]at n6;simp only[a4,a5];exact iu 46 _ rfl ([Value.int .i64 t, .int .i64 c, .int .i64 n, .string s]++[Value.slice bp m3 c3, .slice bq m6 bE]).toArray _ (by simp only[List.map_toArray,List.map_cons,List.map_nil];rfl) (bs.out _ _ _ _ _ _ _) ⟨_,rfl,Fr.refl _ _,⟨_,⟨⟨t,c,n,s⟩,bN,bO⟩,rfl,⟨_,_,rfl,K,F⟩,⟨bx.out,bV,bX,b3,L⟩,sQ (k:=⟨t,c,n,s⟩) n3 n6⟩⟩
   case zK=>
    obtain⟨J,aG,bG,aF,bY,bj⟩:=b 7;simp only[bG];refine aB ?_;have aJ:∃ab,ak w' g2 46 ab∧ab.size=6:=⟨_,a2.out.fr be (fun x=>x),rfl⟩;have bd:J.toArray.size=6:=by rw[List.size_toArray,aF.len]
    obtain⟨ab,aL,aO⟩:=aJ;refine Lt.j6 46 (.tmp 2) (.tmp 28) rfl g2 J.toArray rfl rfl _ ab aL (by rw[bd];exact bz.out) (by rw[aO,bd]) (ActV.one aF) ?_;intro bn L f6;exact⟨_,rfl,⟨d.trans f6,jJ,jJ,jJ,jJ,jJ,jJ,jJ,jJ,jJ,trivial⟩,⟨J,aG,L,aF.vY bj f6 (fun k e=>by have O:k=g2:=e;have:=a2.out.lt;omega),bY,bj⟩⟩
   all_goals
    refine aB ?_;go_simp;exact⟨_,rfl,Fr.refl _ _,rfl⟩
  intro u w' d b;have ac:=b 8 (by omega);simp only[z1,z2,z3,z4,an,Act.put,z5,z6,z7,z8,z9,Nat.reduceAdd,Nat.zero_add];clear b;obtain⟨ds,I,b9,a9,bl,bk⟩:=ac;have bB:=Lib.hid b9;have bA:Hid ((Tryz.prog.info? 46).map (·.size)=some ds.toArray.size):=by rw[Hid,List.size_toArray,a9.len];exact bm
  have bw:Hid (Bf w (.returned (.agg ds.toArray)) w'):=⟨ds,I,rfl,a9,bl,bk.mono aA.out,(X.out.trans H.out).ao d (fun k zB e=>by have O:k=g2:=e;have:=E.out;omega)⟩;clear d b9 a9 bl bk;go_wp2;exact bodyPost_ret (results_cell_row (fn:=Tryz.f30) (p:=2) (ty:=46) Tryz.results30 _ w' _ 46 ds.toArray (0,0) _ rfl bB.out Tryz.underlying46 rfl bA.out) rfl bw.out
end Go.Proofs.YtphjagkehiklkaaGreatDoor
namespace Go.Proofs.YtphjagkehiklkaaGreatDoor
open Go.RowKit Go.Shelf
def Et(w:World)(X:List Ent)(e:Ending)(w':World):Prop:=∃s,e= .returned (.pointer (some ⟨s,0,none⟩))∧ew w' s X∧Fr af w w'
theorem AO(cs:List Value)(b:Nat)(E:List Ent)(L:List ActV)(k:Nat)(w:World)(ai:Mod w cs b E L)(T:dy w)(S:ct 24 E)(K:gL L)(am:k≤L.length):
  Calls Tryz.prog 41 #[.agg cs.toArray, .int .i64 (k:Int)] w (Et w (eU (L.take k) E)):=by
 obtain⟨A,n,c,rfl,N,ak,U,ah,h,B⟩:=ai;have I:Hid (∀j,j<L.length→∃r f a,A=some r∧L[j]? =some a∧ck w f a∧f.length=6∧∀i x,f[i]? =some x→w.cell? ((r.add (j*6)).add i)=some x):=fun j G=>rY h B N G;have u:Hid (k≤n∧n≤16∧n=L.length):=by have:=K.len;exact⟨by omega,by omega,N⟩
 have ac:=Lib.hid T;have Z:=Lib.hid S;have v:=Lib.hid K;have HB:=Lib.hid U;clear h B N ak T S K U am;go_enter Tryz.func41,Tryz.ntmps41;go_wp2_with(refine au rfl 28 (.tmp 0) rfl _ rfl ?_);intro w1 n1;have t:=Lib.hid n1.fr;have P:=Lib.hid n1.az;clear n1;generalize w.heap.size=g1 at*;have aq:w1.cell? ⟨g1,0,none⟩=some (.pointer (some ⟨b,0,none⟩)):=P.out.cell 0;have ae:=Lib.hid (HB.out.al t.out);go_wp2;go_loopw[5,6](fun s i wr=>∃(j F:Nat),j≤k∧s= .pointer (some ⟨F,0,none⟩)∧i= .int .i64 (j:Int)∧ew wr F (eU (L.take j) E)∧Fr af w1 wr)(fun _ i _=>k-(intOf i).toNat);case atStart=>exact⟨0,b,Nat.zero_le _,rfl,rfl,by rw[List.take_zero];exact ae.out,Fr.refl _ _⟩
 case round=>
  obtain⟨j,s,G,rfl,rfl,W,V⟩:=hrel;have aa:=Lib.hid G;have R:=Lib.hid W;have o:=Lib.hid V;clear G W V;by_cases an:j<k
  ·have t0:decide ((j:Int)<(k:Int))=true:=decide_eq_true (by omega);obtain⟨r,f,a,rfl,l,y,z,d⟩:=I.out j (by have:=u.out;omega);have ao:wr.cell? ⟨g1,1,none⟩=some (.slice (some r) n c):=(P.out.fr o.out (fun x=>x)).cell 1;have i0:(j:Int)<(n:Int):=by have:=u.out;omega
   have i1:(0:Int)≤(j:Int):=by omega
   have ad:Hid ((Tryz.prog.info? 46).map (·.size)=some f.length):=by rw[Hid,z];exact bm
   have H:Hid (∀i x,f[i]? =some x→wr.cell? ((r.add (j*6)).add i)=some x):=fun i x O=>(t.out.trans o.out).aj (d i x O) (fun x=>x);have Y:Hid (ct (24+6*j) (eU (L.take j) E)):=by
    have:=kC (L.take j) E 24 Z.out (fun a M=>v.out.ok a (List.mem_of_mem_take M)) (fun a M=>v.out.small a (List.mem_of_mem_take M));rw[List.length_take,Nat.min_eq_left (by have:=u.out;omega)]at this;exact this
   have g:=List.mem_of_getElem? l;have Q:Hid (Calls Tryz.prog 86 #[.agg f.toArray, .pointer (some ⟨s,0,none⟩)] wr (lH wr (eU (L.take j) E) a.writes)):=kI _ a f _ s wr (y.al (t.out.trans o.out)) R.out (ac.out.al (t.out.trans o.out)) Y.out (v.out.small a g).writes (by have:=(v.out.small a g).nw;have:=u.out;omega);have ab:=Lib.hid (AI l E);have J:=Lib.hid (pc (v.out.ok a g));have ar:IntKind.i64.wrap ((j:Int)+1)=(j:Int)+1:=IntWalk.i64_in _ (by have:=u.out;omega);clear d l y z g;go_wp2_with(refine aw rfl 46 (.tmp 18) rfl (r.add (j*6)) rfl f _ ?zA Tryz.underlying46 rfl ad.out (aR.go ?zB));case zA=>exact H.out
   unfold aR;go_wp2_with fail;refine Q.out.mono ?_;rintro e ap⟨p,q,rfl,f3,m⟩;rcases m with⟨_,rfl,F,rfl,C⟩|⟨⟨x,O,D⟩,_⟩
   ·have X:=Lib.hid (o.out.trans f3);have ag:Hid (ew ap F (eU (L.take (j+1)) E)):=by rw[Hid,ab.out];exact C
    clear f3 C Q ao;go_wp2;go_roundw;case rel=>exact⟨j+1,F,by omega,rfl,by go_num,ag.out,X.out⟩
    case measure=>simp[intOf];omega
   ·rw[J.out x O]at D;cases D
  ·obtain rfl:j=k:=by have:=aa.out;omega
   have t0:decide ((j:Int)<(j:Int))=false:=decide_eq_false (by omega);go_wp2;go_ret;exact⟨s,rfl,R.out,t.out.trans o.out⟩
end Go.Proofs.YtphjagkehiklkaaGreatDoor
