/- Texts. -/
import Derived.Test.YtphjagkehiklkaaGreatDoorWK24
import Derived.Test.YtphjagkehiklkaaGreatDoorWK27
set_option linter.unusedVariables false
set_option linter.unusedSimpArgs false
set_option maxRecDepth 100000
set_option maxHeartbeats 8000000
namespace Go.Proofs.YtphjagkehiklkaaGreatDoor
open Go.RowKit Go.Shelf
def sh(w:World)(cs:List Value):Prop:=∃(t c n l:Int)(a:Option Addr)(nr d:Nat)(xs:List CV)(f:Nat→Prop)(b:Option Addr)(nw e:Nat)(h:List CV)(g:Nat→Prop),0≤l∧l<256∧
 cs=[Value.int .i64 t, .int .i64 c, .int .i64 n, .int .u8 l, .slice a nr d, .slice b nw e]∧(CL w f a nr xs∧nr≤9223372036854775807∧nr≤d)∧(CL w g b nw h∧nw≤9223372036854775807∧nw≤e)
theorem sh.ar{w w':World}{cs:List Value}(h:sh w cs)(a:Fr ag w w'):sh w' cs:=by
 obtain⟨t,c,n,l,b,nr,g,xs,e,d,nw,i,v,f,j,k,m,⟨o,p,q⟩,r,s,u⟩:=h;exact⟨t,c,n,l,b,nr,g,xs,e,d,nw,i,v,f,j,k,m,⟨o.ar a,p,q⟩,r.ar a,s,u⟩
def Dp(w:World)(e:Ending)(w':World):Prop:=∃cs a,e= .returned (.agg cs.toArray)∧df w' cs a∧gW a∧ke w.heap.size cs∧Fr ag w w'
def DC:Array Value:=#[.string ⟨#[49]⟩, .string ⟨#[49,46,49]⟩, .string ⟨#[50]⟩, .string ⟨#[49,48]⟩]
def KQ:Nat→ByteArray
 |0=>⟨#[49]⟩
 |1=>⟨#[49,46,49]⟩
 |2=>⟨#[50]⟩
 |3=>⟨#[49,48]⟩
 |_=>ByteArray.empty
theorem I8:∀{q:Nat},q<4→(KQ q).size≤100∧DC[q]? =some (.string (KQ q))
 |0,_=>⟨by decide,rfl⟩
 |1,_=>⟨by decide,rfl⟩
 |2,_=>⟨by decide,rfl⟩
 |3,_=>⟨by decide,rfl⟩
def Mc(t c n l:Int):eN:=⟨t,c,n,if c=0 then ByteArray.empty else KQ (l.tmod 4).toNat⟩
def Lf(k:eN)(w:World)(e:Ending)(w':World):Prop:=∃cs a,e= .returned (.agg cs.toArray)∧df w' cs a∧gW a∧ke w.heap.size cs∧Fr ag w w'∧a.key=k
theorem AS(t c n:Int):Tryz.prog.built 43 [(0, .int .i64 t),(1, .int .i64 c),(2, .int .i64 n)]=some [Value.int .i64 t, .int .i64 c, .int .i64 n, .string ByteArray.empty].toArray:=by kernel_rfl
theorem EU:(Tryz.prog.info? 41).map (fun i=>(i.zero,i.size,i.bytes))=some (some (.string ByteArray.empty),1,16):=by kernel_rfl
theorem Hh:(Tryz.prog.info? 72).map (·.size)=some 6:=by kernel_rfl
theorem Lv(t c n l:Int)(M:Option Addr)(nr P:Nat)(xs:List CV)(a3:Nat→Prop)(N:Option Addr)(nw Q:Nat)(bq:List CV)(a4:Nat→Prop)(w:World)(g:0≤l)(m:l<256)(a8:CL w a3 M nr xs)(ba:nr≤9223372036854775807)(F:nr≤P)(bb:CL w a4 N nw bq)(aj:nw≤9223372036854775807)(bc:nw≤Q):
  Calls Tryz.prog 30 #[.agg [Value.int .i64 t, .int .i64 c, .int .i64 n, .int .u8 l, .slice M nr P, .slice N nw Q].toArray] w (Lf (Mc t c n l) w):=by
 have aZ:Hid (∀w',Fr ag w w'→Calls Tryz.prog 81 #[.slice M nr P] w' (pd w')):=fun w' f=>nj nr xs M P a3 w' (a8.ar f) ba F;have a0:Hid (∀w',Fr ag w w'→Calls Tryz.prog 81 #[.slice N nw Q] w' (pd w')):=fun w' f=>nj nw bq N Q a4 w' (bb.ar f) aj bc;have aY:=af (AS t c n);have bu:Hid (∀(s:ByteArray)(A B:Option Addr)(x y z u:Nat),Tryz.prog.built 46 [(0, .agg [Value.int .i64 t, .int .i64 c, .int .i64 n, .string s].toArray),(1, .slice A x y),(2, .slice B z u)]=some ([Value.int .i64 t, .int .i64 c, .int .i64 n, .string s]++[Value.slice A x y, .slice B z u]).toArray):=fun s A B x y z u=>wB t c n s A B x y z u;obtain⟨q,aR,aa⟩:∃q:Nat,l.tmod 4=(q:Int)∧q<4:=⟨(l.tmod 4).toNat,by rw[Int.tmod_eq_emod_of_nonneg g];omega,by rw[Int.tmod_eq_emod_of_nonneg g];omega⟩;have aB:=af aa;have Z:Mc t c n l=⟨t,c,n,if c=0 then ByteArray.empty else KQ q⟩:=by unfold Mc;rw[aR,Int.toNat_natCast]
 obtain⟨s,ab⟩:∃s,(if c=0 then ByteArray.empty else KQ q)=s:=⟨_,rfl⟩;rw[Z,ab];have J:Hid ((c=0→s=ByteArray.empty)∧(c≠0→s=KQ q)∧s.size≤100):=by
  refine⟨fun h=>by rw[←ab,if_pos h],fun h=>by rw[←ab,if_neg h],?_⟩;rw[←ab];split;·decide
  ·exact(I8 aa).1
 clear Z ab;clear a8 ba F bb aj bc;have bx:Hid (0≤l∧l<256):=⟨g,m⟩;clear g m;go_enter Tryz.func30,Tryz.ntmps30;go_wp2_with(refine aA rfl 72 (.tmp 0) rfl _ rfl ?_);intro w1 n1;have av:=af n1.fr;have al:=af n1.aH;clear n1;generalize W:w.heap.size=g1 at*;have bw:=af W;clear W;go_wp2_with(refine ak rfl 46 rfl fH oc #[.int .i64 0, .int .i64 0, .int .i64 0, .string ByteArray.empty, .slice none 0 0, .slice none 0 0] rfl ?_);intro w2 bk;have ae:=af bk;clear bk;generalize X:w1.heap.size=g2 at*;have T:=af X;clear X;have aW:Hid (aq w2 g2 46 #[.int .i64 0, .int .i64 0, .int .i64 0, .string ByteArray.empty, .slice none 0 0, .slice none 0 0]):=by have h:=ae.out.aH;rw[T.out]at h;exact h
 have ad:=af (av.out.trans ae.out.fr);have o:=af (al.out.fr ae.out.fr (fun x=>x));have C:Hid (w.heap.size≤g2∧g1<g2):=by have:=av.out.size;have:=T.out;have:=al.out.lt;exact⟨by omega,by omega⟩
 clear ae al av;have bU:w2.cell? ⟨g1,0,none⟩=some (.int .i64 t):=o.out.cell 0;have aU:w2.cell? ⟨g1,1,none⟩=some (.int .i64 c):=o.out.cell 1;have bV:w2.cell? ⟨g1,2,none⟩=some (.int .i64 n):=o.out.cell 2;go_wp2_with(refine eA rfl 43 _ rfl [Value.int .i64 t, .int .i64 c, .int .i64 n, .string ByteArray.empty].toArray _ (by simp only[List.map_toArray,List.map_cons,List.map_nil];rfl) aY.out (bj.go ?zA));unfold bj;go_wp2_with(refine ak rfl 43 rfl yz Dk #[.int .i64 0, .int .i64 0, .int .i64 0, .string ByteArray.empty] rfl ?_);intro w3 n3;have aE:=af n3;clear n3 bU aU bV;generalize Y:w2.heap.size=g3 at*;have G:=af Y;clear Y;have aX:Hid (aq w3 g3 43 #[.int .i64 0, .int .i64 0, .int .i64 0, .string ByteArray.empty]):=by have h:=aE.out.aH;rw[G.out]at h;exact h
 have aF:Hid ([Value.int .i64 t, .int .i64 c, .int .i64 n, .string ByteArray.empty].toArray.all (·.oneCell')=true):=by simp[Hid,Value.oneCell']
 go_wp2_with(refine ai rfl 43 (.tmp 3) _ rfl g3 [Value.int .i64 t, .int .i64 c, .int .i64 n, .string ByteArray.empty].toArray rfl rfl _ _ aX.out fP rfl aF.out ?_);intro aV b4 f4;have am:Hid (aq aV g3 43 #[.int .i64 t, .int .i64 c, .int .i64 n, .string ByteArray.empty]):=b4;have R:Hid (Fr ag w2 aV):=aE.out.fr.aw f4 (fun i bJ e=>by have U:i=g3:=e;have:=G.out;omega);clear b4 f4 aE aX;have ax:Hid (g2<g3):=by have:=aW.out.lt;have:=G.out;simp only[Hid];omega
 have aU:aV.cell? ⟨g1,1,none⟩=some (.int .i64 c):=(o.out.fr R.out (fun x=>x)).cell 1;obtain⟨D,bd⟩:∃z:Bool,(c !=0)=z:=⟨_,rfl⟩;have V:decide (c=0)=!D:=by rw[←bd];by_cases h:c=0<;>simp[h]
 go_upto_if 13 with fail;have S:Hid (decide (c=0)=!D):=V;clear bd V aU;go_cut[1,2,3](fun bQ bS bT bp=>bQ= .pointer (some ⟨g1,0,none⟩)∧bS= .pointer (some ⟨g2,0,none⟩)∧bT= .pointer (some ⟨g3,0,none⟩)∧Fr ag w2 bp∧aq bp g3 43 #[.int .i64 t, .int .i64 c, .int .i64 n, .string s]);case first=>
  cases D;·go_wp2;go_meet;exact⟨rfl,rfl,rfl,R.out,by rw[J.out.1 (by simpa using S.out)];exact am.out⟩
  ·obtain⟨i0,bK,bh,ac,bL⟩:=info_parts EU;have bH:Hid (¬4*i0.size>2^24):=by simp only[Hid];rw[ac];omega
   have bI:Hid (¬4*i0.size=0):=by simp only[Hid];rw[ac];omega
   have b7:IntKind.u8.wrap (q:Int)=(q:Int):=IntWalk.u8_in _ (by have:=aB.out;omega);have b5:(q:Int)<4:=by have:=aB.out;omega
   have b6:(0:Int)≤(q:Int):=by omega
   go_upto_region 3 with fail;refine Dh 6 [⟨fun E r=>∃i:Nat,E= .slice (some ⟨i,0,none⟩) 4 4∧aq r i 41 DC,fun _ _ _ f⟨i,e,h⟩=>⟨i,e,h.fr f (fun x=>x)⟩⟩,iS (.pointer (some ⟨g1,3,none⟩)),iS (.int .u8 l),iS (.int .u8 (q:Int)),⟨fun E r=>∃i:Nat,E= .pointer (some ⟨i,q,none⟩)∧r.cell? ⟨i,q,none⟩=some (.string (KQ q)),fun _ _ _ f⟨i,e,c⟩=>⟨i,e,f.an c (fun x=>x)⟩⟩,iS (.string (KQ q))] ?zC ?_;case zC=>
    refine⟨?zK,?zR,?zL,?zM,?zN,?zO,trivial⟩;all_goals intro u w' d b
    all_goals simp only[z1,z2,z3,z4,ay,Act.put,z5,z6,z7,Nat.reduceAdd,Nat.zero_add]
    case zK=>
     refine aG ?_;go_simp;exact⟨_,rfl,aD.alloc _,⟨w'.heap.size,rfl,aq.new _ _ _⟩⟩
    case zL=>
     simp only[show u 1=_ from b 1];refine aG ?_;have q:_=some _:=(o.out.fr (R.out.trans d) (fun x=>x)).cell 3;go_simp;exact⟨_,rfl,aD,rfl⟩
    case zM=>
     simp only[show u 2=_ from b 2];refine aG ?_;go_simp;exact⟨_,rfl,aD,rfl⟩
    case zN=>
     obtain⟨aS,bF,b0⟩:=b 0;simp only[bF,show u 3=_ from b 3];refine aG ?_;obtain⟨_,aP⟩:=I8 aB.out;go_simp;exact⟨_,rfl,aD,⟨aS,rfl,by rw[←aP];exact b0.cell q⟩⟩
    case zO=>
     obtain⟨i4,aL,b2⟩:=b 4;simp only[aL];refine aG ?_;go_simp;exact⟨_,rfl,aD,rfl⟩
    all_goals
     refine aG ?_;go_simp;exact⟨_,rfl,aD,rfl⟩
   intro u w' d b;simp only[z1,z2,z3,z4,ay,Act.put,z5,z6,z7,z8,z9,Nat.reduceAdd,Nat.zero_add,show u 5=_ from b 5 (by omega)];clear b;have I:=af (R.out.trans d);have ao:=af (am.out.fr d (fun x=>x));have es:Hid (KQ q=s):=(J.out.2.1 (by simpa using S.out)).symm;have aI:Hid ((Value.string (KQ q)).oneCell'=true):=by simp[Hid,Value.oneCell']
   clear d;go_wp2_with(refine aT rfl 41 _ _ rfl g3 3 (.string (KQ q)) rfl rfl aI.out uA _ _ #[.int .i64 t, .int .i64 c, .int .i64 n, .string (KQ q)] ao.out (show 3<4 by decide) rfl ?_);intro bo O f6;have bt:=af O;have bv:Hid (Fr ag w2 bo):=I.out.aw f6 (fun i bJ e=>by have U:i=g3:=e;have:=G.out;omega);clear O f6;go_wp2;go_meet;exact⟨rfl,rfl,rfl,bv.out,by rw[←es.out];exact bt.out⟩
 case rest=>
  obtain⟨rfl,rfl,rfl,d,be⟩:=hcut;have I:=af d;have ao:=af be;have bA:Hid (s.size≤100):=J.out.2.2;clear d be am R;have a2:Hid (aq wc g2 46 #[.int .i64 0, .int .i64 0, .int .i64 0, .string ByteArray.empty, .slice none 0 0, .slice none 0 0]):=aW.out.fr I.out (fun x=>x);have a1:=af (o.out.fr I.out (fun x=>x));have ap:Hid (∀w',Fr (fun k=>k=g2) wc w'→Calls Tryz.prog 81 #[.slice M nr P] w' (pd w')):=fun w' f=>aZ.out w' ((ad.out.trans I.out).aw f (fun k zA e=>by have U:k=g2:=e;have:=C.out;omega));have au:Hid (∀w',Fr (fun k=>k=g2) wc w'→Calls Tryz.prog 81 #[.slice N nw Q] w' (pd w')):=fun w' f=>a0.out w' ((ad.out.trans I.out).aw f (fun k zA e=>by have U:k=g2:=e;have:=C.out;omega));have aC:Hid (w.heap.size≤wc.heap.size):=(ad.out.trans I.out).size;have bB:Hid ((Tryz.prog.info? 46).map (·.size)=some 6):=bZ;clear aZ a0 aY;go_upto_region 4 with fail;refine Df 9 (fun k=>k=g2) (fun i=>i==8) (fun i j=>(i==8&&(j==0||j==1||j==2||j==3||j==4||j==5||j==6||j==7))) [iS (.agg [Value.int .i64 t, .int .i64 c, .int .i64 n, .string s].toArray),iS (.pointer (some ⟨g1,4,none⟩)),iS (.slice M nr P),⟨fun E r=>∃l,dO r E l∧l.length≤6∧(∀c∈l,ed c)∧∀k,E.ownBlock=some k→wc.heap.size≤k,fun _ _ _ f⟨l,g,m⟩=>⟨l,g.ar f,m⟩⟩,iS (.pointer (some ⟨g1,5,none⟩)),iS (.slice N nw Q),⟨fun E r=>∃l,dO r E l∧l.length≤6∧(∀c∈l,ed c)∧∀k,E.ownBlock=some k→wc.heap.size≤k,fun _ _ _ f⟨l,g,m⟩=>⟨l,g.ar f,m⟩⟩,⟨fun E r=>∃(ds:List Value)(H:ActV),E= .agg ds.toArray∧df r ds H∧gW H∧ke wc.heap.size ds∧H.key=⟨t,c,n,s⟩,fun _ _ _ f⟨l,a,aM,g,m⟩=>⟨l,a,aM,g.ar f,m⟩⟩,⟨fun _ r=>∃(ds:List Value)(H:ActV),aq r g2 46 ds.toArray∧df r ds H∧gW H∧ke wc.heap.size ds∧H.key=⟨t,c,n,s⟩,fun _ _ _ f⟨l,a,aM,g,m⟩=>⟨l,a,aM.fr f (fun x=>x),g.ar f,m⟩⟩] ?zB ?_;case zB=>
   refine⟨?zD,?zP,?zE,?zF,?zQ,?zG,?zH,?zI,?zJ,trivial⟩;all_goals intro u w' d b aR
   all_goals simp only[z1,z2,z3,z4,ay,Act.put,z5,z6,z7,Nat.reduceAdd,Nat.zero_add]
   case zD=>
    refine aG ?_;exact az _ _ rfl ⟨g3,0,none⟩ rfl [Value.int .i64 t, .int .i64 c, .int .i64 n, .string s] _ (fun bM v bg=>by rw[←bR]at bg;rw[Addr.add_mid,Nat.zero_add,(ao.out.fr d (fun e=>by have a5:g3=g2:=e;have:=ax.out;omega)).cell bM];exact bg) Tryz.underlying43 rfl fP ⟨_,rfl,aD,rfl⟩
   case zE=>
    simp only[show u 1=_ from b 1];refine aG ?_;have q:_=some _:=(a1.out.fr d (fun e=>by have a5:g1=g2:=e;have:=C.out;omega)).cell 4;go_simp;exact⟨_,rfl,aD,rfl⟩
   case zF=>
    simp only[show u 2=_ from b 2];refine aG ?_;go_simp;refine(ap.out _ d).mono ?_;rintro e b1⟨v,l,rfl,g,m,L,f5,F⟩;exact⟨_,rfl,f5,l,g,m,L,fun k zA=>by have:=F k zA;have:=d.size;omega⟩
   case zG=>
    simp only[show u 4=_ from b 4];refine aG ?_;have q:_=some _:=(a1.out.fr d (fun e=>by have a5:g1=g2:=e;have:=C.out;omega)).cell 5;go_simp;exact⟨_,rfl,aD,rfl⟩
   case zH=>
    simp only[show u 5=_ from b 5];refine aG ?_;go_simp;refine(au.out _ d).mono ?_;rintro e b1⟨v,l,rfl,g,m,L,f5,F⟩;exact⟨_,rfl,f5,l,g,m,L,fun k zA=>by have:=F k zA;have:=d.size;omega⟩
   case zI=>
    obtain⟨bO,L,b3,bW,n3⟩:=b 3;obtain⟨bP,F,O,bX,n6⟩:=b 6;simp only[show u 0=_ from b 0];refine aG ?_;obtain⟨br,m3,c3,a6,L⟩:=L.form;obtain⟨bs,m6,bE,a7,F⟩:=F.form;rw[a6]at n3;rw[a7]at n6;simp only[a6,a7];exact iF 46 _ rfl ([Value.int .i64 t, .int .i64 c, .int .i64 n, .string s]++[Value.slice br m3 c3, .slice bs m6 bE]).toArray _ (by simp only[List.map_toArray,List.map_cons,List.map_nil];rfl) (bu.out _ _ _ _ _ _ _) ⟨_,rfl,aD,⟨_,⟨⟨t,c,n,s⟩,bO,bP⟩,rfl,⟨_,_,rfl,L,F⟩,⟨bA.out,bW,bX,b3,O⟩,ua (k:=⟨t,c,n,s⟩) n3 n6,rfl⟩⟩
   case zJ=>
    obtain⟨K,aK,bG,aJ,bY,bl,bN⟩:=b 7;simp only[bG];refine aG ?_;have aN:∃ah,aq w' g2 46 ah∧ah.size=6:=⟨_,a2.out.fr aR (fun x=>x),rfl⟩;have bf:K.toArray.size=6:=by rw[List.size_toArray,aJ.len]
    obtain⟨ah,aO,aQ⟩:=aN;refine Lt.db 46 (.tmp 2) (.tmp 28) rfl g2 K.toArray rfl rfl _ ah aO (by rw[bf];exact bB.out) (by rw[aQ,bf]) (ActV.one aJ) ?_;intro bo O f6;exact⟨_,rfl,⟨d.trans f6,mP,mP,mP,mP,mP,mP,mP,mP,mP,trivial⟩,⟨K,aK,O,aJ.xA bl f6 (fun k e=>by have U:k=g2:=e;have:=a2.out.lt;omega),bY,bl,bN⟩⟩
   all_goals
    refine aG ?_;go_simp;exact⟨_,rfl,aD,rfl⟩
  intro u w' d b;have aj:=b 8 (by omega);simp only[z1,z2,z3,z4,ay,Act.put,z5,z6,z7,z8,z9,Nat.reduceAdd,Nat.zero_add];clear b;obtain⟨ds,H,b9,a9,bn,bm,bi⟩:=aj;have bD:=af b9;have bC:Hid ((Tryz.prog.info? 46).map (·.size)=some ds.toArray.size):=by rw[Hid,List.size_toArray,a9.len];exact bZ
  have bz:Hid (Lf ⟨t,c,n,s⟩ w (.returned (.agg ds.toArray)) w'):=⟨ds,H,rfl,a9,bn,bm.mono aC.out,(ad.out.trans I.out).aw d (fun k zA e=>by have U:k=g2:=e;have:=C.out;omega),bi⟩;clear d b9 a9 bn bm bi;go_wp2;exact bodyPost_ret (results_cell_row (fn:=Tryz.f30) (p:=2) (ty:=46) Tryz.results30 _ w' _ 46 ds.toArray (0,0) _ rfl bD.out Tryz.underlying46 rfl bC.out) rfl bz.out
theorem Lm(cs:List Value)(w:World)(u:sh w cs):∃k,∀w',Fr ag w w'→Calls Tryz.prog 30 #[.agg cs.toArray] w' (Lf k w'):=by
 obtain⟨t,c,n,l,a,nr,g,xs,d,b,nw,h,v,e,i,j,rfl,⟨m,o,p⟩,q,r,s⟩:=u;exact⟨_,fun w' f=>Lv t c n l a nr g xs d b nw h v e w' i j (m.ar f) o p (q.ar f) r s⟩
theorem yK(cs:List Value)(w:World)(i:sh w cs):Calls Tryz.prog 30 #[.agg cs.toArray] w (Dp w):=by
 obtain⟨k,h⟩:=Lm cs w i;refine(h w aD).mono ?_;rintro e w'⟨cs',a,b,c,d,f,g,_⟩;exact⟨cs',a,b,c,d,f,g⟩
def Ge(w:World)(e:Ending)(w':World):Prop:=∃s E,e= .returned (.pointer (some ⟨s,0,none⟩))∧ft w' s E∧cW 6 E∧Fr ag w w'
theorem AN(n:Nat)(xs:List CV)(A:Option Addr)(D:Nat)(S:Nat→Prop)(w:World)(Y:CL w S A n xs)(ae:n≤9223372036854775807)(aa:n≤D)(Z:eE w):
  Calls Tryz.prog 28 #[.slice A n D] w (Ge w):=by
 have Q:Hid (∀w',Fr ag w w'→Calls Tryz.prog 81 #[.slice A n D] w' (pd w')):=fun w' f=>nj n xs A D S w' (Y.ar f) ae aa;have an:=af Z;clear Y ae aa Z;go_enter Tryz.func28,Tryz.ntmps28;go_wp2_with fail;refine(qB _).mono ?_;rintro e w1⟨ak,rfl,y,f1⟩;have G:=af f1;have W:Hid (ft w1 ak []):=⟨_,y,rfl⟩;clear y f1;go_wp2_with fail;refine(Q.out _ G.out).mono ?_;rintro e w2⟨v,l,rfl,ai,aq,z,f2,_⟩;obtain⟨au,b,M,rfl,U,o,t⟩:=ai.cl;have R:=af (G.out.trans f2);have ao:=af (W.out.ar f2);have am:=af t;have h:Hid (b≤6∧b=l.length∧b≤M):=⟨by omega,U,o⟩;have I:=af z;clear ai aq z f2 t U o Q W G;go_wp2;go_loopw[3,5](fun s i wr=>∃(k F:Nat)(E:List Ent),k≤b∧s= .pointer (some ⟨F,0,none⟩)∧i= .int .i64 (k:Int)∧ft wr F E∧cW k E∧Fr ag w2 wr)(fun _ i _=>b-(intOf i).toNat);case atStart=>exact⟨0,ak,[],Nat.zero_le _,rfl,rfl,ao.out,cW.nil,aD⟩
 case round=>
  obtain⟨k,s,E,ad,rfl,rfl,aj,ac,ab⟩:=hrel;have V:=af ad;have J:=af aj;have C:=af ac;have B:=af ab;clear ad aj ac ab;by_cases N:k<b
  ·have t0:decide ((k:Int)<(b:Int))=true:=dh (by omega);obtain⟨X,c,rfl,r,a⟩:=(am.out.ar B.out).at_ N;have H:Hid (CL wr (fun _=>True) (some (X.add (k*7))) 1 [c]):=⟨⟨rfl,fun _=>⟨_,rfl,trivial,fun j x g=>a j x (by simpa using g)⟩⟩,rfl⟩;have m:=af (I.out c (List.mem_of_getElem? r));have O:¬M=k:=by have:=h.out;omega
   have av:IntKind.i64.wrap ((k:Int)+1)=(k:Int)+1:=IntWalk.i64_in _ (by have:=h.out;omega);have b0:(0:Int)≤(k:Int):=by omega
   have b1:(k:Int)≤(k:Int)+1:=by omega
   have b2:(k:Int)+1≤(M:Int):=by have:=h.out;omega
   have P:Hid (∀L,Calls Tryz.prog 82 #[.pointer (some ⟨s,0,none⟩), .slice (some (X.add (k*7))) 1 L] wr (mF wr E [c])):=fun L=>tk E [c] 1 k _ L _ s wr J.out (an.out.ar (R.out.trans B.out)) C.out H.out (fun x g=>by rw[List.mem_singleton]at g;rw[g];exact m.out) (by have:=h.out;have:=V.out;omega);clear a r;go_wp2_with fail;refine(P.out _).mono ?_;rintro e w3⟨p,q,rfl,f3,d⟩;have T:=af (B.out.trans f3);have K:=af (J.out.ar f3);clear f3 P b0 b1 b2 O;rcases d with⟨ah,rfl,F,rfl,u⟩|⟨_,rfl,rfl⟩
   ·have ap:=af u;have al:Hid (cW (k+1) (mr [c] E)):=qq [c] E k C.out (fun x g=>by rw[List.mem_singleton]at g;rw[g];exact m.out) ah;clear u ah;go_wp2;go_roundw;case rel=>exact⟨k+1,F,_,by omega,rfl,by go_num,ap.out,al.out,T.out⟩
    case measure=>simp[intOf];omega
   ·go_wp2;go_roundw;case rel=>exact⟨k+1,s,E,by omega,rfl,by go_num,K.out,C.out.more (by omega),T.out⟩
    case measure=>simp[intOf];omega
  ·obtain rfl:k=b:=by have:=V.out;omega
   have t0:decide ((k:Int)<(k:Int))=false:=ct (by omega);go_wp2;go_ret;exact⟨s,E,rfl,J.out,C.out.more h.out.1,R.out.trans B.out⟩
structure Gv(a:ActV):Prop where
 fA:a.key.fA.size≤1048576
 reads:∀c∈a.reads,gL c
 writes:∀c∈a.writes,gL c
 nr:a.reads.length≤60000
 nw:a.writes.length≤60000
def kr(a:ActV):Value:=if gm a then .tuple #[.string ⟨(dk a).toArray⟩, .int .i64 0]else .tuple #[.string ByteArray.empty, .int .i64 3]
def iU(xs:List CV)(j:Nat):List UInt8:=enc xs.length++(xs.take j).flatMap ng
theorem A0(xs:List CV):iU xs 0=enc xs.length:=by simp[iU]
theorem Ew(xs:List CV):iU xs xs.length=eI xs:=by simp[iU,eI]
theorem AY{xs:List CV}{j:Nat}{c:CV}(h:xs[j]? =some c):iU xs (j+1)=iU xs j++(bO (cL c.nm)++(jH c.bA++bO (aR c.value))):=by
 rw[iU,iU,List.take_add_one,h,Option.toList_some,List.flatMap_append,List.flatMap_cons,List.flatMap_nil,List.append_nil,ng,List.append_assoc]
theorem GO(xs:List CV)(j:Nat):(iU xs j).length≤(eI xs).length:=by
 have e:eI xs=iU xs j++(xs.drop j).flatMap ng:=by
  rw[iU,eI,List.append_assoc,←List.flatMap_append,List.take_append_drop]
 rw[e,bh];omega
theorem xI:∀(xs:List CV),(∀c∈xs,gL c)→(∀c∈xs,jn c=true)→(xs.flatMap ng).length≤xs.length*4000000
 |[],_,_=>by simp
 |c::xs,h,e=>by
  have f:=xI xs (fun d a=>h d (by simp[a])) (fun d a=>e d (by simp[a]));have b:=h c (by simp);have a2:=e c (by simp);simp only[jn,Bool.and_eq_true,decide_eq_true_eq]at a2;have a3:=b.owner;have a4:=b.text;have b1:=fi c.nm;have b2:=aW (cL c.nm).length;have b3:=aW (aR c.value).length;have b4:=aO c.value;simp only[List.flatMap_cons,ng,bO,jH,bh,List.length_cons,List.length_nil]at f⊢;omega
def og(a:ActV)(k:Nat):List UInt8:=if k=0 then qW a.key else if k=1 then qW a.key++eI a.reads else dk a
theorem El(a:ActV):og a 2=dk a:=rfl
theorem Gx(a:ActV)(k:Nat):(og a k).length≤(dk a).length:=by
 unfold og;split;·simp only[dk,bh];omega
 ·split;·simp only[dk,bh];omega
  ·exact Nat.le_refl _
theorem Gy{a:ActV}(h:Gv a)(b:gm a=true):(dk a).length≤1000000000000:=by
 simp only[gm,Bool.and_eq_true]at b;have k:=xI a.reads h.reads (j9 b.1.2);have l:=xI a.writes h.writes (j9 b.2);have m:=h.nr;have n:=h.nw;have o:=h.fA;have c:=aW a.key.tick.toNat;have d:=aW a.key.cls.toNat;have e:=aW a.key.num.toNat;have f:=aW (aR a.key.fA).length;have g:=aO a.key.fA;have i:=aW a.reads.length;have j:=aW a.writes.length;simp only[dk,qW,eI,bO,bh];omega
theorem zu(A B:Option Addr)(n m c d:Nat)(w:World):(Instr.index 116 (.agg #[.slice A n c, .slice B m d]) (.int .i64 ((0:Nat):Int))).run Tryz.prog w= .ok (.slice A n c) w:=by kernel_rfl
theorem zw(A B:Option Addr)(n m c d:Nat)(w:World):(Instr.index 116 (.agg #[.slice A n c, .slice B m d]) (.int .i64 ((1:Nat):Int))).run Tryz.prog w= .ok (.slice B m d) w:=by kernel_rfl
theorem rp(a:ActV)(cs:List Value)(w:World)(aG:eE w)(a5:df w cs a)(p:Gv a):
    Calls Tryz.prog 18 #[.agg cs.toArray] w (aJ w (kr a)):=by
  have bk:=af aG;have C:=af p;have ap:=af a5;obtain⟨bJ,bL,rfl,ac,O⟩:=a5;obtain⟨q,bt,s,rfl,rfl,_,U⟩:=ac.cl;obtain⟨r,bu,t,rfl,rfl,_,V⟩:=O.cl;have az:=af U;have aB:=af V;have G:Hid (∀w',Fr ag w w'→Calls Tryz.prog 60 #[.agg (a.key.cells++[Value.slice q a.reads.length s, .slice r a.writes.length t]).toArray] w' (aJ w' (.bool (gm a)))):=fun w' f=>
    oi a _ w' (aG.ar f) (ap.out.ar f) (by have:=p.fA;omega) (fun c v=>(p.reads c v).fit) (fun c v=>(p.writes c v).fit) (by have:=p.nr;omega) (by have:=p.nw;omega);have d:Hid (gm a=true→(dk a).length≤1000000000000):=Gy p;have L:Hid (a.reads.length≤60000∧a.writes.length≤60000):=⟨p.nr,p.nw⟩;clear ac O U V aG p;go_enter Tryz.func18,Tryz.ntmps18;go_wp2_with(refine aA rfl 46 (.tmp 0) rfl _ rfl ?_);intro w1 n1;have an:=af n1.fr;have ae:=af n1.aH;clear n1;generalize w.heap.size=g at*;have am:Hid (∀w',aq w' g 46 (a.key.cells++[Value.slice q a.reads.length s, .slice r a.writes.length t]).toArray→∀j x,a.key.cells[j]? =some x→w'.cell? ((⟨g,0,none⟩:Addr).add j)=some x):=fun w' br j x D=>by
    rw[Addr.add_mid,Nat.zero_add,br.cell j,bR,List.getElem?_append_left (List.getElem?_eq_some_iff.1 D).1];exact D
  have F:Hid (∀j x,(a.key.cells++[Value.slice q a.reads.length s, .slice r a.writes.length t])[j]? =some x→w1.cell? ((⟨g,0,none⟩:Addr).add j)=some x):=fun j x D=>by
    rw[Addr.add_mid,Nat.zero_add,ae.out.cell j,bR];exact D
  go_wp2_with(refine aF rfl 46 (.tmp 1) rfl ⟨g,0,none⟩ rfl (a.key.cells++[Value.slice q a.reads.length s, .slice r a.writes.length t]) _ ?zC Tryz.underlying46 rfl bZ (bj.go ?zF));case zC=>exact F.out
  unfold bj;go_wp2_with fail;refine(G.out _ an.out).mono ?_;rintro e w2⟨rfl,f2⟩;have ao:=af (an.out.trans f2);have aN:=af (ae.out.fr f2 (fun x=>x));clear f2 G an ae F;cases b:gm a
  · have ax:Hid (kr a= .tuple #[.string ByteArray.empty, .int .i64 3]):=by rw[Hid,kr,b];rfl
    clear b d;go_wp2;go_ret2;rw[ax.out];exact⟨rfl,ao.out⟩
  have ax:Hid (kr a= .tuple #[.string ⟨(dk a).toArray⟩, .int .i64 0]):=by rw[Hid,kr,b];rfl
  have bi:=af b;have K:Hid ((dk a).length≤1000000000000):=d.out b;have B:Hid (dM a.key=true∧fW a.reads=true∧fW a.writes=true):=by
    have h:=b;simp only[gm,Bool.and_eq_true]at h;exact⟨h.1.1,h.1.2,h.2⟩
  clear b d;go_wp2_with fail;refine(Wi.start ao.out).mono ?_;rintro e w3⟨rfl,W,f3⟩;have aU:=af W;have ah:=af (aN.out.fr f3 (fun x=>x));generalize w2.heap.size=o at*;clear W f3 ao aN;go_wp2_with(refine aF rfl 43 (.tmp 15) rfl ⟨g,0,none⟩ rfl a.key.cells _ ?zE Tryz.underlying43 rfl fP (bj.go ?zG));case zE=>exact am.out _ ah.out
  unfold bj;go_wp2_with fail;refine(vC w w3 o [] a.key aU.out (by simp) B.out.1 (by have:=C.out.fA;omega)).mono ?_;rintro e aM⟨rfl,X,a7⟩;have aV:Hid (Wi w aM o (og a 0)):=X;have aj:=af (a7 _ _ _ ah.out (by decide) (by decide));clear X a7 aU ah;have bn:aM.cell? {block:=g,off:=4}=some (.slice q a.reads.length s):=aj.out.cell 4;have c5:aM.cell? {block:=g,off:=5}=some (.slice r a.writes.length t):=aj.out.cell 5;go_wp2;clear bn c5;go_loopw[24](fun i wr=>∃k:Nat,k≤2∧i= .int .i64 (k:Int)∧Wi w wr o (og a k))(fun i _=>2-(intOf i).toNat);case atStart=>exact⟨0,by omega,rfl,aV.out⟩
  case round=>
    obtain⟨k,bH,rfl,hw⟩:=hrel;have ab:=af hw;clear hw aV aj;by_cases bs:k<2
    · have t0:decide ((k:Int)<2)=true:=dh (by omega);obtain⟨A,n,c,xs,y,R,aK,aL,T,u⟩:∃A n c xs,Hid (∀w,(Instr.index 116 (.agg #[.slice q a.reads.length s, .slice r a.writes.length t]) (.int .i64 (k:Int))).run Tryz.prog w= .ok (.slice A n c) w)∧Hid (CL w (fun _=>True) A n xs)∧Hid (fW xs=true)∧Hid (∀c∈xs,gL c)∧Hid (n≤60000)∧Hid (og a (k+1)=og a k++eI xs):=by
        by_cases bp:k=0;· subst bp;exact⟨q,_,s,a.reads,zu q r _ _ s t,az.out,B.out.2.1,C.out.reads,L.out.1,rfl⟩
        · obtain rfl:k=1:=by omega
          exact⟨r,_,t,a.writes,zw q r _ _ s t,aB.out,B.out.2.2,C.out.writes,L.out.2,by simp[Hid,og,dk]⟩
      have H:Hid (∀j,(og a k++iU xs j).length≤1000000000000):=fun j=>by
        have ac:=GO xs j;have O:=Gx a (k+1);have bC:=K.out;rw[u.out,bh]at O;rw[bh];omega
      have au:Hid ((og a k).length≤1000000000000):=by have:=H.out 0;simp only[bh]at this;simp only[Hid];omega
      have Q:Hid (xs.length=n):=R.out.len;have aE:=y.out;generalize P:og a k=acc at*;have bg:=af P;clear P y;go_wp2_with fail;refine(ab.out.number n (by have:=au.out;omega) (by have:=T.out;omega)).mono ?_;rintro e bv⟨rfl,a1,_⟩;have aW:Hid (Wi w bv o (acc++iU xs 0)):=by rw[Hid,A0,Q.out];exact a1
      clear a1 aE ab;go_wp2;go_loopw[33](fun i wr=>∃j:Nat,j≤n∧i= .int .i64 (j:Int)∧Wi w wr o (acc++iU xs j))(fun i _=>n-(intOf i).toNat);case atStart=>exact⟨0,by omega,rfl,aW.out⟩
      case round=>
        obtain⟨j,bG,rfl,Y⟩:=hrel;have N:=af Y;clear Y aW;by_cases aI:j<n
        · have a6:(j:Int)<(n:Int):=by omega
          have bq:(0:Int)≤(j:Int):=by omega
          have t1:decide ((j:Int)<(n:Int))=true:=decide_eq_true a6;obtain⟨bz,ch,rfl,v,m⟩:=(R.out.ar N.out.fr).at_ aI;have I:=af m;have be:=af ch.one;have Z:Hid (gL ch):=aL.out ch (List.mem_of_getElem? v);have bl:Hid (jn ch=true):=j9 aK.out ch (List.mem_of_getElem? v);have l:Hid (acc++iU xs (j+1)=((acc++iU xs j)++bO (cL ch.nm))++jH ch.bA++bO (aR ch.value)):=by
            rw[Hid,AY v];simp only[List.append_assoc]
          have av:=af (H.out (j+1));clear m v;go_wp2_with(refine aF rfl 119 (.tmp 35) rfl _ rfl ch.cells _ ?zD Tryz.underlying119 rfl jr (bj.go ?hold));case zD=>exact I.out
          unfold bj;go_wp2_with(refine ak rfl 119 rfl di DW #[.int .i64 0, .string ByteArray.empty, .int .i64 0, .int .i64 0, .string ByteArray.empty, .string ByteArray.empty, .bool false] rfl ?_);intro bx ba;have aC:=af ba;clear ba;generalize S:wr.heap.size=g8 at*;have J:=af S;clear S;have aQ:Hid (aq bx g8 119 #[.int .i64 0, .string ByteArray.empty, .int .i64 0, .int .i64 0, .string ByteArray.empty, .string ByteArray.empty, .bool false]):=by have h:=aC.out.aH;rw[J.out]at h;exact h
          go_wp2_with(refine ai rfl 119 (.tmp 8) _ rfl g8 ch.cells.toArray rfl rfl _ _ aQ.out jr rfl be.out ?_);intro ad bb a0;have E:Hid (aq ad g8 119 ch.cells.toArray):=bb;have aT:Hid (Fr ag wr ad):=aC.out.fr.aw a0 (fun i bF e=>by have bB:i=g8:=e;have:=J.out;omega);have aD:=af (N.out.later aT.out);clear bb a0 aC aQ I N aT;have aS:Hid (∀j x,ch.nm.cells[j]? =some x→ad.cell? ((⟨g8,0,none⟩:Addr).add j)=some x):=fun j x D=>by
            rw[Addr.add_mid,Nat.zero_add,E.out.cell j,bR,CV.cells,List.getElem?_append_left (List.getElem?_eq_some_iff.1 D).1];exact D
          go_wp2_with(refine aF rfl 106 (.tmp 38) rfl ⟨g8,0,none⟩ rfl ch.nm.cells _ ?zA Tryz.underlying106 rfl bD (bj.go ?zB));case zA=>exact aS.out
          unfold bj;have M:Hid (dA ch.nm=true∧ch.value.size≤65536):=by
            have h:=bl.out;simp only[jn,Bool.and_eq_true,decide_eq_true_eq]at h;exact h.1
          have ay:Hid ((cL ch.nm).length≤16777216):=by
            have ac:=Z.out.owner;have O:=Z.out.text;have bE:=fi ch.nm;simp only[Hid];omega
          go_wp2_with fail;refine(v7 ch.nm ad (bk.out.ar aD.out.fr) (by have:=Z.out.owner;omega) (by have:=Z.out.text;omega) M.out.1).mono ?_;rintro e bK⟨rfl,f6⟩;have aX:=af (aD.out.later f6);have aP:=af (E.out.fr f6 (fun x=>x));clear f6 aD E aS;have z:Hid ((acc++iU xs j).length≤1099511627776∧(acc++iU xs j++bO (cL ch.nm)).length≤1099511627776∧(acc++iU xs j++bO (cL ch.nm)++jH ch.bA).length≤1099511627776):=by
            have h:=av.out;rw[l.out]at h;simp only[bh]at h;simp only[Hid,bh];omega
          go_wp2_with fail
          refine(aX.out.text ⟨(cL ch.nm).toArray⟩ z.out.1 (by have h:=ay.out;have e:(⟨(cL ch.nm).toArray⟩:ByteArray).size=(cL ch.nm).length:=by rw[←aO];rfl
                                                              omega)).mono ?_;rintro e bc⟨rfl,a2,a8⟩;have aY:Hid (Wi w bc o (acc++iU xs j++bO (cL ch.nm))):=a2;have al:=af (a8 _ _ _ aP.out (by decide) (by decide));clear a2 a8 aX aP;have bo:bc.cell? {block:=g8,off:=6}=some (.bool ch.bA):=al.out.cell 6;go_wp2_with fail;refine(aY.out.flag ch.bA z.out.2.1).mono ?_;rintro e bw⟨rfl,a3,a9⟩;have aZ:=af a3;have E:=af (a9 _ _ _ al.out (by decide) (by decide));clear a3 a9 aY al bo;have c5:bw.cell? {block:=g8,off:=5}=some (.string ch.value):=E.out.cell 5;go_wp2_with fail;refine(aZ.out.text ch.value z.out.2.2 (by have:=M.out.2;omega)).mono ?_;rintro e bd⟨rfl,a4,_⟩;have bm:Hid (Wi w bd o (acc++iU xs (j+1))):=by rw[Hid,l.out];exact a4
          clear a4 aZ E c5;have bI:n≤60000:=T.out;go_wp2;go_roundw;case rel=>exact⟨j+1,by omega,by go_num,bm.out⟩
          case measure=>simp[intOf];omega
        · obtain rfl:j=n:=by omega
          have a6:¬(j:Int)<(j:Int):=by omega
          have aa:Hid (Wi w wr o (og a (k+1))):=by
            have h:=N.out;rw[←Q.out,Ew]at h;rw[Hid,u.out];exact h
          clear N;go_wp2;go_roundw;case rel=>exact⟨k+1,by omega,by go_num,aa.out⟩
          case measure=>simp[intOf];omega
    · obtain rfl:k=2:=by omega
      have aa:Hid (Wi w wr o (dk a)):=by rw[←El];exact ab.out
      clear ab;go_wp2_with fail;refine(yx w wr o (dk a) aa.out (by have:=K.out;omega)).mono ?_;rintro e bd⟨rfl,f9⟩;have bf:=af (aa.out.fr.trans f9);clear f9;go_wp2;go_ret2;rw[ax.out];exact⟨rfl,bf.out⟩
end Go.Proofs.YtphjagkehiklkaaGreatDoor
namespace Go.Proofs.YtphjagkehiklkaaGreatDoor.Lt
open Go.RowKit
def cC:List UInt8:=List.replicate 32 0
theorem ck:cC.length=32:=rfl
theorem jz:(ao cC).toArray=aB:=by kernel_rfl
theorem jw{P:Program}{ops:Array Oper}{rest:List Oper}{e:Oper}{a:Act}{w:World}{Q:Exit→Act→World→Prop}(c:e.guard=none)(t:TypeId)(d:e.op= .build t #[])(cells:Array Value)
  (b:P.built t []=some cells)(h:wpList P ops Q rest (a.put e.dst (.agg cells)) w):wpList P ops Q (e::rest) a w:=
 wpList_buildTo c t #[] d cells (by simpa using b) h
theorem cy(n lo a:Int)(w:World):Calls Tryz.prog 89 #[.int .i64 n, .int .i64 lo, .int .i64 a] w (aY w (.bool (decide (lo≤n∧n≤a)))):=by
 by_cases b:lo≤n
 ·have t1:decide (lo≤n)=true:=decide_eq_true b;by_cases c:n≤a;·have t2:decide (n≤a)=true:=decide_eq_true c;rw[decide_eq_true ⟨b,c⟩];go_enter Tryz.func89,Tryz.ntmps89;go_wp2;go_ret;exact⟨rfl,rfl⟩
  ·have t2:decide (n≤a)=false:=decide_eq_false c;rw[ct (fun h=>c h.2)];go_enter Tryz.func89,Tryz.ntmps89;go_wp2;go_ret;exact⟨rfl,rfl⟩
 ·have t1:decide (lo≤n)=false:=decide_eq_false b;rw[ct (fun h=>b h.1)];go_enter Tryz.func89,Tryz.ntmps89;go_wp2;go_ret;exact⟨rfl,rfl⟩
theorem Dj:aB.size=32:=by kernel_rfl
theorem xh:aB.all (·.oneCell')=true:=by kernel_rfl
theorem qH:Tryz.prog.built 38 []=some aB:=by kernel_rfl
theorem xZ:(Tryz.prog.info? 38).map (·.size)=some aB.size:=by rw[Dj];exact cg
theorem sR{P:Program}{op:Oper}{a:Act}{w:World}{K:Act→World→Prop}{Q:Exit→Act→World→Prop}(t:TypeId)(parts:Array (Nat×Operand))(c:op.op= .build t parts)(cells:Array Value)
  (b:P.built t (parts.map fun(i,x)=>(i,a.eval x)).toList=some cells)(h:K (a.put op.dst (.agg cells)) w):op.wp P a w K Q:=
 wp_build t parts c (by rw[b];rfl) (by rw[b];exact h)
def jA(n:Nat)(ds:List (List UInt8))(v:Value)(w:World):Prop:=∃A c,v= .slice A n c∧n≤c∧c≤9223372036854775807∧∃S,eM w S A n ds
theorem jA.of{w w':World}{v:Value}{n:Nat}{ds:List (List UInt8)}(h:bW 38 32 w (.slice none 0 0) w' v n (ds.flatMap ao))(f:ds.length=n)(he:∀d∈ds,d.length=32):jA n ds v w':=by
 obtain⟨A,c,rfl,e,a,b,_⟩:=eM.qY h f he;exact⟨A,c,rfl,a,b,_,e⟩
theorem jA.ah{w:World}{n:Nat}{ds:List (List UInt8)}:∀v w' a,Fr ag w w'→Fr ag w' a→jA n ds v w'→jA n ds v a:=fun _ _ _ _ f⟨A,c,h,b,d,S,e⟩=>⟨A,c,h,b,d,S,e.ar f⟩
end Go.Proofs.YtphjagkehiklkaaGreatDoor.Lt
