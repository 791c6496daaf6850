/- Texts. -/
import Derived.Test.YtphjagkehiklkaaGreatDoorZK16
import Derived.Test.YtphjagkehiklkaaGreatDoorZK23
set_option linter.unusedVariables false
set_option linter.unusedSimpArgs false
set_option maxRecDepth 100000
set_option maxHeartbeats 8000000
namespace Go.Proofs.YtphjagkehiklkaaGreatDoor
open Go.RowKit Go.Shelf
def rN(w:World)(cs:List Value):Prop:=∃(t c n l:Int)(a:Option Addr)(nr d:Nat)(xs:List CV)(f:Nat→Prop)(b:Option Addr)(nw e:Nat)(h:List CV)(g:Nat→Prop),0≤l∧l<256∧
 cs=[Value.int .i64 t, .int .i64 c, .int .i64 n, .int .u8 l, .slice a nr d, .slice b nw e]∧(CL w f a nr xs∧nr≤9223372036854775807∧nr≤d)∧(CL w g b nw h∧nw≤9223372036854775807∧nw≤e)
theorem rN.ao{w w':World}{cs:List Value}(h:rN w cs)(a:Fr ag w w'):rN w' cs:=by
 obtain⟨t,c,n,l,b,nr,g,xs,e,d,nw,i,v,f,j,k,m,⟨o,p,q⟩,r,s,u⟩:=h;exact⟨t,c,n,l,b,nr,g,xs,e,d,nw,i,v,f,j,k,m,⟨o.ao a,p,q⟩,r.ao a,s,u⟩
def LF(w:World)(e:Ending)(w':World):Prop:=∃cs a,e= .returned (.agg cs.toArray)∧cF w' cs a∧eI a∧j8 w.heap.size cs∧Fr ag w w'
def GD:Array Value:=#[.string ⟨#[49]⟩, .string ⟨#[49,46,49]⟩, .string ⟨#[50]⟩, .string ⟨#[49,48]⟩]
def oZ:Nat→ByteArray
 |0=>⟨#[49]⟩
 |1=>⟨#[49,46,49]⟩
 |2=>⟨#[50]⟩
 |3=>⟨#[49,48]⟩
 |_=>ByteArray.empty
theorem GH:∀{q:Nat},q<4→(oZ q).size≤100∧GD[q]? =some (.string (oZ q))
 |0,_=>⟨by decide,rfl⟩
 |1,_=>⟨by decide,rfl⟩
 |2,_=>⟨by decide,rfl⟩
 |3,_=>⟨by decide,rfl⟩
def Ku(t c n l:Int):dJ:=⟨t,c,n,if c=0 then ByteArray.empty else oZ (l.tmod 4).toNat⟩
def zj(k:dJ)(w:World)(e:Ending)(w':World):Prop:=∃cs a,e= .returned (.agg cs.toArray)∧cF w' cs a∧eI a∧j8 w.heap.size cs∧Fr ag w w'∧a.key=k
theorem D2(t c n:Int):Tryz.prog.built 43 [(0, .int .i64 t),(1, .int .i64 c),(2, .int .i64 n)]=some [Value.int .i64 t, .int .i64 c, .int .i64 n, .string ByteArray.empty].toArray:=by kernel_rfl
theorem ID:(Tryz.prog.info? 41).map (fun i=>(i.zero,i.size,i.bytes))=some (some (.string ByteArray.empty),1,16):=by kernel_rfl
theorem BU:(Tryz.prog.info? 72).map (·.size)=some 6:=by kernel_rfl
theorem DU(t c n l:Int)(M:Option Addr)(nr P:Nat)(xs:List CV)(a4:Nat→Prop)(N:Option Addr)(nw Q:Nat)(bp:List CV)(a5:Nat→Prop)(w:World)(g:0≤l)(m:l<256)(ba:CL w a4 M nr xs)(bb:nr≤9223372036854775807)(F:nr≤P)(bc:CL w a5 N nw bp)(aj:nw≤9223372036854775807)(bd:nw≤Q):
  Calls Tryz.prog 30 #[.agg [Value.int .i64 t, .int .i64 c, .int .i64 n, .int .u8 l, .slice M nr P, .slice N nw Q].toArray] w (zj (Ku t c n l) w):=by
 have a0:Hid (∀w',Fr ag w w'→Calls Tryz.prog 81 #[.slice M nr P] w' (qb w')):=fun w' f=>ot nr xs M P a4 w' (ba.ao f) bb F;have a1:Hid (∀w',Fr ag w w'→Calls Tryz.prog 81 #[.slice N nw Q] w' (qb w')):=fun w' f=>ot nw bp N Q a5 w' (bc.ao f) aj bd;have aZ:=af (D2 t c n);have bt:Hid (∀(s:ByteArray)(A B:Option Addr)(x y z u:Nat),Tryz.prog.built 46 [(0, .agg [Value.int .i64 t, .int .i64 c, .int .i64 n, .string s].toArray),(1, .slice A x y),(2, .slice B z u)]=some ([Value.int .i64 t, .int .i64 c, .int .i64 n, .string s]++[Value.slice A x y, .slice B z u]).toArray):=fun s A B x y z u=>yq t c n s A B x y z u;obtain⟨q,aS,aa⟩:∃q:Nat,l.tmod 4=(q:Int)∧q<4:=⟨(l.tmod 4).toNat,by rw[Int.tmod_eq_emod_of_nonneg g];omega,by rw[Int.tmod_eq_emod_of_nonneg g];omega⟩;have aC:=af aa;have Z:Ku t c n l=⟨t,c,n,if c=0 then ByteArray.empty else oZ q⟩:=by unfold Ku;rw[aS,Int.toNat_natCast]
 obtain⟨s,ab⟩:∃s,(if c=0 then ByteArray.empty else oZ q)=s:=⟨_,rfl⟩;rw[Z,ab];have J:Hid ((c=0→s=ByteArray.empty)∧(c≠0→s=oZ q)∧s.size≤100):=by
  refine⟨fun h=>by rw[←ab,if_pos h],fun h=>by rw[←ab,if_neg h],?_⟩;rw[←ab];split;·decide
  ·exact(GH aa).1
 clear Z ab;clear ba bb F bc aj bd;have bw:Hid (0≤l∧l<256):=⟨g,m⟩;clear g m;go_enter Tryz.func30,Tryz.ntmps30;go_wp2_with(refine aB rfl 72 (.tmp 0) rfl _ rfl ?_);intro w1 n1;have ay:=af n1.fr;have al:=af n1.aE;clear n1;generalize W:w.heap.size=g1 at*;have bv:=af W;clear W;go_wp2_with(refine an rfl 46 rfl ep kC #[.int .i64 0, .int .i64 0, .int .i64 0, .string ByteArray.empty, .slice none 0 0, .slice none 0 0] rfl ?_);intro w2 bk;have ae:=af bk;clear bk;generalize X:w1.heap.size=g2 at*;have T:=af X;clear X;have aX:Hid (aq w2 g2 46 #[.int .i64 0, .int .i64 0, .int .i64 0, .string ByteArray.empty, .slice none 0 0, .slice none 0 0]):=by have h:=ae.out.aE;rw[T.out]at h;exact h
 have ad:=af (ay.out.trans ae.out.fr);have o:=af (al.out.fr ae.out.fr (fun x=>x));have C:Hid (w.heap.size≤g2∧g1<g2):=by have:=ay.out.size;have:=T.out;have:=al.out.lt;exact⟨by omega,by omega⟩
 clear ae al ay;have bU:w2.cell? ⟨g1,0,none⟩=some (.int .i64 t):=o.out.cell 0;have aU:w2.cell? ⟨g1,1,none⟩=some (.int .i64 c):=o.out.cell 1;have bV:w2.cell? ⟨g1,2,none⟩=some (.int .i64 n):=o.out.cell 2;go_wp2_with(refine dM rfl 43 _ rfl [Value.int .i64 t, .int .i64 c, .int .i64 n, .string ByteArray.empty].toArray _ (by simp only[List.map_toArray,List.map_cons,List.map_nil];rfl) aZ.out (aR.go ?zA));unfold aR;go_wp2_with(refine an rfl 43 rfl Ay Gg #[.int .i64 0, .int .i64 0, .int .i64 0, .string ByteArray.empty] rfl ?_);intro w3 n3;have aG:=af n3;clear n3 bU aU bV;generalize Y:w2.heap.size=g3 at*;have G:=af Y;clear Y;have aY:Hid (aq w3 g3 43 #[.int .i64 0, .int .i64 0, .int .i64 0, .string ByteArray.empty]):=by have h:=aG.out.aE;rw[G.out]at h;exact h
 have aH:Hid ([Value.int .i64 t, .int .i64 c, .int .i64 n, .string ByteArray.empty].toArray.all (·.oneCell')=true):=by simp[Hid,Value.oneCell']
 go_wp2_with(refine ai rfl 43 (.tmp 3) _ rfl g3 [Value.int .i64 t, .int .i64 c, .int .i64 n, .string ByteArray.empty].toArray rfl rfl _ _ aY.out gH rfl aH.out ?_);intro aV b4 f4;have am:Hid (aq aV g3 43 #[.int .i64 t, .int .i64 c, .int .i64 n, .string ByteArray.empty]):=b4;have R:Hid (Fr ag w2 aV):=aG.out.fr.aw f4 (fun i bI e=>by have U:i=g3:=e;have:=G.out;omega);clear b4 f4 aG aY;have aA:Hid (g2<g3):=by have:=aX.out.lt;have:=G.out;simp only[Hid];omega
 have aU:aV.cell? ⟨g1,1,none⟩=some (.int .i64 c):=(o.out.fr R.out (fun x=>x)).cell 1;obtain⟨D,be⟩:∃z:Bool,(c !=0)=z:=⟨_,rfl⟩;have V:decide (c=0)=!D:=by rw[←be];by_cases h:c=0<;>simp[h]
 go_upto_if 13 with fail;have S:Hid (decide (c=0)=!D):=V;clear be V aU;go_cut[1,2,3](fun bR bS bT bo=>bR= .pointer (some ⟨g1,0,none⟩)∧bS= .pointer (some ⟨g2,0,none⟩)∧bT= .pointer (some ⟨g3,0,none⟩)∧Fr ag w2 bo∧aq bo g3 43 #[.int .i64 t, .int .i64 c, .int .i64 n, .string s]);case first=>
  cases D;·go_wp2;go_meet;exact⟨rfl,rfl,rfl,R.out,by rw[J.out.1 (by simpa using S.out)];exact am.out⟩
  ·obtain⟨i0,bJ,bi,ac,bK⟩:=info_parts ID;have bG:Hid (¬4*i0.size>2^24):=by simp only[Hid];rw[ac];omega
   have bH:Hid (¬4*i0.size=0):=by simp only[Hid];rw[ac];omega
   have b6:IntKind.u8.wrap (q:Int)=(q:Int):=IntWalk.u8_in _ (by have:=aC.out;omega);have b2:(q:Int)<4:=by have:=aC.out;omega
   have b5:(0:Int)≤(q:Int):=by omega
   go_upto_region 3 with fail;refine At 6 [⟨fun E r=>∃i:Nat,E= .slice (some ⟨i,0,none⟩) 4 4∧aq r i 41 GD,fun _ _ _ f⟨i,e,h⟩=>⟨i,e,h.fr f (fun x=>x)⟩⟩,iS (.pointer (some ⟨g1,3,none⟩)),iS (.int .u8 l),iS (.int .u8 (q:Int)),⟨fun E r=>∃i:Nat,E= .pointer (some ⟨i,q,none⟩)∧r.cell? ⟨i,q,none⟩=some (.string (oZ q)),fun _ _ _ f⟨i,e,c⟩=>⟨i,e,f.ak c (fun x=>x)⟩⟩,iS (.string (oZ q))] ?zC ?_;case zC=>
    refine⟨?zK,?zR,?zL,?zM,?zN,?zO,trivial⟩;all_goals intro u w' d b
    all_goals simp only[z1,z2,z3,z4,ar,Act.put,z5,z6,z7,Nat.reduceAdd,Nat.zero_add]
    case zK=>
     refine aF ?_;go_simp;exact⟨_,rfl,az.alloc _,⟨w'.heap.size,rfl,aq.new _ _ _⟩⟩
    case zL=>
     simp only[show u 1=_ from b 1];refine aF ?_;have q:_=some _:=(o.out.fr (R.out.trans d) (fun x=>x)).cell 3;go_simp;exact⟨_,rfl,az,rfl⟩
    case zM=>
     simp only[show u 2=_ from b 2];refine aF ?_;go_simp;exact⟨_,rfl,az,rfl⟩
    case zN=>
     obtain⟨aT,bE,b0⟩:=b 0;simp only[bE,show u 3=_ from b 3];refine aF ?_;obtain⟨_,aP⟩:=GH aC.out;go_simp;exact⟨_,rfl,az,⟨aT,rfl,by rw[←aP];exact b0.cell q⟩⟩
    case zO=>
     obtain⟨i4,aL,b1⟩:=b 4;simp only[aL];refine aF ?_;go_simp;exact⟨_,rfl,az,rfl⟩
    all_goals
     refine aF ?_;go_simp;exact⟨_,rfl,az,rfl⟩
   intro u w' d b;simp only[z1,z2,z3,z4,ar,Act.put,z5,z6,z7,z8,z9,Nat.reduceAdd,Nat.zero_add,show u 5=_ from b 5 (by omega)];clear b;have I:=af (R.out.trans d);have ap:=af (am.out.fr d (fun x=>x));have es:Hid (oZ q=s):=(J.out.2.1 (by simpa using S.out)).symm;have aI:Hid ((Value.string (oZ q)).oneCell'=true):=by simp[Hid,Value.oneCell']
   clear d;go_wp2_with(refine aW rfl 41 _ _ rfl g3 3 (.string (oZ q)) rfl rfl aI.out wu _ _ #[.int .i64 t, .int .i64 c, .int .i64 n, .string (oZ q)] ap.out (show 3<4 by decide) rfl ?_);intro bn O f6;have bs:=af O;have bu:Hid (Fr ag w2 bn):=I.out.aw f6 (fun i bI e=>by have U:i=g3:=e;have:=G.out;omega);clear O f6;go_wp2;go_meet;exact⟨rfl,rfl,rfl,bu.out,by rw[←es.out];exact bs.out⟩
 case rest=>
  obtain⟨rfl,rfl,rfl,d,bf⟩:=hcut;have I:=af d;have ap:=af bf;have bz:Hid (s.size≤100):=J.out.2.2;clear d bf am R;have a3:Hid (aq wc g2 46 #[.int .i64 0, .int .i64 0, .int .i64 0, .string ByteArray.empty, .slice none 0 0, .slice none 0 0]):=aX.out.fr I.out (fun x=>x);have a2:=af (o.out.fr I.out (fun x=>x));have av:Hid (∀w',Fr (fun k=>k=g2) wc w'→Calls Tryz.prog 81 #[.slice M nr P] w' (qb w')):=fun w' f=>a0.out w' ((ad.out.trans I.out).aw f (fun k zA e=>by have U:k=g2:=e;have:=C.out;omega));have ax:Hid (∀w',Fr (fun k=>k=g2) wc w'→Calls Tryz.prog 81 #[.slice N nw Q] w' (qb w')):=fun w' f=>a1.out w' ((ad.out.trans I.out).aw f (fun k zA e=>by have U:k=g2:=e;have:=C.out;omega));have aD:Hid (w.heap.size≤wc.heap.size):=(ad.out.trans I.out).size;have bA:Hid ((Tryz.prog.info? 46).map (·.size)=some 6):=bL;clear a0 a1 aZ;go_upto_region 4 with fail;refine Gd 9 (fun k=>k=g2) (fun i=>i==8) (fun i j=>(i==8&&(j==0||j==1||j==2||j==3||j==4||j==5||j==6||j==7))) [iS (.agg [Value.int .i64 t, .int .i64 c, .int .i64 n, .string s].toArray),iS (.pointer (some ⟨g1,4,none⟩)),iS (.slice M nr P),⟨fun E r=>∃l,dV r E l∧l.length≤6∧(∀c∈l,ev c)∧∀k,E.ownBlock=some k→wc.heap.size≤k,fun _ _ _ f⟨l,g,m⟩=>⟨l,g.ao f,m⟩⟩,iS (.pointer (some ⟨g1,5,none⟩)),iS (.slice N nw Q),⟨fun E r=>∃l,dV r E l∧l.length≤6∧(∀c∈l,ev c)∧∀k,E.ownBlock=some k→wc.heap.size≤k,fun _ _ _ f⟨l,g,m⟩=>⟨l,g.ao f,m⟩⟩,⟨fun E r=>∃(ds:List Value)(H:ActV),E= .agg ds.toArray∧cF r ds H∧eI H∧j8 wc.heap.size ds∧H.key=⟨t,c,n,s⟩,fun _ _ _ f⟨l,a,aM,g,m⟩=>⟨l,a,aM,g.ao f,m⟩⟩,⟨fun _ r=>∃(ds:List Value)(H:ActV),aq r g2 46 ds.toArray∧cF r ds H∧eI H∧j8 wc.heap.size ds∧H.key=⟨t,c,n,s⟩,fun _ _ _ f⟨l,a,aM,g,m⟩=>⟨l,a,aM.fr f (fun x=>x),g.ao f,m⟩⟩] ?zB ?_;case zB=>
   refine⟨?zD,?zP,?zE,?zF,?zQ,?zG,?zH,?zI,?zJ,trivial⟩;all_goals intro u w' d b aS
   all_goals simp only[z1,z2,z3,z4,ar,Act.put,z5,z6,z7,Nat.reduceAdd,Nat.zero_add]
   case zD=>
    refine aF ?_;exact au _ _ rfl ⟨g3,0,none⟩ rfl [Value.int .i64 t, .int .i64 c, .int .i64 n, .string s] _ (fun bM v bh=>by rw[←bP]at bh;rw[Addr.add_mid,Nat.zero_add,(ap.out.fr d (fun e=>by have a6:g3=g2:=e;have:=aA.out;omega)).cell bM];exact bh) Tryz.underlying43 rfl gH ⟨_,rfl,az,rfl⟩
   case zE=>
    simp only[show u 1=_ from b 1];refine aF ?_;have q:_=some _:=(a2.out.fr d (fun e=>by have a6:g1=g2:=e;have:=C.out;omega)).cell 4;go_simp;exact⟨_,rfl,az,rfl⟩
   case zF=>
    simp only[show u 2=_ from b 2];refine aF ?_;go_simp;refine(av.out _ d).mono ?_;rintro e bZ⟨v,l,rfl,g,m,L,f5,F⟩;exact⟨_,rfl,f5,l,g,m,L,fun k zA=>by have:=F k zA;have:=d.size;omega⟩
   case zG=>
    simp only[show u 4=_ from b 4];refine aF ?_;have q:_=some _:=(a2.out.fr d (fun e=>by have a6:g1=g2:=e;have:=C.out;omega)).cell 5;go_simp;exact⟨_,rfl,az,rfl⟩
   case zH=>
    simp only[show u 5=_ from b 5];refine aF ?_;go_simp;refine(ax.out _ d).mono ?_;rintro e bZ⟨v,l,rfl,g,m,L,f5,F⟩;exact⟨_,rfl,f5,l,g,m,L,fun k zA=>by have:=F k zA;have:=d.size;omega⟩
   case zI=>
    obtain⟨bO,L,b3,bW,n3⟩:=b 3;obtain⟨bQ,F,O,bX,n6⟩:=b 6;simp only[show u 0=_ from b 0];refine aF ?_;obtain⟨bq,m3,c3,a7,L⟩:=L.form;obtain⟨br,m6,bD,a8,F⟩:=F.form;rw[a7]at n3;rw[a8]at n6;simp only[a7,a8];exact iA 46 _ rfl ([Value.int .i64 t, .int .i64 c, .int .i64 n, .string s]++[Value.slice bq m3 c3, .slice br m6 bD]).toArray _ (by simp only[List.map_toArray,List.map_cons,List.map_nil];rfl) (bt.out _ _ _ _ _ _ _) ⟨_,rfl,az,⟨_,⟨⟨t,c,n,s⟩,bO,bQ⟩,rfl,⟨_,_,rfl,L,F⟩,⟨bz.out,bW,bX,b3,O⟩,vL (k:=⟨t,c,n,s⟩) n3 n6,rfl⟩⟩
   case zJ=>
    obtain⟨K,aK,bF,aJ,bY,n7,bN⟩:=b 7;simp only[bF];refine aF ?_;have aN:∃ah,aq w' g2 46 ah∧ah.size=6:=⟨_,a3.out.fr aS (fun x=>x),rfl⟩;have bg:K.toArray.size=6:=by rw[List.size_toArray,aJ.len]
    obtain⟨ah,aO,aQ⟩:=aN;refine Lt.oU 46 (.tmp 2) (.tmp 28) rfl g2 K.toArray rfl rfl _ ah aO (by rw[bg];exact bA.out) (by rw[aQ,bg]) (ActV.one aJ) ?_;intro bn O f6;exact⟨_,rfl,⟨d.trans f6,nP,nP,nP,nP,nP,nP,nP,nP,nP,trivial⟩,⟨K,aK,O,aJ.zp n7 f6 (fun k e=>by have U:k=g2:=e;have:=a3.out.lt;omega),bY,n7,bN⟩⟩
   all_goals
    refine aF ?_;go_simp;exact⟨_,rfl,az,rfl⟩
  intro u w' d b;have aj:=b 8 (by omega);simp only[z1,z2,z3,z4,ar,Act.put,z5,z6,z7,z8,z9,Nat.reduceAdd,Nat.zero_add];clear b;obtain⟨ds,H,b9,a9,bm,bl,bj⟩:=aj;have bC:=af b9;have bB:Hid ((Tryz.prog.info? 46).map (·.size)=some ds.toArray.size):=by rw[Hid,List.size_toArray,a9.len];exact bL
  have bx:Hid (zj ⟨t,c,n,s⟩ w (.returned (.agg ds.toArray)) w'):=⟨ds,H,rfl,a9,bm,bl.mono aD.out,(ad.out.trans I.out).aw d (fun k zA e=>by have U:k=g2:=e;have:=C.out;omega),bj⟩;clear d b9 a9 bm bl bj;go_wp2;exact bodyPost_ret (results_cell_row (fn:=Tryz.f30) (p:=2) (ty:=46) Tryz.results30 _ w' _ 46 ds.toArray (0,0) _ rfl bC.out Tryz.underlying46 rfl bB.out) rfl bx.out
theorem AN(cs:List Value)(w:World)(u:rN w cs):∃k,∀w',Fr ag w w'→Calls Tryz.prog 30 #[.agg cs.toArray] w' (zj k w'):=by
 obtain⟨t,c,n,l,a,nr,g,xs,d,b,nw,h,v,e,i,j,rfl,⟨m,o,p⟩,q,r,s⟩:=u;exact⟨_,fun w' f=>DU t c n l a nr g xs d b nw h v e w' i j (m.ao f) o p (q.ao f) r s⟩
theorem tJ(cs:List Value)(w:World)(i:rN w cs):Calls Tryz.prog 30 #[.agg cs.toArray] w (LF w):=by
 obtain⟨k,h⟩:=AN cs w i;refine(h w az).mono ?_;rintro e w'⟨cs',a,b,c,d,f,g,_⟩;exact⟨cs',a,b,c,d,f,g⟩
def Jt(w:World)(e:Ending)(w':World):Prop:=∃s E,e= .returned (.pointer (some ⟨s,0,none⟩))∧eJ w' s E∧cE 6 E∧Fr ag w w'
theorem DY(n:Nat)(xs:List CV)(A:Option Addr)(D:Nat)(S:Nat→Prop)(w:World)(Y:CL w S A n xs)(ae:n≤9223372036854775807)(aa:n≤D)(Z:eh w):
  Calls Tryz.prog 28 #[.slice A n D] w (Jt w):=by
 have Q:Hid (∀w',Fr ag w w'→Calls Tryz.prog 81 #[.slice A n D] w' (qb w')):=fun w' f=>ot n xs A D S w' (Y.ao f) ae aa;have an:=af Z;clear Y ae aa Z;go_enter Tryz.func28,Tryz.ntmps28;go_wp2_with fail;refine(rJ _).mono ?_;rintro e w1⟨ak,rfl,y,f1⟩;have G:=af f1;have W:Hid (eJ w1 ak []):=⟨_,y,rfl⟩;clear y f1;go_wp2_with fail;refine(Q.out _ G.out).mono ?_;rintro e w2⟨v,l,rfl,ai,ar,z,f2,_⟩;obtain⟨au,b,M,rfl,U,o,t⟩:=ai.cl;have R:=af (G.out.trans f2);have ap:=af (W.out.ao f2);have am:=af t;have h:Hid (b≤6∧b=l.length∧b≤M):=⟨by omega,U,o⟩;have I:=af z;clear ai ar z f2 t U o Q W G;go_wp2;go_loopw[3,5](fun s i wr=>∃(k F:Nat)(E:List Ent),k≤b∧s= .pointer (some ⟨F,0,none⟩)∧i= .int .i64 (k:Int)∧eJ wr F E∧cE k E∧Fr ag w2 wr)(fun _ i _=>b-(intOf i).toNat);case atStart=>exact⟨0,ak,[],Nat.zero_le _,rfl,rfl,ap.out,cE.nil,az⟩
 case round=>
  obtain⟨k,s,E,ad,rfl,rfl,aj,ac,ab⟩:=hrel;have V:=af ad;have J:=af aj;have C:=af ac;have B:=af ab;clear ad aj ac ab;by_cases N:k<b
  ·have t0:decide ((k:Int)<(b:Int))=true:=de (by omega);obtain⟨X,c,rfl,r,a⟩:=(am.out.ao B.out).at_ N;have H:Hid (CL wr (fun _=>True) (some (X.add (k*7))) 1 [c]):=⟨⟨rfl,fun _=>⟨_,rfl,trivial,fun j x g=>a j x (by simpa using g)⟩⟩,rfl⟩;have m:=af (I.out c (List.mem_of_getElem? r));have O:¬M=k:=by have:=h.out;omega
   have av:IntKind.i64.wrap ((k:Int)+1)=(k:Int)+1:=IntWalk.i64_in _ (by have:=h.out;omega);have b0:(0:Int)≤(k:Int):=by omega
   have b1:(k:Int)≤(k:Int)+1:=by omega
   have b2:(k:Int)+1≤(M:Int):=by have:=h.out;omega
   have P:Hid (∀L,Calls Tryz.prog 82 #[.pointer (some ⟨s,0,none⟩), .slice (some (X.add (k*7))) 1 L] wr (nE wr E [c])):=fun L=>uR E [c] 1 k _ L _ s wr J.out (an.out.ao (R.out.trans B.out)) C.out H.out (fun x g=>by rw[List.mem_singleton]at g;rw[g];exact m.out) (by have:=h.out;have:=V.out;omega);clear a r;go_wp2_with fail;refine(P.out _).mono ?_;rintro e w3⟨p,q,rfl,f3,d⟩;have T:=af (B.out.trans f3);have K:=af (J.out.ao f3);clear f3 P b0 b1 b2 O;rcases d with⟨ah,rfl,F,rfl,u⟩|⟨_,rfl,rfl⟩
   ·have aq:=af u;have al:Hid (cE (k+1) (js [c] E)):=ru [c] E k C.out (fun x g=>by rw[List.mem_singleton]at g;rw[g];exact m.out) ah;clear u ah;go_wp2;go_roundw;case rel=>exact⟨k+1,F,_,by omega,rfl,by go_num,aq.out,al.out,T.out⟩
    case measure=>simp[intOf];omega
   ·go_wp2;go_roundw;case rel=>exact⟨k+1,s,E,by omega,rfl,by go_num,K.out,C.out.more (by omega),T.out⟩
    case measure=>simp[intOf];omega
  ·obtain rfl:k=b:=by have:=V.out;omega
   have t0:decide ((k:Int)<(k:Int))=false:=cD (by omega);go_wp2;go_ret;exact⟨s,E,rfl,J.out,C.out.more h.out.1,R.out.trans B.out⟩
def oV:ActV:=⟨⟨0,0,0,ByteArray.empty⟩,[],[]⟩
def bX:List Value:=[.int .i64 0, .int .i64 0, .int .i64 0, .string ByteArray.empty, .slice none 0 0, .slice none 0 0]
theorem rA(w:World):cF w bX oV:=⟨_,_,rfl,dV.nil _,dV.nil _⟩
def y8(w:World)(l:List UInt8)(e:Ending)(w':World):Prop:=
 ∃cs a b,e= .returned (.tuple #[.agg cs.toArray, .int .i64 b])∧cF w' cs a∧Fr ag w w'∧((b=0∧nI l=some a)∨(b=3∧nI l=none∧a=oV))
theorem Dj(st:fX):(kB st).1.length≤st.1.length∧(kB st).2.1.length≤st.1.length:=by
 unfold kB aO;split;·simp
 ·split;·simp
  ·refine⟨?_,by simp⟩;simp only[cu];repeat' split
   all_goals simp
   all_goals omega
theorem Lu(st:fX):(dK st).1.length≤st.1.length∧(dK st).2.1.length≤st.1.length:=by
 unfold dK aO;split;·simp
 ·split;·simp
  ·refine⟨?_,by simp⟩;simp only[cu];repeat' split
   all_goals simp
   all_goals omega
theorem Iw(st:fX):(aO false cZ st).2.1.length≤st.1.length:=Cy st
theorem tc(B:Nat)(f:B≤16777216):∀(n:Nat)(st:fX)(L M:List CV)(a:fX),mA n st L=some (M,a)→st.1.length≤B→(∀c∈L,c.nm.owner.size≤16777216∧c.nm.text.size≤16777216)→(∀c∈M,c.nm.owner.size≤16777216∧c.nm.text.size≤16777216)∧a.1.length≤B
 |0,st,L,M,a,h,e,d=>by
  simp only[mA,Option.some.injEq,Prod.mk.injEq]at h;obtain⟨rfl,rfl⟩:=h;exact⟨d,e⟩
 |n+1,st,L,M,a,h,e,d=>by
  rw[mA]at h;by_cases c:(gU (kB st).1).2≠0;·rw[if_pos c]at h;cases h
  rw[if_neg c]at h;have g:=Dj st;have i:=Iw (kB st).2;have j:=Lu (aO false cZ (kB st).2).2;refine tc B f n _ _ _ _ h (by omega) (fun x b=>?_);rcases List.mem_append.1 b with b|b;·exact d x b
  ·rw[List.mem_singleton]at b;subst b;have:=tQ (kB st).1;simp only;omega
theorem CU(l:List UInt8):(iZ l).2.1.length≤l.length∧(iZ l).1.fV.size≤l.length:=by
 have a:∀(aP:Int)(st:fX),(aO 0 (bj aP) st).2.1.length≤st.1.length:=fun aP st=>by
  unfold aO;split;·simp
  ·split;·simp
   ·simp
 have b:=a 1073741824 (l,0,0);have a2:=a 2 (jx l).2;have a3:=a 999999 (ks l).2;have a4:=Dj (rdNum l).2;have c:(jx l).2.1.length≤l.length:=b;have d:(ks l).2.1.length≤(jx l).2.1.length:=a2;have e:(rdNum l).2.1.length≤(ks l).2.1.length:=a3;refine⟨?_,?_⟩;·show(jm l).2.1.length≤l.length;have:(jm l).2.1.length≤(rdNum l).2.1.length:=a4.2;omega
 ·show(⟨(jm l).1.toArray⟩:ByteArray).size≤l.length;have f:(jm l).1.length≤(rdNum l).2.1.length:=a4.1;have:(⟨(jm l).1.toArray⟩:ByteArray).size=(jm l).1.length:=by simp[ByteArray.size]
  omega
def LI(a:fX)(k:Nat)(d Wr:List CV)(c b:Value)(st:fX):Prop:=
 (k=0∧d=[]∧Wr=[]∧c= .slice none 0 0∧b= .slice none 0 0∧st=a)∨(k=1∧jF a=some (d,st)∧Wr=[]∧b= .slice none 0 0)∨(k=2∧∃s1,jF a=some (d,s1)∧jF s1=some (Wr,st))
def MK(w:World)(c:List Value)(g d g2:Nat)(S:Nat→Prop)(e:fX)(i:Value)(wr:World):Prop:=
 ∃(k:Nat)(f Wr:List CV)(a b:Value)(st:fX),k≤2∧i= .int .i64 (k:Int)∧aq wr d 46 (c++[a,b]).toArray∧aq wr g2 46 bX.toArray∧dV wr a f∧dV wr b Wr∧f.length≤1099511627776∧Wr.length≤1099511627776∧Ri w wr g S st∧LI e k f Wr a b st
theorem D3(t c n:Int)(s:ByteArray):Tryz.prog.built 46 [(0, .agg [Value.int .i64 t, .int .i64 c, .int .i64 n, .string s].toArray)]=some ([Value.int .i64 t, .int .i64 c, .int .i64 n, .string s]++[Value.slice none 0 0, .slice none 0 0]).toArray:=by kernel_rfl
theorem gG:Tryz.prog.built 46 []=some bX.toArray:=by kernel_rfl
theorem BF(a b:Addr)(w:World):(Instr.index 128 (.agg #[.pointer (some a), .pointer (some b)]) (.int .i64 ((0:Nat):Int))).run Tryz.prog w= .ok (.pointer (some a)) w:=by kernel_rfl
theorem BG(a b:Addr)(w:World):(Instr.index 128 (.agg #[.pointer (some a), .pointer (some b)]) (.int .i64 ((1:Nat):Int))).run Tryz.prog w= .ok (.pointer (some b)) w:=by kernel_rfl
theorem BM:(Tryz.prog.info? 44).map (·.size)=some 1:=by kernel_rfl
theorem qq(cs:List Value)(h:cs.length=6):(Tryz.prog.info? 46).map (·.size)=some cs.toArray.size:=by rw[List.size_toArray,h];exact bL
theorem gL:bX.toArray.all (·.oneCell')=true:=by simp[bX,Value.oneCell']
theorem dV.kL{W W':World}{g:Nat}{t:TypeId}{cs:Array Value}{v:Value}{l:List CV}(h:dV W v l)(a:aq W g t cs)(e:Fr (fun k=>k=g) W W')(b:t≠177)(c:t≠174)(d:t≠119):dV W' v l:=
 h.cN e (fun k f=>by
  obtain rfl:k=g:=f;exact⟨fun x=>b (a.ty.one x),fun x=>c (a.ty.one x),fun x=>d (a.ty.one x)⟩)
theorem Jh(a:List Value)(c b v:Value)(h:a.length=4):(a++[c,b]).set (4+0) v=a++[v,b]:=by
 rw[List.set_append_right _ _ (by omega),h];rfl
theorem Jg(a:List Value)(b c v:Value)(h:a.length=4):(a++[b,c]).set (4+1) v=a++[b,v]:=by
 rw[List.set_append_right _ _ (by omega),h];rfl
theorem Ha(s:ByteArray)(w:World)(cw:eh w)(cy:s.size≤16777216):Calls Tryz.prog 20 #[.string s] w (y8 w (aQ s)):=by
 obtain⟨l,bG⟩:∃l,aQ s=l:=⟨_,rfl⟩;have ba:Hid (l.length=s.size):=by rw[Hid,←bG];exact aK s
 have bS:Hid (aQ s=l):=bG;rw[bG];have cc:=af cw;have bR:=af cy;have b7:Hid (∀W g S,Ri w W g S (l,0,0)→Calls Tryz.prog 70 #[.pointer (some ⟨g,0,none⟩)] W (rP w W g S (.agg (iZ l).1.cells.toArray) (iZ l).2)):=fun W g S h=>Ah w W g S l h;have N:Hid (nI l=match jF (iZ l).2 with
  |none=>none
  |some (R,st)=>match jF st with
   |none=>none
   |some (W,st2)=>if gQ st2=0∧fY ⟨(iZ l).1,R,W⟩=true then some ⟨(iZ l).1,R,W⟩else none):=rfl;have a8:=af (CU l);obtain⟨A,J⟩:∃O,nI l=O:=⟨_,rfl⟩;have y:Hid (∀cs a bg w',cF w' cs a→Fr ag w w'→((bg=0∧A=some a)∨(bg=3∧A=none∧a=oV))→y8 w l (.returned (.tuple #[.agg cs.toArray, .int .i64 bg])) w'):=fun cs a bg w' U ak bi=>⟨cs,a,bg,rfl,U,ak,by rw[J];exact bi⟩;rw[J]at N;generalize y8 w l=PP at*;generalize b2:(iZ l).1=r at*;generalize(iZ l).2=aN at*;clear cw cy bG J b2;have ad:Hid (r.cells.length=4):=rfl;have aO:Hid (Tryz.prog.built 46 [(0, .agg r.cells.toArray)]=some (r.cells++[Value.slice none 0 0, .slice none 0 0]).toArray):=D3 _ _ _ _;have bO:Hid (∀m n:Value,m.oneCell'=true→n.oneCell'=true→(r.cells++[m,n]).toArray.all (·.oneCell')=true):=fun m n U ak=>by simp only[dJ.cells,List.cons_append,List.nil_append,List.all_toArray,List.all_cons,List.all_nil,U,ak];rfl
 have a5:Hid (∀(W:World)(m n:Value)(R Wr:List CV),dV W m R→dV W n Wr→cF W (r.cells++[m,n]) ⟨r,R,Wr⟩):=fun W m n R Wr U ak=>⟨m,n,rfl,U,ak⟩;have bc:Hid (∀(W:World)(m n:Value)(R Wr:List CV),Fr ag w W→dV W m R→dV W n Wr→R.length≤1099511627776→Wr.length≤1099511627776→(∀c∈R,ni c)→(∀c∈Wr,ni c)→Calls Tryz.prog 60 #[.agg (r.cells++[m,n]).toArray] W (aH W (.bool (fY ⟨r,R,Wr⟩)))):=fun W m n R Wr f U ak bi cC bY bj=>
  o6 ⟨r,R,Wr⟩ _ W (cc.out.ao f) ⟨m,n,rfl,U,ak⟩ (by show r.fV.size≤1099511627776;have:=a8.out.2;have:=ba.out;have:=bR.out;omega) bY bj bi cC;generalize r.cells=t at*;go_enter Tryz.func20,Tryz.ntmps20;go_wp2_with(refine an rfl 46 rfl ep kC bX.toArray rfl ?_);intro w1 n1;have b9:=af n1.fr;have cn:=af n1.aE;clear n1;generalize bt:w.heap.size=g2 at*;have HG2:=af bt;clear bt;obtain⟨cB,w2,bZ,ay,bz⟩:=tP w1 s;have bD:=af (b9.out.trans ay);have co:=af (cn.out.fr ay (fun x=>x));have ci:=af bz;clear ay bz cn b9;generalize w1.heap.size=gc at*;go_wp2_with fail;refine(pk _ _ cB l _ _ (by have h:=ci.out;rw[bS.out]at h;exact h) (by have:=bR.out;omega)).mono ?_;rintro e w3⟨g,S,rfl,bA,f3,b0,av⟩;have bT:Hid (Ri w w3 g S (l,0,0)):=⟨bD.out.trans f3,bA,by have:=bD.out.size;omega,fun k bu=>⟨by have:=(av k bu).1;have:=bD.out.size;omega,(av k bu).2⟩⟩;have cp:=af (co.out.fr f3 (fun x=>x));clear bA f3 b0 av bZ ci co bD;go_wp2_with fail;refine(b7.out _ g S bT.out).mono ?_;rintro e bB⟨rfl,cz,f4⟩;have bU:=af cz;have bW:=af (cp.out.only bT.out f4 (by decide));clear cz f4 bT cp b7;go_wp2_with(first|(refine wpList_buildTo rfl 46 #[(0, .tmp 13)] rfl (t++[Value.slice none 0 0, .slice none 0 0]).toArray (by simp only[List.map_toArray,List.map_cons,List.map_nil];exact aO.out) ?_)|(refine an rfl 46 rfl ep kC bX.toArray rfl ?_));intro cG n5;have bd:=af n5;clear n5;generalize aB:bB.heap.size=o at*;have b5:Hid (aq cG o 46 bX.toArray):=by have h:=bd.out.aE;rw[aB]at h;exact h
 have ac:Hid (bB.heap.size≤o):=by rw[Hid,aB];exact Nat.le_refl _
 clear aB;have d:Hid (∀m n:Value,(t++[m,n]).length=6):=fun m n=>by rw[aS,ad.out];rfl
 have C:Hid (g2<o):=by have:=bW.out.lt;have:=ac.out;simp only[Hid];omega
 go_wp2_with(refine ai rfl 46 (.tmp 5) _ rfl o (t++[Value.slice none 0 0, .slice none 0 0]).toArray rfl rfl _ _ b5.out (qq _ (d.out _ _)) (by rw[List.size_toArray,List.size_toArray,d.out];rfl) (bO.out _ _ rfl rfl) ?_);intro b3 ct f6;have b6:=af ct;have cj:=af (bU.out.later bd.out.fr);have cq:=af ((bW.out.fr bd.out.fr (fun x=>x)).fr f6 (fun e=>by have aL:g2=o:=e;have:=C.out;omega));have ck:Hid (Ri w b3 g S aN):=bU.out.wX cj.out f6 ac.out;have a9:Hid (MK w t g o g2 S aN (.int .i64 0) b3):=⟨0,[],[],_,_,aN,by omega,rfl,b6.out,cq.out,dV.nil _,dV.nil _,by simp,by simp,ck.out, .inl ⟨rfl,rfl,rfl,rfl,rfl,rfl⟩⟩;have cA:Hid (bB.heap.size≤b3.heap.size):=Nat.le_trans bd.out.fr.size f6.size;clear ct f6 bd b5 cj bW b6 cq ck aO;go_wp2;go_loopw[18](fun i wr=>MK w t g o g2 S aN i wr)(fun i _=>2-(intOf i).toNat);case atStart=>exact a9.out
 case round=>
  obtain⟨k,R,Wr,m,n,st,bu,rfl,cu,cx,br,bs,bw,bx,F,bp⟩:=hrel;have aG:=af cu;have bf:=af cx;have aI:=af br;have aJ:=af bs;have cg:=af bw;have ch:=af bx;have I:=af F;have ST:=af bp;clear cu cx br bs bw bx F bp a9;by_cases cD:k<2
  ·have t0:decide ((k:Int)<2)=true:=de (by omega);have a7:Hid (∀W,(Instr.index 128 (.agg #[.pointer (some ⟨o,4,none⟩), .pointer (some ⟨o,5,none⟩)]) (.int .i64 (k:Int))).run Tryz.prog W= .ok (.pointer (some ⟨o,4+k,none⟩)) W):=fun W=>by
    by_cases Z:k=0;·subst Z;exact BF _ _ W
    ·obtain rfl:k=1:=by omega
     exact BG _ _ W
   have al:=a7.out;have bJ:Hid (Calls Tryz.prog 71 #[.pointer (some ⟨g,0,none⟩)] wr (Nw w wr g S (jF st))):=td w wr g S st I.out cc.out;obtain⟨f4,aA⟩:∃f,f=4+k:=⟨_,rfl⟩;have Q:=af aA;rw[←aA]at al;clear aA a7;go_wp2_with fail;refine bJ.out.mono ?_;rintro e cH⟨v,b,rfl,f7,ax⟩;have aa:=af (aG.out.only I.out f7 (by decide));have be:=af (bf.out.only I.out f7 (by decide));have aV:=af (aI.out.only I.out f7);have aX:=af (aJ.out.only I.out f7);rcases ax with⟨rfl,L,aD,J,bF,bl,bo,_⟩|⟨rfl,J,rfl,_,bk⟩
   ·obtain⟨bC,bH,cv,rfl,bF⟩:=bF.form;have cb:=af J;have aT:=af bF;have cf:=af bl;have cl:=af bo;clear J bF bl bo f7 al bJ aG bf aI aJ I;go_wp2_with(refine aW rfl 44 (.tmp 27) (.tmp 25) rfl o f4 (.slice bC bH cv) rfl rfl rfl BM _ _ ((t++[m,n]).toArray.setIfInBounds f4 (.slice bC bH cv)) aa.out (by rw[List.size_toArray,d.out];have:=Q.out;omega) rfl ?_);intro b4 b8 f8;have bI:=af b8;have H:=af (be.out.fr f8 (fun e=>by have aL:g2=o:=e;have:=C.out;omega));have bK:=af (aV.out.kL aa.out f8 (by decide) (by decide) (by decide));have bM:=af (aX.out.kL aa.out f8 (by decide) (by decide) (by decide));have aU:=af (aT.out.kL aa.out f8 (by decide) (by decide) (by decide));have cm:Hid (Ri w b4 g S aD):=bU.out.wX cl.out f8 ac.out;clear b8 f8 aa be aV aX aT cl;go_wp2;go_roundw;case rel=>
     by_cases Z:k=0
     ·subst Z;refine⟨1,L,Wr, .slice bC bH cv,n,aD,by omega,rfl,?_,H.out,aU.out,bM.out,cf.out,ch.out,cm.out, .inr (.inl ⟨rfl,?_⟩)⟩
      ·have h:=bI.out;rw[Q.out]at h;try rw[List.setIfInBounds_toArray]at h
       rw[Jh _ _ _ _ ad.out]at h;exact h
      ·rcases ST.out with⟨_,_,bi,_,bY,bj⟩|⟨h,_⟩|⟨h,_⟩;·subst bj;exact⟨cb.out,bi,bY⟩
       ·cases h
       ·cases h
     ·obtain rfl:k=1:=by omega
      refine⟨2,R,L,m, .slice bC bH cv,aD,by omega,rfl,?_,H.out,bK.out,aU.out,cg.out,cf.out,cm.out, .inr (.inr ⟨rfl,st,?_⟩)⟩
      ·have h:=bI.out;rw[Q.out]at h;try rw[List.setIfInBounds_toArray]at h
       rw[Jg _ _ _ _ ad.out]at h;exact h
      ·rcases ST.out with⟨h,_⟩|⟨_,h,_⟩|⟨h,_⟩;·cases h
       ·exact⟨h,cb.out⟩
       ·cases h
    case measure=>simp[intOf];omega
   ·have G:Hid (A=none):=by
     rw[Hid,N.out];rcases ST.out with⟨_,_,_,_,_,bj⟩|⟨_,h,_⟩|⟨h,_⟩;·subst bj;rw[J]
     ·rw[h];simp only;rw[J]
     ·omega
    have ca:=af bk;clear J bk f7 al bJ aG bf aI aJ I;go_wp2_with(first|(refine wpList_buildTo rfl 46 #[] rfl bX.toArray gG ?_)|(refine ai rfl 46 (.tmp 2) _ rfl g2 bX.toArray rfl rfl _ _ be.out bL rfl gL ?_)|(refine aW rfl 44 (.tmp 27) (.tmp 25) rfl o f4 (.slice none 0 0) rfl rfl rfl BM _ _ ((t++[m,n]).toArray.setIfInBounds f4 (.slice none 0 0)) aa.out (by rw[List.size_toArray,d.out];have:=Q.out;omega) rfl ?_));intro b4 b8 f8;have H:=af (be.out.fr f8 (fun e=>by have aL:g2=o:=e;have:=C.out;omega));have aZ:Hid (Fr ag w b4):=ca.out.aw f8 (fun i b1 e=>by have aL:i=o:=e;have:=C.out;have:=HG2.out;omega);clear b8 f8 aa be ca;go_wp2_with(first|(refine wpList_buildTo rfl 46 #[] rfl bX.toArray gG ?_)|(refine ai rfl 46 (.tmp 2) _ rfl g2 bX.toArray rfl rfl _ _ H.out bL rfl gL ?_));intro E Y T;have aP:=af Y;have a0:Hid (Fr ag w E):=aZ.out.aw T (fun i b1 e=>by have aL:i=g2:=e;have:=HG2.out;omega);have bb:=af (y.out bX oV 3 E (rA E) a0.out (.inr ⟨rfl,G.out,rfl⟩));clear Y T H aZ;go_wp2;exact bodyPost_ret (bh (fn:=Tryz.f20) (p:=2) (q:=3) (ty:=46) Tryz.results20 _ E _ 46 bX.toArray (0,0) _ rfl aP.out Tryz.underlying46 rfl bL _ rfl) rfl bb.out
  ·obtain rfl:k=2:=by omega
   obtain⟨s1,am,ap⟩:∃s1,jF aN=some (R,s1)∧jF s1=some (Wr,st):=by
    rcases ST.out with⟨h,_⟩|⟨h,_⟩|⟨_,h⟩;·cases h
    ·cases h
    ·exact h
   have ae:Hid (A=if gQ st=0∧fY ⟨r,R,Wr⟩=true then some ⟨r,R,Wr⟩else none):=by
    rw[Hid,N.out,am];simp only;rw[ap]
   have a6:Hid ((∀c∈R,ni c)∧∀c∈Wr,ni c):=by
    have bE:aN.1.length≤l.length:=a8.out.1;have bv:l.length≤16777216:=by have:=ba.out;have:=bR.out;omega
    obtain⟨cr,a2⟩:=tc _ bv _ _ _ _ _ am (Nat.le_trans (my _ _) bE) (fun c V=>by cases V);obtain⟨a3,_⟩:=tc _ bv _ _ _ _ _ ap (Nat.le_trans (my _ _) a2) (fun c V=>by cases V);exact⟨fun c V=>⟨by have:=cr c V;omega,by have:=cr c V;omega⟩,fun c V=>⟨by have:=a3 c V;omega,by have:=a3 c V;omega⟩⟩
   have ab:Hid (∀W,Fr ag wr W→Calls Tryz.prog 72 #[.pointer (some ⟨g,0,none⟩)] W (bm W (.int .i64 (gQ st)))):=fun W f=>(I.out.later f).close;clear am ap N ST;have aj:Hid (Fr ag w wr):=I.out.fr;have a4:=af (a5.out wr m n R Wr aI.out aJ.out);obtain⟨ce,bq⟩:∃ce,gQ st=ce:=⟨_,rfl⟩;rw[bq]at ae ab;clear bq;have aY:Hid (∀W,Fr ag wr W→Calls Tryz.prog 60 #[.agg (t++[m,n]).toArray] W (aH W (.bool (fY ⟨r,R,Wr⟩)))):=fun W f=>bc.out W m n R Wr (aj.out.trans f) (aI.out.ao f) (aJ.out.ao f) cg.out ch.out a6.out.1 a6.out.2;generalize fY ⟨r,R,Wr⟩=ok at*;clear bc a5;obtain⟨P,bn⟩:∃P,(ce !=0)=P:=⟨_,rfl⟩;have ah:=af bn;clear bn;have M:Hid (∀W,Fr ag wr W→∀j x,(t++[m,n])[j]? =some x→W.cell? ((⟨o,0,none⟩:Addr).add j)=some x):=fun W f j x cE=>by
    rw[Addr.add_mid,Nat.zero_add,(aG.out.fr f (fun x=>x)).cell j,bP];exact cE
   have cd:Hid ((Tryz.prog.info? 46).map (·.size)=some (t++[m,n]).length):=by rw[Hid,d.out];exact bL
   obtain⟨B,bE⟩:∃z:Bool,(bif P then true else(!ok))=z:=⟨_,rfl⟩;have HB:=af bE;clear bE;go_upto_region 11 with fail;refine ln 8 [.pointer (some ⟨g,0,none⟩), .int .i64 ce, .bool P, .bool P,bif P then undef else .agg (t++[m,n]).toArray,bif P then undef else .bool ok,bif P then undef else .bool (!ok), .bool B] ?zC ?_;case zC=>
    refine⟨?zK,?zD,?zE,?zF,?zG,?zH,?zI,?zJ,trivial⟩;all_goals intro u w' K F
    all_goals simp only[z1,z2,z3,z4,ar,Act.put,z5,z6,z7,Nat.reduceAdd,Nat.zero_add]
    case zD=>
     simp only[show u 0=_ from F 0];refine aF ?_;go_simp;refine(ab.out _ K).mono ?_;rintro e bB⟨rfl,rfl⟩;exact aM
    case zE=>
     simp only[show u 1=_ from F 1];refine aF ?_;have t1:=ah.out;go_simp;exact aM
    case' zF=>simp only[show u 2=_ from F 2]
    case zG=>
     simp only[show u 3=_ from F 3];cases P;case true=>exact bV
     refine aF ?_;exact au _ _ rfl ⟨o,0,none⟩ rfl (t++[m,n]) _ (M.out _ K) Tryz.underlying46 rfl cd.out aM
    case zH=>
     simp only[show u 4=_ from F 4,show u 3=_ from F 3];cases P;case true=>exact bV
     refine aF ?_;go_simp;refine(aY.out _ K).mono ?_;rintro e bB⟨rfl,f4⟩;exact⟨rfl,f4⟩
    case' zI=>
     simp only[show u 5=_ from F 5,show u 3=_ from F 3];cases P;case true=>exact bV
    case zJ=>
     simp only[show u 3=_ from F 3,show u 6=_ from F 6];cases P<;>exact aF (by go_simp;exact⟨by rw[←HB.out];rfl,az⟩)
    all_goals
     try simp only[cond]
     refine aF ?_;go_simp;exact aM
   intro w' K;simp only[z1,z2,z3,z4,ar,Act.put,z5,z6,z7,z8,z9,jX,jY,Nat.reduceAdd,Nat.zero_add];have D:Hid (A=if B=false then some ⟨r,R,Wr⟩else none):=by
    rw[Hid,ae.out,←HB.out];have Z:(ce=0)↔P=false:=by rw[←ah.out,bne_eq_false_iff_eq]
    cases bn:P
    ·rw[bn]at Z;have U:ce=0:=Z.2 rfl;cases ok;·rw[if_neg (fun h=>by cases h.2)];rfl
     ·rw[if_pos ⟨U,rfl⟩];rfl
    ·rw[bn]at Z;rw[if_neg (fun h=>by cases(Z.1 h.1))];rfl
   have aZ:=af (aj.out.trans K);have H:=af (bf.out.fr K (fun x=>x));have bI:=af (aG.out.fr K (fun x=>x));have a1:=af (a4.out.ao K);have M:=af (M.out _ K);clear K aY aj bf aG a4 aI aJ I ab ae HB ah;cases X:B;case true=>
    have G:Hid (A=none):=by rw[Hid,D.out,X];rfl
    clear X D;go_wp2_with(first|(refine wpList_buildTo rfl 46 #[] rfl bX.toArray gG ?_)|(refine ai rfl 46 (.tmp 2) _ rfl g2 bX.toArray rfl rfl _ _ H.out bL rfl gL ?_));intro E Y T;have aP:=af Y;have a0:Hid (Fr ag w E):=aZ.out.aw T (fun i b1 e=>by have aL:i=g2:=e;have:=HG2.out;omega);have bb:=af (y.out bX oV 3 E (rA E) a0.out (.inr ⟨rfl,G.out,rfl⟩));clear Y T;go_wp2;exact bodyPost_ret (bh (fn:=Tryz.f20) (p:=2) (q:=3) (ty:=46) Tryz.results20 _ E _ 46 bX.toArray (0,0) _ rfl aP.out Tryz.underlying46 rfl bL _ rfl) rfl bb.out
   case false=>
    have G:Hid (A=some ⟨r,R,Wr⟩):=by rw[Hid,D.out,X];rfl
    have bQ:Hid ((t++[m,n]).toArray.all (·.oneCell')=true):=ActV.one a1.out;clear X D;go_wp2_with(refine aC rfl 46 (.tmp 5) rfl ⟨o,0,none⟩ rfl (t++[m,n]) _ ?zA Tryz.underlying46 rfl cd.out (aR.go ?zB));case zA=>exact M.out
    unfold aR;go_wp2_with(refine ai rfl 46 (.tmp 2) _ rfl g2 (t++[m,n]).toArray rfl rfl _ _ H.out (qq _ (d.out _ _)) (by rw[List.size_toArray,List.size_toArray,d.out];rfl) bQ.out ?_);intro E Y T;have aP:=af Y;have a0:Hid (Fr ag w E):=aZ.out.aw T (fun i b1 e=>by have aL:i=g2:=e;have:=HG2.out;omega);have bN:Hid (cF E (t++[m,n]) ⟨r,R,Wr⟩):=a1.out.cN T (fun k bu=>by
     obtain rfl:k=g2:=bu;exact⟨fun x=>absurd (x.one H.out.ty) (by decide),fun x=>absurd (x.one H.out.ty) (by decide),fun x=>absurd (x.one H.out.ty) (by decide)⟩);have bb:=af (y.out _ _ 0 E bN.out a0.out (.inl ⟨rfl,G.out⟩));clear Y T;go_wp2;exact bodyPost_ret (bh (fn:=Tryz.f20) (p:=2) (q:=3) (ty:=46) Tryz.results20 _ E _ 46 (t++[m,n]).toArray (0,0) _ rfl aP.out Tryz.underlying46 rfl (qq _ (d.out _ _)) _ rfl) rfl bb.out
end Go.Proofs.YtphjagkehiklkaaGreatDoor
