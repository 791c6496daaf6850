/- Texts. -/
import Derived.Test.YtphjagkehiklkaaGreatDoorEK15
import Derived.Test.YtphjagkehiklkaaGreatDoorEK21
set_option linter.unusedVariables false
set_option linter.unusedSimpArgs false
set_option maxRecDepth 100000
set_option maxHeartbeats 8000000
namespace Go.Proofs.YtphjagkehiklkaaGreatDoor
open Proofs.Tryz Go.RowKit Go.Shelf
def rF(w:World)(cs:List Value):Prop:=∃(t c n l:Int)(a:Option Addr)(nr d:Nat)(xs:List CV)(f:Nat->Prop)(b:Option Addr)(nw e:Nat)(h:List CV)(g:Nat->Prop),0<=l/\l<256/\
 cs=[Value.int .i64 t, .int .i64 c, .int .i64 n, .int .u8 l, .slice a nr d, .slice b nw e]/\(CL w f a nr xs/\nr<=9223372036854775807/\nr<=d)/\(CL w g b nw h/\nw<=9223372036854775807/\nw<=e)
theorem rF.ao{w w':World}{cs:List Value}(h:rF w cs)(a:Fr Nothing w w'):rF w' cs:=by
 obtain⟨t,c,n,l,b,nr,g,xs,e,d,nw,i,v,f,j,k,m,⟨o,p,q⟩,r,s,u⟩:=h;exact⟨t,c,n,l,b,nr,g,xs,e,d,nw,i,v,f,j,k,m,⟨o.ao a,p,q⟩,r.ao a,s,u⟩
def Lb(w:World)(e:Ending)(w':World):Prop:=∃cs a,e= .returned (.agg cs.toArray)/\cL w' cs a/\fX a/\kr w.heap.size cs/\Fr Nothing w w'
def Gp:Array Value:=#[.string ⟨#[49]⟩, .string ⟨#[49,46,49]⟩, .string ⟨#[50]⟩, .string ⟨#[49,48]⟩]
def oR:Nat->ByteArray
 |0=>⟨#[49]⟩
 |1=>⟨#[49,46,49]⟩
 |2=>⟨#[50]⟩
 |3=>⟨#[49,48]⟩
 |_=>ByteArray.empty
theorem Gq:∀{q:Nat},q<4->(oR q).size<=100/\Gp[q]? =some (.string (oR q))
 |0,_=>⟨by decide,rfl⟩
 |1,_=>⟨by decide,rfl⟩
 |2,_=>⟨by decide,rfl⟩
 |3,_=>⟨by decide,rfl⟩
def J2(t c n l:Int):dM:=⟨t,c,n,if c=0 then ByteArray.empty else oR (l.tmod 4).toNat⟩
def yV(k:dM)(w:World)(e:Ending)(w':World):Prop:=∃cs a,e= .returned (.agg cs.toArray)/\cL w' cs a/\fX a/\kr w.heap.size cs/\Fr Nothing w w'/\a.key=k
theorem DO(t c n:Int):prog.built 43 [(0, .int .i64 t),(1, .int .i64 c),(2, .int .i64 n)]=some [Value.int .i64 t, .int .i64 c, .int .i64 n, .string ByteArray.empty].toArray:=by kernel_rfl
theorem Ij:(prog.info? 41).map (λi=>(i.zero,i.size,i.bytes))=some (some (.string ByteArray.empty),1,16):=by kernel_rfl
theorem JY:(prog.info? 72).map (·.size)=some 6:=by kernel_rfl
theorem DC(t c n l:Int)(M:Option Addr)(nr P:Nat)(xs:List CV)(a4:Nat->Prop)(N:Option Addr)(nw Q:Nat)(bp:List CV)(a5:Nat->Prop)(w:World)(g:0<=l)(m:l<256)(ba:CL w a4 M nr xs)(bb:nr<=9223372036854775807)(F:nr<=P)(bc:CL w a5 N nw bp)(aj:nw<=9223372036854775807)(bd:nw<=Q):
  Calls prog 30 #[.agg [Value.int .i64 t, .int .i64 c, .int .i64 n, .int .u8 l, .slice M nr P, .slice N nw Q].toArray] w (yV (J2 t c n l) w):=by
 have a0:Hid (∀w',Fr Nothing w w'->Calls prog 81 #[.slice M nr P] w' (pX w')):=λw' f=>om nr xs M P a4 w' (ba.ao f) bb F;have a1:Hid (∀w',Fr Nothing w w'->Calls prog 81 #[.slice N nw Q] w' (pX w')):=λw' f=>om nw bp N Q a5 w' (bc.ao f) aj bd;have aY:=af (DO t c n);have bt:Hid (∀(s:ByteArray)(A B:Option Addr)(x y z u:Nat),prog.built 46 [(0, .agg [Value.int .i64 t, .int .i64 c, .int .i64 n, .string s].toArray),(1, .slice A x y),(2, .slice B z u)]=some ([Value.int .i64 t, .int .i64 c, .int .i64 n, .string s]++[Value.slice A x y, .slice B z u]).toArray):=λs A B x y z u=>xT t c n s A B x y z u;obtain⟨q,aR,aa⟩:∃q:Nat,l.tmod 4=(q:Int)/\q<4:=⟨(l.tmod 4).toNat,by rw[Int.tmod_eq_emod_of_nonneg g];omega,by rw[Int.tmod_eq_emod_of_nonneg g];omega⟩;have aB:=af aa;have Z:J2 t c n l=⟨t,c,n,if c=0 then ByteArray.empty else oR q⟩:=by unfold J2;rw[aR,Int.toNat_natCast]
 obtain⟨s,ab⟩:∃s,(if c=0 then ByteArray.empty else oR q)=s:=⟨_,rfl⟩;rw[Z,ab];have J:Hid ((c=0->s=ByteArray.empty)/\(c≠0->s=oR q)/\s.size<=100):=by
  refine⟨λh=>by rw[<-ab,if_pos h],λh=>by rw[<-ab,if_neg h],?_⟩;rw[<-ab];split;·decide
  ·exact(Gq aa).1
 clear Z ab;clear ba bb F bc aj bd;have bw:Hid (0<=l/\l<256):=⟨g,m⟩;clear g m;go_enter func30,ntmps30;go_wp2_with(refine aD rfl 72 (.tmp 0) rfl _ rfl ?_);intro w1 n1;have ay:=af n1.fr;have al:=af n1.aF;clear n1;generalize W:w.heap.size=g1 at*;have bv:=af W;clear W;go_wp2_with(refine an rfl 46 rfl eF kh #[.int .i64 0, .int .i64 0, .int .i64 0, .string ByteArray.empty, .slice none 0 0, .slice none 0 0] rfl ?_);intro w2 bk;have ae:=af bk;clear bk;generalize X:w1.heap.size=g2 at*;have T:=af X;clear X;have aV:Hid (aq w2 g2 46 #[.int .i64 0, .int .i64 0, .int .i64 0, .string ByteArray.empty, .slice none 0 0, .slice none 0 0]):=by have h:=ae.out.aF;rw[T.out]at h;exact h
 have ad:=af (ay.out.trans ae.out.fr);have o:=af (al.out.fr ae.out.fr id);have C:Hid (w.heap.size<=g2/\g1<g2):=by have:=ay.out.size;have:=T.out;have:=al.out.lt;exact⟨by omega,by omega⟩
 clear ae al ay;have bU:w2.cell? ⟨g1,0,none⟩=some (.int .i64 t):=o.out.cell 0;have aT:w2.cell? ⟨g1,1,none⟩=some (.int .i64 c):=o.out.cell 1;have bV:w2.cell? ⟨g1,2,none⟩=some (.int .i64 n):=o.out.cell 2;go_wp2_with(refine dU rfl 43 _ rfl [Value.int .i64 t, .int .i64 c, .int .i64 n, .string ByteArray.empty].toArray _ (by simp only[List.map_toArray,List.map_cons,List.map_nil];rfl) aY.out (aX.go ?zA));unfold aX;go_wp2_with(refine an rfl 43 rfl Ai FM #[.int .i64 0, .int .i64 0, .int .i64 0, .string ByteArray.empty] rfl ?_);intro w3 n3;have aE:=af n3;clear n3 bU aT bV;generalize Y:w2.heap.size=g3 at*;have G:=af Y;clear Y;have aW:Hid (aq w3 g3 43 #[.int .i64 0, .int .i64 0, .int .i64 0, .string ByteArray.empty]):=by have h:=aE.out.aF;rw[G.out]at h;exact h
 have aG:Hid ([Value.int .i64 t, .int .i64 c, .int .i64 n, .string ByteArray.empty].toArray.all (·.oneCell')=true):=by simp[Hid,Value.oneCell']
 go_wp2_with(refine ai rfl 43 (.tmp 3) _ rfl g3 [Value.int .i64 t, .int .i64 c, .int .i64 n, .string ByteArray.empty].toArray rfl rfl _ _ aW.out gj rfl aG.out ?_);intro aU b4 f4;have am:Hid (aq aU g3 43 #[.int .i64 t, .int .i64 c, .int .i64 n, .string ByteArray.empty]):=b4;have R:Hid (Fr Nothing w2 aU):=aE.out.fr.aw f4 (λi bI e=>by have U:i=g3:=e;have:=G.out;omega);clear b4 f4 aE aW;have az:Hid (g2<g3):=by have:=aV.out.lt;have:=G.out;simp only[Hid];omega
 have aT:aU.cell? ⟨g1,1,none⟩=some (.int .i64 c):=(o.out.fr R.out id).cell 1;obtain⟨D,be⟩:∃z:Bool,(c !=0)=z:=⟨_,rfl⟩;have V:decide (c=0)=!D:=by rw[<-be];by_cases h:c=0<;>simp[h]
 go_upto_if 13 with fail;have S:Hid (decide (c=0)=!D):=V;clear be V aT;go_cut[1,2,3](λbR bS bT bo=>bR= .pointer (some ⟨g1,0,none⟩)/\bS= .pointer (some ⟨g2,0,none⟩)/\bT= .pointer (some ⟨g3,0,none⟩)/\Fr Nothing w2 bo/\aq bo g3 43 #[.int .i64 t, .int .i64 c, .int .i64 n, .string s]);case first=>
  cases D;·go_wp2;go_meet;exact⟨rfl,rfl,rfl,R.out,by rw[J.out.1 (by simpa using S.out)];exact am.out⟩
  ·obtain⟨i0,bJ,bi,ac,bK⟩:=info_parts Ij;have bG:Hid (¬4*i0.size>2^24):=by simp only[Hid];rw[ac];omega
   have bH:Hid (¬4*i0.size=0):=by simp only[Hid];rw[ac];omega
   have b6:IntKind.u8.wrap (q:Int)=(q:Int):=IntWalk.u8_in _ (by have:=aB.out;omega);have b2:(q:Int)<4:=by have:=aB.out;omega
   have b5:(0:Int)<=(q:Int):=by omega
   go_upto_region 3 with fail;refine Af 6 [⟨λE r=>∃i:Nat,E= .slice (some ⟨i,0,none⟩) 4 4/\aq r i 41 Gp,λ_ _ _ f⟨i,e,h⟩=>⟨i,e,h.fr f id⟩⟩,iS (.pointer (some ⟨g1,3,none⟩)),iS (.int .u8 l),iS (.int .u8 (q:Int)),⟨λE r=>∃i:Nat,E= .pointer (some ⟨i,q,none⟩)/\r.cell? ⟨i,q,none⟩=some (.string (oR q)),λ_ _ _ f⟨i,e,c⟩=>⟨i,e,f.ak c id⟩⟩,iS (.string (oR q))] ?zC ?_;case zC=>
    refine⟨?zK,?zR,?zL,?zM,?zN,?zO,trivial⟩;all_goals intro u w' d b
    all_goals simp only[z1,z2,z3,z4,ar,Act.put,z5,z6,z7,Nat.reduceAdd,Nat.zero_add]
    case zK=>
     refine aI ?_;go_simp;exact⟨_,rfl,aA.alloc _,⟨w'.heap.size,rfl,aq.new _ _ _⟩⟩
    case zL=>
     simp only[ah (b 1)];refine aI ?_;have q:_=some _:=(o.out.fr (R.out.trans d) id).cell 3;go_simp;exact⟨_,rfl,aA,rfl⟩
    case zM=>
     simp only[ah (b 2)];refine aI ?_;go_simp;exact⟨_,rfl,aA,rfl⟩
    case zN=>
     obtain⟨aS,bE,b0⟩:=b 0;simp only[bE,ah (b 3)];refine aI ?_;obtain⟨_,aP⟩:=Gq aB.out;go_simp;exact⟨_,rfl,aA,⟨aS,rfl,by rw[<-aP];exact b0.cell q⟩⟩
    case zO=>
     obtain⟨i4,aL,b1⟩:=b 4;simp only[aL];refine aI ?_;go_simp;exact⟨_,rfl,aA,rfl⟩
    all_goals
     refine aI ?_;go_simp;exact⟨_,rfl,aA,rfl⟩
   intro u w' d b;simp only[z1,z2,z3,z4,ar,Act.put,z5,z6,z7,z8,z9,Nat.reduceAdd,Nat.zero_add,ah (b 5 (by omega))];clear b;have I:=af (R.out.trans d);have ap:=af (am.out.fr d id);have es:Hid (oR q=s):=(J.out.2.1 (by simpa using S.out)).symm;have aH:Hid ((Value.string (oR q)).oneCell'=true):=by simp[Hid,Value.oneCell']
   clear d;go_wp2_with(refine aZ rfl 41 _ _ rfl g3 3 (.string (oR q)) rfl rfl aH.out vW _ _ #[.int .i64 t, .int .i64 c, .int .i64 n, .string (oR q)] ap.out (show 3<4 by decide) rfl ?_);intro bn O f6;have bs:=af O;have bu:Hid (Fr Nothing w2 bn):=I.out.aw f6 (λi bI e=>by have U:i=g3:=e;have:=G.out;omega);clear O f6;go_wp2;go_meet;exact⟨rfl,rfl,rfl,bu.out,by rw[<-es.out];exact bs.out⟩
 case rest=>
  obtain⟨rfl,rfl,rfl,d,bf⟩:=hcut;have I:=af d;have ap:=af bf;have bz:Hid (s.size<=100):=J.out.2.2;clear d bf am R;have a3:Hid (aq wc g2 46 #[.int .i64 0, .int .i64 0, .int .i64 0, .string ByteArray.empty, .slice none 0 0, .slice none 0 0]):=aV.out.fr I.out id;have a2:=af (o.out.fr I.out id);have av:Hid (∀w',Fr (λk=>k=g2) wc w'->Calls prog 81 #[.slice M nr P] w' (pX w')):=λw' f=>a0.out w' ((ad.out.trans I.out).aw f (λk zA e=>by have U:k=g2:=e;have:=C.out;omega));have ax:Hid (∀w',Fr (λk=>k=g2) wc w'->Calls prog 81 #[.slice N nw Q] w' (pX w')):=λw' f=>a1.out w' ((ad.out.trans I.out).aw f (λk zA e=>by have U:k=g2:=e;have:=C.out;omega));have aC:Hid (w.heap.size<=wc.heap.size):=(ad.out.trans I.out).size;have bA:Hid ((prog.info? 46).map (·.size)=some 6):=bQ;clear a0 a1 aY;go_upto_region 4 with fail;refine FG 9 (λk=>k=g2) (λi=>i==8) (λi j=>(i==8&&(j==0||j==1||j==2||j==3||j==4||j==5||j==6||j==7))) [iS (.agg [Value.int .i64 t, .int .i64 c, .int .i64 n, .string s].toArray),iS (.pointer (some ⟨g1,4,none⟩)),iS (.slice M nr P),⟨λE r=>∃l,ed r E l/\l.length<=6/\(∀c∈l,eo c)/\∀k,E.ownBlock=some k->wc.heap.size<=k,λ_ _ _ f⟨l,g,m⟩=>⟨l,g.ao f,m⟩⟩,iS (.pointer (some ⟨g1,5,none⟩)),iS (.slice N nw Q),⟨λE r=>∃l,ed r E l/\l.length<=6/\(∀c∈l,eo c)/\∀k,E.ownBlock=some k->wc.heap.size<=k,λ_ _ _ f⟨l,g,m⟩=>⟨l,g.ao f,m⟩⟩,⟨λE r=>∃(ds:List Value)(H:ActV),E= .agg ds.toArray/\cL r ds H/\fX H/\kr wc.heap.size ds/\H.key=⟨t,c,n,s⟩,λ_ _ _ f⟨l,a,aM,g,m⟩=>⟨l,a,aM,g.ao f,m⟩⟩,⟨λ_ r=>∃(ds:List Value)(H:ActV),aq r g2 46 ds.toArray/\cL r ds H/\fX H/\kr wc.heap.size ds/\H.key=⟨t,c,n,s⟩,λ_ _ _ f⟨l,a,aM,g,m⟩=>⟨l,a,aM.fr f id,g.ao f,m⟩⟩] ?zB ?_;case zB=>
   refine⟨?zD,?zP,?zE,?zF,?zQ,?zG,?zH,?zI,?zJ,trivial⟩;all_goals intro u w' d b aR
   all_goals simp only[z1,z2,z3,z4,ar,Act.put,z5,z6,z7,Nat.reduceAdd,Nat.zero_add]
   case zD=>
    refine aI ?_;exact au _ _ rfl ⟨g3,0,none⟩ rfl [Value.int .i64 t, .int .i64 c, .int .i64 n, .string s] _ (λbL v bh=>by rw[<-bP]at bh;rw[Addr.add_mid,Nat.zero_add,(ap.out.fr d (λe=>by have a6:g3=g2:=e;have:=az.out;omega)).cell bL];exact bh) underlying43 rfl gj ⟨_,rfl,aA,rfl⟩
   case zE=>
    simp only[ah (b 1)];refine aI ?_;have q:_=some _:=(a2.out.fr d (λe=>by have a6:g1=g2:=e;have:=C.out;omega)).cell 4;go_simp;exact⟨_,rfl,aA,rfl⟩
   case zF=>
    simp only[ah (b 2)];refine aI ?_;go_simp;refine(av.out _ d).mono ?_;rintro e bZ⟨v,l,rfl,g,m,L,f5,F⟩;exact⟨_,rfl,f5,l,g,m,L,λk zA=>by have:=F k zA;have:=d.size;omega⟩
   case zG=>
    simp only[ah (b 4)];refine aI ?_;have q:_=some _:=(a2.out.fr d (λe=>by have a6:g1=g2:=e;have:=C.out;omega)).cell 5;go_simp;exact⟨_,rfl,aA,rfl⟩
   case zH=>
    simp only[ah (b 5)];refine aI ?_;go_simp;refine(ax.out _ d).mono ?_;rintro e bZ⟨v,l,rfl,g,m,L,f5,F⟩;exact⟨_,rfl,f5,l,g,m,L,λk zA=>by have:=F k zA;have:=d.size;omega⟩
   case zI=>
    obtain⟨bN,L,b3,bW,n3⟩:=b 3;obtain⟨bO,F,O,bX,n6⟩:=b 6;simp only[ah (b 0)];refine aI ?_;obtain⟨bq,m3,c3,a7,L⟩:=L.form;obtain⟨br,m6,bD,a8,F⟩:=F.form;rw[a7]at n3;rw[a8]at n6;simp only[a7,a8];exact iw 46 _ rfl ([Value.int .i64 t, .int .i64 c, .int .i64 n, .string s]++[Value.slice bq m3 c3, .slice br m6 bD]).toArray _ (by simp only[List.map_toArray,List.map_cons,List.map_nil];rfl) (bt.out _ _ _ _ _ _ _) ⟨_,rfl,aA,⟨_,⟨⟨t,c,n,s⟩,bN,bO⟩,rfl,⟨_,_,rfl,L,F⟩,⟨bz.out,bW,bX,b3,O⟩,vD (k:=⟨t,c,n,s⟩) n3 n6,rfl⟩⟩
   case zJ=>
    obtain⟨K,aK,bF,aJ,bY,n7,bM⟩:=b 7;simp only[bF];refine aI ?_;have aN:∃ag,aq w' g2 46 ag/\ag.size=6:=⟨_,a3.out.fr aR id,rfl⟩;have bg:K.toArray.size=6:=by rw[List.size_toArray,aJ.len]
    obtain⟨ag,aO,aQ⟩:=aN;refine Lt.oM 46 (.tmp 2) (.tmp 28) rfl g2 K.toArray rfl rfl _ ag aO (by rw[bg];exact bA.out) (by rw[aQ,bg]) (ActV.one aJ) ?_;intro bn O f6;exact⟨_,rfl,⟨d.trans f6,nP,nP,nP,nP,nP,nP,nP,nP,nP,trivial⟩,⟨K,aK,O,aJ.ze n7 f6 (λk e=>by have U:k=g2:=e;have:=a3.out.lt;omega),bY,n7,bM⟩⟩
   all_goals
    refine aI ?_;go_simp;exact⟨_,rfl,aA,rfl⟩
  intro u w' d b;have aj:=b 8 (by omega);simp only[z1,z2,z3,z4,ar,Act.put,z5,z6,z7,z8,z9,Nat.reduceAdd,Nat.zero_add];clear b;obtain⟨ds,H,b9,a9,bm,bl,bj⟩:=aj;have bC:=af b9;have bB:Hid ((prog.info? 46).map (·.size)=some ds.toArray.size):=by rw[Hid,List.size_toArray,a9.len];exact bQ
  have bx:Hid (yV ⟨t,c,n,s⟩ w (.returned (.agg ds.toArray)) w'):=⟨ds,H,rfl,a9,bm,bl.mono aC.out,(ad.out.trans I.out).aw d (λk zA e=>by have U:k=g2:=e;have:=C.out;omega),bj⟩;clear d b9 a9 bm bl bj;go_wp2;exact bodyPost_ret (results_cell_row (fn:=Tryz.f30) (p:=2) (ty:=46) results30 _ w' _ 46 ds.toArray (0,0) _ rfl bC.out underlying46 rfl bB.out) rfl bx.out
theorem Ax(cs:List Value)(w:World)(u:rF w cs):∃k,∀w',Fr Nothing w w'->Calls prog 30 #[.agg cs.toArray] w' (yV k w'):=by
 obtain⟨t,c,n,l,a,nr,g,xs,d,b,nw,h,v,e,i,j,rfl,⟨m,o,p⟩,q,r,s⟩:=u;exact⟨_,λw' f=>DC t c n l a nr g xs d b nw h v e w' i j (m.ao f) o p (q.ao f) r s⟩
theorem Au(cs:List Value)(w:World)(i:rF w cs):Calls prog 30 #[.agg cs.toArray] w (Lb w):=by
 obtain⟨k,h⟩:=Ax cs w i;refine(h w aA).mono ?_;rintro e w'⟨cs',a,b,c,d,f,g,_⟩;exact⟨cs',a,b,c,d,f,g⟩
def Ja(w:World)(e:Ending)(w':World):Prop:=∃s E,e= .returned (.pointer (some ⟨s,0,none⟩))/\dQ w' s E/\cM 6 E/\Fr Nothing w w'
theorem DH(n:Nat)(xs:List CV)(A:Option Addr)(D:Nat)(S:Nat->Prop)(w:World)(Y:CL w S A n xs)(ae:n<=9223372036854775807)(aa:n<=D)(Z:dO w):
  Calls prog 28 #[.slice A n D] w (Ja w):=by
 have Q:Hid (∀w',Fr Nothing w w'->Calls prog 81 #[.slice A n D] w' (pX w')):=λw' f=>om n xs A D S w' (Y.ao f) ae aa;have am:=af Z;clear Y ae aa Z;go_enter func28,ntmps28;go_wp2_with fail;refine(o3 _).mono ?_;rintro e w1⟨aj,rfl,y,f1⟩;have G:=af f1;have W:Hid (dQ w1 aj []):=⟨_,y,rfl⟩;clear y f1;go_wp2_with fail;refine(Q.out _ G.out).mono ?_;rintro e w2⟨v,l,rfl,ah,aq,z,f2,_⟩;obtain⟨ar,b,M,rfl,U,o,t⟩:=ah.cl;have R:=af (G.out.trans f2);have an:=af (W.out.ao f2);have al:=af t;have h:Hid (b<=6/\b=l.length/\b<=M):=⟨by omega,U,o⟩;have I:=af z;clear ah aq z f2 t U o Q W G;go_wp2;go_loopw[3,5](λs i wr=>∃(k F:Nat)(E:List Ent),k<=b/\s= .pointer (some ⟨F,0,none⟩)/\i= .int .i64 (k:Int)/\dQ wr F E/\cM k E/\Fr Nothing w2 wr)(λ_ i _=>b-(intOf i).toNat);case atStart=>exact⟨0,aj,[],Nat.zero_le _,rfl,rfl,an.out,cM.nil,aA⟩
 case round=>
  obtain⟨k,s,E,ad,rfl,rfl,ai,ac,ab⟩:=hrel;have V:=af ad;have J:=af ai;have C:=af ac;have B:=af ab;clear ad ai ac ab;by_cases N:k<b
  ·have t0:decide ((k:Int)<(b:Int))=true:=cX (by omega);obtain⟨X,c,rfl,r,a⟩:=(al.out.ao B.out).at_ N;have H:Hid (CL wr (λ_=>True) (some (X.add (k*7))) 1 [c]):=⟨⟨rfl,λ_=>⟨_,rfl,trivial,λj x g=>a j x (by simpa using g)⟩⟩,rfl⟩;have m:=af (I.out c (List.mem_of_getElem? r));have O:¬M=k:=by have:=h.out;omega
   have au:IntKind.i64.wrap ((k:Int)+1)=(k:Int)+1:=IntWalk.i64_in _ (by have:=h.out;omega);have b0:(0:Int)<=(k:Int):=by omega
   have b1:(k:Int)<=(k:Int)+1:=by omega
   have b2:(k:Int)+1<=(M:Int):=by have:=h.out;omega
   have P:Hid (∀L,Calls prog 82 #[.pointer (some ⟨s,0,none⟩), .slice (some (X.add (k*7))) 1 L] wr (kW wr E [c])):=λL=>Da E [c] 1 k _ L _ s wr J.out (am.out.ao (R.out.trans B.out)) C.out H.out (λx g=>by rw[List.mem_singleton]at g;rw[g];exact m.out) (by have:=h.out;have:=V.out;omega);clear a r;go_wp2_with fail;refine(P.out _).mono ?_;rintro e w3⟨p,q,rfl,f3,d⟩;have T:=af (B.out.trans f3);have K:=af (J.out.ao f3);clear f3 P b0 b1 b2 O;rcases d with⟨ag,rfl,F,rfl,u⟩|⟨_,rfl,rfl⟩
   ·have ap:=af u;have ak:Hid (cM (k+1) (jq [c] E)):=rh [c] E k C.out (λx g=>by rw[List.mem_singleton]at g;rw[g];exact m.out) ag;clear u ag;go_wp2;go_roundw;case rel=>exact⟨k+1,F,_,by omega,rfl,by go_num,ap.out,ak.out,T.out⟩
    case measure=>simp[intOf];omega
   ·go_wp2;go_roundw;case rel=>exact⟨k+1,s,E,by omega,rfl,by go_num,K.out,C.out.more (by omega),T.out⟩
    case measure=>simp[intOf];omega
  ·obtain rfl:k=b:=by have:=V.out;omega
   have t0:decide ((k:Int)<(k:Int))=false:=ct (by omega);go_wp2;go_ret;exact⟨s,E,rfl,J.out,C.out.more h.out.1,R.out.trans B.out⟩
def oN:ActV:=⟨⟨0,0,0,ByteArray.empty⟩,[],[]⟩
def ca:List Value:=[.int .i64 0, .int .i64 0, .int .i64 0, .string ByteArray.empty, .slice none 0 0, .slice none 0 0]
theorem rm(w:World):cL w ca oN:=⟨_,_,rfl,ed.nil _,ed.nil _⟩
def yL(w:World)(l:List UInt8)(e:Ending)(w':World):Prop:=
 ∃cs a b,e= .returned (.tuple #[.agg cs.toArray, .int .i64 b])/\cL w' cs a/\Fr Nothing w w'/\((b=0/\jo l=some a)\/(b=3/\jo l=none/\a=oN))
theorem nT(st:dc):(dH st).1.length<=st.1.length/\(dH st).2.1.length<=st.1.length:=by
 unfold dH aE;split;·simp
 ·split;·simp
  ·refine⟨?_,by simp⟩;simp only[cg];repeat' split
   all_goals simp
   all_goals omega
theorem KR(st:dc):(aV st).1.length<=st.1.length/\(aV st).2.1.length<=st.1.length:=by
 unfold aV aE;split;·simp
 ·split;·simp
  ·refine⟨?_,by simp⟩;simp only[cg];repeat' split
   all_goals simp
   all_goals omega
theorem Ic(st:dc):(aE false cC st).2.1.length<=st.1.length:=Ck st
theorem s8(B:Nat)(e:B<=16777216):∀(n:Nat)(st:dc)(L M:List CV)(st':dc),ko n st L=some (M,st')->st.1.length<=B->(∀c∈L,c.nm.owner.size<=16777216/\c.nm.text.size<=16777216)->(∀c∈M,c.nm.owner.size<=16777216/\c.nm.text.size<=16777216)/\st'.1.length<=B
 |0,st,L,M,st',h,d,b=>by
  simp only[ko,Option.some.injEq,Prod.mk.injEq]at h;obtain⟨rfl,rfl⟩:=h;exact⟨b,d⟩
 |n+1,st,L,M,st',h,d,b=>by
  rw[ko]at h;by_cases c:(dh (dH st).1).2≠0;·rw[if_pos c]at h;cases h
  rw[if_neg c]at h;have f:=nT st;have g:=Ic (dH st).2;have i:=KR (aE false cC (dH st).2).2;refine s8 B e n _ _ _ _ h (by omega) (λx a=>?_);rcases List.mem_append.1 a with a|a;·exact b x a
  ·rw[List.mem_singleton]at a;subst a;have:=pk (dH st).1;simp only;omega
theorem Cm(l:List UInt8):(gM l).2.1.length<=l.length/\(gM l).1.fD.size<=l.length:=by
 have a:∀(aS:Int)(st:dc),(aE 0 (aO aS) st).2.1.length<=st.1.length:=λaS st=>by
  unfold aE;split;·simp
  ·split;·simp
   ·simp
 have b:=a 1073741824 (l,0,0);have a2:=a 2 (gJ l).2;have a3:=a 999999 (jc l).2;have a4:=nT (rdNum l).2;have c:(gJ l).2.1.length<=l.length:=b;have d:(jc l).2.1.length<=(gJ l).2.1.length:=a2;have e:(rdNum l).2.1.length<=(jc l).2.1.length:=a3;refine⟨?_,?_⟩;·show(im l).2.1.length<=l.length;have:(im l).2.1.length<=(rdNum l).2.1.length:=a4.2;omega
 ·show(⟨(im l).1.toArray⟩:ByteArray).size<=l.length;have f:(im l).1.length<=(rdNum l).2.1.length:=a4.1;have:(⟨(im l).1.toArray⟩:ByteArray).size=(im l).1.length:=by simp[ByteArray.size]
  omega
def Lf(a:dc)(k:Nat)(d Wr:List CV)(c b:Value)(st:dc):Prop:=
 (k=0/\d=[]/\Wr=[]/\c= .slice none 0 0/\b= .slice none 0 0/\st=a)\/(k=1/\ik a=some (d,st)/\Wr=[]/\b= .slice none 0 0)\/(k=2/\∃s1,ik a=some (d,s1)/\ik s1=some (Wr,st))
def Ms(w:World)(c:List Value)(g d g2:Nat)(S:Nat->Prop)(e:dc)(i:Value)(wr:World):Prop:=
 ∃(k:Nat)(f Wr:List CV)(a b:Value)(st:dc),k<=2/\i= .int .i64 (k:Int)/\aq wr d 46 (c++[a,b]).toArray/\aq wr g2 46 ca.toArray/\ed wr a f/\ed wr b Wr/\f.length<=1099511627776/\Wr.length<=1099511627776/\Ri w wr g S st/\Lf e k f Wr a b st
theorem DQ(t c n:Int)(s:ByteArray):prog.built 46 [(0, .agg [Value.int .i64 t, .int .i64 c, .int .i64 n, .string s].toArray)]=some ([Value.int .i64 t, .int .i64 c, .int .i64 n, .string s]++[Value.slice none 0 0, .slice none 0 0]).toArray:=by kernel_rfl
theorem gh:prog.built 46 []=some ca.toArray:=by kernel_rfl
theorem Bk(a b:Addr)(w:World):(Instr.index 128 (.agg #[.pointer (some a), .pointer (some b)]) (.int .i64 ((0:Nat):Int))).run prog w= .ok (.pointer (some a)) w:=by kernel_rfl
theorem Bl(a b:Addr)(w:World):(Instr.index 128 (.agg #[.pointer (some a), .pointer (some b)]) (.int .i64 ((1:Nat):Int))).run prog w= .ok (.pointer (some b)) w:=by kernel_rfl
theorem Bp:(prog.info? 44).map (·.size)=some 1:=by kernel_rfl
theorem qm(cs:List Value)(h:cs.length=6):(prog.info? 46).map (·.size)=some cs.toArray.size:=by rw[List.size_toArray,h];exact bQ
theorem gG:ca.toArray.all (·.oneCell')=true:=by simp[ca,Value.oneCell']
theorem ed.kj{W W':World}{g:Nat}{t:TypeId}{cs:Array Value}{v:Value}{l:List CV}(h:ed W v l)(a:aq W g t cs)(e:Fr (λk=>k=g) W W')(b:t≠177)(c:t≠174)(d:t≠119):ed W' v l:=
 h.cJ e (λk f=>by
  obtain rfl:k=g:=f;exact⟨λx=>b (a.ty.one x),λx=>c (a.ty.one x),λx=>d (a.ty.one x)⟩)
theorem IQ(a:List Value)(c b v:Value)(h:a.length=4):(a++[c,b]).set (4+0) v=a++[v,b]:=by
 rw[List.set_append_right _ _ (by omega),h];rfl
theorem IP(a:List Value)(b c v:Value)(h:a.length=4):(a++[b,c]).set (4+1) v=a++[b,v]:=by
 rw[List.set_append_right _ _ (by omega),h];rfl
theorem xI(s:ByteArray)(w:World)(cu:dO w)(cx:s.size<=16777216):Calls prog 20 #[.string s] w (yL w (aQ s)):=by
 obtain⟨l,bE⟩:∃l,aQ s=l:=⟨_,rfl⟩;have a9:Hid (l.length=s.size):=by rw[Hid,<-bE];exact aL s
 have bR:Hid (aQ s=l):=bE;rw[bE];have cb:=af cu;have bO:=af cx;have b5:Hid (∀W g S,Ri w W g S (l,0,0)->Calls prog 70 #[.pointer (some ⟨g,0,none⟩)] W (rG w W g S (.agg (gM l).1.cells.toArray) (gM l).2)):=λW g S h=>zV w W g S l h;have N:Hid (jo l=match ik (gM l).2 with
  |none=>none
  |some (R,st)=>match ik st with
   |none=>none
   |some (W,st2)=>if dK st2=0/\fR ⟨(gM l).1,R,W⟩=true then some ⟨(gM l).1,R,W⟩else none):=rfl;have a7:=af (Cm l);obtain⟨A,J⟩:∃O,jo l=O:=⟨_,rfl⟩;have y:Hid (∀cs a bf w',cL w' cs a->Fr Nothing w w'->((bf=0/\A=some a)\/(bf=3/\A=none/\a=oN))->yL w l (.returned (.tuple #[.agg cs.toArray, .int .i64 bf])) w'):=λcs a bf w' U ak bg=>⟨cs,a,bf,rfl,U,ak,by rw[J];exact bg⟩;rw[J]at N;generalize yL w l=PP at*;generalize b0:(gM l).1=r at*;generalize(gM l).2=aJ at*;clear cu cx bE J b0;have ad:Hid (r.cells.length=4):=rfl;have aK:Hid (prog.built 46 [(0, .agg r.cells.toArray)]=some (r.cells++[Value.slice none 0 0, .slice none 0 0]).toArray):=DQ _ _ _ _;have bM:Hid (∀m n:Value,m.oneCell'=true->n.oneCell'=true->(r.cells++[m,n]).toArray.all (·.oneCell')=true):=λm n U ak=>by simp only[dM.cells,List.cons_append,List.nil_append,List.all_toArray,List.all_cons,List.all_nil,U,ak];rfl
 have a4:Hid (∀(W:World)(m n:Value)(R Wr:List CV),ed W m R->ed W n Wr->cL W (r.cells++[m,n]) ⟨r,R,Wr⟩):=λW m n R Wr U ak=>⟨m,n,rfl,U,ak⟩;have bb:Hid (∀(W:World)(m n:Value)(R Wr:List CV),Fr Nothing w W->ed W m R->ed W n Wr->R.length<=1099511627776->Wr.length<=1099511627776->(∀c∈R,nj c)->(∀c∈Wr,nj c)->Calls prog 60 #[.agg (r.cells++[m,n]).toArray] W (aM W (.bool (fR ⟨r,R,Wr⟩)))):=λW m n R Wr f U ak bg cB bW bh=>
  oS ⟨r,R,Wr⟩ _ W (cb.out.ao f) ⟨m,n,rfl,U,ak⟩ (by show r.fD.size<=1099511627776;have:=a7.out.2;have:=a9.out;have:=bO.out;omega) bW bh bg cB;generalize r.cells=t at*;go_enter func20,ntmps20;go_wp2_with(refine an rfl 46 rfl eF kh ca.toArray rfl ?_);intro w1 n1;have b6:=af n1.fr;have cm:=af n1.aF;clear n1;generalize br:w.heap.size=g2 at*;have HG2:=af br;clear br;obtain⟨cA,w2,bX,ay,bw⟩:=mQ w1 s;have bB:=af (b6.out.trans ay);have cn:=af (cm.out.fr ay id);have ch:=af bw;clear ay bw cm b6;generalize w1.heap.size=gc at*;go_wp2_with fail;refine(jV _ _ cA l _ _ (by have h:=ch.out;rw[bR.out]at h;exact h) (by have:=bO.out;omega)).mono ?_;rintro e w3⟨g,S,rfl,bx,f3,bY,av⟩;have bT:Hid (Ri w w3 g S (l,0,0)):=⟨bB.out.trans f3,bx,by have:=bB.out.size;omega,λk bs=>⟨by have:=(av k bs).1;have:=bB.out.size;omega,(av k bs).2⟩⟩;have co:=af (cn.out.fr f3 id);clear bx f3 bY av bX ch cn bB;go_wp2_with fail;refine(b5.out _ g S bT.out).mono ?_;rintro e bz⟨rfl,cy,f4⟩;have bU:=af cy;have bV:=af (co.out.only bT.out f4 (by decide));clear cy f4 bT co b5;go_wp2_with(first|(refine wpList_buildTo rfl 46 #[(0, .tmp 13)] rfl (t++[Value.slice none 0 0, .slice none 0 0]).toArray (by simp only[List.map_toArray,List.map_cons,List.map_nil];exact aK.out) ?_)|(refine an rfl 46 rfl eF kh ca.toArray rfl ?_));intro cE n5;have bc:=af n5;clear n5;generalize aC:bz.heap.size=o at*;have b3:Hid (aq cE o 46 ca.toArray):=by have h:=bc.out.aF;rw[aC]at h;exact h
 have ac:Hid (bz.heap.size<=o):=by rw[Hid,aC];exact Nat.le_refl _
 clear aC;have d:Hid (∀m n:Value,(t++[m,n]).length=6):=λm n=>by rw[aT,ad.out];rfl
 have C:Hid (g2<o):=by have:=bV.out.lt;have:=ac.out;simp only[Hid];omega
 go_wp2_with(refine ai rfl 46 (.tmp 5) _ rfl o (t++[Value.slice none 0 0, .slice none 0 0]).toArray rfl rfl _ _ b3.out (qm _ (d.out _ _)) (by rw[List.size_toArray,List.size_toArray,d.out];rfl) (bM.out _ _ rfl rfl) ?_);intro b1 cr f6;have b4:=af cr;have ci:=af (bU.out.later bc.out.fr);have cp:=af ((bV.out.fr bc.out.fr id).fr f6 (λe=>by have aH:g2=o:=e;have:=C.out;omega));have cj:Hid (Ri w b1 g S aJ):=bU.out.wu ci.out f6 ac.out;have a8:Hid (Ms w t g o g2 S aJ (.int .i64 0) b1):=⟨0,[],[],_,_,aJ,by omega,rfl,b4.out,cp.out,ed.nil _,ed.nil _,by simp,by simp,cj.out, .inl ⟨rfl,rfl,rfl,rfl,rfl,rfl⟩⟩;have cz:Hid (bz.heap.size<=b1.heap.size):=Nat.le_trans bc.out.fr.size f6.size;clear cr f6 bc b3 ci bV b4 cp cj aK;go_wp2;go_loopw[18](λi wr=>Ms w t g o g2 S aJ i wr)(λi _=>2-(intOf i).toNat);case atStart=>exact a8.out
 case round=>
  obtain⟨k,R,Wr,m,n,st,bs,rfl,ct,cw,bp,bq,bu,bv,F,bn⟩:=hrel;have aD:=af ct;have be:=af cw;have aE:=af bp;have aG:=af bq;have cf:=af bu;have cg:=af bv;have I:=af F;have ST:=af bn;clear ct cw bp bq bu bv F bn a8;by_cases cC:k<2
  ·have t0:decide ((k:Int)<2)=true:=cX (by omega);have a6:Hid (∀W,(Instr.index 128 (.agg #[.pointer (some ⟨o,4,none⟩), .pointer (some ⟨o,5,none⟩)]) (.int .i64 (k:Int))).run prog W= .ok (.pointer (some ⟨o,4+k,none⟩)) W):=λW=>by
    by_cases Z:k=0;·subst Z;exact Bk _ _ W
    ·obtain rfl:k=1:=by omega
     exact Bl _ _ W
   have al:=a6.out;have bH:Hid (Calls prog 71 #[.pointer (some ⟨g,0,none⟩)] wr (Nl w wr g S (ik st))):=tc w wr g S st I.out cb.out;obtain⟨f4,az⟩:∃f,f=4+k:=⟨_,rfl⟩;have Q:=af az;rw[<-az]at al;clear az a6;go_wp2_with fail;refine bH.out.mono ?_;rintro e cF⟨v,b,rfl,f7,ax⟩;have aa:=af (aD.out.only I.out f7 (by decide));have bd:=af (be.out.only I.out f7 (by decide));have aS:=af (aE.out.only I.out f7);have aU:=af (aG.out.only I.out f7);rcases ax with⟨rfl,L,st',J,bD,bj,bl,_⟩|⟨rfl,J,rfl,_,bi⟩
   ·obtain⟨bA,bF,cv,rfl,bD⟩:=bD.form;have b9:=af J;have aO:=af bD;have cd:=af bj;have ck:=af bl;clear J bD bj bl f7 al bH aD be aE aG I;go_wp2_with(refine aZ rfl 44 (.tmp 27) (.tmp 25) rfl o f4 (.slice bA bF cv) rfl rfl rfl Bp _ _ ((t++[m,n]).toArray.setIfInBounds f4 (.slice bA bF cv)) aa.out (by rw[List.size_toArray,d.out];have:=Q.out;omega) rfl ?_);intro b2 b8 f8;have bG:=af b8;have H:=af (bd.out.fr f8 (λe=>by have aH:g2=o:=e;have:=C.out;omega));have bI:=af (aS.out.kj aa.out f8 (by decide) (by decide) (by decide));have bK:=af (aU.out.kj aa.out f8 (by decide) (by decide) (by decide));have aP:=af (aO.out.kj aa.out f8 (by decide) (by decide) (by decide));have cl:Hid (Ri w b2 g S st'):=bU.out.wu ck.out f8 ac.out;clear b8 f8 aa bd aS aU aO ck;go_wp2;go_roundw;case rel=>
     by_cases Z:k=0
     ·subst Z;refine⟨1,L,Wr, .slice bA bF cv,n,st',by omega,rfl,?_,H.out,aP.out,bK.out,cd.out,cg.out,cl.out, .inr (.inl ⟨rfl,?_⟩)⟩
      ·have h:=bG.out;rw[Q.out]at h;try rw[List.setIfInBounds_toArray]at h
       rw[IQ _ _ _ _ ad.out]at h;exact h
      ·rcases ST.out with⟨_,_,bg,_,bW,bh⟩|⟨h,_⟩|⟨h,_⟩;·subst bh;exact⟨b9.out,bg,bW⟩
       ·cases h
       ·cases h
     ·obtain rfl:k=1:=by omega
      refine⟨2,R,L,m, .slice bA bF cv,st',by omega,rfl,?_,H.out,bI.out,aP.out,cf.out,cd.out,cl.out, .inr (.inr ⟨rfl,st,?_⟩)⟩
      ·have h:=bG.out;rw[Q.out]at h;try rw[List.setIfInBounds_toArray]at h
       rw[IP _ _ _ _ ad.out]at h;exact h
      ·rcases ST.out with⟨h,_⟩|⟨_,h,_⟩|⟨h,_⟩;·cases h
       ·exact⟨h,b9.out⟩
       ·cases h
    case measure=>simp[intOf];omega
   ·have G:Hid (A=none):=by
     rw[Hid,N.out];rcases ST.out with⟨_,_,_,_,_,bh⟩|⟨_,h,_⟩|⟨h,_⟩;·subst bh;rw[J]
     ·rw[h];simp only;rw[J]
     ·omega
    have b7:=af bi;clear J bi f7 al bH aD be aE aG I;go_wp2_with(first|(refine wpList_buildTo rfl 46 #[] rfl ca.toArray gh ?_)|(refine ai rfl 46 (.tmp 2) _ rfl g2 ca.toArray rfl rfl _ _ bd.out bQ rfl gG ?_)|(refine aZ rfl 44 (.tmp 27) (.tmp 25) rfl o f4 (.slice none 0 0) rfl rfl rfl Bp _ _ ((t++[m,n]).toArray.setIfInBounds f4 (.slice none 0 0)) aa.out (by rw[List.size_toArray,d.out];have:=Q.out;omega) rfl ?_));intro b2 b8 f8;have H:=af (bd.out.fr f8 (λe=>by have aH:g2=o:=e;have:=C.out;omega));have aW:Hid (Fr Nothing w b2):=b7.out.aw f8 (λi bZ e=>by have aH:i=o:=e;have:=C.out;have:=HG2.out;omega);clear b8 f8 aa bd b7;go_wp2_with(first|(refine wpList_buildTo rfl 46 #[] rfl ca.toArray gh ?_)|(refine ai rfl 46 (.tmp 2) _ rfl g2 ca.toArray rfl rfl _ _ H.out bQ rfl gG ?_));intro E Y T;have aN:=af Y;have aY:Hid (Fr Nothing w E):=aW.out.aw T (λi bZ e=>by have aH:i=g2:=e;have:=HG2.out;omega);have ba:=af (y.out ca oN 3 E (rm E) aY.out (.inr ⟨rfl,G.out,rfl⟩));clear Y T H aW;go_wp2;exact bodyPost_ret (bm (fn:=Tryz.f20) (p:=2) (q:=3) (ty:=46) results20 _ E _ 46 ca.toArray (0,0) _ rfl aN.out underlying46 rfl bQ _ rfl) rfl ba.out
  ·obtain rfl:k=2:=by omega
   obtain⟨s1,am,ap⟩:∃s1,ik aJ=some (R,s1)/\ik s1=some (Wr,st):=by
    rcases ST.out with⟨h,_⟩|⟨h,_⟩|⟨_,h⟩;·cases h
    ·cases h
    ·exact h
   have ae:Hid (A=if dK st=0/\fR ⟨r,R,Wr⟩=true then some ⟨r,R,Wr⟩else none):=by
    rw[Hid,N.out,am];simp only;rw[ap]
   have a5:Hid ((∀c∈R,nj c)/\∀c∈Wr,nj c):=by
    have bC:aJ.1.length<=l.length:=a7.out.1;have bt:l.length<=16777216:=by have:=a9.out;have:=bO.out;omega
    obtain⟨cq,a2⟩:=s8 _ bt _ _ _ _ _ am (Nat.le_trans (ig _ _) bC) (λc V=>by cases V);obtain⟨a3,_⟩:=s8 _ bt _ _ _ _ _ ap (Nat.le_trans (ig _ _) a2) (λc V=>by cases V);exact⟨λc V=>⟨by have:=cq c V;omega,by have:=cq c V;omega⟩,λc V=>⟨by have:=a3 c V;omega,by have:=a3 c V;omega⟩⟩
   have ab:Hid (∀W,Fr Nothing wr W->Calls prog 72 #[.pointer (some ⟨g,0,none⟩)] W (bJ W (.int .i64 (dK st)))):=λW f=>(I.out.later f).close;clear am ap N ST;have aj:Hid (Fr Nothing w wr):=I.out.fr;have a1:=af (a4.out wr m n R Wr aE.out aG.out);obtain⟨ce,bo⟩:∃ce,dK st=ce:=⟨_,rfl⟩;rw[bo]at ae ab;clear bo;have aV:Hid (∀W,Fr Nothing wr W->Calls prog 60 #[.agg (t++[m,n]).toArray] W (aM W (.bool (fR ⟨r,R,Wr⟩)))):=λW f=>bb.out W m n R Wr (aj.out.trans f) (aE.out.ao f) (aG.out.ao f) cf.out cg.out a5.out.1 a5.out.2;generalize fR ⟨r,R,Wr⟩=ok at*;clear bb a4;obtain⟨P,bk⟩:∃P,(ce !=0)=P:=⟨_,rfl⟩;have ag:=af bk;clear bk;have M:Hid (∀W,Fr Nothing wr W->∀j x,(t++[m,n])[j]? =some x->W.cell? ((⟨o,0,none⟩:Addr).add j)=some x):=λW f j x cD=>by
    rw[Addr.add_mid,Nat.zero_add,(aD.out.fr f id).cell j,bP];exact cD
   have cc:Hid ((prog.info? 46).map (·.size)=some (t++[m,n]).length):=by rw[Hid,d.out];exact bQ
   obtain⟨B,bC⟩:∃z:Bool,(bif P then true else(!ok))=z:=⟨_,rfl⟩;have HB:=af bC;clear bC;go_upto_region 11 with fail;refine lF 8 [.pointer (some ⟨g,0,none⟩), .int .i64 ce, .bool P, .bool P,bif P then undef else .agg (t++[m,n]).toArray,bif P then undef else .bool ok,bif P then undef else .bool (!ok), .bool B] ?zC ?_;case zC=>
    refine⟨?zK,?zD,?zE,?zF,?zG,?zH,?zI,?zJ,trivial⟩;all_goals intro u w' K F
    all_goals simp only[z1,z2,z3,z4,ar,Act.put,z5,z6,z7,Nat.reduceAdd,Nat.zero_add]
    case zD=>
     simp only[ah (F 0)];refine aI ?_;go_simp;refine(ab.out _ K).mono ?_;rintro e bz⟨rfl,rfl⟩;exact aR
    case zE=>
     simp only[ah (F 1)];refine aI ?_;have t1:=ag.out;go_simp;exact aR
    case' zF=>simp only[ah (F 2)]
    case zG=>
     simp only[ah (F 3)];cases P;case true=>exact bS
     refine aI ?_;exact au _ _ rfl ⟨o,0,none⟩ rfl (t++[m,n]) _ (M.out _ K) underlying46 rfl cc.out aR
    case zH=>
     simp only[ah (F 4),ah (F 3)];cases P;case true=>exact bS
     refine aI ?_;go_simp;refine(aV.out _ K).mono ?_;rintro e bz⟨rfl,f4⟩;exact⟨rfl,f4⟩
    case' zI=>
     simp only[ah (F 5),ah (F 3)];cases P;case true=>exact bS
    case zJ=>
     simp only[ah (F 3),ah (F 6)];cases P<;>exact aI (by go_simp;exact⟨by rw[<-HB.out];rfl,aA⟩)
    all_goals
     try simp only[cond]
     refine aI ?_;go_simp;exact aR
   intro w' K;simp only[z1,z2,z3,z4,ar,Act.put,z5,z6,z7,z8,z9,jS,jT,Nat.reduceAdd,Nat.zero_add];have D:Hid (A=if B=false then some ⟨r,R,Wr⟩else none):=by
    rw[Hid,ae.out,<-HB.out];have Z:(ce=0)↔P=false:=by rw[<-ag.out,bne_eq_false_iff_eq]
    cases bk:P
    ·rw[bk]at Z;have U:ce=0:=Z.2 rfl;cases ok;·rw[if_neg (λh=>by cases h.2)];rfl
     ·rw[if_pos ⟨U,rfl⟩];rfl
    ·rw[bk]at Z;rw[if_neg (λh=>by cases(Z.1 h.1))];rfl
   have aW:=af (aj.out.trans K);have H:=af (be.out.fr K id);have bG:=af (aD.out.fr K id);have a0:=af (a1.out.ao K);have M:=af (M.out _ K);clear K aV aj be aD a1 aE aG I ab ae HB ag;cases X:B;case true=>
    have G:Hid (A=none):=by rw[Hid,D.out,X];rfl
    clear X D;go_wp2_with(first|(refine wpList_buildTo rfl 46 #[] rfl ca.toArray gh ?_)|(refine ai rfl 46 (.tmp 2) _ rfl g2 ca.toArray rfl rfl _ _ H.out bQ rfl gG ?_));intro E Y T;have aN:=af Y;have aY:Hid (Fr Nothing w E):=aW.out.aw T (λi bZ e=>by have aH:i=g2:=e;have:=HG2.out;omega);have ba:=af (y.out ca oN 3 E (rm E) aY.out (.inr ⟨rfl,G.out,rfl⟩));clear Y T;go_wp2;exact bodyPost_ret (bm (fn:=Tryz.f20) (p:=2) (q:=3) (ty:=46) results20 _ E _ 46 ca.toArray (0,0) _ rfl aN.out underlying46 rfl bQ _ rfl) rfl ba.out
   case false=>
    have G:Hid (A=some ⟨r,R,Wr⟩):=by rw[Hid,D.out,X];rfl
    have bN:Hid ((t++[m,n]).toArray.all (·.oneCell')=true):=ActV.one a0.out;clear X D;go_wp2_with(refine aB rfl 46 (.tmp 5) rfl ⟨o,0,none⟩ rfl (t++[m,n]) _ ?zA underlying46 rfl cc.out (aX.go ?zB));case zA=>exact M.out
    unfold aX;go_wp2_with(refine ai rfl 46 (.tmp 2) _ rfl g2 (t++[m,n]).toArray rfl rfl _ _ H.out (qm _ (d.out _ _)) (by rw[List.size_toArray,List.size_toArray,d.out];rfl) bN.out ?_);intro E Y T;have aN:=af Y;have aY:Hid (Fr Nothing w E):=aW.out.aw T (λi bZ e=>by have aH:i=g2:=e;have:=HG2.out;omega);have bL:Hid (cL E (t++[m,n]) ⟨r,R,Wr⟩):=a0.out.cJ T (λk bs=>by
     obtain rfl:k=g2:=bs;exact⟨λx=>absurd (x.one H.out.ty) (by decide),λx=>absurd (x.one H.out.ty) (by decide),λx=>absurd (x.one H.out.ty) (by decide)⟩);have ba:=af (y.out _ _ 0 E bL.out aY.out (.inl ⟨rfl,G.out⟩));clear Y T;go_wp2;exact bodyPost_ret (bm (fn:=Tryz.f20) (p:=2) (q:=3) (ty:=46) results20 _ E _ 46 (t++[m,n]).toArray (0,0) _ rfl aN.out underlying46 rfl (qm _ (d.out _ _)) _ rfl) rfl ba.out
end Go.Proofs.YtphjagkehiklkaaGreatDoor
