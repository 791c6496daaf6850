/- Texts. -/
import Derived.Test.YtphjagkehiklkaaGreatDoorWK39
import Derived.Test.YtphjagkehiklkaaGreatDoorWK47
import Derived.Test.YtphjagkehiklkaaGreatDoorWK48
set_option linter.unusedVariables false
set_option linter.unusedSimpArgs false
set_option maxRecDepth 100000
set_option maxHeartbeats 16000000
namespace Go.Proofs.YtphjagkehiklkaaGreatDoor
open Go.RowKit Go.Shelf
theorem IG:Tryz.prog.built 38 [(0, .int .u8 1)]=some (((1::List.replicate 31 0:List UInt8)).map aS).toArray:=by kernel_rfl
theorem GC:Tryz.prog.built 38 []=some ((List.replicate 32 0:List UInt8).map aS).toArray:=by kernel_rfl
theorem IJ(E:List Ent)(L:List ActV)(m n:Nat)(hm:m≤n)(e:n≤L.length)(g:L.length≤16):
  ∃P,ou E L m n=(P,0)∧(∀d∈P,d.length=32)∧Lt.eZ (Lt.dC (cj E (L.take m))) ((m:Int)+1) ((n:Int)+1) P=(Lt.dC (cj E (L.take m)),Lt.dC (cj E (L.take n)),0):=by
 have c:(cj E (L.take n)).length=n+1:=by rw[gj,List.length_take,Nat.min_eq_left e]
 have f:(cj E (L.take n)).take (m+1)=cj E (L.take m):=by rw[nJ,List.take_take,Nat.min_eq_left hm]
 have a:((m:Int)+1)=((m+1:Nat):Int):=by omega
 have b:((n:Int)+1)=((n+1:Nat):Int):=by omega
 refine⟨Lt.ev (cj E (L.take n)) (m+1) true,?_,?_,?_⟩;·unfold ou;rw[if_pos (by omega),a,b,Lt.wL _ _ _ (by rw[gj];omega) (by omega) (by omega),nJ]
 ·exact Lt.Bj (n+1) _ (m+1) true c (by omega) (by omega) (by omega) (jM _ _)
 ·have h:=Lt.AO (n+1) (cj E (L.take n)) (m+1) c (by omega) (by omega) (by omega);unfold Lt.xD at h;rw[if_neg (by omega),f]at h;rw[a,b];exact h
theorem pC(m0 n0:Int)(bd:Nat)(a7:Option Addr)(bx:Nat)(w:World)(b5:tK w a7 bd)(bA:eE w)(bb:bB w):
  Calls Tryz.prog 8 #[.slice a7 bd bx, .int .i64 m0, .int .i64 n0] w (yH w):=by
 have bK:=af (By w bA bb);have bJ:Hid (∀w',Fr ag w w'→Calls Tryz.prog 14 #[.slice none 0 0, .slice a7 bd bx] w' (qx w')):=fun w' f=>Bt 0 [] none 0 (fun _=>True) bd a7 bx w' ⟨Rd.none_,rfl⟩ (by decide) (by decide) (b5.ar f) (bA.ar f) (bb.ar f);have S:=af bb;clear b5 bA bb;go_enter Tryz.func8,Tryz.ntmps8;go_wp2_with fail;refine bK.out.mono ?_;rintro e w1⟨rfl,f1⟩;have bl:=af f1;clear f1 bK;go_wp2_with fail;refine(bJ.out _ bl.out).mono ?_;rintro e w2⟨h,b,ms,E,L,T,rfl,b4,b6,cl,a,_,f2⟩;obtain⟨A,nl,c,rfl,a5,cn,cm,ck,a6,zA⟩:=id b6;have bL:=af (bl.out.trans f2);have bR:=af b4;have y:Hid (nl=L.length∧nl≤16):=by have:=a.len;exact⟨a5,by omega⟩
 have cf:Hid ([Value.pointer (some ⟨b,0,none⟩), .slice A nl c].toArray.all (·.oneCell')=true):=by simp[Hid,Value.oneCell']
 clear f2 b4 b6 cl a a5 cn cm a6 zA bJ bl;go_wp2_with(refine Ak rfl rfl rfl 28 8 rfl rfl (.tmp 27) rfl _ rfl (.agg sd.toArray) Iv #[.pointer none, .slice none 0 0] rfl (.pointer (some ⟨h,0,none⟩)) [Value.pointer (some ⟨b,0,none⟩), .slice A nl c].toArray (fun _=>rfl) (fun _=>rfl) (fun _=>rfl) je rfl cf.out ?_);intro w3 g8 _ _ b3 f3;have bD:=af b3;have bM:=af (bL.out.trans f3);have aR:=af (bR.out.ar f3);clear b3 f3 bR bL;go_wp2_with fail;refine(xm h E L T m0 n0 _ aR.out (S.out.ar bM.out) (by have:=y.out;omega)).mono ?_;rintro e V⟨v,rfl,F⟩;have hlen:(ou E L m0 n0).1.length≤(ou E L m0 n0).1.length:=Nat.le_refl _;have f4:Fr ag w3 V:=F.ar;have ae:=af f4;have Q:=af (bM.out.trans f4);have m1:V.cell? ⟨g8,1,none⟩=some (.slice A nl c):=(bD.out.fr f4 (fun x=>x)).cell 1;by_cases bc:0≤n0∧n0≤L.length∧0≤m0∧m0≤n0;case neg=>
  have b0:ou E L m0 n0=([],2):=by unfold ou;rw[if_neg bc]
  rw[b0]at F⊢;obtain⟨J,K,rfl,s,C,D,_⟩:=Lt.eM.qY F rfl (fun d co=>by cases co);have b9:=af GC;have ca:=af IG;have br:Hid (min n0 (-1)<0):=by simp only[Hid];omega
  have cb:Hid (∀w' k,k<0→Fr ag w w'→Calls Tryz.prog 35 #[.agg ((List.replicate 32 0:List UInt8).map aS).toArray, .int .i64 m0, .agg (((1::List.replicate 31 0:List UInt8)).map aS).toArray, .int .i64 k, .slice none 0 0] w' (aJ w' (.bool false))):=fun w' k cz f=>by
   have q:=kT (List.replicate 32 0) (by decide) (1::List.replicate 31 0) (by decide) m0 k [] 0 none 0 (fun _=>True) w' ⟨Rd.none_,rfl,by simp⟩ (Nat.le_refl _) (by decide) (S.out.ar f);have e:rB (List.replicate 32 0) m0 (1::List.replicate 31 0) k []=false:=by
    unfold rB;rw[if_neg (by omega)]
   rw[e]at q;exact q
  generalize((List.replicate 32 0:List UInt8).map aS).toArray=bV at*;generalize(((1::List.replicate 31 0:List UInt8)).map aS).toArray=bW at*;clear b0 F s C D hlen f4 aR;obtain⟨g,a1⟩:∃g,decide (n0<0)=g:=⟨_,rfl⟩;obtain⟨p,a2⟩:∃p,decide ((nl:Int)<n0)=p:=⟨_,rfl⟩;obtain⟨G,aZ⟩:∃G,decide (m0<0)=G:=⟨_,rfl⟩;obtain⟨M2,a0⟩:∃M2,decide (n0<m0)=M2:=⟨_,rfl⟩;have aU:=af a1;have aV:=af a2;have R:=af aZ;have aT:=af a0;have cc:=af bc;clear a1 a2 aZ a0 bc m1;obtain⟨B,bZ⟩:∃z:Bool,(bif g then true else(bif p then true else(bif G then true else M2)))=z:=⟨_,rfl⟩;have HB:=af bZ;clear bZ;go_upto_region 5 with fail;refine iQ 18 [.int .i64 n0, .bool g, .bool g,bif g then undef else .int .i64 n0,bif g then undef else .pointer (some ⟨g8,1,none⟩),bif g then undef else .slice A nl c,bif g then undef else .int .i64 (nl:Nat),bif g then undef else .bool p,bif g then .bool true else .bool p,bif g then .bool true else .bool p,bif g then undef else(bif p then undef else .int .i64 m0),bif g then undef else(bif p then undef else .bool G),bif g then .bool true else(bif p then .bool true else .bool G),bif g then .bool true else(bif p then .bool true else .bool G),bif g then undef else(bif p then undef else(bif G then undef else .int .i64 m0)),bif g then undef else(bif p then undef else(bif G then undef else .int .i64 n0)),bif g then undef else(bif p then undef else(bif G then undef else .bool M2)), .bool B] ?xD ?_;case xD=>
   refine⟨?ZR,?xH,?xI,?xJ,?xK,?xL,?xM,?xN,?xO,?xP,?zB,?zC,?zD,?zE,?zF,?zG,?zH,?zI,trivial⟩;all_goals intro u w' i a
   all_goals simp only[z1,z2,z3,z4,ay,Act.put,z5,z6,z7,Nat.reduceAdd,Nat.zero_add]
   case xH=>
    simp only[show u 0=_ from a 0];refine aG ?_;have t:=aU.out;go_simp;exact aM
   case' xI=>simp only[show u 1=_ from a 1]
   case' xJ=>
    simp only[show u 2=_ from a 2];cases g;case true=>exact bE
   case' xK=>
    simp only[show u 2=_ from a 2];cases g;case true=>exact bE
   case xL=>
    simp only[show u 4=_ from a 4,show u 2=_ from a 2];cases g;case true=>exact bE
    refine aG ?_;have q:_=some _:=(bD.out.fr (ae.out.trans i) (fun x=>x)).cell 1;go_simp;exact aM
   case' xM=>
    simp only[show u 5=_ from a 5,show u 2=_ from a 2];cases g;case true=>exact bE
   case xN=>
    simp only[show u 3=_ from a 3,show u 6=_ from a 6,show u 2=_ from a 2];cases g;case true=>exact bE
    refine aG ?_;have t:=aV.out;go_simp;exact aM
   case' xO=>
    simp only[show u 2=_ from a 2,show u 7=_ from a 7];cases g
   case' xP=>
    simp only[show u 8=_ from a 8];cases g
   case' zB=>
    simp only[show u 9=_ from a 9];cases g;case true=>exact bE
    cases p;case true=>exact bE
   case zC=>
    simp only[show u 10=_ from a 10,show u 9=_ from a 9];cases g;case true=>exact bE
    cases p;case true=>exact bE
    refine aG ?_;have t:=R.out;go_simp;exact aM
   case' zD=>
    simp only[show u 9=_ from a 9,show u 11=_ from a 11];cases g<;>cases p
   case' zE=>
    simp only[show u 12=_ from a 12];cases g<;>cases p
   case' zF=>
    simp only[show u 13=_ from a 13];cases g;case true=>exact bE
    cases p;case true=>exact bE
    cases G;case true=>exact bE
   case' zG=>
    simp only[show u 13=_ from a 13];cases g;case true=>exact bE
    cases p;case true=>exact bE
    cases G;case true=>exact bE
   case zH=>
    simp only[show u 14=_ from a 14,show u 15=_ from a 15,show u 13=_ from a 13];cases g;case true=>exact bE
    cases p;case true=>exact bE
    cases G;case true=>exact bE
    refine aG ?_;have t:=aT.out;go_simp;exact aM
   case zI=>
    simp only[show u 13=_ from a 13,show u 16=_ from a 16];cases g<;>cases p<;>cases G<;>exact aG (by go_simp;exact⟨by rw[←HB.out];rfl,aD⟩)
   all_goals
    try simp only[cond]
    refine aG ?_;go_simp;exact aM
  intro w' i;simp only[z1,z2,z3,z4,ay,Act.put,z5,z6,z7,z8,z9,jx,jy,Nat.reduceAdd,Nat.zero_add];have aQ:=af (Q.out.trans i);clear i;obtain rfl:B=true:=by
   rw[←HB.out];have cp:=aU.out;have cq:=aV.out;have cr:=R.out;have cs:=aT.out;have cA:=cc.out;have cB:=y.out;cases g<;>cases p<;>cases G<;>cases M2<;>first|rfl|(exfalso;simp only[decide_eq_false_iff_not]at cp cq cr cs;omega)
  generalize w'=cu at*;go_upto_region 6 with fail;refine iQ 17 [.int .i64 2, .bool true, .bool true, .slice J 0 K, .int .i64 0, .bool true, .bool true, .bool true, .agg bV, .int .i64 m0, .agg bW, .int .i64 n0, .int .i64 (min n0 (-1)), .bool false, .bool true, .bool true, .bool true] ?xG ?_;case xG=>
   refine⟨?ZU,?ZI,?ZJ,?ZK,?ZL,?ZM,?ZN,?ZO,?ZP,?ZQ,?yU,?yV,?yW,?yX,?yY,?yZ,?xA,trivial⟩;all_goals intro u w' i a
   all_goals simp only[z1,z2,z3,z4,ay,Act.put,z5,z6,z7,Nat.reduceAdd,Nat.zero_add]
   case ZI=>
    simp only[show u 0=_ from a 0];refine aG ?_;go_simp;exact aM
   case' ZJ=>simp only[show u 1=_ from a 1]
   case' ZK=>simp only[show u 2=_ from a 2]
   case ZL=>
    simp only[show u 3=_ from a 3,show u 2=_ from a 2];refine aG ?_;go_simp;exact aM
   case ZM=>
    simp only[show u 4=_ from a 4,show u 2=_ from a 2];refine aG ?_;go_simp;exact aM
   case' ZN=>simp only[show u 2=_ from a 2,show u 5=_ from a 5]
   case' ZO=>simp only[show u 6=_ from a 6]
   case ZP=>
    simp only[show u 7=_ from a 7];refine aG ?_;exact iF 38 _ rfl bV _ (by simp only[List.map_toArray,List.map_nil]) b9.out aM
   case' ZQ=>simp only[show u 7=_ from a 7]
   case yU=>
    simp only[show u 7=_ from a 7];refine aG ?_;exact iF 38 _ rfl bW _ (by simp only[List.map_toArray,List.map_cons,List.map_nil];rfl) ca.out aM
   case' yV=>simp only[show u 7=_ from a 7]
   case yW=>
    simp only[show u 11=_ from a 11,show u 7=_ from a 7];refine aG ?_;go_simp;exact aM
   case yX=>
    simp only[show u 8=_ from a 8,show u 9=_ from a 9,show u 10=_ from a 10,show u 12=_ from a 12,show u 7=_ from a 7];refine aG ?_;go_simp;refine(cb.out _ _ br.out (aQ.out.trans i)).mono ?_;rintro e b7⟨rfl,aY⟩;exact⟨rfl,aY⟩
   case' yY=>simp only[show u 13=_ from a 13,show u 7=_ from a 7]
   case' yZ=>simp only[show u 7=_ from a 7,show u 14=_ from a 14]
   case' xA=>simp only[show u 15=_ from a 15]
   all_goals
    refine aG ?_;go_simp;exact aM
  intro w' i;simp only[z1,z2,z3,z4,ay,Act.put,z5,z6,z7,z8,z9,jx,jy,Nat.reduceAdd,Nat.zero_add];have bq:=af (aQ.out.trans i);clear i;go_wp2;go_ret;exact⟨rfl,bq.out⟩
 have t1:decide (n0<0)=false:=ct (by omega);have t2:decide ((nl:Int)<n0)=false:=ct (by have:=y.out;omega);have t3:decide (m0<0)=false:=ct (by omega);have t4:decide (n0<m0)=false:=ct (by omega);obtain⟨n,a5⟩:∃n:Nat,n0=n:=⟨n0.toNat,by omega⟩;obtain⟨m,hm⟩:∃m:Nat,m0=m:=⟨m0.toNat,by omega⟩;obtain⟨P,bz,a4,N⟩:=IJ E L m n (by omega) (by omega) (by have:=y.out;omega);rw[←a5,←hm]at bz N;rw[bz]at F⊢;obtain⟨J,K,rfl,s,C,D,_⟩:=Lt.eM.qY F rfl a4;have U:(Lt.dC (cj E (L.take m))).length=32:=Lt.iW _ _ rfl (by rw[gj,List.length_take];have:=y.out;omega) (jM _ _);have O:(Lt.dC (cj E (L.take n))).length=32:=Lt.iW _ _ rfl (by rw[gj,List.length_take];have:=y.out;omega) (jM _ _);have ab:Hid (∀w',Fr ag V w'→Calls Tryz.prog 16 #[.pointer (some ⟨h,0,none⟩), .int .i64 m0] w' (aJ w' (.tuple #[aE (Lt.dC (cj E (L.take m))), .int .i64 0]))):=fun w' f=>by
  have q:=pT h E L T m0 w' ((aR.out.ar ae.out).ar f) (S.out.ar (Q.out.trans f)) (by have:=y.out;omega);unfold qz at q;rw[if_pos (by omega),show m0.toNat=m by omega]at q;exact q
 have aa:Hid (∀w',Fr ag V w'→Calls Tryz.prog 16 #[.pointer (some ⟨h,0,none⟩), .int .i64 n0] w' (aJ w' (.tuple #[aE (Lt.dC (cj E (L.take n))), .int .i64 0]))):=fun w' f=>by
  have q:=pT h E L T n0 w' ((aR.out.ar ae.out).ar f) (S.out.ar (Q.out.trans f)) (by have:=y.out;omega);unfold qz at q;rw[if_pos (by omega),show n0.toNat=n by omega]at q;exact q
 generalize Lt.dC (cj E (L.take m))=r at*;generalize Lt.dC (cj E (L.take n))=l at*;have ac:Hid (∀w',Fr ag V w'→Calls Tryz.prog 36 #[aE r, .int .i64 (m0+1), .int .i64 (n0+1), .slice J P.length K] w' (aJ w' (.tuple #[aE r,aE l, .int .i64 0]))):=fun w' f=>by
  have q:=Lt.mV r U (m0+1) (n0+1) (by have:=y.out;omega) (by have:=y.out;omega) P _ J K _ w' (s.ar f) C D (S.out.ar (Q.out.trans f));rw[N]at q;exact q
 have ad:Hid (∀w',Fr ag V w'→Calls Tryz.prog 36 #[aE l, .int .i64 (m0+1), .int .i64 (n0+1), .slice J P.length K] w' (aJ w' (.tuple #[aE (Lt.eZ l (m0+1) (n0+1) P).1,aE (Lt.eZ l (m0+1) (n0+1) P).2.1, .int .i64 (Lt.eZ l (m0+1) (n0+1) P).2.2]))):=fun w' f=>
  Lt.mV l O (m0+1) (n0+1) (by have:=y.out;omega) (by have:=y.out;omega) P _ J K _ w' (s.ar f) C D (S.out.ar (Q.out.trans f));have aP:Hid (∀w',Fr ag V w'→Calls Tryz.prog 35 #[aE r, .int .i64 m0,aE l, .int .i64 n0, .slice J P.length K] w' (aJ w' (.bool true))):=fun w' f=>by
  have q:=kT r U l O m0 n0 P _ J K _ w' (s.ar f) C D (S.out.ar (Q.out.trans f));unfold rB at q;rw[N,if_pos (by have:=y.out;omega)]at q;simpa using q
 have M:Hid (∀w',Fr ag V w'→Calls Tryz.prog 35 #[aE l, .int .i64 m0,aE r, .int .i64 n0, .slice J P.length K] w' (aJ w' (.bool (bif decide ((Lt.eZ l (m0+1) (n0+1) P).2.2=0)then(bif decide ((Lt.eZ l (m0+1) (n0+1) P).1=l)then decide ((Lt.eZ l (m0+1) (n0+1) P).2.1=r)else false)else false)))):=fun w' f=>by
  have q:=kT l O r U m0 n0 P _ J K _ w' (s.ar f) C D (S.out.ar (Q.out.trans f));unfold rB at q;rw[if_pos (by have:=y.out;omega)]at q;exact q
 obtain⟨l1,l2⟩:=Lt.qO l (m0+1) (n0+1) P O s.each;generalize(Lt.eZ l (m0+1) (n0+1) P).2.2=ba at*;generalize(Lt.eZ l (m0+1) (n0+1) P).2.1=al at*;generalize(Lt.eZ l (m0+1) (n0+1) P).1=ak at*;have ci:Hid (∀w:World,(binOp .eql 38 (.agg (r.map aS).toArray) (.agg (r.map aS).toArray)).run Tryz.prog w= .ok (.bool true) w):=zl _ U;have ch:Hid (∀w:World,(binOp .eql 38 (.agg (l.map aS).toArray) (.agg (l.map aS).toArray)).run Tryz.prog w= .ok (.bool true) w):=zl _ O;have bS:Hid (∀w:World,(binOp .eql 38 (.agg (ak.map aS).toArray) (.agg (l.map aS).toArray)).run Tryz.prog w= .ok (.bool (decide (ak=l))) w):=fun w=>oU w _ Tryz.underlying38 ak l l1 O;have bU:Hid (∀w:World,(binOp .eql 38 (.agg (al.map aS).toArray) (.agg (r.map aS).toArray)).run Tryz.prog w= .ok (.bool (decide (al=r))) w):=fun w=>oU w _ Tryz.underlying38 al r l2 U;have bi:Hid (Lt.bT (ak.map aS).toArray):=Lt.bT.of l1;have bk:Hid (Lt.bT (al.map aS).toArray):=Lt.bT.of l2;have an:Hid (Lt.bT (r.map aS).toArray):=Lt.bT.of U;have am:Hid (Lt.bT (l.map aS).toArray):=Lt.bT.of O;have cd:Hid ((Tryz.prog.info? 38).map (·.size)=some (ak.map aS).length):=by rw[Hid,List.length_map,l1];exact cg
 have ce:Hid ((Tryz.prog.info? 38).map (·.size)=some (al.map aS).length):=by rw[Hid,List.length_map,l2];exact cg
 have iOq:Hid ((Tryz.prog.info? 38).map (·.size)=some (r.map aS).length):=by rw[Hid,List.length_map,U];exact cg
 have ao:Hid ((Tryz.prog.info? 38).map (·.size)=some (l.map aS).length):=by rw[Hid,List.length_map,O];exact cg
 obtain⟨I,ah⟩:∃I,decide (ak=l)=I:=⟨_,rfl⟩;obtain⟨a8,ai⟩:∃a8,decide (al=r)=a8:=⟨_,rfl⟩;obtain⟨o,aj⟩:∃o,(ba==0)=o:=⟨_,rfl⟩;have bs:=af aj;have bY:decide (ba=0)=o:=by rw[←aj];by_cases h:ba=0<;>simp[h]
 rw[ah,ai,bY]at M;rw[ah]at bS;rw[ai]at bU;unfold aE at ab aa ac ad aP M;generalize ak.map aS=bv at*;generalize al.map aS=bw at*;generalize r.map aS=H at*;generalize l.map aS=NV at*;have cx:IntKind.i64.wrap (n0+1)=n0+1:=IntWalk.i64_in _ (by have:=y.out;omega);have cy:IntKind.i64.wrap (m0+1)=m0+1:=IntWalk.i64_in _ (by have:=y.out;omega);clear bc bz a4 N F s C D U O l1 l2 ah ai aj bY a5 hm aR f4 hlen;generalize P.length=pl at*;go_wp2_with fail;refine(ab.out _ aD).mono ?_;rintro e cu⟨rfl,f5⟩;have aQ:=af f5;clear f5 ab t1 t2 t3 t4 m1;go_wp2_with(refine vw rfl rfl 38 11 rfl rfl _ rfl aI dW aB rfl H.toArray (fun _=>rfl) (fun _=>rfl) an.out.info an.out.zero an.out.one ?_);intro cC g11 _ _ bX f6;have bm:=af (aQ.out.trans f6);have aq:=af bX;clear bX f6 aQ;go_wp2_with fail;refine(aa.out _ bm.out).mono ?_;rintro e cD⟨rfl,f7⟩;have bN:=af (bm.out.trans f7);have au:=af (aq.out.fr f7 (fun x=>x));clear f7 aa bm aq;go_wp2_with(refine vw rfl rfl 38 13 rfl rfl _ rfl aI dW aB rfl NV.toArray (fun _=>rfl) (fun _=>rfl) am.out.info am.out.zero am.out.one ?_);intro cv g13 _ _ b8 f8;have bn:=af (bN.out.trans f8);have X:=af (au.out.fr f8 (fun x=>x));have aA:=af b8;clear b8 f8 bN au;have bu:Hid (∀j x,H[j]? =some x→cv.cell? ((⟨g11,0,none⟩:Addr).add j)=some x):=fE X.out;go_wp2_with(refine aF rfl 38 (.tmp 11) rfl ⟨g11,0,none⟩ rfl H _ ?xB Tryz.underlying38 rfl iOq.out (bj.go ?xC));case xB=>first|exact bu.out|exact fun j x bC=>by have q:=bu.out j x bC;rw[Addr.add_mid,Nat.zero_add]at q;exact q
 unfold bj;go_wp2_with fail;refine(ac.out _ bn.out).mono ?_;rintro e cE⟨rfl,f9⟩;have bO:=af (bn.out.trans f9);have av:=af (X.out.fr f9 (fun x=>x));have aC:=af (aA.out.fr f9 (fun x=>x));clear f9 ac bu bn X aA;go_wp2_with(refine pb rfl rfl rfl rfl 38 15 16 rfl rfl _ rfl _ rfl aI dW aB rfl H.toArray NV.toArray (fun _ _=>rfl) (fun _ _=>rfl) (fun _ _=>rfl) (fun _ _=>rfl) an.out.info an.out.zero an.out.one am.out.info am.out.zero am.out.one ?_);intro cw g15 g16 _ _ _ b1 b2 a9;have bo:=af (bO.out.trans a9);have aw:=af (av.out.fr a9 (fun x=>x));have Z:=af (aC.out.fr a9 (fun x=>x));have aK:=af b1;have aN:=af b2;clear b1 b2 a9 bO av aC;have bt:Hid (∀j x,NV[j]? =some x→cw.cell? ((⟨g13,0,none⟩:Addr).add j)=some x):=fE Z.out;go_wp2_with(refine aF rfl 38 (.tmp 13) rfl ⟨g13,0,none⟩ rfl NV _ ?zA Tryz.underlying38 rfl ao.out (bj.go ?holds));case zA=>first|exact bt.out|exact fun j x bC=>by have q:=bt.out j x bC;rw[Addr.add_mid,Nat.zero_add]at q;exact q
 unfold bj;go_wp2_with fail;refine(ad.out _ bo.out).mono ?_;rintro e cF⟨rfl,ap⟩;have bP:=af (bo.out.trans ap);have ax:=af (aw.out.fr ap (fun x=>x));have aH:=af (Z.out.fr ap (fun x=>x));have aL:=af (aK.out.fr ap (fun x=>x));have aO:=af (aN.out.fr ap (fun x=>x));clear ap ad bt bo aw Z aK aN cx cy;go_wp2_with(refine pb rfl rfl rfl rfl 38 18 19 rfl rfl _ rfl _ rfl aI dW aB rfl bv.toArray bw.toArray (fun _ _=>rfl) (fun _ _=>rfl) (fun _ _=>rfl) (fun _ _=>rfl) bi.out.info bi.out.zero bi.out.one bk.out.info bk.out.zero bk.out.one ?_);intro wd g18 g19 _ _ _ b1 b2 fd;have bQ:=af (bP.out.trans fd);have be:=af (ax.out.fr fd (fun x=>x));have bf:=af (aH.out.fr fd (fun x=>x));have bF:=af (aL.out.fr fd (fun x=>x));have bG:=af (aO.out.fr fd (fun x=>x));have bH:=af b1;have bI:=af b2;clear b1 b2 fd bP ax aH aL aO;obtain⟨aX,a3⟩:∃z:Bool,(bif o then(bif I then a8 else false)else false)=z:=⟨_,rfl⟩;have aW:=af a3;clear a3;rw[aW.out]at M;go_upto_region 11 with fail;refine iQ 13 [.int .i64 ba, .bool o, .bool o,bif o then .agg bv.toArray else undef,bif o then .agg NV.toArray else undef,bif o then .bool I else undef,bif o then .bool I else .bool false,bif o then .bool I else .bool false,bif o then(bif I then .agg bw.toArray else undef)else undef,bif o then(bif I then .agg H.toArray else undef)else undef,bif o then(bif I then .bool a8 else undef)else undef, .bool aX, .bool aX] ?xE ?_;case xE=>
  refine⟨?ZS,?xQ,?xR,?xS,?xT,?xU,?xV,?xW,?xX,?xY,?zJ,?zK,?zL,trivial⟩;all_goals intro u w' i a
  all_goals simp only[z1,z2,z3,z4,ay,Act.put,z5,z6,z7,Nat.reduceAdd,Nat.zero_add]
  case xQ=>
   simp only[show u 0=_ from a 0];refine aG ?_;have t1:=bs.out;go_simp;exact aM
  case' xR=>simp only[show u 1=_ from a 1]
  case xS=>
   simp only[show u 2=_ from a 2];cases o;case false=>exact bE
   refine aG ?_;exact az _ _ rfl ⟨g18,0,none⟩ rfl bv _ (fE (bH.out.fr i (fun x=>x))) Tryz.underlying38 rfl cd.out aM
  case xT=>
   simp only[show u 2=_ from a 2];cases o;case false=>exact bE
   refine aG ?_;exact az _ _ rfl ⟨g13,0,none⟩ rfl NV _ (fE (bf.out.fr i (fun x=>x))) Tryz.underlying38 rfl ao.out aM
  case xU=>
   simp only[show u 3=_ from a 3,show u 4=_ from a 4,show u 2=_ from a 2];cases o;case false=>exact bE
   refine aG ?_;exact fD _ _ _ _ _ rfl _ _ rfl rfl Tryz.eqGuardType38 _ (bS.out _) aM
  case' xV=>
   simp only[show u 2=_ from a 2,show u 5=_ from a 5];cases o
  case' xW=>
   simp only[show u 6=_ from a 6];cases o
  case xX=>
   simp only[show u 7=_ from a 7];cases o;case false=>exact bE
   cases I;case false=>exact bE
   refine aG ?_;exact az _ _ rfl ⟨g19,0,none⟩ rfl bw _ (fE (bI.out.fr i (fun x=>x))) Tryz.underlying38 rfl ce.out aM
  case xY=>
   simp only[show u 7=_ from a 7];cases o;case false=>exact bE
   cases I;case false=>exact bE
   refine aG ?_;exact az _ _ rfl ⟨g11,0,none⟩ rfl H _ (fE (be.out.fr i (fun x=>x))) Tryz.underlying38 rfl iOq.out aM
  case zJ=>
   simp only[show u 8=_ from a 8,show u 9=_ from a 9,show u 7=_ from a 7];cases o;case false=>exact bE
   cases I;case false=>exact bE
   refine aG ?_;exact fD _ _ _ _ _ rfl _ _ rfl rfl Tryz.eqGuardType38 _ (bU.out _) aM
  case zK=>
   simp only[show u 7=_ from a 7,show u 10=_ from a 10];cases o<;>cases I<;>exact aG (by go_simp;exact⟨by rw[←aW.out];rfl,aD⟩)
  case' zL=>simp only[show u 11=_ from a 11]
  all_goals
   try simp only[cond]
   refine aG ?_;go_simp;exact aM
 intro w' i;simp only[z1,z2,z3,z4,ay,Act.put,z5,z6,z7,z8,z9,jx,jy,Nat.reduceAdd,Nat.zero_add];have bp:=af (bQ.out.trans i);have W:=af (be.out.fr i (fun x=>x));have Y:=af (bf.out.fr i (fun x=>x));have bg:=af (bF.out.fr i (fun x=>x));have bh:=af (bG.out.fr i (fun x=>x));clear i be bf bF bG bH bI bQ;go_upto_region 12 with fail;refine iQ 43 [.int .i64 0, .bool true, .bool true, .int .i64 0, .bool true, .bool true, .bool true, .int .i64 0, .bool true, .bool true, .bool true, .int .i64 0, .bool true, .bool true, .bool true, .agg H.toArray, .agg H.toArray, .bool true, .bool true, .bool true, .agg NV.toArray, .agg NV.toArray, .bool true, .bool true, .bool true, .agg H.toArray, .int .i64 m0, .agg NV.toArray, .int .i64 n0, .slice J pl K, .bool true, .bool true, .bool true, .agg NV.toArray, .int .i64 m0, .agg H.toArray, .int .i64 n0, .slice J pl K, .bool aX, .bool aX, .bool true, .bool true, .bool true] ?xF ?_;case xF=>
  refine⟨?ZT,?xZ,?ZA,?ZB,?ZC,?ZD,?ZE,?ZF,?ZG,?ZH,?zM,?zN,?zO,?zP,?zQ,?zR,?zS,?zT,?zU,?zV,?zW,?zX,?zY,?zZ,?yA,?yB,?yC,?yD,?yE,?yF,?yG,?yI,?yJ,?yK,?yL,?yM,?yN,?yO,?yP,?yQ,?yR,?yS,?yT,trivial⟩;all_goals intro u w' i a
  all_goals simp only[z1,z2,z3,z4,ay,Act.put,z5,z6,z7,Nat.reduceAdd,Nat.zero_add]
  case xZ=>
   simp only[show u 0=_ from a 0];refine aG ?_;go_simp;exact aM
  case' ZA=>simp only[show u 1=_ from a 1]
  case' ZB=>simp only[show u 2=_ from a 2]
  case ZC=>
   simp only[show u 3=_ from a 3,show u 2=_ from a 2];refine aG ?_;go_simp;exact aM
  case' ZD=>simp only[show u 2=_ from a 2,show u 4=_ from a 4]
  case' ZE=>simp only[show u 5=_ from a 5]
  case' ZF=>simp only[show u 6=_ from a 6]
  case ZG=>
   simp only[show u 7=_ from a 7,show u 6=_ from a 6];refine aG ?_;go_simp;exact aM
  case' ZH=>simp only[show u 6=_ from a 6,show u 8=_ from a 8]
  case' zM=>simp only[show u 9=_ from a 9]
  case' zN=>simp only[show u 10=_ from a 10]
  case zO=>
   simp only[show u 11=_ from a 11,show u 10=_ from a 10];refine aG ?_;go_simp;exact aM
  case' zP=>simp only[show u 10=_ from a 10,show u 12=_ from a 12]
  case' zQ=>simp only[show u 13=_ from a 13]
  case zR=>
   simp only[show u 14=_ from a 14];refine aG ?_;exact az _ _ rfl ⟨g15,0,none⟩ rfl H _ (fE (bg.out.fr i (fun x=>x))) Tryz.underlying38 rfl iOq.out aM
  case zS=>
   simp only[show u 14=_ from a 14];refine aG ?_;exact az _ _ rfl ⟨g11,0,none⟩ rfl H _ (fE (W.out.fr i (fun x=>x))) Tryz.underlying38 rfl iOq.out aM
  case zT=>
   simp only[show u 15=_ from a 15,show u 16=_ from a 16,show u 14=_ from a 14];refine aG ?_;exact fD _ _ _ _ _ rfl _ _ rfl rfl Tryz.eqGuardType38 _ (ci.out _) aM
  case' zU=>simp only[show u 14=_ from a 14,show u 17=_ from a 17]
  case' zV=>simp only[show u 18=_ from a 18]
  case zW=>
   simp only[show u 19=_ from a 19];refine aG ?_;exact az _ _ rfl ⟨g16,0,none⟩ rfl NV _ (fE (bh.out.fr i (fun x=>x))) Tryz.underlying38 rfl ao.out aM
  case zX=>
   simp only[show u 19=_ from a 19];refine aG ?_;exact az _ _ rfl ⟨g13,0,none⟩ rfl NV _ (fE (Y.out.fr i (fun x=>x))) Tryz.underlying38 rfl ao.out aM
  case zY=>
   simp only[show u 20=_ from a 20,show u 21=_ from a 21,show u 19=_ from a 19];refine aG ?_;exact fD _ _ _ _ _ rfl _ _ rfl rfl Tryz.eqGuardType38 _ (ch.out _) aM
  case' zZ=>simp only[show u 19=_ from a 19,show u 22=_ from a 22]
  case' yA=>simp only[show u 23=_ from a 23]
  case yB=>
   simp only[show u 24=_ from a 24];refine aG ?_;exact az _ _ rfl ⟨g11,0,none⟩ rfl H _ (fE (W.out.fr i (fun x=>x))) Tryz.underlying38 rfl iOq.out aM
  case' yC=>simp only[show u 24=_ from a 24]
  case yD=>
   simp only[show u 24=_ from a 24];refine aG ?_;exact az _ _ rfl ⟨g13,0,none⟩ rfl NV _ (fE (Y.out.fr i (fun x=>x))) Tryz.underlying38 rfl ao.out aM
  case' yE=>simp only[show u 24=_ from a 24]
  case' yF=>simp only[show u 24=_ from a 24]
  case yG=>
   simp only[show u 25=_ from a 25,show u 26=_ from a 26,show u 27=_ from a 27,show u 28=_ from a 28,show u 29=_ from a 29,show u 24=_ from a 24];refine aG ?_;go_simp;refine(aP.out _ (bp.out.trans i)).mono ?_;rintro e b7⟨rfl,aY⟩;exact⟨rfl,aY⟩
  case' yI=>simp only[show u 24=_ from a 24,show u 30=_ from a 30]
  case' yJ=>simp only[show u 31=_ from a 31]
  case yK=>
   simp only[show u 32=_ from a 32];refine aG ?_;exact az _ _ rfl ⟨g13,0,none⟩ rfl NV _ (fE (Y.out.fr i (fun x=>x))) Tryz.underlying38 rfl ao.out aM
  case' yL=>simp only[show u 32=_ from a 32]
  case yM=>
   simp only[show u 32=_ from a 32];refine aG ?_;exact az _ _ rfl ⟨g11,0,none⟩ rfl H _ (fE (W.out.fr i (fun x=>x))) Tryz.underlying38 rfl iOq.out aM
  case' yN=>simp only[show u 32=_ from a 32]
  case' yO=>simp only[show u 32=_ from a 32]
  case yP=>
   simp only[show u 33=_ from a 33,show u 34=_ from a 34,show u 35=_ from a 35,show u 36=_ from a 36,show u 37=_ from a 37,show u 32=_ from a 32];refine aG ?_;go_simp;refine(M.out _ (bp.out.trans i)).mono ?_;rintro e b7⟨rfl,aY⟩;exact⟨rfl,aY⟩
  case' yQ=>simp only[show u 32=_ from a 32]
  case yR=>
   simp only[show u 38=_ from a 38,show u 39=_ from a 39,show u 32=_ from a 32];refine aG ?_;cases aX<;>(go_simp;exact aM)
  case' yS=>simp only[show u 32=_ from a 32,show u 40=_ from a 40]
  case' yT=>simp only[show u 41=_ from a 41]
  all_goals
   refine aG ?_;go_simp;exact aM
 intro w' i;simp only[z1,z2,z3,z4,ay,Act.put,z5,z6,z7,z8,z9,jx,jy,Nat.reduceAdd,Nat.zero_add];have bq:=af (Q.out.trans (bp.out.trans i));clear i;go_wp2;go_ret;exact⟨rfl,bq.out⟩
end Go.Proofs.YtphjagkehiklkaaGreatDoor
