/- Texts. -/
import Derived.Test.YtphjagkehiklkaaGreatDoorWK39
import Derived.Test.YtphjagkehiklkaaGreatDoorWK41
set_option linter.unusedVariables false
set_option linter.unusedSimpArgs false
set_option maxRecDepth 100000
set_option maxHeartbeats 8000000
namespace Go.Proofs.YtphjagkehiklkaaGreatDoor
open Go.RowKit Go.Shelf
theorem KY(a b:List Ent)(s1 s2:Nat)(w:World)(H:ft w s1 a)(I:ft w s2 b)(g:rq a)(i:rq b)(E:Bool)(J:E=true↔a=b):
  Calls Tryz.prog 40 #[.pointer (some ⟨s1,0,none⟩), .pointer (some ⟨s2,0,none⟩)] w (aJ w (.bool E)):=by
 have M:Hid (∀w',Fr ag w w'→Calls Tryz.prog 96 #[.pointer (some ⟨s1,0,none⟩), .pointer (some ⟨s2,0,none⟩)] w' (LD w' (Ky a b))):=fun w' f=>LI a b s1 s2 w' (H.ar f) (I.ar f) g.len i.len g.short i.short;have c:=af (LJ g.sort i.sort);obtain⟨l,u,r⟩:=H;obtain⟨m,x,s⟩:=I;have p:Hid (Calls Tryz.prog 94 #[.pointer (some ⟨s1,0,none⟩)] w (aY w (.int .i64 (a.length:Int)))):=by
  have h:=yF w s1 l u;rw[←l.cM,r]at h;exact h
 have q:Hid (Calls Tryz.prog 94 #[.pointer (some ⟨s2,0,none⟩)] w (aY w (.int .i64 (b.length:Int)))):=by
  have h:=yF w s2 m x;rw[←m.cM,s]at h;exact h
 have n:Hid (Calls Tryz.prog 95 #[.pointer (some ⟨s1,0,none⟩)] w (aY w (.int .i64 (dm a:Int)))):=by
  have h:=KW w s1 l u;rw[l.dx,r]at h;exact h
 have o:Hid (Calls Tryz.prog 95 #[.pointer (some ⟨s2,0,none⟩)] w (aY w (.int .i64 (dm b:Int)))):=by
  have h:=KW w s2 m x;rw[m.dx,s]at h;exact h
 have A:Hid (a=b→a.length=b.length):=fun h=>by rw[h]
 have HB:Hid (a=b→dm a=dm b):=fun h=>by rw[h]
 clear u x r s g i;have d:=af J;clear J;generalize a.length=L at*;generalize b.length=nb at*;generalize dm a=C at*;generalize dm b=bb at*;generalize Ky a b=D at*;go_enter Tryz.func40,Tryz.ntmps40;go_wp2_with fail;refine p.out.mono ?_;rintro e w'⟨rfl,rfl⟩;go_wp2_with fail;refine q.out.mono ?_;rintro e w'⟨rfl,rfl⟩;by_cases F:L=nb
 ·subst F;clear A;go_wp2_with fail;refine n.out.mono ?_;rintro e w'⟨rfl,rfl⟩;go_wp2_with fail;refine o.out.mono ?_;rintro e w'⟨rfl,rfl⟩;by_cases G:C=bb
  ·subst G;clear HB;go_wp2_with fail;refine(M.out _ aD).mono ?_;rintro e w2⟨v,rfl,t⟩;obtain⟨N,k,O,rfl,z,_⟩:=aU t.own;have y:=af t.ar;have B:Hid (k=D.length):=z.out;clear t z;by_cases j:D=[]
   ·have K:k=0:=by rw[B.out,j];rfl
    obtain rfl:E=true:=d.out.2 (c.out.1 j);subst K;go_wp2;go_ret;exact⟨rfl,y.out⟩
   ·have K:k≠0:=fun h=>j (List.length_eq_zero_iff.1 (by rw[←B.out];exact h));obtain rfl:E=false:=Bool.eq_false_iff.2 (fun h=>j (c.out.2 (d.out.1 h)));have t9:((k:Int)==0)=false:=ku (by omega);go_wp2;go_ret;exact⟨rfl,y.out⟩
  ·obtain rfl:E=false:=Bool.eq_false_iff.2 (fun h=>G (HB.out (d.out.1 h)));have t9:((C:Int)==(bb:Int))=false:=ku (by omega);go_wp2;go_ret;exact aM
 ·obtain rfl:E=false:=Bool.eq_false_iff.2 (fun h=>F (A.out (d.out.1 h)));have t9:((L:Int)==(nb:Int))=false:=ku (by omega);go_wp2;go_ret;exact aM
theorem Ly(ms:List Value)(h b:Nat)(E:List Ent)(L:List ActV)(T:Nat→Prop)(w:World)(X:fK w h E L T)(Z:Mod w ms b E L)(a3:eE w)(N:cW 24 E)(d:iH L):
  Calls Tryz.prog 33 #[.agg ms.toArray, .pointer (some ⟨h,0,none⟩)] w (aJ w (.bool true)):=by
 have aR:=Z.len;obtain⟨A,n,c,rfl,ah,bf,a4,aO,m,r⟩:=id Z;have a9:=af Z;have bn:=af N;have a0:=af (lI L E 24 N d.ok d.small);have ao:Hid (n=L.length∧n≤16∧L.length≤16):=by have:=d.len;exact⟨ah,by omega,this⟩
 have Q:Hid (∀j,j<L.length→∃v o a,A=some v∧L[j]? =some a∧df w o a∧o.length=6∧∀i x,o[i]? =some x→w.cell? ((v.add (j*6)).add i)=some x):=fun j aT=>xz m r ah aT;obtain⟨S,bt,br,va,vk,K,bm,bq,mb,aU,aS⟩:=id X;have aF:Hid (∀w',Fr ag w w'→Calls Tryz.prog 47 #[.pointer (some ⟨h,0,none⟩)] w' (aY w' (.pointer (some ⟨S,0,none⟩)))):=fun w' f=>Lu w' h S ((aU.aH.fr f (fun x=>x)).cell 0);have aI:=af aU.base;have ap:Hid (∀w',Fr ag w w'→Calls Tryz.prog 40 #[.pointer (some ⟨S,0,none⟩), .pointer (some ⟨b,0,none⟩)] w' (aJ w' (.bool true))):=fun w' f=>KY E E S b w' (aI.out.ar f) (a4.ar f) (N.oh (by decide)) (N.oh (by decide)) true (by simp);have av:Hid (∀w',Fr ag w w'→Calls Tryz.prog 46 #[.pointer (some ⟨h,0,none⟩)] w' (aY w' (.int .i64 (n:Int)))):=fun w' f=>by
  rw[ah];exact Ea h E L T w' (X.ar f)
 have aw:Hid (∀w',Fr ag w w'→Calls Tryz.prog 38 #[.pointer (some ⟨h,0,none⟩), .int .i64 (n:Int)] w' (Gl w' E L)):=fun w' f=>by
  rw[ah];exact xn h E L T w' (X.ar f)
 have P:Hid (∀w',Fr ag w w'→Calls Tryz.prog 41 #[.agg [Value.pointer (some ⟨b,0,none⟩), .slice A n c].toArray, .int .i64 (n:Int)] w' (Gu w' (fT L E))):=fun w' f=>by
  have q:=Cz _ b E L n w' (Z.ar f) (a3.ar f) N d (by omega);rw[List.take_of_length_le (by omega)]at q;exact q
 have au:Hid (∀w' s1 s2,ft w' s1 (fT L E)→ft w' s2 (fT L E)→Calls Tryz.prog 40 #[.pointer (some ⟨s1,0,none⟩), .pointer (some ⟨s2,0,none⟩)] w' (aJ w' (.bool true))):=fun w' s1 s2 aP aQ=>
  KY _ _ s1 s2 w' aP aQ (a0.out.oh (by have:=ao.out;omega)) (a0.out.oh (by have:=ao.out;omega)) true (by simp);have O:Hid (∀w',Fr ag w w'→Calls Tryz.prog 48 #[.pointer (some ⟨h,0,none⟩)] w' (Lj w' L)):=fun w' f=>K7 h E L T w' (X.ar f) (by have:=d.len;omega) (fun a aa=>by have aP:=(d.small a aa).nr;have aQ:=(d.small a aa).nw;omega);have aL:Hid (∀a∈L,a.reads.length≤1099511627776∧a.writes.length≤1099511627776):=fun a aa=>by have aP:=(d.small a aa).nr;have aQ:=(d.small a aa).nw;omega
 clear aU aS m r X Z a3 N d ah bf a4 aR;obtain⟨J,z⟩:∃J,[Value.pointer (some ⟨b,0,none⟩), .slice A n c]=J:=⟨_,rfl⟩;have aK:=af z;have aN:Hid ((Tryz.prog.info? 28).map (·.size)=some J.length):=by rw[Hid,←z];exact je
 rw[z]at P a9⊢;clear z;go_enter Tryz.func33,Tryz.ntmps33;go_wp2_with(refine aA rfl 28 (.tmp 0) rfl J.toArray rfl ?_);intro w1 n1;have aB:=af n1.fr;have aW:=af n1.aH;clear n1;generalize w.heap.size=g2 at*;have C:=af (O.out _ aB.out);go_wp2_with fail;refine C.out.mono ?_;rintro e w2⟨g,rfl,ai,f2,_⟩;obtain⟨aO,m,r⟩:=ai;have D:Hid (∀j,j<L.length→∃v o a,some (⟨g,0,none⟩:Addr)=some v∧L[j]? =some a∧df w2 o a∧o.length=6∧∀i x,o[i]? =some x→w2.cell? ((v.add (j*6)).add i)=some x):=fun j aT=>xz m r rfl aT;obtain⟨F,ab⟩:∃F,(⟨g,0,none⟩:Addr)=F:=⟨_,rfl⟩;rw[ab]at D⊢;have ak:=af (aB.out.trans f2);have aX:=af (aW.out.fr f2 (fun x=>x));clear ab m r f2 C O aW aB;have a1:=ao.out.1;rw[←a1]at D Q⊢;have m0:Hid (∀W,Fr ag w2 W→W.cell? ⟨g2,0,none⟩=some (.pointer (some ⟨b,0,none⟩))∧W.cell? ⟨g2,1,none⟩=some (.slice A n c)):=fun W f=>by
  have q:=aX.out.fr f (fun x=>x);rw[←aK.out]at q;exact⟨q.cell 0,q.cell 1⟩
 clear a1;go_upto_region 2 with fail;refine jS 22 [.pointer (some ⟨h,0,none⟩), .int .i64 (n:Int), .pointer (some ⟨g2,1,none⟩), .slice A n c, .int .i64 (n:Nat), .bool false, .bool false, .slice (some F) n n, .int .i64 (n:Nat), .pointer (some ⟨g2,1,none⟩), .slice A n c, .int .i64 (n:Nat), .bool false, .bool false, .bool false, .pointer (some ⟨h,0,none⟩), .pointer (some ⟨S,0,none⟩), .pointer (some ⟨g2,0,none⟩), .pointer (some ⟨b,0,none⟩), .bool true, .bool false, .bool false] ?zP ?_;case zP=>
  refine⟨?yQ,?zS,?yR,?zT,?zU,?zV,?zW,?zX,?zY,?zZ,?zA,?zB,?zC,?zD,?zE,?zF,?zG,?zH,?zI,?zJ,?zK,?zL,trivial⟩;all_goals intro u w' l d
  all_goals simp only[z1,z2,z3,z4,ay,Act.put,z5,z6,z7,Nat.reduceAdd,Nat.zero_add]
  case zS=>
   simp only[show u 0=_ from d 0];refine aG ?_;go_simp;refine(av.out _ (ak.out.trans l)).mono ?_;rintro e aj⟨rfl,rfl⟩;exact aM
  case zT=>
   simp only[show u 2=_ from d 2];refine aG ?_;have q:_=some _:=(m0.out _ l).2;go_simp;exact aM
  case' zU=>simp only[show u 3=_ from d 3]
  case zV=>
   simp only[show u 1=_ from d 1,show u 4=_ from d 4];refine aG ?_;go_simp;exact aM
  case' zW=>simp only[show u 5=_ from d 5]
  case' zX=>simp only[show u 6=_ from d 6]
  case' zY=>simp only[show u 7=_ from d 7,show u 6=_ from d 6]
  case' zZ=>simp only[show u 6=_ from d 6]
  case zA=>
   simp only[show u 9=_ from d 9,show u 6=_ from d 6];refine aG ?_;have q:_=some _:=(m0.out _ l).2;go_simp;exact aM
  case' zB=>simp only[show u 10=_ from d 10,show u 6=_ from d 6]
  case zC=>
   simp only[show u 8=_ from d 8,show u 11=_ from d 11,show u 6=_ from d 6];refine aG ?_;go_simp;exact aM
  case' zD=>simp only[show u 6=_ from d 6,show u 12=_ from d 12]
  case' zE=>simp only[show u 13=_ from d 13]
  case' zF=>simp only[show u 14=_ from d 14]
  case zG=>
   simp only[show u 15=_ from d 15,show u 14=_ from d 14];refine aG ?_;go_simp;refine(aF.out _ (ak.out.trans l)).mono ?_;rintro e aj⟨rfl,rfl⟩;exact aM
  case' zH=>simp only[show u 14=_ from d 14]
  case zI=>
   simp only[show u 17=_ from d 17,show u 14=_ from d 14];refine aG ?_;have q:_=some _:=(m0.out _ l).1;go_simp;exact aM
  case zJ=>
   simp only[show u 16=_ from d 16,show u 18=_ from d 18,show u 14=_ from d 14];refine aG ?_;go_simp;refine(ap.out _ (ak.out.trans l)).mono ?_;rintro e aj⟨rfl,G⟩;exact⟨rfl,G⟩
  case' zK=>simp only[show u 19=_ from d 19,show u 14=_ from d 14]
  case' zL=>simp only[show u 14=_ from d 14,show u 20=_ from d 20]
  all_goals
   refine aG ?_;go_simp;exact aM
 intro w' l;simp only[z1,z2,z3,z4,ay,Act.put,z5,z6,z7,z8,z9,jx,jy,Nat.reduceAdd,Nat.zero_add];have al:=af (ak.out.trans l);have am:=af l;clear l;generalize w'=w3 at*;go_wp2;go_loopw[6](fun i wr=>∃k:Nat,k≤n∧i= .int .i64 (k:Int)∧Fr ag w3 wr)(fun i _=>n-(intOf i).toNat);case atStart=>exact⟨0,Nat.zero_le _,rfl,aD⟩
 case round=>
  obtain⟨k,a5,rfl,hF⟩:=hrel;have y:=af hF;have bo:=af a5;clear hF a5;by_cases B:k<n
  ·have t0:decide ((k:Int)<(n:Int))=true:=dh (by omega);obtain⟨v,o,a,rfl,H,U,ad,p⟩:=Q.out k B;obtain⟨bp,M,a2,ac,Y,V,ae,t⟩:=D.out k B;obtain rfl:=Option.some.inj ac;obtain rfl:a=a2:=Option.some.inj (H.symm.trans Y);have i1:(k:Int)<(n:Int):=by omega
   have i2:(0:Int)≤(k:Int):=by omega
   have aZ:Hid (Fr ag w wr):=al.out.trans y.out;have aC:Hid (Fr ag w2 wr):=am.out.trans y.out;have ba:Hid ((Tryz.prog.info? 46).map (·.size)=some o.length):=by rw[Hid,ad];exact bZ
   have bb:Hid ((Tryz.prog.info? 46).map (·.size)=some M.length):=by rw[Hid,ae];exact bZ
   have aq:Hid (∀W,Fr ag wr W→∀i x,o[i]? =some x→W.cell? ((v.add (k*6)).add i)=some x):=fun W f i x aV=>(aZ.out.trans f).an (p i x aV) (fun x=>x);have ax:Hid (∀W,Fr ag wr W→∀i x,M[i]? =some x→W.cell? ((F.add (k*6)).add i)=some x):=fun W f i x aV=>(aC.out.trans f).an (t i x aV) (fun x=>x);have I:=aL.out a (List.mem_of_getElem? H);have a7:Hid (∀W,Fr ag wr W→Calls Tryz.prog 19 #[.agg M.toArray, .agg o.toArray] W (aJ W (.bool true))):=fun W f=>by
    have q:=yA a a M o W (V.ar (aC.out.trans f)) (U.ar (aZ.out.trans f)) I.1 I.2;rw[(GX a a).2 rfl]at q;exact q
   have bv:IntKind.i64.wrap ((k:Int)+1)=(k:Int)+1:=IntWalk.i64_in _ (by have:=ao.out;omega);have R:=af B;clear p U ad H t V ae Y I ac B;go_upto_region 7 with fail;refine jS 11 [.slice (some F) n n, .int .i64 (k:Int), .pointer (some (F.add (k*6))), .agg M.toArray, .pointer (some ⟨g2,1,none⟩), .slice (some v) n c, .int .i64 (k:Int), .pointer (some (v.add (k*6))), .agg o.toArray, .bool true, .bool false] ?zQ ?_;case zQ=>
    refine⟨?yS,?yT,?yB,?yC,?yU,?yD,?yV,?yE,?yF,?yG,?zM,trivial⟩;all_goals intro u w' l d
    all_goals simp only[z1,z2,z3,z4,ay,Act.put,z5,z6,z7,Nat.reduceAdd,Nat.zero_add]
    case yB=>
     simp only[show u 0=_ from d 0,show u 1=_ from d 1];refine aG ?_;have bh:=i1;have bi:=i2;go_simp;exact aM
    case yC=>
     simp only[show u 2=_ from d 2];refine aG ?_;exact az _ _ rfl (F.add (k*6)) rfl M _ (ax.out _ l) Tryz.underlying46 rfl bb.out aM
    case yD=>
     simp only[show u 4=_ from d 4];refine aG ?_;have q:_=some _:=(m0.out _ (aC.out.trans l)).2;go_simp;exact aM
    case yE=>
     simp only[show u 5=_ from d 5,show u 6=_ from d 6];refine aG ?_;have bh:=i1;have bi:=i2;go_simp;exact aM
    case yF=>
     simp only[show u 7=_ from d 7];refine aG ?_;exact az _ _ rfl (v.add (k*6)) rfl o _ (aq.out _ l) Tryz.underlying46 rfl ba.out aM
    case yG=>
     simp only[show u 3=_ from d 3,show u 8=_ from d 8];refine aG ?_;go_simp;refine(a7.out _ l).mono ?_;rintro e aj⟨rfl,G⟩;exact⟨rfl,G⟩
    case' zM=>simp only[show u 9=_ from d 9]
    all_goals
     refine aG ?_;go_simp;exact aM
   intro w' l;simp only[z1,z2,z3,z4,ay,Act.put,z5,z6,z7,z8,z9,jx,jy,Nat.reduceAdd,Nat.zero_add];have aE:=af (y.out.trans l);clear l;go_wp2;go_roundw;case rel=>exact⟨k+1,by have:=R.out;omega,by go_num,aE.out⟩
   case measure=>simp[intOf];have:=R.out;omega
  ·have t0:decide ((k:Int)<(n:Int))=false:=ct (by omega);have bj:¬(k:Int)<(n:Int):=by omega
   have m1:wr.cell? ⟨g2,1,none⟩=some (.slice A n c):=(m0.out _ (am.out.trans y.out)).2;go_wp2_with fail;refine(aw.out _ (al.out.trans y.out)).mono ?_;rintro e bu⟨s,rfl,rfl,a6⟩;have bc:=af a6;clear a6 m1;go_upto_region 10 with fail;refine Dh 12 [iS (.int .i64 0),iS (.bool true),iS (.bool true),iS (.pointer (some ⟨s,0,none⟩)),iS (.agg J.toArray),iS (.pointer (some ⟨g2,1,none⟩)),iS (.slice A n c),iS (.int .i64 (n:Nat)),⟨fun bl bk=>∃q:Nat,bl= .pointer (some ⟨q,0,none⟩)∧ft bk q (fT L E),fun _ _ _ f⟨q,e,h⟩=>⟨q,e,h.ar f⟩⟩,iS (.bool true),iS (.bool true),iS (.bool true)] ?zR ?_;case zR=>
    refine⟨?yW,?yH,?yI,?yJ,?yK,?yL,?yM,?yN,?yO,?yP,?zN,?zO,trivial⟩;all_goals intro u w' l d
    all_goals simp only[z1,z2,z3,z4,ay,Act.put,z5,z6,z7,Nat.reduceAdd,Nat.zero_add]
    case yH=>
     simp only[show u 0=_ from d 0];refine aG ?_;go_simp;exact⟨_,rfl,aD,rfl⟩
    case' yI=>simp only[show u 1=_ from d 1]
    case' yJ=>simp only[show u 2=_ from d 2]
    case yK=>
     simp only[show u 2=_ from d 2];refine aG ?_;exact az _ _ rfl ⟨g2,0,none⟩ rfl J _ (fE (aX.out.fr ((am.out.trans y.out).trans l) (fun x=>x))) Tryz.underlying28 rfl aN.out ⟨_,rfl,aD,rfl⟩
    case' yL=>simp only[show u 2=_ from d 2]
    case yM=>
     simp only[show u 5=_ from d 5,show u 2=_ from d 2];refine aG ?_;have q:_=some _:=(m0.out _ ((am.out.trans y.out).trans l)).2;go_simp;exact⟨_,rfl,aD,rfl⟩
    case' yN=>simp only[show u 6=_ from d 6,show u 2=_ from d 2]
    case yO=>
     simp only[show u 4=_ from d 4,show u 7=_ from d 7,show u 2=_ from d 2];refine aG ?_;go_simp;refine(P.out _ ((al.out.trans y.out).trans l)).mono ?_;rintro e aj⟨q,rfl,bg,G⟩;exact⟨_,rfl,G,⟨q,rfl,bg⟩⟩
    case yP=>
     obtain⟨bs,bd,be⟩:=d 8;simp only[show u 3=_ from d 3,bd,show u 2=_ from d 2];refine aG ?_;go_simp;refine(au.out _ _ _ (bc.out.ar l) be).mono ?_;rintro e aj⟨rfl,G⟩;exact⟨_,rfl,G,rfl⟩
    case' zN=>simp only[show u 2=_ from d 2,show u 9=_ from d 9]
    case' zO=>simp only[show u 10=_ from d 10]
    all_goals
     refine aG ?_;go_simp;exact⟨_,rfl,aD,rfl⟩
   intro u w' l d;simp only[z1,z2,z3,z4,ay,Act.put,z5,z6,z7,z8,z9,Nat.reduceAdd,Nat.zero_add,show u 11=_ from d 11 (by omega)];clear d;have a8:=af ((al.out.trans y.out).trans l);clear l;go_wp2;go_ret;exact⟨rfl,a8.out⟩
structure LC(w w3 wr:World)(h b g5 k:Nat)(E:List Ent)(L:List ActV)(T:Nat→Prop)(ms:List Value):Prop where
 uy:fK wr h E L T
 mod:Mod wr ms b E L
 box:aq wr g5 28 ms.toArray
 run:iH L
 len:L.length≤k
 new:∀j,T j→w3.heap.size≤j
 rows:∀v∈ms,∀j,v.ownBlock=some j→¬T j
 fr:Fr ag w wr
 size:w3.heap.size≤wr.heap.size
theorem KR(n:Nat)(xs:List CV)(A:Option Addr)(aN:Nat)(S:Nat→Prop)(r:Nat)(bf:Option Addr)(bL:Nat)(w:World)(bu:CL w S A n xs)(bD:n≤9223372036854775807)(bC:n≤aN)(bz:tK w bf r)(aO:eE w)(ba:bB w):
  Calls Tryz.prog 7 #[.slice A n aN, .slice bf r bL] w (yH w):=by
 have bi:=af (By w aO ba);have bg:Hid (∀w',Fr ag w w'→Calls Tryz.prog 28 #[.slice A n aN] w' (Ge w')):=fun w' f=>AN n xs A aN S w' (bu.ar f) bD bC (aO.ar f);have aA:=af aO;have aL:=af ba;have bG:=af bz;clear bu bD bC aO ba bz;go_enter Tryz.func7,Tryz.ntmps7;go_wp2_with fail;refine bi.out.mono ?_;rintro e w1⟨rfl,f1⟩;have aU:=af f1;clear f1 bi;go_wp2_with fail;refine(bg.out _ aU.out).mono ?_;rintro e w2⟨b,E,rfl,aP,bv,f2⟩;have aV:=af (aU.out.trans f2);have br:=af aP;have aK:=af bv;have ao:=af (GH b);have bq:Hid ([Value.pointer (some ⟨b,0,none⟩), .slice none 0 0].toArray.all (·.oneCell')=true):=by simp[Hid,Value.oneCell']
 clear f2 aP bv aU bg;go_wp2_with(refine eA rfl 28 _ rfl [Value.pointer (some ⟨b,0,none⟩), .slice none 0 0].toArray _ (by simp only[List.map_toArray,List.map_cons,List.map_nil];rfl) ao.out (bj.go ?zA));unfold bj;go_wp2_with(refine vw rfl rfl 28 5 rfl rfl _ rfl (.agg sd.toArray) Iv #[.pointer none, .slice none 0 0] rfl [Value.pointer (some ⟨b,0,none⟩), .slice none 0 0].toArray (fun _=>rfl) (fun _=>rfl) je rfl bq.out ?_);intro w3 g5 bc aI b3 f3;have aS:Hid (aq w3 g5 28 [Value.pointer (some ⟨b,0,none⟩), .slice none 0 0].toArray):=b3;have an:=af (aV.out.trans f3);have Y:=af (br.out.ar f3);have y:Hid (g5<w3.heap.size∧w.heap.size≤g5):=by have:=aV.out.size;exact⟨aI,by omega⟩
 clear b3 f3 bc aI bq aV br ao;have bP:w3.cell? ⟨g5,0,none⟩=some (.pointer (some ⟨b,0,none⟩)):=aS.out.cell 0;go_wp2_with fail;refine(vY E b w3 Y.out (aA.out.ar an.out) (aL.out.ar an.out) (aK.out.more (by decide))).mono ?_;rintro e bT⟨h,T,rfl,bw,f4,bA⟩;have bm:Hid (LC w w3 bT h b g5 0 E [] T [Value.pointer (some ⟨b,0,none⟩), .slice none 0 0]):=⟨bw,⟨none,0,0,rfl,rfl,Nat.le_refl _,Y.out.ar f4,ko.nil _⟩,aS.out.fr f4 (fun x=>x),iH.nil,Nat.le_refl _,bA,(fun v C k zA=>by
  rw[List.mem_cons,List.mem_singleton]at C;rcases C with rfl|rfl;·cases zA
  ·cases zA),an.out.trans f4,f4.size⟩;clear bw f4 bA bP aS Y;go_wp2;go_loopw[8](fun i wr=>∃(k:Nat)(L:List ActV)(T:Nat→Prop)(ms:List Value),k≤16∧k≤r∧i= .int .i64 (k:Int)∧LC w w3 wr h b g5 k E L T ms)(fun i _=>16-(intOf i).toNat);case atStart=>exact⟨0,[],T,_,Nat.zero_le _,Nat.zero_le _,rfl,bm.out⟩
 case round=>
  obtain⟨k,L,T,ms,zA,aH,rfl,bx⟩:=hrel;have d:=af bx;have bl:Hid (k≤16∧k≤r):=⟨zA,aH⟩;clear bx zA aH bm;by_cases B:k<r∧k<16
  ·have t0:decide ((k:Int)<(r:Int))=true:=dh (by omega);have t1:decide ((k:Int)<16)=true:=dh (by omega);have t2:(k:Int)<(r:Int):=by omega
   have t3:(0:Int)≤(k:Int):=by omega
   have t4:(k:Int)<16:=by omega
   have t:=af B;obtain⟨bK,a8,rfl,aa,z⟩:=(bG.out.ar d.out.fr) k B.1;have ay:=af aa;have ap:=af z;have IR:Hid ((Tryz.prog.info? 72).map (·.size)=some a8.length):=by rw[Hid,aa.len];exact Hh
   clear aa z B;go_wp2_with(refine aF rfl 72 (.tmp 41) rfl (bK.add (k*6)) rfl a8 _ ?zB Tryz.underlying72 rfl IR.out (bj.go ?zH));case zB=>exact ap.out
   unfold bj;go_wp2_with fail;refine(yK a8 _ ay.out).mono ?_;rintro e b0⟨cs,a,rfl,m,aJ,bb,f5⟩;have aW:=af f5;have ae:=af m;have ac:=af aJ;have a1:Hid ((Tryz.prog.info? 46).map (·.size)=some cs.toArray.size):=by rw[Hid,List.size_toArray,m.len];exact bZ
   have J:Hid ((Tryz.prog.info? 46).map (·.size)=some cs.length):=by rw[Hid,m.len];exact bZ
   have aZ:Hid (6=cs.toArray.size):=by rw[Hid,List.size_toArray,m.len]
   have a7:=af (ActV.one m);clear f5 m aJ bb ap ay IR t0 t1 t2 t3 t4;go_wp2_with(refine vw rfl rfl 46 9 rfl rfl _ rfl fH oc #[.int .i64 0, .int .i64 0, .int .i64 0, .string ByteArray.empty, .slice none 0 0, .slice none 0 0] rfl cs.toArray (fun _=>rfl) (fun _=>rfl) a1.out aZ.out a7.out ?_);intro bE g9 bd _ bs f6;have aT:=af bs;have ab:=af (aW.out.trans f6);have P:=af (ae.out.ar f6);have bF:Hid (wr.heap.size≤g9):=by have:=aW.out.size;simp only[Hid];omega
   clear bs f6 aW ae bd;have a5:Hid (∀j x,ms[j]? =some x→bE.cell? ((⟨g5,0,none⟩:Addr).add j)=some x):=fE (d.out.box.fr ab.out (fun x=>x));have a2:Hid ((Tryz.prog.info? 28).map (·.size)=some ms.length):=by rw[Hid,d.out.mod.len];exact je
   have U:Hid (∀j x,cs[j]? =some x→bE.cell? ((⟨g9,0,none⟩:Addr).add j)=some x):=fE aT.out;go_wp2_with(refine aF rfl 28 (.tmp 5) rfl ⟨g5,0,none⟩ rfl ms _ ?zD Tryz.underlying28 rfl a2.out (bj.go ?zJ));case zD=>first|exact a5.out|exact fun j x H=>by have q:=a5.out j x H;rw[Addr.add_mid,Nat.zero_add]at q;exact q
   unfold bj;go_wp2_with(refine aF rfl 46 (.tmp 9) rfl ⟨g9,0,none⟩ rfl cs _ ?zC Tryz.underlying46 rfl J.out (bj.go ?zI));case zC=>first|exact U.out|exact fun j x H=>by have q:=U.out j x H;rw[Addr.add_mid,Nat.zero_add]at q;exact q
   unfold bj;go_wp2_with fail;refine(yN ms cs b E L a _ (d.out.mod.ar ab.out) P.out (aA.out.ar (d.out.fr.trans ab.out)) (aK.out.more (by decide)) d.out.run ac.out).mono ?_;rintro e b1⟨c,rfl,o,f7,O⟩;have aX:=af (ab.out.trans f7);have bo:=af o;have az:Hid (∀v∈c,∀j,v.ownBlock=some j→¬T j):=fun v C j p D=>by
    rcases O v C j p with l|⟨u,hu,l⟩;·have:=d.out.uy.lt j D;have:=ab.out.size;omega
    ·exact d.out.rows u hu j l D
   have ah:=af (P.out.ar f7);have ak:=af (aT.out.fr f7 (fun x=>x));have M:Hid ((Tryz.prog.info? 28).map (·.size)=some c.toArray.size):=by rw[Hid,List.size_toArray,o.len];exact je
   have K:Hid ((Tryz.prog.info? 28).map (·.size)=some c.length):=by rw[Hid,o.len];exact je
   have aB:Hid (2=c.toArray.size):=by rw[Hid,List.size_toArray,o.len]
   have aC:=af o.one;clear f7 o O P aT ab a5 U;go_wp2_with(refine Ak rfl rfl rfl 28 11 rfl rfl (.tmp 48) rfl _ rfl (.agg sd.toArray) Iv #[.pointer none, .slice none 0 0] rfl (.int .i64 (eY L a).1) c.toArray (fun _=>rfl) (fun _=>rfl) (fun _=>rfl) M.out aB.out aC.out ?_);intro aQ g11 aG _ b8 f8;have aj:=af b8;have V:=af (aX.out.trans f8);have Q:=af (ah.out.ar f8);have a3:=af (bo.out.ar f8);have al:=af (ak.out.fr f8 (fun x=>x));have au:Hid (wr.heap.size≤g11):=by have:=aX.out.size;simp only[Hid];omega
   clear b8 f8 aX ah bo ak aG;have R:Hid (∀j x,cs[j]? =some x→aQ.cell? ((⟨g9,0,none⟩:Addr).add j)=some x):=fE al.out;have b2:IntKind.i64.wrap ((k:Int)+1)=(k:Int)+1:=IntWalk.i64_in _ (by have:=t.out;omega);have ax:=af (d.out.run.append ac.out (by have:=d.out.len;have:=t.out;omega));have av:Hid ((eY L a).2.length≤k+1):=by
    have:=d.out.len;rcases oz L a with⟨_,e⟩|⟨_,e,_⟩;·rw[Hid,e];omega
    ·rw[Hid,e,bh,List.length_singleton];omega
   have am:Hid (Calls Tryz.prog 32 #[.pointer (some ⟨h,0,none⟩), .agg cs.toArray] aQ (yD aQ h E L T a)):=by
    have aY:=d.out.fr.trans V.out;refine qw h E L T a cs aQ (d.out.uy.ar V.out) Q.out (aA.out.ar aY) (aL.out.ar aY) ac.out.sz (fun b aP=>by have:=(d.out.run.small b aP).fA;omega) (by have:=d.out.run.len;omega) (fun _=>by have:=ac.out.len;omega) (fun k zA D=>?_) (fun bY w' s f bO=>?_);·have l:=d.out.new k D;have bV:=aL.out.Fg;have bW:=aL.out.Fh;have bX:=an.out.size;rcases zA with rfl|rfl<;>omega
    ·have G:=lI L E 24 (aK.out.more (by decide)) d.out.run.ok d.out.run.small;exact lQ _ a cs _ s w' (Q.out.ar f) bO (aA.out.ar (aY.trans f)) G ac.out.writes (by have:=ac.out.nw;have:=d.out.run.len;omega)
   have bS:((eY L a).1 !=(eY L a).1)=false:=by simp
   go_wp2_with(refine aF rfl 46 (.tmp 9) rfl ⟨g9,0,none⟩ rfl cs _ ?zG Tryz.underlying46 rfl J.out (bj.go ?zM));case zG=>first|exact R.out|exact fun j x H=>by have q:=R.out j x H;rw[Addr.add_mid,Nat.zero_add]at q;exact q
   unfold bj;go_wp2_with fail;refine am.out.mono ?_;rintro e aR⟨T',rfl,aE,f9,Z⟩;have N:=(d.out.uy.ar V.out).cN;have bn:=af aE;have a4:=af (a3.out.jZ f9 N (fun v C j p=>az.out v C j p));have I:=af (aj.out.fr f9 (fun D=>by have:=d.out.uy.lt _ D;have:=au.out;omega));have F:=af ((d.out.box.fr V.out (fun x=>x)).fr f9 (fun D=>by have:=d.out.new _ D;have:=y.out;omega));have bk:Hid (Fr ag w aR):=(d.out.fr.trans V.out).aw f9 (fun i bN e=>by have:=d.out.new i e;have:=an.out.size;omega);have bp:Hid (∀j,T' j→w3.heap.size≤j):=fun j p=>by
    rcases Z j p with l|l;·exact d.out.new j l
    ·have:=d.out.size;have:=V.out.size;omega
   have bI:Hid (∀v∈c,∀j,v.ownBlock=some j→¬T' j):=fun v C j p D=>by
    rcases Z j D with l|l;·exact az.out v C j p l
    ·have:=(a3.out.lt v C j p).lt;omega
   have bJ:Hid (w3.heap.size≤aR.heap.size):=by have:=d.out.size;have:=V.out.size;have:=f9.size;simp only[Hid];omega
   clear aE f9 Z N am a3 aj al Q R;generalize(eY L a).2=aM at*;have X:Hid (∀j x,c[j]? =some x→aR.cell? ((⟨g11,0,none⟩:Addr).add j)=some x):=fE I.out;have a0:Hid (ms.toArray.size=c.toArray.size):=by rw[Hid,←aB.out,List.size_toArray,d.out.mod.len]
   go_wp2_with(refine aF rfl 28 (.tmp 11) rfl ⟨g11,0,none⟩ rfl c _ ?zF Tryz.underlying28 rfl K.out (bj.go ?zL));case zF=>first|exact X.out|exact fun j x H=>by have q:=X.out j x H;rw[Addr.add_mid,Nat.zero_add]at q;exact q
   unfold bj;go_wp2_with(refine ai rfl 28 (.tmp 5) _ rfl g5 c.toArray rfl rfl _ _ F.out M.out a0.out aC.out ?_);intro be bt aD;have W:fJ aR (fun k=>k=g5):=fJ.of (fun k zA=>⟨28,(show k=g5 from zA)▸F.out.ty,by decide,by decide,by decide⟩);have g:Hid (LC w w3 be h b g5 (k+1) E aM T' c):=⟨bn.out.jZ aD W (fun j p e=>by have a9:j=g5:=e;have:=bp.out j p;have:=y.out;omega),by
    have bM:=a4.out;exact bM.jZ aD W (fun v C j p e=>by
     have a9:j=g5:=e;have l:=a4.out.lt v C j p;rw[a9]at l;exact absurd (l.one F.out.ty) (by decide)),bt,ax.out,av.out,bp.out,bI.out,bk.out.aw aD (fun i bN e=>by have a9:i=g5:=e;have:=y.out;omega),by have:=aD.size;have:=bJ.out;omega⟩;clear bt aD W bn a4 I F X bk;have a6:Hid (∀j x,c[j]? =some x→be.cell? ((⟨g5,0,none⟩:Addr).add j)=some x):=fE g.out.box;go_wp2_with(refine aF rfl 28 (.tmp 5) rfl ⟨g5,0,none⟩ rfl c _ ?zE Tryz.underlying28 rfl K.out (bj.go ?zK));case zE=>first|exact a6.out|exact fun j x H=>by have q:=a6.out j x H;rw[Addr.add_mid,Nat.zero_add]at q;exact q
   unfold bj;go_wp2_with fail;refine(Ly c h b E aM T' be g.out.uy g.out.mod (aA.out.ar g.out.fr) (aK.out.more (by decide)) ax.out).mono ?_;rintro e bU⟨rfl,ad⟩;have bH:Hid (LC w w3 bU h b g5 (k+1) E aM T' c):=⟨g.out.uy.ar ad,g.out.mod.ar ad,g.out.box.fr ad (fun x=>x),g.out.run,g.out.len,g.out.new,g.out.rows,g.out.fr.trans ad,by have:=g.out.size;have:=ad.size;omega⟩;clear ad g a6;go_wp2;go_roundw;case rel=>exact⟨k+1,aM,T',c,by have:=t.out;omega,by have:=t.out;omega,by go_num,bH.out⟩
   case measure=>simp[intOf];have:=t.out;omega
  ·have hF:=af d.out.fr;by_cases l:k<r
   ·obtain rfl:k=16:=by have:=bl.out;omega
    have t0:decide (((16:Nat):Int)<(r:Int))=true:=dh (by omega);have bQ:decide ((16:Int)<(r:Int))=true:=dh (by omega);have bR:(16:Int)<(r:Int):=by omega
    clear B d;go_wp2;go_ret;exact⟨rfl,hF.out⟩
   ·obtain rfl:k=r:=by have:=bl.out;omega
    have t0:decide ((k:Int)<(k:Int))=false:=ct (by omega);clear B d;go_wp2;go_ret;exact⟨rfl,hF.out⟩
end Go.Proofs.YtphjagkehiklkaaGreatDoor
