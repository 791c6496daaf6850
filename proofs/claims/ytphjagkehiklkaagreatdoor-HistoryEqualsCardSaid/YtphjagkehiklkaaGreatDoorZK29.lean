/- Texts. -/
import Derived.Test.YtphjagkehiklkaaGreatDoorZK27
import Derived.Test.YtphjagkehiklkaaGreatDoorZK28
set_option linter.unusedVariables false
set_option linter.unusedSimpArgs false
set_option maxRecDepth 100000
set_option maxHeartbeats 8000000
namespace Go.Proofs.YtphjagkehiklkaaGreatDoor
open Go.RowKit Go.Shelf
theorem xF:∀{L M:List ActV},(∀a∈L,fY a=true∧eI a)→(∀a∈M,fY a=true∧eI a)→L.length=M.length→L.flatMap (fun a=>aV (cC a))=M.flatMap (fun a=>aV (cC a))→L=M
 |[],[],_,_,_,_=>rfl
 |a::L,b::M,e,f,j,h=>by
  rw[List.flatMap_cons,List.flatMap_cons]at h;have c:=e a (by simp);have b1:=f b (by simp);have:=c.2.len;have:=b1.2.len;obtain⟨g,i⟩:=ky (by omega) (by omega) h;rw[Ho c.2 b1.2 c.1 b1.1 g,xF (fun x d=>e x (by simp[d])) (fun x d=>f x (by simp[d])) (by simpa using j) i]
theorem Im{E F:List Ent}{L M:List ActV}(c:cE 6 E)(d:cE 6 F)(e:eH L)(f:eH M)(h:nK E L=nK F M):E=F∧L=M:=by
 have:=c.rY;have:=d.rY;have:=c.len;have:=d.len;have:=e.len;have:=f.len;unfold nK kS at h;rw[List.take_length,List.take_length,List.append_assoc,List.append_assoc]at h;obtain⟨g,i⟩:=ky (by omega) (by omega) h;obtain⟨j,k⟩:=mi (by omega) (by omega) i;exact⟨Io c.Km d.Km (by omega) (by omega) g,xF (fun a b=>⟨e.ok a b,e.small a b⟩) (fun a b=>⟨f.ok a b,f.small a b⟩) j k⟩
theorem xG:∀(L:List ActV),(∀a∈L,eI a)→(L.flatMap (fun a=>aV (cC a))).length≤6400*L.length
 |[],_=>by simp
 |a::L,h=>by
  have c:=(h a (by simp)).len;have d:=xG L (fun x b=>h x (by simp[b]));have e:=aU (cC a).length;rw[List.flatMap_cons,aS,aV,aS,List.length_cons];omega
theorem AD.of{E:List Ent}{L:List ActV}(c:cE 6 E)(b:eH L):AD E L:=by
 have e:=c.rY;have f:=c.len;have g:=b.len;have h:=xG L b.small;have i:=aU (dO E).length;have j:=aU L.length;refine⟨c.small (by decide),by omega,fun a d=>⟨b.ok a d,(b.small a d).sz,by have:=(b.small a d).len;omega⟩,by omega,?_⟩;rw[nK,kS,List.take_length,aV,aS,aS,aS];omega
theorem xI{P:Program}{ops:Array Oper}{rest:List Oper}{l:Oper}{a:Act}{w:World}{Q:Exit→Act→World→Prop}(ty:TypeId)(x:Operand)(i:l.op= .load ty x)(b:Addr)(k:a.eval x= .pointer (some b))(cs:List Value)(d:TypeDesc)
  (hw:Region.wanted l (yielded ops a.tmps)=true)(hu:P.underlying ty=some d)(f:d.isRow=true)(g:(P.info? ty).map (·.size)=some cs.length)(e:∀j v,cs[j]? =some v→w.cell? (b.add j)=some v)
  (h:wpList P ops Q rest (a.put l.dst (.agg cs.toArray)) w):wpList P ops Q (l::rest) a w:=
 BigFrame.wpList_want hw fun _ c=>au ty x i b k cs d e hu f g (c _ _ h)
structure Ds(b wr:World)(c:Nat)(E:List Ent)(L M:List ActV)(T:Nat→Prop)(j:Nat):Prop where
 qF:ez wr c E M T
 new:∀x,T x→b.heap.size≤x
 fr:Fr ag b wr
 pre:∃X,M=L++X
 ok:∀a∈M,fY a=true
 small:∀a∈M,eI a
 len:M.length≤16+j
theorem qO(n:Nat)(xs:List CV)(A:Option Addr)(aY:Nat)(S:Nat→Prop)(a0:Nat)(aU:Option Addr)(br:Nat)(n3:Nat)(aj:Option Addr)(c3:Nat)(w:World)(cq:CL w S A n xs)(cy:n≤9223372036854775807)(aN:n≤aY)(ct:rO w aU a0)(l:rO w aj n3)(aJ:eh w)(aG:bT w):
  Calls Tryz.prog 11 #[.slice A n aY, .slice aU a0 br, .slice aj n3 c3] w (AI w):=by
 have bG:=af (Ey w aJ aG);have ak:Hid (∀w',Fr ag w w'→Calls Tryz.prog 14 #[.slice A n aY, .slice aU a0 br] w' (uZ w')):=fun w' f=>vY n xs A aY S a0 aU br w' (cq.ao f) cy aN (ct.ao f) (aJ.ao f) (aG.ao f);have al:Hid (∀w',Fr ag w w'→Calls Tryz.prog 14 #[.slice none 0 0, .slice aj n3 c3] w' (uZ w')):=fun w' f=>vY 0 [] none 0 (fun _=>True) n3 aj c3 w' ⟨Rd.none_,rfl⟩ (by decide) (by decide) (l.ao f) (aJ.ao f) (aG.ao f);have ai:=af aJ;have bf:=af aG;have ap:=af l;clear ct l aJ aG cq cy aN;go_enter Tryz.func11,Tryz.ntmps11;go_wp2_with fail;refine bG.out.mono ?_;rintro e w1⟨rfl,f1⟩;have a7:=af f1;clear f1 bG;go_wp2_with fail;refine(ak.out _ a7.out).mono ?_;rintro e w2⟨h,b,ms,E,L,T,rfl,aE,l,aB,t,_,f2⟩;have bH:=af (a7.out.trans f2);have bO:=af aE;have M2:=af l;have ah:=af aB;have y:=af t;have cP:=af l.one;have c2:=af l.len;have bi:Hid ((Tryz.prog.info? 28).map (·.size)=some ms.toArray.size):=by rw[Hid,List.size_toArray,l.len];exact iw
 have bj:Hid ((Tryz.prog.info? 28).map (·.size)=some ms.length):=by rw[Hid,l.len];exact iw
 have bg:Hid (2=ms.toArray.size):=by rw[Hid,List.size_toArray,l.len]
 clear f2 aE l aB t ak a7;go_wp2_with(refine nf rfl rfl rfl 28 8 rfl rfl (.tmp 24) rfl _ rfl (.agg rB.toArray) Js #[.pointer none, .slice none 0 0] rfl (.pointer (some ⟨h,0,none⟩)) ms.toArray (fun _=>rfl) (fun _=>rfl) (fun _=>rfl) bi.out bg.out cP.out ?_);intro w3 g8 _ _ b3 f3;have bC:=af b3;have a8:=af (bH.out.trans f3);have bQ:=af (bO.out.ao f3);have bY:=af (M2.out.ao f3);clear b3 f3 bO M2 bH;go_wp2_with fail;refine(al.out _ a8.out).mono ?_;rintro e c7⟨k,cS,m,F,O,T',rfl,aE,l,aB,t,_,f4⟩;have bI:=af (a8.out.trans f4);have bX:=af aE;have b1:=af l;have B:=af aB;have D:=af t;have cQ:=af l.one;have bk:Hid ((Tryz.prog.info? 28).map (·.size)=some m.toArray.size):=by rw[Hid,List.size_toArray,l.len];exact iw
 have bl:Hid ((Tryz.prog.info? 28).map (·.size)=some m.length):=by rw[Hid,l.len];exact iw
 have bh:Hid (2=m.toArray.size):=by rw[Hid,List.size_toArray,l.len]
 have bR:=af (bQ.out.ao f4);have bZ:=af (bY.out.ao f4);have bD:=af (bC.out.fr f4 (fun x=>x));clear f4 aE l aB t al a8 bQ bY bC;go_wp2_with(refine nf rfl rfl rfl 28 10 rfl rfl (.tmp 29) rfl _ rfl (.agg rB.toArray) Js #[.pointer none, .slice none 0 0] rfl (.pointer (some ⟨k,0,none⟩)) m.toArray (fun _=>rfl) (fun _=>rfl) (fun _=>rfl) bk.out bh.out cQ.out ?_);intro v g10 _ _ b5 f5;have bF:=af b5;have G:=af (bI.out.trans f5);have I:=af (bR.out.ao f5);have b0:=af (bZ.out.ao f5);have bE:=af (bD.out.fr f5 (fun x=>x));have aX:=af (bX.out.ao f5);have b2:=af (b1.out.ao f5);clear b5 f5 bR bZ bD bX b1 bI;go_wp2_with fail;refine(AF h E L T v I.out (by have:=y.out.len;omega)).mono ?_;rintro e c0⟨c,b4,rfl,aN,f6,cu⟩;have bW:Hid (Ds v c0 c E L L b4 0):=⟨aN,cu,f6,⟨[],by simp⟩,y.out.ok,y.out.small,y.out.len⟩;clear aN f6 cu;go_wp2;go_loopw[12](fun i wr=>∃(j:Nat)(M:List ActV)(aA:Nat→Prop),j≤8∧i= .int .i64 (j:Int)∧Ds v wr c E L M aA j)(fun i _=>8-(intOf i).toNat);case atStart=>exact⟨0,L,b4,by decide,rfl,bW.out⟩
 case round=>
  obtain⟨j,M,aA,cx,rfl,cr⟩:=hrel;have d:=af cr;have aW:=af cx;clear cr cx bW;obtain⟨P,bu⟩:∃P,decide (j<n3)=P:=⟨_,rfl⟩;obtain⟨Q,bv⟩:∃Q,decide (j<8)=Q:=⟨_,rfl⟩;have bd:=af bu;have be:=af bv;have au:Hid (decide ((j:Int)<(n3:Int))=P):=by rw[Hid,←bu];exact decide_eq_decide.2 (by omega)
  have av:Hid (decide ((j:Int)<8)=Q):=by rw[Hid,←bv];exact decide_eq_decide.2 (by omega)
  clear bu bv;obtain⟨bq,aK⟩:∃z:Bool,(bif P then Q else false)=z:=⟨_,rfl⟩;have N:=af aK;clear aK;go_upto_region 7 with fail;refine ln 8 [.int .i64 (j:Int), .slice aj n3 c3, .int .i64 (n3:Nat), .bool P, .bool P,bif P then .int .i64 (j:Int)else undef,bif P then .bool Q else undef, .bool bq] ?zG ?_;case zG=>
   refine⟨?zN,?zO,?zH,?zI,?zJ,?zK,?zL,?zM,trivial⟩;all_goals intro u w' bz t
   all_goals simp only[z1,z2,z3,z4,ar,Act.put,z5,z6,z7,Nat.reduceAdd,Nat.zero_add]
   case' zH=>simp only[show u 1=_ from t 1]
   case zI=>
    simp only[show u 0=_ from t 0,show u 2=_ from t 2];refine aF ?_;have cY:=au.out;have cZ:=bd.out;go_simp;exact aM
   case' zJ=>simp only[show u 3=_ from t 3]
   case' zK=>
    simp only[show u 4=_ from t 4];cases P;case false=>exact bV
   case zL=>
    simp only[show u 5=_ from t 5,show u 4=_ from t 4];cases P;case false=>exact bV
    refine aF ?_;have cY:=av.out;have cZ:=be.out;go_simp;exact aM
   case zM=>
    simp only[show u 4=_ from t 4,show u 6=_ from t 6];cases P<;>exact aF (by go_simp;exact⟨by rw[←N.out];rfl,az⟩)
   all_goals
    try simp only[cond]
    refine aF ?_;go_simp;exact aM
  intro w' bz;simp only[z1,z2,z3,z4,ar,Act.put,z5,z6,z7,z8,z9,jX,jY,Nat.reduceAdd,Nat.zero_add];have ae:=af bz;clear bz;generalize w'=cA at*;have K:Hid (bq=true→j<n3∧j<8):=fun h=>by
   have e:=N.out;rw[h]at e;have p:=bd.out;have q:=be.out;cases P;·cases e
   ·have cU:Q=true:=e;rw[cU]at q;exact⟨of_decide_eq_true p,of_decide_eq_true q⟩
  clear bd be au av N;cases bq;case true=>
   have ab:=K.out rfl;have t2:(j:Int)<(n3:Int):=by omega
   have t3:(0:Int)≤(j:Int):=by omega
   obtain⟨cR,bs,rfl,ac,C⟩:=(ap.out.ao (G.out.trans (d.out.fr.trans ae.out))) j ab.1;have ax:=af ac;have am:=af C;have an:=af ab;have IR:Hid ((Tryz.prog.info? 72).map (·.size)=some bs.length):=by rw[Hid,ac.len];exact BU
   have dq:IntKind.i64.wrap ((j:Int)+1)=(j:Int)+1:=IntWalk.i64_in _ (by omega);clear ac C ab K;go_wp2_with(refine aC rfl 72 (.tmp 46) rfl (cR.add (j*6)) rfl bs _ ?zA Tryz.underlying72 rfl IR.out (aR.go ?zD));case zA=>exact am.out
   unfold aR;go_wp2_with fail;refine(tJ bs _ ax.out).mono ?_;rintro e cB⟨cs,a,rfl,aL,aQ,_,f8⟩;have H:=af (ae.out.trans f8);have AC:=af aL;have ay:=af aQ;clear aL aQ f8 ae am ax IR;go_wp2_with fail;have aV:=G.out.trans (d.out.fr.trans H.out);refine(nY c E M aA a cs cB (d.out.qF.ao H.out) AC.out (ai.out.ao aV) (bf.out.ao aV) ay.out.sz (fun b aa=>by have:=(d.out.small b aa).fV;omega) (by have:=d.out.len;have:=aW.out;omega) (fun _=>by have:=ay.out.len;omega) (fun x ad cW=>?_) (fun cz w' s f cV=>?_)).mono ?_;·have o:=d.out.new x cW;have cp:=bf.out.EF;have c4:=bf.out.EG;have c5:=G.out.size;rcases ad with rfl|rfl<;>omega
   ·exact kJ _ a cs _ s w' (AC.out.ao f) cV (ai.out.ao (aV.trans f)) (jG M E 24 (ah.out.more (by decide)) d.out.ok d.out.small) ay.out.writes (by have:=ay.out.nw;have:=d.out.len;have:=aW.out;omega)
   rintro e bB⟨bp,rfl,R,f9,aI⟩;have cO:Hid (Ds v bB c E L (eS M a).2 bp (j+1)):=by
    have aO:Fr ag v bB:=(d.out.fr.trans H.out).aw f9 (fun i c6 e=>by have:=d.out.new i e;omega);have aP:∀x,bp x→v.heap.size≤x:=fun x ad=>by
     rcases aI x ad with o|o;·exact d.out.new x o
     ·have:=(d.out.fr.trans H.out).size;omega
    obtain⟨X,cv⟩:=d.out.pre;have hlen:=d.out.len;rcases mI M a with⟨_,e⟩|⟨_,e,cz⟩;·refine⟨R,aP,aO,⟨X,by rw[e];exact cv⟩,by rw[e];exact d.out.ok,by rw[e];exact d.out.small,by rw[e];omega⟩
    ·refine⟨R,aP,aO,⟨X++[a],by rw[e,cv,List.append_assoc]⟩,fun b aa=>?_,fun b aa=>?_,by rw[e,aS,List.length_singleton];omega⟩
     ·rw[e]at aa;rcases List.mem_append.1 aa with o|o;·exact d.out.ok b o
      ·rw[List.mem_singleton.1 o];exact cz
     ·rw[e]at aa;rcases List.mem_append.1 aa with o|o;·exact d.out.small b o
      ·rw[List.mem_singleton.1 o];exact ay.out
   clear aV R f9 aI H AC;go_wp2;go_roundw;case rel=>exact⟨j+1,_,bp,by have:=an.out;omega,by go_num,cO.out⟩
   case measure=>simp[intOf];have:=an.out;omega
  case false=>
   clear K;have g:=af (d.out.fr.trans ae.out);have J:=af (d.out.qF.ao ae.out);have aq:=af d.out.pre;have bc:Hid (M.length≤65536):=by have:=d.out.len;have:=aW.out;simp only[Hid];omega
   clear d ae aW ap;have a5:Hid (∀w',Fr ag v w'→Calls Tryz.prog 33 #[.agg ms.toArray, .pointer (some ⟨h,0,none⟩)] w' (aH w' (.bool true))):=fun w' f=>xA ms h b E L T w' (I.out.ao f) (b0.out.ao f) (ai.out.ao (G.out.trans f)) (ah.out.more (by decide)) y.out;have a6:Hid (∀w',Fr ag v w'→Calls Tryz.prog 33 #[.agg m.toArray, .pointer (some ⟨k,0,none⟩)] w' (aH w' (.bool true))):=fun w' f=>xA m k cS F O T' w' (aX.out.ao f) (b2.out.ao f) (ai.out.ao (G.out.trans f)) (B.out.more (by decide)) D.out;have r:Hid (kY E∧kY F∧∀a∈L,a.reads.length≤1099511627776∧a.writes.length≤1099511627776):=⟨(ah.out.more (show 6≤24 by decide)).j5 (by decide),(B.out.more (show 6≤24 by decide)).j5 (by decide),fun a cw=>⟨by have:=(y.out.small a cw).nr;omega,by have:=(y.out.small a cw).nw;omega⟩⟩;obtain⟨b6,U⟩:∃X:ByteArray,⟨(nK E L).toArray⟩=X:=⟨_,rfl⟩;obtain⟨b7,Y⟩:∃X:ByteArray,⟨(nK F O).toArray⟩=X:=⟨_,rfl⟩;obtain⟨Z,bx⟩:∃Z:Bool,(b6.toList==b7.toList)=Z:=⟨_,rfl⟩;have aT:Z=true↔nK E L=nK F O:=by
    rw[←bx,beq_iff_eq,ByteArray.toList_eq,ByteArray.toList_eq,←U,←Y]
   have a1:Hid (∀w',Fr ag v w'→Calls Tryz.prog 43 #[.pointer (some ⟨h,0,none⟩), .pointer (some ⟨k,0,none⟩)] w' (aH w' (.bool Z))):=fun w' f=>by
    classical
    have q:=tF h k E F L O T T' w' (I.out.ao f) (aX.out.ao f) r.out.1 r.out.2.1 (by have:=y.out.len;omega) r.out.2.2 (decide (E=F)) (decide (L=O)) decide_eq_true_iff decide_eq_true_iff;have e:(decide (E=F)&&decide (L=O))=Z:=by
     rw[Bool.eq_iff_iff,Bool.and_eq_true,decide_eq_true_iff,decide_eq_true_iff,aT];exact⟨fun⟨o,cp⟩=>by rw[o,cp],fun h=>Im ah.out B.out y.out D.out h⟩
    rw[e]at q;exact q
   have cC:Hid (∀w',Fr ag v w'→Calls Tryz.prog 45 #[.pointer (some ⟨h,0,none⟩)] w' (aH w' (.string b6))):=fun w' f=>by rw[←U];exact rF h E L T w' (I.out.ao f) (ai.out.ao (G.out.trans f)) (AD.of ah.out y.out)
   have cD:Hid (∀w',Fr ag v w'→Calls Tryz.prog 45 #[.pointer (some ⟨k,0,none⟩)] w' (aH w' (.string b7))):=fun w' f=>by rw[←Y];exact rF k F O T' w' (aX.out.ao f) (ai.out.ao (G.out.trans f)) (AD.of B.out D.out)
   obtain⟨V,bw⟩:∃V:Bool,((L.length:Int)==(M.length:Int))=V:=⟨_,rfl⟩;have a2:Hid (∀w',Fr ag cA w'→Calls Tryz.prog 43 #[.pointer (some ⟨h,0,none⟩), .pointer (some ⟨c,0,none⟩)] w' (aH w' (.bool V))):=fun w' f=>by
    have q:=tF h c E E L M T aA w' (I.out.ao (g.out.trans f)) (J.out.ao f) r.out.1 r.out.1 (by have:=y.out.len;omega) r.out.2.2 true V (by simp) (by
     rw[←bw,beq_iff_eq];obtain⟨X,rfl⟩:=aq.out;rw[aS];constructor;·intro e;have:X=[]:=List.eq_nil_of_length_eq_zero (by omega);rw[this,List.append_nil]
     ·intro e;have:=congrArg List.length e;rw[aS]at this;omega);exact q
   have a3:Hid (∀w',Fr ag v w'→Calls Tryz.prog 46 #[.pointer (some ⟨h,0,none⟩)] w' (bm w' (.int .i64 (L.length:Int)))):=fun w' f=>qa h E L T w' (I.out.ao f);have a4:Hid (∀w',Fr ag cA w'→Calls Tryz.prog 46 #[.pointer (some ⟨c,0,none⟩)] w' (bm w' (.int .i64 (M.length:Int)))):=fun w' f=>qa c E M aA w' (J.out.ao f);have bU:=af bx;have bS:=af bw;have bn:Hid (∀W,Fr ag v W→∀j x,ms[j]? =some x→W.cell? ((⟨g8,0,none⟩:Addr).add j)=some x):=fun W f j x ad=>by rw[Addr.add_mid,Nat.zero_add,(bE.out.fr f (fun x=>x)).cell j,bP];exact ad
   have bo:Hid (∀W,Fr ag v W→∀j x,m[j]? =some x→W.cell? ((⟨g10,0,none⟩:Addr).add j)=some x):=fun W f j x ad=>by rw[Addr.add_mid,Nat.zero_add,(bF.out.fr f (fun x=>x)).cell j,bP];exact ad
   clear U Y bx aT bw I aX b0 b2 aq J bE bF r bc y D ah B;go_wp2_with fail;refine(Mq _).mono ?_;rintro e cB⟨rfl,f8⟩;have H:=af f8;clear f8;go_wp2_with fail;refine(KJ _).mono ?_;rintro e bB⟨rfl,f9⟩;have bJ:=af (H.out.trans f9);clear f9;go_wp2_with(refine rz rfl rfl 38 16 rfl rfl _ rfl aZ iR aD rfl aD (fun _=>rfl) (fun _=>rfl) Lt.q6 rfl Lt.qu ?_);intro c8 g16 _ _ _ b8;have a9:=af (bJ.out.trans b8);clear b8 H bJ;generalize L.length=l1 at*;generalize M.length=l2 at*;have bt:=bU.out;have o:=bS.out;go_upto_region 13 with fail;try simp only[List.append_eq,List.cons_append,List.nil_append]
   clear bt o;go_wp2_with(refine aC rfl 28 (.tmp 8) rfl ⟨g8,0,none⟩ rfl ms _ ?zB Tryz.underlying28 rfl bj.out (aR.go ?zE));case zB=>exact bn.out _ (g.out.trans a9.out)
   unfold aR;go_wp2_with fail;refine(a5.out _ (g.out.trans a9.out)).mono ?_;rintro e c9⟨rfl,b9⟩;have ba:=af (a9.out.trans b9);clear b9;go_wp2_with(refine xI 28 (.tmp 10) rfl ⟨g10,0,none⟩ rfl m _ (by kernel_rfl) Tryz.underlying28 rfl bl.out ?zC (aR.go ?zF));case zC=>exact bo.out _ (g.out.trans ba.out)
   unfold aR;go_wp2_with fail;refine(a6.out _ (g.out.trans ba.out)).mono ?_;rintro e da⟨rfl,ca⟩;have bK:=af (ba.out.trans ca);clear ca;go_wp2_with fail;refine(a1.out _ (g.out.trans bK.out)).mono ?_;rintro e db⟨rfl,cb⟩;have bL:=af (bK.out.trans cb);clear cb;go_wp2_with fail;refine(cC.out _ (g.out.trans bL.out)).mono ?_;rintro e dc⟨rfl,cc⟩;have bM:=af (bL.out.trans cc);clear cc;go_wp2_with fail;refine(cD.out _ (g.out.trans bM.out)).mono ?_;rintro e dd⟨rfl,cd⟩;have bN:=af (bM.out.trans cd);clear cd;have bt:=bU.out;have bA:(Z==Z)=true:=beq_self_eq_true Z;go_wp2_with fail;refine(a2.out _ bN.out).mono ?_;rintro e de⟨rfl,ce⟩;have bb:=af (bN.out.trans ce);clear ce;clear bt bA;go_wp2_with fail;refine(a3.out _ (g.out.trans bb.out)).mono ?_;rintro e c1⟨rfl,rfl⟩;go_wp2_with fail;refine(a4.out _ bb.out).mono ?_;rintro e c1⟨rfl,rfl⟩;have o:=bS.out;have cX:(V==V)=true:=beq_self_eq_true V;go_wp2_with fail;refine(Eo h _).mono ?_;rintro e df⟨rfl,cf⟩;have cE:=af (bb.out.trans cf);clear cf;go_wp2_with fail;refine(IS _).mono ?_;rintro e dg⟨rfl,cg⟩;have cF:=af (cE.out.trans cg);clear cg;go_wp2_with fail;refine(IQ _).mono ?_;rintro e dh⟨rfl,ch⟩;have cG:=af (cF.out.trans ch);clear ch;go_wp2_with fail;refine(Mp _).mono ?_;rintro e di⟨rfl,ci⟩;have cH:=af (cG.out.trans ci);clear ci;go_wp2_with fail;refine(KE _).mono ?_;rintro e dj⟨rfl,cj⟩;have cI:=af (cH.out.trans cj);clear cj;go_wp2_with fail;refine(EO _).mono ?_;rintro e dk⟨rfl,ck⟩;have cJ:=af (cI.out.trans ck);clear ck;go_wp2_with fail;refine(Cf _).mono ?_;rintro e dl⟨rfl,cl⟩;have cK:=af (cJ.out.trans cl);clear cl;go_wp2_with fail;refine(qQ _).mono ?_;rintro e dm⟨cT,rfl,_,cm,_⟩;have cL:=af (cK.out.trans cm);clear cm;go_wp2_with fail;refine(EN cT _).mono ?_;rintro e dn⟨rfl,cn⟩;have FS:=af (cL.out.trans cn);clear cn;go_wp2_with fail;refine(zU _).mono ?_;rintro e dp⟨rfl,co⟩;have cM:=af (FS.out.trans co);clear co;have cN:=af (G.out.trans (g.out.trans cM.out));go_wp2;go_ret;exact⟨rfl,cN.out⟩
end Go.Proofs.YtphjagkehiklkaaGreatDoor
