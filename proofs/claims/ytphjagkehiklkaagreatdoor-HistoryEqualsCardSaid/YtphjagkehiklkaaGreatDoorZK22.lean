/- Texts. -/
import Derived.Test.YtphjagkehiklkaaGreatDoorZK11
import Derived.Test.YtphjagkehiklkaaGreatDoorZK20
set_option linter.unusedVariables false
set_option linter.unusedSimpArgs false
set_option maxRecDepth 100000
set_option maxHeartbeats 4000000
namespace Go.Proofs.YtphjagkehiklkaaGreatDoor
open Go.RowKit Go.Shelf
def mP(c d:CV):Bool:=zE c.nm d.nm&&(c.value.toList==d.value.toList)&&(c.bI==d.bI)
theorem Kh(a b:aJ):zE a b=true↔a=b:=by
 unfold zE;rw[beq_iff_eq];exact⟨bZ.eq _ _,fun h=>by rw[h];exact bZ.refl _⟩
theorem qi(c d:CV):mP c d=true↔c=d:=by
 obtain⟨n,v,b⟩:=c;obtain⟨m,u,e⟩:=d;simp only[mP,Bool.and_eq_true,beq_iff_eq,Kh,CV.mk.injEq];exact⟨fun h=>⟨h.1.1,toList_inj h.1.2,h.2⟩,fun h=>⟨⟨h.1,by rw[h.2.1]⟩,h.2.2⟩⟩
def zF(a b:dJ):Bool:=a.tick==b.tick&&a.cls==b.cls&&a.num==b.num&&(a.fV.toList==b.fV.toList)
theorem vT(a b:dJ):zF a b=true↔a=b:=by
 obtain⟨t,c,n,s⟩:=a;obtain⟨g,d,e,f⟩:=b;simp only[zF,Bool.and_eq_true,beq_iff_eq,dJ.mk.injEq];exact⟨fun h=>⟨h.1.1.1,h.1.1.2,h.1.2,toList_inj h.2⟩,fun h=>⟨⟨⟨h.1,h.2.1⟩,h.2.2.1⟩,by rw[h.2.2.2]⟩⟩
def iL:List CV→List CV→Bool
 |[],[]=>true
 |c::l,d::m=>mP c d&&iL l m
 |_,_=>false
theorem qj:∀(l m:List CV),iL l m=true↔l=m
 |[],[]=>by simp[iL]
 |[],_::_=>by simp[iL]
 |_::_,[]=>by simp[iL]
 |c::l,d::m=>by simp[iL,qi,qj l m]
def Iq(a b:ActV):Bool:=zF a.key b.key&&iL a.reads b.reads&&iL a.writes b.writes
theorem vR(a b:ActV):Iq a b=true↔a=b:=by
 obtain⟨k,r,w⟩:=a;obtain⟨c,d,w'⟩:=b;simp only[Iq,Bool.and_eq_true,vT,qj,ActV.mk.injEq];exact⟨fun h=>⟨h.1.1,h.1.2,h.2⟩,fun h=>⟨⟨h.1,h.2.1⟩,h.2.2⟩⟩
theorem EM(c d:CV)(w:World):(binOp .neq 119 (.agg c.cells.toArray) (.agg d.cells.toArray)).run Tryz.prog w= .ok (.bool (!mP c d)) w:=by
 by_cases h:c=d;·subst h;rw[(qi c c).2 rfl];obtain⟨⟨k,z,n,i,t⟩,v,b⟩:=c;simp only[CV.cells,aJ.cells,List.cons_append,List.nil_append];go_simp
 ·have e:mP c d=false:=by
   cases a:mP c d;·rfl
   ·exact absurd ((qi c d).1 a) h
  rw[e];obtain⟨⟨k,z,n,i,t⟩,v,b⟩:=c;obtain⟨⟨r,u,s,i',x⟩,y,q⟩:=d;simp only[CV.cells,aJ.cells,List.cons_append,List.nil_append];go_simp;intro f g j l m o p;exact h (by rw[f,toList_inj g,j,l,toList_inj m,toList_inj o,p])
theorem Iu(a b:dJ)(w:World):(binOp .eql 43 (.agg a.cells.toArray) (.agg b.cells.toArray)).run Tryz.prog w= .ok (.bool (zF a b)) w:=by
 by_cases h:a=b;·subst h;rw[(vT a a).2 rfl];obtain⟨t,c,n,s⟩:=a;simp only[dJ.cells];go_simp
 ·have e:zF a b=false:=by
   cases d:zF a b;·rfl
   ·exact absurd ((vT a b).1 d) h
  rw[e];obtain⟨t,c,n,s⟩:=a;obtain⟨o,k,l,m⟩:=b;simp only[dJ.cells];go_simp;intro f g i j;exact h (by rw[f,g,i,toList_inj j])
theorem vS:∀{xs a:List CV},xs.length=a.length→(∀(k:Nat)(c d:CV),xs[k]? =some c→a[k]? =some d→mP c d=true)→iL xs a=true
 |[],[],_,_=>rfl
 |c::l,d::m,h,b=>by
  rw[iL,b 0 c d rfl rfl,Bool.true_and];exact vS (by simpa using h) (fun k x y e f=>b (k+1) x y (by simpa using e) (by simpa using f))
theorem Ir{xs a:List CV}{k:Nat}{c d:CV}(f:xs[k]? =some c)(b:a[k]? =some d)(h:mP c d=false):iL xs a=false:=by
 cases e:iL xs a;·rfl
 ·have:=(qj xs a).1 e;subst this;rw[f]at b;cases b;rw[(qi c c).2 rfl]at h;cases h
theorem rT(xs f:List CV)(n m:Nat)(A B:Option Addr)(c V:Nat)(S aa:Nat→Prop)(w:World)(s:CL w S A n xs)(a:CL w aa B m f)(P:n≤1099511627776):
  Calls Tryz.prog 68 #[.slice A n c, .slice B m V] w (aH w (.bool (iL xs f))):=by
 by_cases q:n=m;case neg=>
  have t1:((n:Int)!=(m:Int))=true:=by rw[bne_iff_ne];omega
  have t2:((n:Int)==(m:Int))=false:=by rw[beq_eq_false_iff_ne];omega
  have J:Hid (iL xs f=false):=by
   cases e:iL xs f;·rfl
   ·have:=(qj xs f).1 e;subst this;exact absurd (s.len.symm.trans a.len) q
  rw[J.out];clear q s a P;go_enter Tryz.func68,Tryz.ntmps68;go_wp2;go_ret;exact aM
 subst q;have Z:=af s;have J:=af a;have z:Hid (∀(k:Nat)(c d:CV),xs[k]? =some c→f[k]? =some d→mP c d=false→iL xs f=false):=fun _ _ _=>Ir;have t:Hid ((∀(k:Nat)(c d:CV),xs[k]? =some c→f[k]? =some d→mP c d=true)→iL xs f=true):=vS (s.len.trans a.len.symm);have L:=af s.len;generalize iL xs f=R at*;have M:=af P;clear s a P;go_enter Tryz.func68,Tryz.ntmps68;go_wp2;go_loopw[13](fun i wr=>∃k:Nat,k≤n∧i= .int .i64 k∧(∀(j:Nat)(c d:CV),j<k→xs[j]? =some c→f[j]? =some d→mP c d=true)∧Fr ag w wr)(fun i _=>n-(intOf i).toNat);case atStart=>exact⟨0,Nat.zero_le _,rfl,(fun j c d h=>by omega),az⟩
 case round=>
  obtain⟨k,ae,rfl,W,p⟩:=hrel;have I:=af p;have U:=af W;clear p W;by_cases H:k<n
  ·obtain⟨N,x,rfl,X,g⟩:=(Z.out.ao I.out).at_ H;obtain⟨O,y,rfl,Y,b⟩:=(J.out.ao I.out).at_ H;have C:=af g;have D:=af b;have l:Hid (xs[k]? =some x∧f[k]? =some y):=⟨X,Y⟩;have qn:Hid (∀w:World,(binOp .neq 119 (.agg x.cells.toArray) (.agg y.cells.toArray)).run Tryz.prog w= .ok (.bool (!mP x y)) w):=fun w=>EM x y w;obtain⟨E,a⟩:∃E,mP x y=E:=⟨_,rfl⟩;rw[a]at qn;have F:=af a;have ab:(k:Int)<(n:Int):=by omega
   have ac:(0:Int)≤(k:Int):=by omega
   clear X Y g b a;go_upto_region 6 with fail;refine jn 9 [.slice (some N) n c, .int .i64 (k:Int), .pointer (some (N.add (k*7))), .agg x.cells.toArray, .slice (some O) n V, .int .i64 (k:Int), .pointer (some (O.add (k*7))), .agg y.cells.toArray, .bool (!E)] ?zA ?_;case zA=>
    refine⟨?zG,?zH,?zB,?zC,?zI,?zJ,?zD,?zE,?zF,trivial⟩;all_goals intro u w' p o
    all_goals simp only[z1,z2,z3,z4,ar,Act.put,z5,z6,z7,Nat.reduceAdd,Nat.zero_add]
    case' zB=>simp only[show u 0=_ from o 0,show u 1=_ from o 1]
    case zC=>
     simp only[show u 2=_ from o 2];refine aF ?_;exact au _ _ rfl (N.add (k*7)) rfl x.cells _ (fun j v Q=>p.ak (C.out j v Q) (fun x=>x)) Tryz.underlying119 rfl jQ aM
    case' zD=>simp only[show u 4=_ from o 4,show u 5=_ from o 5]
    case zE=>
     simp only[show u 6=_ from o 6];refine aF ?_;exact au _ _ rfl (O.add (k*7)) rfl y.cells _ (fun j v Q=>p.ak (D.out j v Q) (fun x=>x)) Tryz.underlying119 rfl jQ aM
    case zF=>
     simp only[show u 3=_ from o 3,show u 7=_ from o 7];refine aF ?_;exact mF _ _ _ _ _ rfl _ _ rfl rfl Tryz.eqGuardType119 _ (qn.out _) aM
    all_goals
     refine aF ?_;go_simp;exact aM
   intro w' p;simp only[z1,z2,z3,z4,ar,Act.put,z5,z6,z7,z8,z9,jX,jY,Nat.reduceAdd,Nat.zero_add];have T:=af (I.out.trans p);clear p C D qn;cases a:E;·obtain rfl:R=false:=z.out k x y l.out.1 l.out.2 (by rw[F.out,a]);clear a;go_wp2;go_ret;exact⟨rfl,T.out⟩
   ·have K:Hid (mP x y=true):=by rw[Hid,F.out,a]
    clear a;have ah:n≤1099511627776:=M.out;go_wp2;go_roundw
    case rel=>exact⟨k+1,by omega,by go_num,fun j c d ad r G=>by
     by_cases e:j=k;·subst e;rw[l.out.1]at r;rw[l.out.2]at G;cases r;cases G;exact K.out
     ·exact U.out j c d (by omega) r G,T.out⟩
    case measure=>simp[intOf];omega
  ·obtain rfl:k=n:=by omega
   have ab:¬(k:Int)<(k:Int):=by omega
   obtain rfl:R=true:=t.out (fun j c d r G=>U.out j c d (by have:=(List.getElem?_eq_some_iff.1 r).1;have:=L.out;omega) r G);go_wp2;go_ret;exact⟨rfl,I.out⟩
theorem pg(a b:ActV)(cs ds:List Value)(w:World)(ap:cF w cs a)(W:cF w ds b)(nr:a.reads.length≤1099511627776)(nw:a.writes.length≤1099511627776):
  Calls Tryz.prog 19 #[.agg cs.toArray, .agg ds.toArray] w (aH w (.bool (Iq a b))):=by
 obtain⟨ay,aA,rfl,ah,ai⟩:=ap;obtain⟨N,n,U,rfl,rfl,_,I⟩:=ah.cl;obtain⟨O,o,V,rfl,rfl,_,K⟩:=ai.cl;obtain⟨av,ax,rfl,E,F⟩:=W;obtain⟨s,i,C,rfl,rfl,_,J⟩:=E.cl;obtain⟨t,k,D,rfl,rfl,_,L⟩:=F.cl;have ak:Hid (∀w',Fr ag w w'→Calls Tryz.prog 68 #[.slice N a.reads.length U, .slice s b.reads.length C] w' (aH w' (.bool (iL a.reads b.reads)))):=fun w' f=>rT _ _ _ _ _ _ _ _ _ _ w' (I.ao f) (J.ao f) nr;have al:Hid (∀w',Fr ag w w'→Calls Tryz.prog 68 #[.slice O a.writes.length V, .slice t b.writes.length D] w' (aH w' (.bool (iL a.writes b.writes)))):=fun w' f=>rT _ _ _ _ _ _ _ _ _ _ w' (K.ao f) (L.ao f) nw;have an:Hid (∀w:World,(binOp .eql 43 (.agg a.key.cells.toArray) (.agg b.key.cells.toArray)).run Tryz.prog w= .ok (.bool (zF a.key b.key)) w):=fun w=>Iu _ _ w;have ae:Hid (Iq a b=(zF a.key b.key&&iL a.reads b.reads&&iL a.writes b.writes)):=rfl;have l:Hid ((Tryz.prog.info? 43).map (·.size)=some a.key.cells.length):=gH;have m:Hid ((Tryz.prog.info? 43).map (·.size)=some b.key.cells.length):=gH;have d:Hid (a.key.cells.length=4∧b.key.cells.length=4):=⟨rfl,rfl⟩;rw[ae.out];generalize a.reads.length=n at*;generalize a.writes.length=o at*;generalize b.reads.length=i at*;generalize b.writes.length=k at*;generalize a.key.cells=S at*;generalize b.key.cells=A at*;generalize zF a.key b.key=P at*;generalize iL a.reads b.reads=Q at*;generalize iL a.writes b.writes=R at*;clear ah ai I K E F J L ae nr nw;go_enter Tryz.func19,Tryz.ntmps19;go_wp2_with(refine aB rfl 46 (.tmp 0) rfl _ rfl ?_);intro w1 n1;have ab:=af n1;clear n1;generalize G:w.heap.size=p at*;have y:Hid (aq w1 p 46 (S++[Value.slice N n U, .slice O o V]).toArray):=by have h:=ab.out.aE;rw[G]at h;exact h
 clear G;go_wp2_with(refine aB rfl 46 (.tmp 1) rfl (A++[Value.slice s i C, .slice t k D]).toArray rfl ?_);intro w2 aj;have T:=af aj;clear aj;generalize H:w1.heap.size=r at*;have HB:Hid (aq w2 r 46 (A++[Value.slice s i C, .slice t k D]).toArray):=by have h:=T.out.aE;rw[H]at h;exact h
 clear H;have HA:=af (y.out.fr T.out.fr (fun x=>x));have Z:=af (ab.out.fr.trans T.out.fr);have X:Hid (∀w',Fr ag w2 w'→∀j x,S[j]? =some x→w'.cell? ((⟨p,0,none⟩:Addr).add j)=some x):=fun w' f j x M=>by
  rw[Addr.add_mid,Nat.zero_add,(HA.out.fr f (fun x=>x)).cell j,bP,List.getElem?_append_left (List.getElem?_eq_some_iff.1 M).1];exact M
 have Y:Hid (∀w',Fr ag w2 w'→∀j x,A[j]? =some x→w'.cell? ((⟨r,0,none⟩:Addr).add j)=some x):=fun w' f j x M=>by
  rw[Addr.add_mid,Nat.zero_add,(HB.out.fr f (fun x=>x)).cell j,bP,List.getElem?_append_left (List.getElem?_eq_some_iff.1 M).1];exact M
 have a4:Hid (∀w',Fr ag w2 w'→w'.cell? {block:=p,off:=4}=some (.slice N n U)):=fun w' f=>by
  rw[(HA.out.fr f (fun x=>x)).cell 4,bP,List.getElem?_append_right (by rw[d.out.1];omega),d.out.1];rfl
 have a5:Hid (∀w',Fr ag w2 w'→w'.cell? {block:=p,off:=5}=some (.slice O o V)):=fun w' f=>by
  rw[(HA.out.fr f (fun x=>x)).cell 5,bP,List.getElem?_append_right (by rw[d.out.1];omega),d.out.1];rfl
 have b4:Hid (∀w',Fr ag w2 w'→w'.cell? {block:=r,off:=4}=some (.slice s i C)):=fun w' f=>by
  rw[(HB.out.fr f (fun x=>x)).cell 4,bP,List.getElem?_append_right (by rw[d.out.2];omega),d.out.2];rfl
 have b5:Hid (∀w',Fr ag w2 w'→w'.cell? {block:=r,off:=5}=some (.slice t k D)):=fun w' f=>by
  rw[(HB.out.fr f (fun x=>x)).cell 5,bP,List.getElem?_append_right (by rw[d.out.2];omega),d.out.2];rfl
 clear ab T y HA HB;obtain⟨B,W⟩:∃z:Bool,(bif P then(bif Q then R else false)else false)=z:=⟨_,rfl⟩;have HB:=af W;clear W;go_upto_region 1 with fail;refine ln 19 [.pointer (some ⟨p,0,none⟩), .agg S.toArray, .pointer (some ⟨r,0,none⟩), .agg A.toArray, .bool P, .bool P,bif P then .pointer (some ⟨p,4,none⟩)else undef,bif P then .slice N n U else undef,bif P then .pointer (some ⟨r,4,none⟩)else undef,bif P then .slice s i C else undef,bif P then .bool Q else undef,bif P then .bool Q else .bool false,bif P then .bool Q else .bool false,bif P then(bif Q then .pointer (some ⟨p,5,none⟩)else undef)else undef,bif P then(bif Q then .slice O o V else undef)else undef,bif P then(bif Q then .pointer (some ⟨r,5,none⟩)else undef)else undef,bif P then(bif Q then .slice t k D else undef)else undef,bif P then(bif Q then .bool R else undef)else undef, .bool B] ?zK ?_;case zK=>
  refine⟨?zT,?zL,?zU,?zM,?zN,?zO,?zP,?zQ,?zR,?zS,?zA,?zB,?zC,?zD,?zE,?zG,?zH,?zI,?zJ,trivial⟩;all_goals intro u w' g c
  all_goals simp only[z1,z2,z3,z4,ar,Act.put,z5,z6,z7,Nat.reduceAdd,Nat.zero_add]
  case zL=>
   simp only[show u 0=_ from c 0];refine aF ?_;exact au _ _ rfl ⟨p,0,none⟩ rfl S _ (fun ad v ac=>X.out _ g ad v ac) Tryz.underlying43 rfl l.out aM
  case zM=>
   simp only[show u 2=_ from c 2];refine aF ?_;exact au _ _ rfl ⟨r,0,none⟩ rfl A _ (fun ad v ac=>Y.out _ g ad v ac) Tryz.underlying43 rfl m.out aM
  case zN=>
   simp only[show u 1=_ from c 1,show u 3=_ from c 3];refine aF ?_;exact mF .eql _ _ _ _ rfl _ _ rfl rfl Tryz.eqGuardType43 _ (an.out _) aM
  case' zO=>simp only[show u 4=_ from c 4]
  case' zP=>
   simp only[show u 5=_ from c 5];cases P;case false=>exact bV
  case zQ=>
   simp only[show u 6=_ from c 6,show u 5=_ from c 5];cases P;case false=>exact bV
   refine aF ?_;have q:=a4.out _ g;go_simp;exact aM
  case' zR=>
   simp only[show u 5=_ from c 5];cases P;case false=>exact bV
  case zS=>
   simp only[show u 8=_ from c 8,show u 5=_ from c 5];cases P;case false=>exact bV
   refine aF ?_;have q:=b4.out _ g;go_simp;exact aM
  case zA=>
   simp only[show u 7=_ from c 7,show u 9=_ from c 9,show u 5=_ from c 5];cases P;case false=>exact bV
   refine aF ?_;go_simp;refine(ak.out _ (Z.out.trans g)).mono ?_;rintro e aw⟨rfl,f4⟩;exact⟨rfl,f4⟩
  case' zB=>
   simp only[show u 5=_ from c 5,show u 10=_ from c 10];cases P
  case' zC=>
   simp only[show u 11=_ from c 11];cases P
  case' zD=>
   simp only[show u 12=_ from c 12];cases P;case false=>exact bV
   cases Q;case false=>exact bV
  case zE=>
   simp only[show u 13=_ from c 13,show u 12=_ from c 12];cases P;case false=>exact bV
   cases Q;case false=>exact bV
   refine aF ?_;have q:=a5.out _ g;go_simp;exact aM
  case' zG=>
   simp only[show u 12=_ from c 12];cases P;case false=>exact bV
   cases Q;case false=>exact bV
  case zH=>
   simp only[show u 15=_ from c 15,show u 12=_ from c 12];cases P;case false=>exact bV
   cases Q;case false=>exact bV
   refine aF ?_;have q:=b5.out _ g;go_simp;exact aM
  case zI=>
   simp only[show u 14=_ from c 14,show u 16=_ from c 16,show u 12=_ from c 12];cases P;case false=>exact bV
   cases Q;case false=>exact bV
   refine aF ?_;go_simp;refine(al.out _ (Z.out.trans g)).mono ?_;rintro e aw⟨rfl,f4⟩;exact⟨rfl,f4⟩
  case zJ=>
   simp only[show u 12=_ from c 12,show u 17=_ from c 17];cases P<;>cases Q<;>exact aF (by go_simp;exact⟨by rw[←HB.out];rfl,az⟩)
  all_goals
   try simp only[cond]
   refine aF ?_;go_simp;exact aM
 intro w' g;simp only[z1,z2,z3,z4,ar,Act.put,z5,z6,z7,z8,z9,jX,jY,Nat.reduceAdd,Nat.zero_add];have am:=af (Z.out.trans g);have aa:Hid ((P&&Q&&R)=B):=by
  rw[Hid,←HB.out];cases P<;>cases Q<;>cases R<;>rfl
 clear g HB;go_wp2;go_ret;rw[aa.out];exact⟨rfl,am.out⟩
end Go.Proofs.YtphjagkehiklkaaGreatDoor
