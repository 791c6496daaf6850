/- Texts. -/
import Derived.Test.YtphjagkehiklkaaGreatDoorUK20
set_option linter.unusedVariables false
set_option linter.unusedSimpArgs false
set_option maxRecDepth 100000
set_option maxHeartbeats 4000000
namespace Go.Proofs.YtphjagkehiklkaaGreatDoor
open Go.RowKit Go.Shelf
def kU(c d:CV):Bool:=wG c.nm d.nm&&(c.value.toList==d.value.toList)&&(c.aV==d.aV)
theorem ES(a b:aD):wG a b=true↔a=b:=by
 unfold wG;rw[beq_iff_eq];exact⟨cq.eq _ _,fun h=>by rw[h];exact cq.refl _⟩
theorem og(c d:CV):kU c d=true↔c=d:=by
 obtain⟨n,v,b⟩:=c;obtain⟨m,u,e⟩:=d;simp only[kU,Bool.and_eq_true,beq_iff_eq,ES,CV.mk.injEq];exact⟨fun h=>⟨h.1.1,toList_inj h.1.2,h.2⟩,fun h=>⟨⟨h.1,by rw[h.2.1]⟩,h.2.2⟩⟩
def wH(a b:dV):Bool:=a.tick==b.tick&&a.cls==b.cls&&a.num==b.num&&(a.ez.toList==b.ez.toList)
theorem sY(a b:dV):wH a b=true↔a=b:=by
 obtain⟨t,c,n,s⟩:=a;obtain⟨g,d,e,f⟩:=b;simp only[wH,Bool.and_eq_true,beq_iff_eq,dV.mk.injEq];exact⟨fun h=>⟨h.1.1.1,h.1.1.2,h.1.2,toList_inj h.2⟩,fun h=>⟨⟨⟨h.1,h.2.1⟩,h.2.2.1⟩,by rw[h.2.2.2]⟩⟩
def fY:List CV→List CV→Bool
 |[],[]=>true
 |c::l,d::m=>kU c d&&fY l m
 |_,_=>false
theorem oh:∀(l m:List CV),fY l m=true↔l=m
 |[],[]=>by simp[fY]
 |[],_::_=>by simp[fY]
 |_::_,[]=>by simp[fY]
 |c::l,d::m=>by simp[fY,og,oh l m]
def Gq(a b:ActV):Bool:=wH a.key b.key&&fY a.reads b.reads&&fY a.writes b.writes
theorem pO(a b:ActV):Gq a b=true↔a=b:=by
 obtain⟨k,r,w⟩:=a;obtain⟨c,d,w'⟩:=b;simp only[Gq,Bool.and_eq_true,sY,oh,ActV.mk.injEq];exact⟨fun h=>⟨h.1.1,h.1.2,h.2⟩,fun h=>⟨⟨h.1,h.2.1⟩,h.2.2⟩⟩
theorem Af(c d:CV)(w:World):(binOp .neq 119 (.agg c.cells.toArray) (.agg d.cells.toArray)).run Tryz.prog w= .ok (.bool (!kU c d)) w:=by
 by_cases h:c=d;·subst h;rw[(og c c).2 rfl];obtain⟨⟨k,z,n,i,t⟩,v,b⟩:=c;simp only[CV.cells,aD.cells,List.cons_append,List.nil_append];go_simp
 ·have e:kU c d=false:=by
   cases a:kU c d;·rfl
   ·exact absurd ((og c d).1 a) h
  rw[e];obtain⟨⟨k,z,n,i,t⟩,v,b⟩:=c;obtain⟨⟨r,u,s,i',x⟩,y,q⟩:=d;simp only[CV.cells,aD.cells,List.cons_append,List.nil_append];go_simp;intro f g j l m o p;exact h (by rw[f,toList_inj g,j,l,toList_inj m,toList_inj o,p])
theorem Df(a b:dV)(w:World):(binOp .eql 43 (.agg a.cells.toArray) (.agg b.cells.toArray)).run Tryz.prog w= .ok (.bool (wH a b)) w:=by
 by_cases h:a=b;·subst h;rw[(sY a a).2 rfl];obtain⟨t,c,n,s⟩:=a;simp only[dV.cells];go_simp
 ·have e:wH a b=false:=by
   cases d:wH a b;·rfl
   ·exact absurd ((sY a b).1 d) h
  rw[e];obtain⟨t,c,n,s⟩:=a;obtain⟨o,k,l,m⟩:=b;simp only[dV.cells];go_simp;intro f g i j;exact h (by rw[f,g,i,toList_inj j])
theorem sX:∀{xs a:List CV},xs.length=a.length→(∀(k:Nat)(c d:CV),xs[k]? =some c→a[k]? =some d→kU c d=true)→fY xs a=true
 |[],[],_,_=>rfl
 |c::l,d::m,h,b=>by
  rw[fY,b 0 c d rfl rfl,Bool.true_and];exact sX (by simpa using h) (fun k x y e f=>b (k+1) x y (by simpa using e) (by simpa using f))
theorem Dd{xs a:List CV}{k:Nat}{c d:CV}(f:xs[k]? =some c)(b:a[k]? =some d)(h:kU c d=false):fY xs a=false:=by
 cases e:fY xs a;·rfl
 ·have:=(oh xs a).1 e;subst this;rw[f]at b;cases b;rw[(og c c).2 rfl]at h;cases h
theorem pI(xs f:List CV)(n m:Nat)(A B:Option Addr)(c V:Nat)(S aa:Nat→Prop)(w:World)(s:CL w S A n xs)(a:CL w aa B m f)(P:n≤1099511627776):
  Calls Tryz.prog 68 #[.slice A n c, .slice B m V] w (aH w (.bool (fY xs f))):=by
 by_cases q:n=m;case neg=>
  have t1:((n:Int)!=(m:Int))=true:=by rw[bne_iff_ne];omega
  have t2:((n:Int)==(m:Int))=false:=by rw[beq_eq_false_iff_ne];omega
  have J:Hid (fY xs f=false):=by
   cases e:fY xs f;·rfl
   ·have:=(oh xs f).1 e;subst this;exact absurd (s.len.symm.trans a.len) q
  rw[J.out];clear q s a P;go_enter Tryz.func68,Tryz.ntmps68;go_wp2;go_ret;exact⟨rfl,Fr.refl _ _⟩
 subst q;have Z:=Lib.hid s;have J:=Lib.hid a;have z:Hid (∀(k:Nat)(c d:CV),xs[k]? =some c→f[k]? =some d→kU c d=false→fY xs f=false):=fun _ _ _=>Dd;have t:Hid ((∀(k:Nat)(c d:CV),xs[k]? =some c→f[k]? =some d→kU c d=true)→fY xs f=true):=sX (s.len.trans a.len.symm);have L:=Lib.hid s.len;generalize fY xs f=R at*;have M:=Lib.hid P;clear s a P;go_enter Tryz.func68,Tryz.ntmps68;go_wp2;go_loopw[13](fun i wr=>∃k:Nat,k≤n∧i= .int .i64 k∧(∀(j:Nat)(c d:CV),j<k→xs[j]? =some c→f[j]? =some d→kU c d=true)∧Fr af w wr)(fun i _=>n-(intOf i).toNat);case atStart=>exact⟨0,Nat.zero_le _,rfl,(fun j c d h=>by omega),Fr.refl _ _⟩
 case round=>
  obtain⟨k,ae,rfl,W,p⟩:=hrel;have I:=Lib.hid p;have U:=Lib.hid W;clear p W;by_cases H:k<n
  ·obtain⟨N,x,rfl,X,g⟩:=(Z.out.al I.out).at_ H;obtain⟨O,y,rfl,Y,b⟩:=(J.out.al I.out).at_ H;have C:=Lib.hid g;have D:=Lib.hid b;have l:Hid (xs[k]? =some x∧f[k]? =some y):=⟨X,Y⟩;have qn:Hid (∀w:World,(binOp .neq 119 (.agg x.cells.toArray) (.agg y.cells.toArray)).run Tryz.prog w= .ok (.bool (!kU x y)) w):=fun w=>Af x y w;obtain⟨E,a⟩:∃E,kU x y=E:=⟨_,rfl⟩;rw[a]at qn;have F:=Lib.hid a;have ab:(k:Int)<(n:Int):=by omega
   have ac:(0:Int)≤(k:Int):=by omega
   clear X Y g b a;go_upto_region 6 with fail;refine iP 9 [.slice (some N) n c, .int .i64 (k:Int), .pointer (some (N.add (k*7))), .agg x.cells.toArray, .slice (some O) n V, .int .i64 (k:Int), .pointer (some (O.add (k*7))), .agg y.cells.toArray, .bool (!E)] ?zA ?_;case zA=>
    refine⟨?zG,?zH,?zB,?zC,?zI,?zJ,?zD,?zE,?zF,trivial⟩;all_goals intro u w' p o
    all_goals simp only[z1,z2,z3,z4,an,Act.put,z5,z6,z7,Nat.reduceAdd,Nat.zero_add]
    case' zB=>simp only[show u 0=_ from o 0,show u 1=_ from o 1]
    case zC=>
     simp only[show u 2=_ from o 2];refine aB ?_;exact ar _ _ rfl (N.add (k*7)) rfl x.cells _ (fun j v Q=>p.aj (C.out j v Q) (fun x=>x)) Tryz.underlying119 rfl iD ⟨rfl,Fr.refl _ _⟩
    case' zD=>simp only[show u 4=_ from o 4,show u 5=_ from o 5]
    case zE=>
     simp only[show u 6=_ from o 6];refine aB ?_;exact ar _ _ rfl (O.add (k*7)) rfl y.cells _ (fun j v Q=>p.aj (D.out j v Q) (fun x=>x)) Tryz.underlying119 rfl iD ⟨rfl,Fr.refl _ _⟩
    case zF=>
     simp only[show u 3=_ from o 3,show u 7=_ from o 7];refine aB ?_;exact ji _ _ _ _ _ rfl _ _ rfl rfl Tryz.eqGuardType119 _ (qn.out _) ⟨rfl,Fr.refl _ _⟩
    all_goals
     refine aB ?_;go_simp;exact⟨rfl,Fr.refl _ _⟩
   intro w' p;simp only[z1,z2,z3,z4,an,Act.put,z5,z6,z7,z8,z9,jl,jm,Nat.reduceAdd,Nat.zero_add];have T:=Lib.hid (I.out.trans p);clear p C D qn;cases a:E;·obtain rfl:R=false:=z.out k x y l.out.1 l.out.2 (by rw[F.out,a]);clear a;go_wp2;go_ret;exact⟨rfl,T.out⟩
   ·have K:Hid (kU x y=true):=by rw[Hid,F.out,a]
    clear a;have ag:n≤1099511627776:=M.out;go_wp2;go_roundw
    case rel=>exact⟨k+1,by omega,by go_num,fun j c d ad r G=>by
     by_cases e:j=k;·subst e;rw[l.out.1]at r;rw[l.out.2]at G;cases r;cases G;exact K.out
     ·exact U.out j c d (by omega) r G,T.out⟩
    case measure=>simp[intOf];omega
  ·obtain rfl:k=n:=by omega
   have ab:¬(k:Int)<(k:Int):=by omega
   obtain rfl:R=true:=t.out (fun j c d r G=>U.out j c d (by have:=(List.getElem?_eq_some_iff.1 r).1;have:=L.out;omega) r G);go_wp2;go_ret;exact⟨rfl,I.out⟩
theorem kJ(a b:ActV)(cs ds:List Value)(w:World)(aq:ck w cs a)(W:ck w ds b)(nr:a.reads.length≤1099511627776)(nw:a.writes.length≤1099511627776):
  Calls Tryz.prog 19 #[.agg cs.toArray, .agg ds.toArray] w (aH w (.bool (Gq a b))):=by
 obtain⟨ay,aA,rfl,ag,ah⟩:=aq;obtain⟨N,n,U,rfl,rfl,_,I⟩:=ag.cl;obtain⟨O,o,V,rfl,rfl,_,K⟩:=ah.cl;obtain⟨av,ax,rfl,E,F⟩:=W;obtain⟨s,i,C,rfl,rfl,_,J⟩:=E.cl;obtain⟨t,k,D,rfl,rfl,_,L⟩:=F.cl;have aj:Hid (∀w',Fr af w w'→Calls Tryz.prog 68 #[.slice N a.reads.length U, .slice s b.reads.length C] w' (aH w' (.bool (fY a.reads b.reads)))):=fun w' f=>pI _ _ _ _ _ _ _ _ _ _ w' (I.al f) (J.al f) nr;have am:Hid (∀w',Fr af w w'→Calls Tryz.prog 68 #[.slice O a.writes.length V, .slice t b.writes.length D] w' (aH w' (.bool (fY a.writes b.writes)))):=fun w' f=>pI _ _ _ _ _ _ _ _ _ _ w' (K.al f) (L.al f) nw;have ap:Hid (∀w:World,(binOp .eql 43 (.agg a.key.cells.toArray) (.agg b.key.cells.toArray)).run Tryz.prog w= .ok (.bool (wH a.key b.key)) w):=fun w=>Df _ _ w;have ae:Hid (Gq a b=(wH a.key b.key&&fY a.reads b.reads&&fY a.writes b.writes)):=rfl;have l:Hid ((Tryz.prog.info? 43).map (·.size)=some a.key.cells.length):=eM;have m:Hid ((Tryz.prog.info? 43).map (·.size)=some b.key.cells.length):=eM;have d:Hid (a.key.cells.length=4∧b.key.cells.length=4):=⟨rfl,rfl⟩;rw[ae.out];generalize a.reads.length=n at*;generalize a.writes.length=o at*;generalize b.reads.length=i at*;generalize b.writes.length=k at*;generalize a.key.cells=S at*;generalize b.key.cells=A at*;generalize wH a.key b.key=P at*;generalize fY a.reads b.reads=Q at*;generalize fY a.writes b.writes=R at*;clear ag ah I K E F J L ae nr nw;go_enter Tryz.func19,Tryz.ntmps19;go_wp2_with(refine au rfl 46 (.tmp 0) rfl _ rfl ?_);intro w1 n1;have ab:=Lib.hid n1;clear n1;generalize G:w.heap.size=p at*;have y:Hid (ak w1 p 46 (S++[Value.slice N n U, .slice O o V]).toArray):=by have h:=ab.out.az;rw[G]at h;exact h
 clear G;go_wp2_with(refine au rfl 46 (.tmp 1) rfl (A++[Value.slice s i C, .slice t k D]).toArray rfl ?_);intro w2 ai;have T:=Lib.hid ai;clear ai;generalize H:w1.heap.size=r at*;have HB:Hid (ak w2 r 46 (A++[Value.slice s i C, .slice t k D]).toArray):=by have h:=T.out.az;rw[H]at h;exact h
 clear H;have HA:=Lib.hid (y.out.fr T.out.fr (fun x=>x));have Z:=Lib.hid (ab.out.fr.trans T.out.fr);have X:Hid (∀w',Fr af w2 w'→∀j x,S[j]? =some x→w'.cell? ((⟨p,0,none⟩:Addr).add j)=some x):=fun w' f j x M=>by
  rw[Addr.add_mid,Nat.zero_add,(HA.out.fr f (fun x=>x)).cell j,List.getElem?_toArray,List.getElem?_append_left (List.getElem?_eq_some_iff.1 M).1];exact M
 have Y:Hid (∀w',Fr af w2 w'→∀j x,A[j]? =some x→w'.cell? ((⟨r,0,none⟩:Addr).add j)=some x):=fun w' f j x M=>by
  rw[Addr.add_mid,Nat.zero_add,(HB.out.fr f (fun x=>x)).cell j,List.getElem?_toArray,List.getElem?_append_left (List.getElem?_eq_some_iff.1 M).1];exact M
 have a4:Hid (∀w',Fr af w2 w'→w'.cell? {block:=p,off:=4}=some (.slice N n U)):=fun w' f=>by
  rw[(HA.out.fr f (fun x=>x)).cell 4,List.getElem?_toArray,List.getElem?_append_right (by rw[d.out.1];omega),d.out.1];rfl
 have a5:Hid (∀w',Fr af w2 w'→w'.cell? {block:=p,off:=5}=some (.slice O o V)):=fun w' f=>by
  rw[(HA.out.fr f (fun x=>x)).cell 5,List.getElem?_toArray,List.getElem?_append_right (by rw[d.out.1];omega),d.out.1];rfl
 have b4:Hid (∀w',Fr af w2 w'→w'.cell? {block:=r,off:=4}=some (.slice s i C)):=fun w' f=>by
  rw[(HB.out.fr f (fun x=>x)).cell 4,List.getElem?_toArray,List.getElem?_append_right (by rw[d.out.2];omega),d.out.2];rfl
 have b5:Hid (∀w',Fr af w2 w'→w'.cell? {block:=r,off:=5}=some (.slice t k D)):=fun w' f=>by
  rw[(HB.out.fr f (fun x=>x)).cell 5,List.getElem?_toArray,List.getElem?_append_right (by rw[d.out.2];omega),d.out.2];rfl
 clear ab T y HA HB;obtain⟨B,W⟩:∃z:Bool,(bif P then(bif Q then R else false)else false)=z:=⟨_,rfl⟩;have HB:=Lib.hid W;clear W;go_upto_region 1 with fail;refine jk 19 [.pointer (some ⟨p,0,none⟩), .agg S.toArray, .pointer (some ⟨r,0,none⟩), .agg A.toArray, .bool P, .bool P,bif P then .pointer (some ⟨p,4,none⟩)else undef,bif P then .slice N n U else undef,bif P then .pointer (some ⟨r,4,none⟩)else undef,bif P then .slice s i C else undef,bif P then .bool Q else undef,bif P then .bool Q else .bool false,bif P then .bool Q else .bool false,bif P then(bif Q then .pointer (some ⟨p,5,none⟩)else undef)else undef,bif P then(bif Q then .slice O o V else undef)else undef,bif P then(bif Q then .pointer (some ⟨r,5,none⟩)else undef)else undef,bif P then(bif Q then .slice t k D else undef)else undef,bif P then(bif Q then .bool R else undef)else undef, .bool B] ?zJ ?_;case zJ=>
  refine⟨?zS,?zK,?zT,?zL,?zM,?zN,?zO,?zP,?zQ,?zR,?zA,?zB,?zC,?zD,?zE,?zF,?zG,?zH,?zI,trivial⟩;all_goals intro u w' g c
  all_goals simp only[z1,z2,z3,z4,an,Act.put,z5,z6,z7,Nat.reduceAdd,Nat.zero_add]
  case zK=>
   simp only[show u 0=_ from c 0];refine aB ?_;exact ar _ _ rfl ⟨p,0,none⟩ rfl S _ (fun ad v ac=>X.out _ g ad v ac) Tryz.underlying43 rfl l.out ⟨rfl,Fr.refl _ _⟩
  case zL=>
   simp only[show u 2=_ from c 2];refine aB ?_;exact ar _ _ rfl ⟨r,0,none⟩ rfl A _ (fun ad v ac=>Y.out _ g ad v ac) Tryz.underlying43 rfl m.out ⟨rfl,Fr.refl _ _⟩
  case zM=>
   simp only[show u 1=_ from c 1,show u 3=_ from c 3];refine aB ?_;exact ji .eql _ _ _ _ rfl _ _ rfl rfl Tryz.eqGuardType43 _ (ap.out _) ⟨rfl,Fr.refl _ _⟩
  case' zN=>simp only[show u 4=_ from c 4]
  case' zO=>
   simp only[show u 5=_ from c 5];cases P;case false=>exact bB
  case zP=>
   simp only[show u 6=_ from c 6,show u 5=_ from c 5];cases P;case false=>exact bB
   refine aB ?_;have q:=a4.out _ g;go_simp;exact⟨rfl,Fr.refl _ _⟩
  case' zQ=>
   simp only[show u 5=_ from c 5];cases P;case false=>exact bB
  case zR=>
   simp only[show u 8=_ from c 8,show u 5=_ from c 5];cases P;case false=>exact bB
   refine aB ?_;have q:=b4.out _ g;go_simp;exact⟨rfl,Fr.refl _ _⟩
  case zA=>
   simp only[show u 7=_ from c 7,show u 9=_ from c 9,show u 5=_ from c 5];cases P;case false=>exact bB
   refine aB ?_;go_simp;refine(aj.out _ (Z.out.trans g)).mono ?_;rintro e aw⟨rfl,f4⟩;exact⟨rfl,f4⟩
  case' zB=>
   simp only[show u 5=_ from c 5,show u 10=_ from c 10];cases P
  case' zC=>
   simp only[show u 11=_ from c 11];cases P
  case' zD=>
   simp only[show u 12=_ from c 12];cases P;case false=>exact bB
   cases Q;case false=>exact bB
  case zE=>
   simp only[show u 13=_ from c 13,show u 12=_ from c 12];cases P;case false=>exact bB
   cases Q;case false=>exact bB
   refine aB ?_;have q:=a5.out _ g;go_simp;exact⟨rfl,Fr.refl _ _⟩
  case' zF=>
   simp only[show u 12=_ from c 12];cases P;case false=>exact bB
   cases Q;case false=>exact bB
  case zG=>
   simp only[show u 15=_ from c 15,show u 12=_ from c 12];cases P;case false=>exact bB
   cases Q;case false=>exact bB
   refine aB ?_;have q:=b5.out _ g;go_simp;exact⟨rfl,Fr.refl _ _⟩
  case zH=>
   simp only[show u 14=_ from c 14,show u 16=_ from c 16,show u 12=_ from c 12];cases P;case false=>exact bB
   cases Q;case false=>exact bB
   refine aB ?_;go_simp;refine(am.out _ (Z.out.trans g)).mono ?_;rintro e aw⟨rfl,f4⟩;exact⟨rfl,f4⟩
  case zI=>
   simp only[show u 12=_ from c 12,show u 17=_ from c 17];cases P<;>cases Q<;>exact aB (by go_simp;exact⟨by rw[←HB.out];rfl,Fr.refl _ _⟩)
  all_goals
   try simp only[cond]
   refine aB ?_;go_simp;exact⟨rfl,Fr.refl _ _⟩
 intro w' g;simp only[z1,z2,z3,z4,an,Act.put,z5,z6,z7,z8,z9,jl,jm,Nat.reduceAdd,Nat.zero_add];have ao:=Lib.hid (Z.out.trans g);have aa:Hid ((P&&Q&&R)=B):=by
  rw[Hid,←HB.out];cases P<;>cases Q<;>cases R<;>rfl
 clear g HB;go_wp2;go_ret;rw[aa.out];exact⟨rfl,ao.out⟩
end Go.Proofs.YtphjagkehiklkaaGreatDoor
namespace Go.Proofs.YtphjagkehiklkaaGreatDoor
open Go.RowKit Go.Shelf
theorem ug:jW=mf.cells.toArray:=rfl
def kQ:CV:=⟨mf,⟨#[53]⟩,false⟩
def clockA:ActV:=⟨⟨1,0,1,ByteArray.empty⟩,[],[kQ]⟩
theorem zy:Tryz.prog.built 43 [(0, .int .i64 1),(2, .int .i64 1)]=some clockA.key.cells.toArray:=by kernel_rfl
theorem Cr:Tryz.prog.built 119 [(0, .agg mf.cells.toArray),(1, .string ⟨#[53]⟩)]=some kQ.cells.toArray:=by kernel_rfl
theorem zx(A:Option Addr)(x y:Nat):Tryz.prog.built 46 [(0, .agg clockA.key.cells.toArray),(2, .slice A x y)]=some (clockA.key.cells++[Value.slice none 0 0, .slice A x y]).toArray:=by kernel_rfl
theorem EH{w:World}{g:Nat}{c:CV}(h:ak w g 119 c.cells.toArray):dh w (.slice (some ⟨g,0,none⟩) 1 1) [c]:=by
 exact⟨rfl, .inr ⟨g,1,c.cells.toArray,rfl,Nat.zero_le _,h,Nat.le_refl _,by decide,rfl,by rfl⟩⟩
theorem ml:∀(xs:List CV)(k:Nat),(xs.flatMap CV.cells).take (k*7)=(xs.take k).flatMap CV.cells
 |[],k=>by simp
 |c::r,0=>by simp
 |c::r,k+1=>by
  rw[List.take_succ_cons,List.flatMap_cons,List.flatMap_cons,List.take_append,List.take_of_length_le (by rw[CV.dE];omega),CV.dE,show(k+1)*7-7=k*7 by omega,ml r k]
theorem mj:∀(xs:List CV)(k:Nat),(xs.flatMap CV.cells).drop (k*7)=(xs.drop k).flatMap CV.cells
 |[],k=>by simp
 |c::r,0=>by simp
 |c::r,k+1=>by
  rw[List.drop_succ_cons,List.flatMap_cons,List.drop_append,List.drop_of_length_le (by rw[CV.dE];omega),List.nil_append,CV.dE,show(k+1)*7-7=k*7 by omega,mj r k]
theorem CL.take{w:World}{S:Nat→Prop}{A:Option Addr}{n k:Nat}{xs:List CV}(h:CL w S A n xs)(a:k≤n):CL w S A k (xs.take k):=
 ⟨by have:=h.rd.take a;rw[ml]at this;exact this,by rw[List.length_take,h.len];omega⟩
def zl(w:World)(a:ActV)(e:Ending)(w':World):Prop:=∃cs,e= .returned (.agg cs.toArray)∧ck w' cs a∧Fr af w w'∧jE w.heap.size cs
theorem sQ{B:Nat}{k:dV}{c d:Value}(e:∀i,c.ownBlock=some i→B≤i)(f:∀i,d.ownBlock=some i→B≤i):jE B (k.cells++[c,d]):=fun v b i a=>by
 simp only[dV.cells,List.cons_append,List.nil_append,List.mem_cons,List.not_mem_nil,or_false]at b;rcases b with rfl|rfl|rfl|rfl|rfl|rfl;·cases a
 ·cases a
 ·cases a
 ·cases a
 ·exact e i a
 ·exact f i a
theorem sL(w:World):Calls Tryz.prog 49 #[] w (zl w clockA):=by
 obtain⟨h,C,D,d,U⟩:=info_parts nS;have y:Hid (¬1*h.size>2^24):=by simp only[Hid];rw[d];omega
 have z:Hid (¬1*h.size=0):=by simp only[Hid];rw[d];omega
 have q:Hid (Instr.fill (fun i=>some (i*7,7)) ((Array.range (1*7)).map (cE.cells[· %cE.cells.size]!)) [(0, .agg kQ.cells.toArray)]=some kQ.cells.toArray):=kV _ _ rfl (by simp);have A:Hid (Instr.fill (fun i=>some (i*h.size,h.size)) ((Array.range (1*h.size)).map (cE.cells[· %cE.cells.size]!)) [(0, .agg kQ.cells.toArray)]=some kQ.cells.toArray):=by simp only[Hid];rw[d];exact q.out
 have O:=Lib.hid zy;have N:=Lib.hid Cr;have M:=Lib.hid zx;have G:Hid (∀w,Calls Tryz.prog 54 #[] w (aH w (.agg mf.cells.toArray))):=fun w=>by rw[←ug];exact pA w
 have n:Hid (∀j k:Value,(clockA.key.cells++[j,k]).toArray.size=6):=fun j k=>rfl;have u:Hid (∀j k:Value,j.oneCell'=true→k.oneCell'=true→(clockA.key.cells++[j,k]).toArray.all (·.oneCell')=true):=fun j k B T=>by simp only[dV.cells,List.cons_append,List.nil_append,List.all_toArray,List.all_cons,List.all_nil,B,T];rfl
 have b:Hid (∀(w':World)(g:Nat),ak w' g 119 kQ.cells.toArray→Fr af w w'→w.heap.size≤g→zl w clockA (.returned (.agg (clockA.key.cells++[Value.slice none 0 0, .slice (some ⟨g,0,none⟩) 1 1]).toArray)) w'):=fun w' g B f n1=>⟨_,rfl,⟨_,_,rfl,dh.nil _,EH B⟩,f,sQ (fun i s=>by cases s) (fun i s=>by simp only[Value.ownBlock,Option.some.injEq]at s;omega)⟩;generalize zl w clockA=PP at*;generalize clockA.key.cells=o at*;generalize kQ.cells=c at*;generalize mf.cells=V at*;clear q;go_enter Tryz.func49,Tryz.ntmps49;go_wp2_with(refine ai rfl 46 rfl dU jN #[.int .i64 0, .int .i64 0, .int .i64 0, .string ByteArray.empty, .slice none 0 0, .slice none 0 0] rfl ?_);intro w1 n1;have H:=Lib.hid n1.fr;have E:=Lib.hid n1.az;clear n1;generalize r:w.heap.size=g0 at*;have l:=Lib.hid r;clear r;go_wp2_with(refine dH rfl 43 _ rfl o.toArray _ (by simp only[List.map_toArray,List.map_cons,List.map_nil];rfl) O.out (aR.go ?zC));unfold aR;go_wp2_with fail;refine(G.out _).mono ?_;rintro e w2⟨rfl,f2⟩;have I:=Lib.hid (H.out.trans f2);have F:=Lib.hid (E.out.fr f2 (fun x=>x));clear f2 H E G;go_wp2_with(refine dH rfl 119 _ rfl c.toArray _ (by simp only[List.map_toArray,List.map_cons,List.map_nil];rfl) N.out (aR.go ?zB));unfold aR;refine wpList_buildSlice rfl 44 119 1 _ rfl c.toArray h cE Tryz.underlying44 C D y.out z.out (by simp only[List.map_toArray,List.map_cons,List.map_nil];exact A.out) ?_;have t:Hid (ak (w2.alloc (.cells c.toArray 119)) w2.heap.size 119 c.toArray):=ak.new _ _ _;have P:=Lib.hid (I.out.trans ((Fr.refl af w2).alloc (.cells c.toArray 119)));have L:=Lib.hid (F.out.fr ((Fr.refl af w2).alloc (.cells c.toArray 119)) (fun x=>x));have m:Hid (w.heap.size≤w2.heap.size∧g0<w2.heap.size):=⟨I.out.size,F.out.lt⟩;generalize(w2.alloc (.cells c.toArray 119))=W at*;generalize w2.heap.size=g3 at*;go_wp2_with(refine dH rfl 46 _ rfl (o++[Value.slice none 0 0, .slice (some ⟨g3,0,none⟩) 1 1]).toArray _ (by simp only[List.map_toArray,List.map_cons,List.map_nil];rfl) (M.out _ _ _) (aR.go ?zA));unfold aR;have a:Hid ((Tryz.prog.info? 46).map (·.size)=some (o++[Value.slice none 0 0, .slice (some ⟨g3,0,none⟩) 1 1]).toArray.size):=by rw[Hid,n.out];exact bm
 refine ah rfl 46 (.tmp 0) _ rfl g0 (o++[Value.slice none 0 0, .slice (some ⟨g3,0,none⟩) 1 1]).toArray rfl rfl _ _ L.out a.out (by rw[n.out];rfl) (u.out _ _ rfl rfl) ?_;intro K J v;have R:=Lib.hid J;have Q:=Lib.hid (b.out K g3 (t.out.fr v (fun e=>by have S:g3=g0:=e;have:=m.out;omega)) (P.out.ao v (fun i s e=>by have S:i=g0:=e;have:=l.out;omega)) (by have:=m.out;have:=l.out;omega));clear J v;go_wp2;exact bodyPost_ret (results_cell_row (fn:=Tryz.f49) (p:=0) (ty:=46) Tryz.results49 _ K _ 46 (o++[Value.slice none 0 0, .slice (some ⟨g3,0,none⟩) 1 1]).toArray (0,0) _ rfl R.out Tryz.underlying46 rfl a.out) rfl Q.out
end Go.Proofs.YtphjagkehiklkaaGreatDoor
