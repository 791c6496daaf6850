/- Texts. -/
import Derived.Test.YtphjagkehiklkaaGreatDoorWK20
set_option linter.unusedVariables false
set_option linter.unusedSimpArgs false
set_option maxRecDepth 100000
set_option maxHeartbeats 4000000
namespace Go.Proofs.YtphjagkehiklkaaGreatDoor
open Go.RowKit Go.Shelf
def lZ(c d:CV):Bool:=xM c.nm d.nm&&(c.value.toList==d.value.toList)&&(c.bA==d.bA)
theorem GY(a b:aK):xM a b=true↔a=b:=by
 unfold xM;rw[beq_iff_eq];exact⟨cU.eq _ _,fun h=>by rw[h];exact cU.refl _⟩
theorem po(c d:CV):lZ c d=true↔c=d:=by
 obtain⟨n,v,b⟩:=c;obtain⟨m,u,e⟩:=d;simp only[lZ,Bool.and_eq_true,beq_iff_eq,GY,CV.mk.injEq];exact⟨fun h=>⟨h.1.1,toList_inj h.1.2,h.2⟩,fun h=>⟨⟨h.1,by rw[h.2.1]⟩,h.2.2⟩⟩
def xN(a b:eN):Bool:=a.tick==b.tick&&a.cls==b.cls&&a.num==b.num&&(a.fA.toList==b.fA.toList)
theorem ui(a b:eN):xN a b=true↔a=b:=by
 obtain⟨t,c,n,s⟩:=a;obtain⟨g,d,e,f⟩:=b;simp only[xN,Bool.and_eq_true,beq_iff_eq,eN.mk.injEq];exact⟨fun h=>⟨h.1.1.1,h.1.1.2,h.1.2,toList_inj h.2⟩,fun h=>⟨⟨⟨h.1,h.2.1⟩,h.2.2.1⟩,by rw[h.2.2.2]⟩⟩
def gX:List CV→List CV→Bool
 |[],[]=>true
 |c::l,d::m=>lZ c d&&gX l m
 |_,_=>false
theorem pq:∀(l m:List CV),gX l m=true↔l=m
 |[],[]=>by simp[gX]
 |[],_::_=>by simp[gX]
 |_::_,[]=>by simp[gX]
 |c::l,d::m=>by simp[gX,po,pq l m]
def II(a b:ActV):Bool:=xN a.key b.key&&gX a.reads b.reads&&gX a.writes b.writes
theorem GX(a b:ActV):II a b=true↔a=b:=by
 obtain⟨k,r,w⟩:=a;obtain⟨c,d,w'⟩:=b;simp only[II,Bool.and_eq_true,ui,pq,ActV.mk.injEq];exact⟨fun h=>⟨h.1.1,h.1.2,h.2⟩,fun h=>⟨⟨h.1,h.2.1⟩,h.2.2⟩⟩
theorem BS(c d:CV)(w:World):(binOp .neq 119 (.agg c.cells.toArray) (.agg d.cells.toArray)).run Tryz.prog w= .ok (.bool (!lZ c d)) w:=by
 by_cases h:c=d;·subst h;rw[(po c c).2 rfl];obtain⟨⟨k,z,n,i,t⟩,v,b⟩:=c;simp only[CV.cells,aK.cells,List.cons_append,List.nil_append];go_simp
 ·have e:lZ c d=false:=by
   cases a:lZ c d;·rfl
   ·exact absurd ((po c d).1 a) h
  rw[e];obtain⟨⟨k,z,n,i,t⟩,v,b⟩:=c;obtain⟨⟨r,u,s,i',x⟩,y,q⟩:=d;simp only[CV.cells,aK.cells,List.cons_append,List.nil_append];go_simp;intro f g j l m o p;exact h (by rw[f,toList_inj g,j,l,toList_inj m,toList_inj o,p])
theorem EI(a b:eN)(w:World):(binOp .eql 43 (.agg a.cells.toArray) (.agg b.cells.toArray)).run Tryz.prog w= .ok (.bool (xN a b)) w:=by
 by_cases h:a=b;·subst h;rw[(ui a a).2 rfl];obtain⟨t,c,n,s⟩:=a;simp only[eN.cells];go_simp
 ·have e:xN a b=false:=by
   cases d:xN a b;·rfl
   ·exact absurd ((ui a b).1 d) h
  rw[e];obtain⟨t,c,n,s⟩:=a;obtain⟨o,k,l,m⟩:=b;simp only[eN.cells];go_simp;intro f g i j;exact h (by rw[f,g,i,toList_inj j])
theorem uh:∀{xs a:List CV},xs.length=a.length→(∀(k:Nat)(c d:CV),xs[k]? =some c→a[k]? =some d→lZ c d=true)→gX xs a=true
 |[],[],_,_=>rfl
 |c::l,d::m,h,b=>by
  rw[gX,b 0 c d rfl rfl,Bool.true_and];exact uh (by simpa using h) (fun k x y e f=>b (k+1) x y (by simpa using e) (by simpa using f))
theorem EG{xs a:List CV}{k:Nat}{c d:CV}(f:xs[k]? =some c)(b:a[k]? =some d)(h:lZ c d=false):gX xs a=false:=by
 cases e:gX xs a;·rfl
 ·have:=(pq xs a).1 e;subst this;rw[f]at b;cases b;rw[(po c c).2 rfl]at h;cases h
theorem qK(xs f:List CV)(n m:Nat)(A B:Option Addr)(c V:Nat)(S aa:Nat→Prop)(w:World)(s:CL w S A n xs)(a:CL w aa B m f)(P:n≤1099511627776):
  Calls Tryz.prog 68 #[.slice A n c, .slice B m V] w (aJ w (.bool (gX xs f))):=by
 by_cases q:n=m;case neg=>
  have t1:((n:Int)!=(m:Int))=true:=by rw[bne_iff_ne];omega
  have t2:((n:Int)==(m:Int))=false:=by rw[beq_eq_false_iff_ne];omega
  have J:Hid (gX xs f=false):=by
   cases e:gX xs f;·rfl
   ·have:=(pq xs f).1 e;subst this;exact absurd (s.len.symm.trans a.len) q
  rw[J.out];clear q s a P;go_enter Tryz.func68,Tryz.ntmps68;go_wp2;go_ret;exact aM
 subst q;have Z:=af s;have J:=af a;have z:Hid (∀(k:Nat)(c d:CV),xs[k]? =some c→f[k]? =some d→lZ c d=false→gX xs f=false):=fun _ _ _=>EG;have t:Hid ((∀(k:Nat)(c d:CV),xs[k]? =some c→f[k]? =some d→lZ c d=true)→gX xs f=true):=uh (s.len.trans a.len.symm);have L:=af s.len;generalize gX xs f=R at*;have M:=af P;clear s a P;go_enter Tryz.func68,Tryz.ntmps68;go_wp2;go_loopw[13](fun i wr=>∃k:Nat,k≤n∧i= .int .i64 k∧(∀(j:Nat)(c d:CV),j<k→xs[j]? =some c→f[j]? =some d→lZ c d=true)∧Fr ag w wr)(fun i _=>n-(intOf i).toNat);case atStart=>exact⟨0,Nat.zero_le _,rfl,(fun j c d h=>by omega),aD⟩
 case round=>
  obtain⟨k,ae,rfl,W,p⟩:=hrel;have I:=af p;have U:=af W;clear p W;by_cases H:k<n
  ·obtain⟨N,x,rfl,X,g⟩:=(Z.out.ar I.out).at_ H;obtain⟨O,y,rfl,Y,b⟩:=(J.out.ar I.out).at_ H;have C:=af g;have D:=af b;have l:Hid (xs[k]? =some x∧f[k]? =some y):=⟨X,Y⟩;have qn:Hid (∀w:World,(binOp .neq 119 (.agg x.cells.toArray) (.agg y.cells.toArray)).run Tryz.prog w= .ok (.bool (!lZ x y)) w):=fun w=>BS x y w;obtain⟨E,a⟩:∃E,lZ x y=E:=⟨_,rfl⟩;rw[a]at qn;have F:=af a;have ab:(k:Int)<(n:Int):=by omega
   have ac:(0:Int)≤(k:Int):=by omega
   clear X Y g b a;go_upto_region 6 with fail;refine jS 9 [.slice (some N) n c, .int .i64 (k:Int), .pointer (some (N.add (k*7))), .agg x.cells.toArray, .slice (some O) n V, .int .i64 (k:Int), .pointer (some (O.add (k*7))), .agg y.cells.toArray, .bool (!E)] ?zA ?_;case zA=>
    refine⟨?zG,?zH,?zB,?zC,?zI,?zJ,?zD,?zE,?zF,trivial⟩;all_goals intro u w' p o
    all_goals simp only[z1,z2,z3,z4,ay,Act.put,z5,z6,z7,Nat.reduceAdd,Nat.zero_add]
    case' zB=>simp only[show u 0=_ from o 0,show u 1=_ from o 1]
    case zC=>
     simp only[show u 2=_ from o 2];refine aG ?_;exact az _ _ rfl (N.add (k*7)) rfl x.cells _ (fun j v Q=>p.an (C.out j v Q) (fun x=>x)) Tryz.underlying119 rfl jr aM
    case' zD=>simp only[show u 4=_ from o 4,show u 5=_ from o 5]
    case zE=>
     simp only[show u 6=_ from o 6];refine aG ?_;exact az _ _ rfl (O.add (k*7)) rfl y.cells _ (fun j v Q=>p.an (D.out j v Q) (fun x=>x)) Tryz.underlying119 rfl jr aM
    case zF=>
     simp only[show u 3=_ from o 3,show u 7=_ from o 7];refine aG ?_;exact fD _ _ _ _ _ rfl _ _ rfl rfl Tryz.eqGuardType119 _ (qn.out _) aM
    all_goals
     refine aG ?_;go_simp;exact aM
   intro w' p;simp only[z1,z2,z3,z4,ay,Act.put,z5,z6,z7,z8,z9,jx,jy,Nat.reduceAdd,Nat.zero_add];have T:=af (I.out.trans p);clear p C D qn;cases a:E;·obtain rfl:R=false:=z.out k x y l.out.1 l.out.2 (by rw[F.out,a]);clear a;go_wp2;go_ret;exact⟨rfl,T.out⟩
   ·have K:Hid (lZ x y=true):=by rw[Hid,F.out,a]
    clear a;have ah:n≤1099511627776:=M.out;go_wp2;go_roundw
    case rel=>exact⟨k+1,by omega,by go_num,fun j c d ad r G=>by
     by_cases e:j=k;·subst e;rw[l.out.1]at r;rw[l.out.2]at G;cases r;cases G;exact K.out
     ·exact U.out j c d (by omega) r G,T.out⟩
    case measure=>simp[intOf];omega
  ·obtain rfl:k=n:=by omega
   have ab:¬(k:Int)<(k:Int):=by omega
   obtain rfl:R=true:=t.out (fun j c d r G=>U.out j c d (by have:=(List.getElem?_eq_some_iff.1 r).1;have:=L.out;omega) r G);go_wp2;go_ret;exact⟨rfl,I.out⟩
theorem yA(a b:ActV)(cs ds:List Value)(w:World)(ao:df w cs a)(W:df w ds b)(nr:a.reads.length≤1099511627776)(nw:a.writes.length≤1099511627776):
  Calls Tryz.prog 19 #[.agg cs.toArray, .agg ds.toArray] w (aJ w (.bool (II a b))):=by
 obtain⟨aw,ax,rfl,ah,ai⟩:=ao;obtain⟨N,n,U,rfl,rfl,_,I⟩:=ah.cl;obtain⟨O,o,V,rfl,rfl,_,K⟩:=ai.cl;obtain⟨ap,av,rfl,E,F⟩:=W;obtain⟨s,i,C,rfl,rfl,_,J⟩:=E.cl;obtain⟨t,k,D,rfl,rfl,_,L⟩:=F.cl;have ak:Hid (∀w',Fr ag w w'→Calls Tryz.prog 68 #[.slice N a.reads.length U, .slice s b.reads.length C] w' (aJ w' (.bool (gX a.reads b.reads)))):=fun w' f=>qK _ _ _ _ _ _ _ _ _ _ w' (I.ar f) (J.ar f) nr;have al:Hid (∀w',Fr ag w w'→Calls Tryz.prog 68 #[.slice O a.writes.length V, .slice t b.writes.length D] w' (aJ w' (.bool (gX a.writes b.writes)))):=fun w' f=>qK _ _ _ _ _ _ _ _ _ _ w' (K.ar f) (L.ar f) nw;have an:Hid (∀w:World,(binOp .eql 43 (.agg a.key.cells.toArray) (.agg b.key.cells.toArray)).run Tryz.prog w= .ok (.bool (xN a.key b.key)) w):=fun w=>EI _ _ w;have ae:Hid (II a b=(xN a.key b.key&&gX a.reads b.reads&&gX a.writes b.writes)):=rfl;have l:Hid ((Tryz.prog.info? 43).map (·.size)=some a.key.cells.length):=fP;have m:Hid ((Tryz.prog.info? 43).map (·.size)=some b.key.cells.length):=fP;have d:Hid (a.key.cells.length=4∧b.key.cells.length=4):=⟨rfl,rfl⟩;rw[ae.out];generalize a.reads.length=n at*;generalize a.writes.length=o at*;generalize b.reads.length=i at*;generalize b.writes.length=k at*;generalize a.key.cells=S at*;generalize b.key.cells=A at*;generalize xN a.key b.key=P at*;generalize gX a.reads b.reads=Q at*;generalize gX a.writes b.writes=R at*;clear ah ai I K E F J L ae nr nw;go_enter Tryz.func19,Tryz.ntmps19;go_wp2_with(refine aA rfl 46 (.tmp 0) rfl _ rfl ?_);intro w1 n1;have ab:=af n1;clear n1;generalize G:w.heap.size=p at*;have y:Hid (aq w1 p 46 (S++[Value.slice N n U, .slice O o V]).toArray):=by have h:=ab.out.aH;rw[G]at h;exact h
 clear G;go_wp2_with(refine aA rfl 46 (.tmp 1) rfl (A++[Value.slice s i C, .slice t k D]).toArray rfl ?_);intro w2 aj;have T:=af aj;clear aj;generalize H:w1.heap.size=r at*;have HB:Hid (aq w2 r 46 (A++[Value.slice s i C, .slice t k D]).toArray):=by have h:=T.out.aH;rw[H]at h;exact h
 clear H;have HA:=af (y.out.fr T.out.fr (fun x=>x));have Z:=af (ab.out.fr.trans T.out.fr);have X:Hid (∀w',Fr ag w2 w'→∀j x,S[j]? =some x→w'.cell? ((⟨p,0,none⟩:Addr).add j)=some x):=fun w' f j x M=>by
  rw[Addr.add_mid,Nat.zero_add,(HA.out.fr f (fun x=>x)).cell j,bR,List.getElem?_append_left (List.getElem?_eq_some_iff.1 M).1];exact M
 have Y:Hid (∀w',Fr ag w2 w'→∀j x,A[j]? =some x→w'.cell? ((⟨r,0,none⟩:Addr).add j)=some x):=fun w' f j x M=>by
  rw[Addr.add_mid,Nat.zero_add,(HB.out.fr f (fun x=>x)).cell j,bR,List.getElem?_append_left (List.getElem?_eq_some_iff.1 M).1];exact M
 have a4:Hid (∀w',Fr ag w2 w'→w'.cell? {block:=p,off:=4}=some (.slice N n U)):=fun w' f=>by
  rw[(HA.out.fr f (fun x=>x)).cell 4,bR,List.getElem?_append_right (by rw[d.out.1];omega),d.out.1];rfl
 have a5:Hid (∀w',Fr ag w2 w'→w'.cell? {block:=p,off:=5}=some (.slice O o V)):=fun w' f=>by
  rw[(HA.out.fr f (fun x=>x)).cell 5,bR,List.getElem?_append_right (by rw[d.out.1];omega),d.out.1];rfl
 have b4:Hid (∀w',Fr ag w2 w'→w'.cell? {block:=r,off:=4}=some (.slice s i C)):=fun w' f=>by
  rw[(HB.out.fr f (fun x=>x)).cell 4,bR,List.getElem?_append_right (by rw[d.out.2];omega),d.out.2];rfl
 have b5:Hid (∀w',Fr ag w2 w'→w'.cell? {block:=r,off:=5}=some (.slice t k D)):=fun w' f=>by
  rw[(HB.out.fr f (fun x=>x)).cell 5,bR,List.getElem?_append_right (by rw[d.out.2];omega),d.out.2];rfl
 clear ab T y HA HB;obtain⟨B,W⟩:∃z:Bool,(bif P then(bif Q then R else false)else false)=z:=⟨_,rfl⟩;have HB:=af W;clear W;go_upto_region 1 with fail;refine iQ 19 [.pointer (some ⟨p,0,none⟩), .agg S.toArray, .pointer (some ⟨r,0,none⟩), .agg A.toArray, .bool P, .bool P,bif P then .pointer (some ⟨p,4,none⟩)else undef,bif P then .slice N n U else undef,bif P then .pointer (some ⟨r,4,none⟩)else undef,bif P then .slice s i C else undef,bif P then .bool Q else undef,bif P then .bool Q else .bool false,bif P then .bool Q else .bool false,bif P then(bif Q then .pointer (some ⟨p,5,none⟩)else undef)else undef,bif P then(bif Q then .slice O o V else undef)else undef,bif P then(bif Q then .pointer (some ⟨r,5,none⟩)else undef)else undef,bif P then(bif Q then .slice t k D else undef)else undef,bif P then(bif Q then .bool R else undef)else undef, .bool B] ?zJ ?_;case zJ=>
  refine⟨?zS,?zK,?zT,?zL,?zM,?zN,?zO,?zP,?zQ,?zR,?zA,?zB,?zC,?zD,?zE,?zF,?zG,?zH,?zI,trivial⟩;all_goals intro u w' g c
  all_goals simp only[z1,z2,z3,z4,ay,Act.put,z5,z6,z7,Nat.reduceAdd,Nat.zero_add]
  case zK=>
   simp only[show u 0=_ from c 0];refine aG ?_;exact az _ _ rfl ⟨p,0,none⟩ rfl S _ (fun ad v ac=>X.out _ g ad v ac) Tryz.underlying43 rfl l.out aM
  case zL=>
   simp only[show u 2=_ from c 2];refine aG ?_;exact az _ _ rfl ⟨r,0,none⟩ rfl A _ (fun ad v ac=>Y.out _ g ad v ac) Tryz.underlying43 rfl m.out aM
  case zM=>
   simp only[show u 1=_ from c 1,show u 3=_ from c 3];refine aG ?_;exact fD .eql _ _ _ _ rfl _ _ rfl rfl Tryz.eqGuardType43 _ (an.out _) aM
  case' zN=>simp only[show u 4=_ from c 4]
  case' zO=>
   simp only[show u 5=_ from c 5];cases P;case false=>exact bE
  case zP=>
   simp only[show u 6=_ from c 6,show u 5=_ from c 5];cases P;case false=>exact bE
   refine aG ?_;have q:=a4.out _ g;go_simp;exact aM
  case' zQ=>
   simp only[show u 5=_ from c 5];cases P;case false=>exact bE
  case zR=>
   simp only[show u 8=_ from c 8,show u 5=_ from c 5];cases P;case false=>exact bE
   refine aG ?_;have q:=b4.out _ g;go_simp;exact aM
  case zA=>
   simp only[show u 7=_ from c 7,show u 9=_ from c 9,show u 5=_ from c 5];cases P;case false=>exact bE
   refine aG ?_;go_simp;refine(ak.out _ (Z.out.trans g)).mono ?_;rintro e au⟨rfl,f4⟩;exact⟨rfl,f4⟩
  case' zB=>
   simp only[show u 5=_ from c 5,show u 10=_ from c 10];cases P
  case' zC=>
   simp only[show u 11=_ from c 11];cases P
  case' zD=>
   simp only[show u 12=_ from c 12];cases P;case false=>exact bE
   cases Q;case false=>exact bE
  case zE=>
   simp only[show u 13=_ from c 13,show u 12=_ from c 12];cases P;case false=>exact bE
   cases Q;case false=>exact bE
   refine aG ?_;have q:=a5.out _ g;go_simp;exact aM
  case' zF=>
   simp only[show u 12=_ from c 12];cases P;case false=>exact bE
   cases Q;case false=>exact bE
  case zG=>
   simp only[show u 15=_ from c 15,show u 12=_ from c 12];cases P;case false=>exact bE
   cases Q;case false=>exact bE
   refine aG ?_;have q:=b5.out _ g;go_simp;exact aM
  case zH=>
   simp only[show u 14=_ from c 14,show u 16=_ from c 16,show u 12=_ from c 12];cases P;case false=>exact bE
   cases Q;case false=>exact bE
   refine aG ?_;go_simp;refine(al.out _ (Z.out.trans g)).mono ?_;rintro e au⟨rfl,f4⟩;exact⟨rfl,f4⟩
  case zI=>
   simp only[show u 12=_ from c 12,show u 17=_ from c 17];cases P<;>cases Q<;>exact aG (by go_simp;exact⟨by rw[←HB.out];rfl,aD⟩)
  all_goals
   try simp only[cond]
   refine aG ?_;go_simp;exact aM
 intro w' g;simp only[z1,z2,z3,z4,ay,Act.put,z5,z6,z7,z8,z9,jx,jy,Nat.reduceAdd,Nat.zero_add];have am:=af (Z.out.trans g);have aa:Hid ((P&&Q&&R)=B):=by
  rw[Hid,←HB.out];cases P<;>cases Q<;>cases R<;>rfl
 clear g HB;go_wp2;go_ret;rw[aa.out];exact⟨rfl,am.out⟩
theorem vD:kC=nk.cells.toArray:=rfl
def lV:CV:=⟨nk,⟨#[53]⟩,false⟩
def clockA:ActV:=⟨⟨1,0,1,ByteArray.empty⟩,[],[lV]⟩
theorem AR:Tryz.prog.built 43 [(0, .int .i64 1),(2, .int .i64 1)]=some clockA.key.cells.toArray:=by kernel_rfl
theorem Er:Tryz.prog.built 119 [(0, .agg nk.cells.toArray),(1, .string ⟨#[53]⟩)]=some lV.cells.toArray:=by kernel_rfl
theorem AQ(A:Option Addr)(x y:Nat):Tryz.prog.built 46 [(0, .agg clockA.key.cells.toArray),(2, .slice A x y)]=some (clockA.key.cells++[Value.slice none 0 0, .slice A x y]).toArray:=by kernel_rfl
theorem GN{w:World}{g:Nat}{c:CV}(h:aq w g 119 c.cells.toArray):dO w (.slice (some ⟨g,0,none⟩) 1 1) [c]:=by
 exact⟨rfl, .inr ⟨g,1,c.cells.toArray,rfl,Nat.zero_le _,h,Nat.le_refl _,by decide,rfl,by rfl⟩⟩
theorem sX{P:Program}{ops:Array Oper}{rest:List Oper}{u:Oper}{a:Act}{w:World}{Q:Exit→Act→World→Prop}(j:u.guard=none)(ty:TypeId)(x y:Operand)(p:u.op= .store ty x y)
  (g f:Nat)(v:Value)(r:a.eval x= .pointer (some ⟨g,f,none⟩))(s:a.eval y=v)(m:v.oneCell'=true)(d:(P.info? ty).map (·.size)=some 1)
  (t:TypeId)(cs cs':Array Value)(e:aq w g t cs)(o:f<cs.size)(i:cs.setIfInBounds f v=cs')
  (h:∀w',aq w' g t cs'→Fr (fun k=>k=g) w w'→wpList P ops Q rest (a.put u.dst undef) w'):wpList P ops Q (u::rest) a w:=by
 subst i;obtain⟨b,l,q⟩:∃b,P.info? ty=some b∧b.size=1:=by
  cases he:P.info? ty with
  |none=>rw[he]at d;cases d
  |some b=>rw[he]at d;exact⟨b,rfl,by simpa using d⟩
 have c:=Lib.rl_storeVar_one (P:=P) ty b l q ⟨g,f,none⟩ v (cs[f]) m w (by rw[e.cell];simp[o]) (e.frozen _);refine wpList_plain j fun K n=>?_;unfold Oper.wp execOp;simp only[p,r,s,Instr.storeAt,Instr.sureAddr,Sem.run_bind,Sem.run_pure,Result.andThen_ok,c];exact n _ _ (h _ (e.jC f v) (Fr.setCell (T:=fun k=>k=g) (Fr.refl _ w) (fun _=>rfl) v))
theorem nE:∀(xs:List CV)(k:Nat),(xs.flatMap CV.cells).take (k*7)=(xs.take k).flatMap CV.cells
 |[],k=>by simp
 |c::r,0=>by simp
 |c::r,k+1=>by
  rw[List.take_succ_cons,List.flatMap_cons,List.flatMap_cons,List.take_append,List.take_of_length_le (by rw[CV.ey];omega),CV.ey,show(k+1)*7-7=k*7 by omega,nE r k]
theorem nC:∀(xs:List CV)(k:Nat),(xs.flatMap CV.cells).drop (k*7)=(xs.drop k).flatMap CV.cells
 |[],k=>by simp
 |c::r,0=>by simp
 |c::r,k+1=>by
  rw[List.drop_succ_cons,List.flatMap_cons,List.drop_append,List.drop_of_length_le (by rw[CV.ey];omega),List.nil_append,CV.ey,show(k+1)*7-7=k*7 by omega,nC r k]
theorem CL.take{w:World}{S:Nat→Prop}{A:Option Addr}{n k:Nat}{xs:List CV}(h:CL w S A n xs)(a:k≤n):CL w S A k (xs.take k):=
 ⟨by have:=h.rd.take a;rw[nE]at this;exact this,by rw[List.length_take,h.len];omega⟩
theorem CL.cut{w:World}{S:Nat→Prop}{A:Option Addr}{n k cap:Nat}{xs:List CV}(h:CL w S A n xs)(b:k≤n)(a:n≤cap):CL w S (if cap=k then A else A.map (·.add (k*7))) (n-k) (xs.drop k):=
 ⟨by have:=h.rd.cut b a;rw[nC]at this;exact this,by rw[List.length_drop,h.len]⟩
def AE(w:World)(a:ActV)(e:Ending)(w':World):Prop:=∃cs,e= .returned (.agg cs.toArray)∧df w' cs a∧Fr ag w w'∧ke w.heap.size cs
theorem ua{B:Nat}{k:eN}{c d:Value}(e:∀i,c.ownBlock=some i→B≤i)(f:∀i,d.ownBlock=some i→B≤i):ke B (k.cells++[c,d]):=fun v b i a=>by
 simp only[eN.cells,List.cons_append,List.nil_append,List.mem_cons,List.not_mem_nil,or_false]at b;rcases b with rfl|rfl|rfl|rfl|rfl|rfl;·cases a
 ·cases a
 ·cases a
 ·cases a
 ·exact e i a
 ·exact f i a
theorem tU(w:World):Calls Tryz.prog 49 #[] w (AE w clockA):=by
 obtain⟨h,C,D,d,U⟩:=info_parts pc;have y:Hid (¬1*h.size>2^24):=by simp only[Hid];rw[d];omega
 have z:Hid (¬1*h.size=0):=by simp only[Hid];rw[d];omega
 have q:Hid (Instr.fill (fun i=>some (i*7,7)) ((Array.range (1*7)).map (di.cells[· %di.cells.size]!)) [(0, .agg lV.cells.toArray)]=some lV.cells.toArray):=mc _ _ rfl (by simp);have A:Hid (Instr.fill (fun i=>some (i*h.size,h.size)) ((Array.range (1*h.size)).map (di.cells[· %di.cells.size]!)) [(0, .agg lV.cells.toArray)]=some lV.cells.toArray):=by simp only[Hid];rw[d];exact q.out
 have O:=af AR;have N:=af Er;have M:=af AQ;have G:Hid (∀w,Calls Tryz.prog 54 #[] w (aJ w (.agg nk.cells.toArray))):=fun w=>by rw[←vD];exact qD w
 have n:Hid (∀j k:Value,(clockA.key.cells++[j,k]).toArray.size=6):=fun j k=>rfl;have u:Hid (∀j k:Value,j.oneCell'=true→k.oneCell'=true→(clockA.key.cells++[j,k]).toArray.all (·.oneCell')=true):=fun j k B T=>by simp only[eN.cells,List.cons_append,List.nil_append,List.all_toArray,List.all_cons,List.all_nil,B,T];rfl
 have b:Hid (∀(w':World)(g:Nat),aq w' g 119 lV.cells.toArray→Fr ag w w'→w.heap.size≤g→AE w clockA (.returned (.agg (clockA.key.cells++[Value.slice none 0 0, .slice (some ⟨g,0,none⟩) 1 1]).toArray)) w'):=fun w' g B f n1=>⟨_,rfl,⟨_,_,rfl,dO.nil _,GN B⟩,f,ua (fun i s=>by cases s) (fun i s=>by simp only[Value.ownBlock,Option.some.injEq]at s;omega)⟩;generalize AE w clockA=PP at*;generalize clockA.key.cells=o at*;generalize lV.cells=c at*;generalize nk.cells=V at*;clear q;go_enter Tryz.func49,Tryz.ntmps49;go_wp2_with(refine ak rfl 46 rfl fH oc #[.int .i64 0, .int .i64 0, .int .i64 0, .string ByteArray.empty, .slice none 0 0, .slice none 0 0] rfl ?_);intro w1 n1;have H:=af n1.fr;have E:=af n1.aH;clear n1;generalize r:w.heap.size=g0 at*;have l:=af r;clear r;go_wp2_with(refine eA rfl 43 _ rfl o.toArray _ (by simp only[List.map_toArray,List.map_cons,List.map_nil];rfl) O.out (bj.go ?zC));unfold bj;go_wp2_with fail;refine(G.out _).mono ?_;rintro e w2⟨rfl,f2⟩;have I:=af (H.out.trans f2);have F:=af (E.out.fr f2 (fun x=>x));clear f2 H E G;go_wp2_with(refine eA rfl 119 _ rfl c.toArray _ (by simp only[List.map_toArray,List.map_cons,List.map_nil];rfl) N.out (bj.go ?zB));unfold bj;refine wpList_buildSlice rfl 44 119 1 _ rfl c.toArray h di Tryz.underlying44 C D y.out z.out (by simp only[List.map_toArray,List.map_cons,List.map_nil];exact A.out) ?_;have t:Hid (aq (w2.alloc (.cells c.toArray 119)) w2.heap.size 119 c.toArray):=aq.new _ _ _;have P:=af (I.out.trans ((Fr.refl ag w2).alloc (.cells c.toArray 119)));have L:=af (F.out.fr ((Fr.refl ag w2).alloc (.cells c.toArray 119)) (fun x=>x));have m:Hid (w.heap.size≤w2.heap.size∧g0<w2.heap.size):=⟨I.out.size,F.out.lt⟩;generalize(w2.alloc (.cells c.toArray 119))=w3 at*;generalize w2.heap.size=g3 at*;go_wp2_with(refine eA rfl 46 _ rfl (o++[Value.slice none 0 0, .slice (some ⟨g3,0,none⟩) 1 1]).toArray _ (by simp only[List.map_toArray,List.map_cons,List.map_nil];rfl) (M.out _ _ _) (bj.go ?zA));unfold bj;have a:Hid ((Tryz.prog.info? 46).map (·.size)=some (o++[Value.slice none 0 0, .slice (some ⟨g3,0,none⟩) 1 1]).toArray.size):=by rw[Hid,n.out];exact bZ
 refine ai rfl 46 (.tmp 0) _ rfl g0 (o++[Value.slice none 0 0, .slice (some ⟨g3,0,none⟩) 1 1]).toArray rfl rfl _ _ L.out a.out (by rw[n.out];rfl) (u.out _ _ rfl rfl) ?_;intro K J v;have R:=af J;have Q:=af (b.out K g3 (t.out.fr v (fun e=>by have S:g3=g0:=e;have:=m.out;omega)) (P.out.aw v (fun i s e=>by have S:i=g0:=e;have:=l.out;omega)) (by have:=m.out;have:=l.out;omega));clear J v;go_wp2;exact bodyPost_ret (results_cell_row (fn:=Tryz.f49) (p:=0) (ty:=46) Tryz.results49 _ K _ 46 (o++[Value.slice none 0 0, .slice (some ⟨g3,0,none⟩) 1 1]).toArray (0,0) _ rfl R.out Tryz.underlying46 rfl a.out) rfl Q.out
end Go.Proofs.YtphjagkehiklkaaGreatDoor
