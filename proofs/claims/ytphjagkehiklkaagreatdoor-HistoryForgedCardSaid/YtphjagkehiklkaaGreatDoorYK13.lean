/- Texts. -/
import Derived.Test.YtphjagkehiklkaaGreatDoorYK12
set_option linter.unusedVariables false
set_option linter.unusedSimpArgs false
set_option maxRecDepth 100000
set_option maxHeartbeats 4000000
namespace Go.Proofs.YtphjagkehiklkaaGreatDoor
open Go.RowKit Go.Shelf
def mh(c d:CV):Bool:=ym c.nm d.nm&&(c.value.toList==d.value.toList)&&(c.bm==d.bm)
theorem It(a b:aI):ym a b=true↔a=b:=by
 unfold ym;rw[beq_iff_eq];exact⟨cm.eq _ _,fun h=>by rw[h];exact cm.refl _⟩
theorem pv(c d:CV):mh c d=true↔c=d:=by
 obtain⟨n,v,b⟩:=c;obtain⟨m,u,e⟩:=d;simp only[mh,Bool.and_eq_true,beq_iff_eq,It,CV.mk.injEq];exact⟨fun h=>⟨h.1.1,toList_inj h.1.2,h.2⟩,fun h=>⟨⟨h.1,by rw[h.2.1]⟩,h.2.2⟩⟩
def yo(a b:eE):Bool:=a.tick==b.tick&&a.cls==b.cls&&a.num==b.num&&(a.fF.toList==b.fF.toList)
theorem uK(a b:eE):yo a b=true↔a=b:=by
 obtain⟨t,c,n,s⟩:=a;obtain⟨g,d,e,f⟩:=b;simp only[yo,Bool.and_eq_true,beq_iff_eq,eE.mk.injEq];exact⟨fun h=>⟨h.1.1.1,h.1.1.2,h.1.2,toList_inj h.2⟩,fun h=>⟨⟨⟨h.1,h.2.1⟩,h.2.2.1⟩,by rw[h.2.2.2]⟩⟩
def ia:List CV→List CV→Bool
 |[],[]=>true
 |c::l,d::m=>mh c d&&ia l m
 |_,_=>false
theorem pw:∀(l m:List CV),ia l m=true↔l=m
 |[],[]=>by simp[ia]
 |[],_::_=>by simp[ia]
 |_::_,[]=>by simp[ia]
 |c::l,d::m=>by simp[ia,pv,pw l m]
def JC(a b:ActV):Bool:=yo a.key b.key&&ia a.reads b.reads&&ia a.writes b.writes
theorem uI(a b:ActV):JC a b=true↔a=b:=by
 obtain⟨k,r,w⟩:=a;obtain⟨c,d,w'⟩:=b;simp only[JC,Bool.and_eq_true,uK,pw,ActV.mk.injEq];exact⟨fun h=>⟨h.1.1,h.1.2,h.2⟩,fun h=>⟨⟨h.1,h.2.1⟩,h.2.2⟩⟩
theorem CU(c d:CV)(w:World):(binOp .neq 119 (.agg c.cells.toArray) (.agg d.cells.toArray)).run Tryz.prog w= .ok (.bool (!mh c d)) w:=by
 by_cases h:c=d;·subst h;rw[(pv c c).2 rfl];obtain⟨⟨k,z,n,i,t⟩,v,b⟩:=c;simp only[CV.cells,aI.cells,List.cons_append,List.nil_append];go_simp
 ·have e:mh c d=false:=by
   cases a:mh c d;·rfl
   ·exact absurd ((pv c d).1 a) h
  rw[e];obtain⟨⟨k,z,n,i,t⟩,v,b⟩:=c;obtain⟨⟨r,u,s,i',x⟩,y,q⟩:=d;simp only[CV.cells,aI.cells,List.cons_append,List.nil_append];go_simp;intro f g j l m o p;exact h (by rw[f,toList_inj g,j,l,toList_inj m,toList_inj o,p])
theorem FT(a b:eE)(w:World):(binOp .eql 43 (.agg a.cells.toArray) (.agg b.cells.toArray)).run Tryz.prog w= .ok (.bool (yo a b)) w:=by
 by_cases h:a=b;·subst h;rw[(uK a a).2 rfl];obtain⟨t,c,n,s⟩:=a;simp only[eE.cells];go_simp
 ·have e:yo a b=false:=by
   cases d:yo a b;·rfl
   ·exact absurd ((uK a b).1 d) h
  rw[e];obtain⟨t,c,n,s⟩:=a;obtain⟨o,k,l,m⟩:=b;simp only[eE.cells];go_simp;intro f g i j;exact h (by rw[f,g,i,toList_inj j])
theorem uJ:∀{xs a:List CV},xs.length=a.length→(∀(k:Nat)(c d:CV),xs[k]? =some c→a[k]? =some d→mh c d=true)→ia xs a=true
 |[],[],_,_=>rfl
 |c::l,d::m,h,b=>by
  rw[ia,b 0 c d rfl rfl,Bool.true_and];exact uJ (by simpa using h) (fun k x y e f=>b (k+1) x y (by simpa using e) (by simpa using f))
theorem FP{xs a:List CV}{k:Nat}{c d:CV}(f:xs[k]? =some c)(b:a[k]? =some d)(h:mh c d=false):ia xs a=false:=by
 cases e:ia xs a;·rfl
 ·have:=(pw xs a).1 e;subst this;rw[f]at b;cases b;rw[(pv c c).2 rfl]at h;cases h
theorem qV(xs f:List CV)(n m:Nat)(A B:Option Addr)(c V:Nat)(S aa:Nat→Prop)(w:World)(s:CL w S A n xs)(a:CL w aa B m f)(P:n≤1099511627776):
  Calls Tryz.prog 68 #[.slice A n c, .slice B m V] w (aK w (.bool (ia xs f))):=by
 by_cases q:n=m;case neg=>
  have t1:((n:Int)!=(m:Int))=true:=by rw[bne_iff_ne];omega
  have t2:((n:Int)==(m:Int))=false:=by rw[beq_eq_false_iff_ne];omega
  have J:Hid (ia xs f=false):=by
   cases e:ia xs f;·rfl
   ·have:=(pw xs f).1 e;subst this;exact absurd (s.len.symm.trans a.len) q
  rw[J.out];clear q s a P;go_enter Tryz.func68,Tryz.ntmps68;go_wp2;go_ret;exact aG
 subst q;have Z:=af s;have J:=af a;have z:Hid (∀(k:Nat)(c d:CV),xs[k]? =some c→f[k]? =some d→mh c d=false→ia xs f=false):=fun _ _ _=>FP;have t:Hid ((∀(k:Nat)(c d:CV),xs[k]? =some c→f[k]? =some d→mh c d=true)→ia xs f=true):=uJ (s.len.trans a.len.symm);have L:=af s.len;generalize ia xs f=R at*;have M:=af P;clear s a P;go_enter Tryz.func68,Tryz.ntmps68;go_wp2;go_loopw[13](fun i wr=>∃k:Nat,k≤n∧i= .int .i64 k∧(∀(j:Nat)(c d:CV),j<k→xs[j]? =some c→f[j]? =some d→mh c d=true)∧Fr ag w wr)(fun i _=>n-(intOf i).toNat);case atStart=>exact⟨0,Nat.zero_le _,rfl,(fun j c d h=>by omega),aA⟩
 case round=>
  obtain⟨k,ae,rfl,W,p⟩:=hrel;have I:=af p;have U:=af W;clear p W;by_cases H:k<n
  ·obtain⟨N,x,rfl,X,g⟩:=(Z.out.aq I.out).at_ H;obtain⟨O,y,rfl,Y,b⟩:=(J.out.aq I.out).at_ H;have C:=af g;have D:=af b;have l:Hid (xs[k]? =some x∧f[k]? =some y):=⟨X,Y⟩;have qn:Hid (∀w:World,(binOp .neq 119 (.agg x.cells.toArray) (.agg y.cells.toArray)).run Tryz.prog w= .ok (.bool (!mh x y)) w):=fun w=>CU x y w;obtain⟨E,a⟩:∃E,mh x y=E:=⟨_,rfl⟩;rw[a]at qn;have F:=af a;have ab:(k:Int)<(n:Int):=by omega
   have ac:(0:Int)≤(k:Int):=by omega
   clear X Y g b a;go_upto_region 6 with fail;refine iU 9 [.slice (some N) n c, .int .i64 (k:Int), .pointer (some (N.add (k*7))), .agg x.cells.toArray, .slice (some O) n V, .int .i64 (k:Int), .pointer (some (O.add (k*7))), .agg y.cells.toArray, .bool (!E)] ?zA ?_;case zA=>
    refine⟨?zG,?zH,?zB,?zC,?zI,?zJ,?zD,?zE,?zF,trivial⟩;all_goals intro u w' p o
    all_goals simp only[z1,z2,z3,z4,au,Act.put,z5,z6,z7,Nat.reduceAdd,Nat.zero_add]
    case' zB=>simp only[show u 0=_ from o 0,show u 1=_ from o 1]
    case zC=>
     simp only[show u 2=_ from o 2];refine aC ?_;exact az _ _ rfl (N.add (k*7)) rfl x.cells _ (fun j v Q=>p.an (C.out j v Q) (fun x=>x)) Tryz.underlying119 rfl jw aG
    case' zD=>simp only[show u 4=_ from o 4,show u 5=_ from o 5]
    case zE=>
     simp only[show u 6=_ from o 6];refine aC ?_;exact az _ _ rfl (O.add (k*7)) rfl y.cells _ (fun j v Q=>p.an (D.out j v Q) (fun x=>x)) Tryz.underlying119 rfl jw aG
    case zF=>
     simp only[show u 3=_ from o 3,show u 7=_ from o 7];refine aC ?_;exact eS _ _ _ _ _ rfl _ _ rfl rfl Tryz.eqGuardType119 _ (qn.out _) aG
    all_goals
     refine aC ?_;go_simp;exact aG
   intro w' p;simp only[z1,z2,z3,z4,au,Act.put,z5,z6,z7,z8,z9,iO,iP,Nat.reduceAdd,Nat.zero_add];have T:=af (I.out.trans p);clear p C D qn;cases a:E;·obtain rfl:R=false:=z.out k x y l.out.1 l.out.2 (by rw[F.out,a]);clear a;go_wp2;go_ret;exact⟨rfl,T.out⟩
   ·have K:Hid (mh x y=true):=by rw[Hid,F.out,a]
    clear a;have ah:n≤1099511627776:=M.out;go_wp2;go_roundw
    case rel=>exact⟨k+1,by omega,by go_num,fun j c d ad r G=>by
     by_cases e:j=k;·subst e;rw[l.out.1]at r;rw[l.out.2]at G;cases r;cases G;exact K.out
     ·exact U.out j c d (by omega) r G,T.out⟩
    case measure=>simp[intOf];omega
  ·obtain rfl:k=n:=by omega
   have ab:¬(k:Int)<(k:Int):=by omega
   obtain rfl:R=true:=t.out (fun j c d r G=>U.out j c d (by have:=(List.getElem?_eq_some_iff.1 r).1;have:=L.out;omega) r G);go_wp2;go_ret;exact⟨rfl,I.out⟩
theorem om(a b:ActV)(cs ds:List Value)(w:World)(ap:cT w cs a)(W:cT w ds b)(nr:a.reads.length≤1099511627776)(nw:a.writes.length≤1099511627776):
  Calls Tryz.prog 19 #[.agg cs.toArray, .agg ds.toArray] w (aK w (.bool (JC a b))):=by
 obtain⟨ax,aB,rfl,ah,ai⟩:=ap;obtain⟨N,n,U,rfl,rfl,_,I⟩:=ah.cl;obtain⟨O,o,V,rfl,rfl,_,K⟩:=ai.cl;obtain⟨ar,aw,rfl,E,F⟩:=W;obtain⟨s,i,C,rfl,rfl,_,J⟩:=E.cl;obtain⟨t,k,D,rfl,rfl,_,L⟩:=F.cl;have ak:Hid (∀w',Fr ag w w'→Calls Tryz.prog 68 #[.slice N a.reads.length U, .slice s b.reads.length C] w' (aK w' (.bool (ia a.reads b.reads)))):=fun w' f=>qV _ _ _ _ _ _ _ _ _ _ w' (I.aq f) (J.aq f) nr;have al:Hid (∀w',Fr ag w w'→Calls Tryz.prog 68 #[.slice O a.writes.length V, .slice t b.writes.length D] w' (aK w' (.bool (ia a.writes b.writes)))):=fun w' f=>qV _ _ _ _ _ _ _ _ _ _ w' (K.aq f) (L.aq f) nw;have an:Hid (∀w:World,(binOp .eql 43 (.agg a.key.cells.toArray) (.agg b.key.cells.toArray)).run Tryz.prog w= .ok (.bool (yo a.key b.key)) w):=fun w=>FT _ _ w;have ae:Hid (JC a b=(yo a.key b.key&&ia a.reads b.reads&&ia a.writes b.writes)):=rfl;have l:Hid ((Tryz.prog.info? 43).map (·.size)=some a.key.cells.length):=fO;have m:Hid ((Tryz.prog.info? 43).map (·.size)=some b.key.cells.length):=fO;have d:Hid (a.key.cells.length=4∧b.key.cells.length=4):=⟨rfl,rfl⟩;rw[ae.out];generalize a.reads.length=n at*;generalize a.writes.length=o at*;generalize b.reads.length=i at*;generalize b.writes.length=k at*;generalize a.key.cells=S at*;generalize b.key.cells=A at*;generalize yo a.key b.key=P at*;generalize ia a.reads b.reads=Q at*;generalize ia a.writes b.writes=R at*;clear ah ai I K E F J L ae nr nw;go_enter Tryz.func19,Tryz.ntmps19;go_wp2_with(refine ay rfl 46 (.tmp 0) rfl _ rfl ?_);intro w1 n1;have ab:=af n1;clear n1;generalize G:w.heap.size=p at*;have y:Hid (ao w1 p 46 (S++[Value.slice N n U, .slice O o V]).toArray):=by have h:=ab.out.aF;rw[G]at h;exact h
 clear G;go_wp2_with(refine ay rfl 46 (.tmp 1) rfl (A++[Value.slice s i C, .slice t k D]).toArray rfl ?_);intro w2 aj;have T:=af aj;clear aj;generalize H:w1.heap.size=r at*;have HB:Hid (ao w2 r 46 (A++[Value.slice s i C, .slice t k D]).toArray):=by have h:=T.out.aF;rw[H]at h;exact h
 clear H;have HA:=af (y.out.fr T.out.fr (fun x=>x));have Z:=af (ab.out.fr.trans T.out.fr);have X:Hid (∀w',Fr ag w2 w'→∀j x,S[j]? =some x→w'.cell? ((⟨p,0,none⟩:Addr).add j)=some x):=fun w' f j x M=>by
  rw[Addr.add_mid,Nat.zero_add,(HA.out.fr f (fun x=>x)).cell j,bD,List.getElem?_append_left (List.getElem?_eq_some_iff.1 M).1];exact M
 have Y:Hid (∀w',Fr ag w2 w'→∀j x,A[j]? =some x→w'.cell? ((⟨r,0,none⟩:Addr).add j)=some x):=fun w' f j x M=>by
  rw[Addr.add_mid,Nat.zero_add,(HB.out.fr f (fun x=>x)).cell j,bD,List.getElem?_append_left (List.getElem?_eq_some_iff.1 M).1];exact M
 have a4:Hid (∀w',Fr ag w2 w'→w'.cell? {block:=p,off:=4}=some (.slice N n U)):=fun w' f=>by
  rw[(HA.out.fr f (fun x=>x)).cell 4,bD,List.getElem?_append_right (by rw[d.out.1];omega),d.out.1];rfl
 have a5:Hid (∀w',Fr ag w2 w'→w'.cell? {block:=p,off:=5}=some (.slice O o V)):=fun w' f=>by
  rw[(HA.out.fr f (fun x=>x)).cell 5,bD,List.getElem?_append_right (by rw[d.out.1];omega),d.out.1];rfl
 have b4:Hid (∀w',Fr ag w2 w'→w'.cell? {block:=r,off:=4}=some (.slice s i C)):=fun w' f=>by
  rw[(HB.out.fr f (fun x=>x)).cell 4,bD,List.getElem?_append_right (by rw[d.out.2];omega),d.out.2];rfl
 have b5:Hid (∀w',Fr ag w2 w'→w'.cell? {block:=r,off:=5}=some (.slice t k D)):=fun w' f=>by
  rw[(HB.out.fr f (fun x=>x)).cell 5,bD,List.getElem?_append_right (by rw[d.out.2];omega),d.out.2];rfl
 clear ab T y HA HB;obtain⟨B,W⟩:∃z:Bool,(bif P then(bif Q then R else false)else false)=z:=⟨_,rfl⟩;have HB:=af W;clear W;go_upto_region 1 with fail;refine gZ 19 [.pointer (some ⟨p,0,none⟩), .agg S.toArray, .pointer (some ⟨r,0,none⟩), .agg A.toArray, .bool P, .bool P,bif P then .pointer (some ⟨p,4,none⟩)else undef,bif P then .slice N n U else undef,bif P then .pointer (some ⟨r,4,none⟩)else undef,bif P then .slice s i C else undef,bif P then .bool Q else undef,bif P then .bool Q else .bool false,bif P then .bool Q else .bool false,bif P then(bif Q then .pointer (some ⟨p,5,none⟩)else undef)else undef,bif P then(bif Q then .slice O o V else undef)else undef,bif P then(bif Q then .pointer (some ⟨r,5,none⟩)else undef)else undef,bif P then(bif Q then .slice t k D else undef)else undef,bif P then(bif Q then .bool R else undef)else undef, .bool B] ?zJ ?_;case zJ=>
  refine⟨?zS,?zK,?zT,?zL,?zM,?zN,?zO,?zP,?zQ,?zR,?zA,?zB,?zC,?zD,?zE,?zF,?zG,?zH,?zI,trivial⟩;all_goals intro u w' g c
  all_goals simp only[z1,z2,z3,z4,au,Act.put,z5,z6,z7,Nat.reduceAdd,Nat.zero_add]
  case zK=>
   simp only[show u 0=_ from c 0];refine aC ?_;exact az _ _ rfl ⟨p,0,none⟩ rfl S _ (fun ad v ac=>X.out _ g ad v ac) Tryz.underlying43 rfl l.out aG
  case zL=>
   simp only[show u 2=_ from c 2];refine aC ?_;exact az _ _ rfl ⟨r,0,none⟩ rfl A _ (fun ad v ac=>Y.out _ g ad v ac) Tryz.underlying43 rfl m.out aG
  case zM=>
   simp only[show u 1=_ from c 1,show u 3=_ from c 3];refine aC ?_;exact eS .eql _ _ _ _ rfl _ _ rfl rfl Tryz.eqGuardType43 _ (an.out _) aG
  case' zN=>simp only[show u 4=_ from c 4]
  case' zO=>
   simp only[show u 5=_ from c 5];cases P;case false=>exact bR
  case zP=>
   simp only[show u 6=_ from c 6,show u 5=_ from c 5];cases P;case false=>exact bR
   refine aC ?_;have q:=a4.out _ g;go_simp;exact aG
  case' zQ=>
   simp only[show u 5=_ from c 5];cases P;case false=>exact bR
  case zR=>
   simp only[show u 8=_ from c 8,show u 5=_ from c 5];cases P;case false=>exact bR
   refine aC ?_;have q:=b4.out _ g;go_simp;exact aG
  case zA=>
   simp only[show u 7=_ from c 7,show u 9=_ from c 9,show u 5=_ from c 5];cases P;case false=>exact bR
   refine aC ?_;go_simp;refine(ak.out _ (Z.out.trans g)).mono ?_;rintro e av⟨rfl,f4⟩;exact⟨rfl,f4⟩
  case' zB=>
   simp only[show u 5=_ from c 5,show u 10=_ from c 10];cases P
  case' zC=>
   simp only[show u 11=_ from c 11];cases P
  case' zD=>
   simp only[show u 12=_ from c 12];cases P;case false=>exact bR
   cases Q;case false=>exact bR
  case zE=>
   simp only[show u 13=_ from c 13,show u 12=_ from c 12];cases P;case false=>exact bR
   cases Q;case false=>exact bR
   refine aC ?_;have q:=a5.out _ g;go_simp;exact aG
  case' zF=>
   simp only[show u 12=_ from c 12];cases P;case false=>exact bR
   cases Q;case false=>exact bR
  case zG=>
   simp only[show u 15=_ from c 15,show u 12=_ from c 12];cases P;case false=>exact bR
   cases Q;case false=>exact bR
   refine aC ?_;have q:=b5.out _ g;go_simp;exact aG
  case zH=>
   simp only[show u 14=_ from c 14,show u 16=_ from c 16,show u 12=_ from c 12];cases P;case false=>exact bR
   cases Q;case false=>exact bR
   refine aC ?_;go_simp;refine(al.out _ (Z.out.trans g)).mono ?_;rintro e av⟨rfl,f4⟩;exact⟨rfl,f4⟩
  case zI=>
   simp only[show u 12=_ from c 12,show u 17=_ from c 17];cases P<;>cases Q<;>exact aC (by go_simp;exact⟨by rw[←HB.out];rfl,aA⟩)
  all_goals
   try simp only[cond]
   refine aC ?_;go_simp;exact aG
 intro w' g;simp only[z1,z2,z3,z4,au,Act.put,z5,z6,z7,z8,z9,iO,iP,Nat.reduceAdd,Nat.zero_add];have am:=af (Z.out.trans g);have aa:Hid ((P&&Q&&R)=B):=by
  rw[Hid,←HB.out];cases P<;>cases Q<;>cases R<;>rfl
 clear g HB;go_wp2;go_ret;rw[aa.out];exact⟨rfl,am.out⟩
theorem vW:kO=nt.cells.toArray:=rfl
def me:CV:=⟨nt,⟨#[53]⟩,false⟩
def clockA:ActV:=⟨⟨1,0,1,ByteArray.empty⟩,[],[me]⟩
theorem BO:Tryz.prog.built 43 [(0, .int .i64 1),(2, .int .i64 1)]=some clockA.key.cells.toArray:=by kernel_rfl
theorem Fh:Tryz.prog.built 119 [(0, .agg nt.cells.toArray),(1, .string ⟨#[53]⟩)]=some me.cells.toArray:=by kernel_rfl
theorem BM(A:Option Addr)(x y:Nat):Tryz.prog.built 46 [(0, .agg clockA.key.cells.toArray),(2, .slice A x y)]=some (clockA.key.cells++[Value.slice none 0 0, .slice A x y]).toArray:=by kernel_rfl
theorem Ii{w:World}{g:Nat}{c:CV}(h:ao w g 119 c.cells.toArray):dU w (.slice (some ⟨g,0,none⟩) 1 1) [c]:=by
 exact⟨rfl, .inr ⟨g,1,c.cells.toArray,rfl,Nat.zero_le _,h,Nat.le_refl _,by decide,rfl,by rfl⟩⟩
theorem oh{P:Program}{ops:Array Oper}{rest:List Oper}{u:Oper}{a:Act}{w:World}{Q:Exit→Act→World→Prop}(j:u.guard=none)(ty:TypeId)(x y:Operand)(p:u.op= .store ty x y)
  (g f:Nat)(v:Value)(r:a.eval x= .pointer (some ⟨g,f,none⟩))(s:a.eval y=v)(m:v.oneCell'=true)(d:(P.info? ty).map (·.size)=some 1)
  (t:TypeId)(cs cs':Array Value)(e:ao w g t cs)(o:f<cs.size)(i:cs.setIfInBounds f v=cs')
  (h:∀w',ao w' g t cs'→Fr (fun k=>k=g) w w'→wpList P ops Q rest (a.put u.dst undef) w'):wpList P ops Q (u::rest) a w:=by
 subst i;obtain⟨b,l,q⟩:∃b,P.info? ty=some b∧b.size=1:=by
  cases he:P.info? ty with
  |none=>rw[he]at d;cases d
  |some b=>rw[he]at d;exact⟨b,rfl,by simpa using d⟩
 have c:=Lib.rl_storeVar_one (P:=P) ty b l q ⟨g,f,none⟩ v (cs[f]) m w (by rw[e.cell];simp[o]) (e.frozen _);refine wpList_plain j fun K n=>?_;unfold Oper.wp execOp;simp only[p,r,s,Instr.storeAt,Instr.sureAddr,Sem.run_bind,Sem.run_pure,Result.andThen_ok,c];exact n _ _ (h _ (e.jI f v) (Fr.setCell (T:=fun k=>k=g) (Fr.refl _ w) (fun _=>rfl) v))
theorem nC:∀(xs:List CV)(k:Nat),(xs.flatMap CV.cells).take (k*7)=(xs.take k).flatMap CV.cells
 |[],k=>by simp
 |c::r,0=>by simp
 |c::r,k+1=>by
  rw[List.take_succ_cons,List.flatMap_cons,List.flatMap_cons,List.take_append,List.take_of_length_le (by rw[CV.eA];omega),CV.eA,show(k+1)*7-7=k*7 by omega,nC r k]
theorem lD:∀(xs:List CV)(k:Nat),(xs.flatMap CV.cells).drop (k*7)=(xs.drop k).flatMap CV.cells
 |[],k=>by simp
 |c::r,0=>by simp
 |c::r,k+1=>by
  rw[List.drop_succ_cons,List.flatMap_cons,List.drop_append,List.drop_of_length_le (by rw[CV.eA];omega),List.nil_append,CV.eA,show(k+1)*7-7=k*7 by omega,lD r k]
theorem CL.take{w:World}{S:Nat→Prop}{A:Option Addr}{n k:Nat}{xs:List CV}(h:CL w S A n xs)(a:k≤n):CL w S A k (xs.take k):=
 ⟨by have:=h.rd.take a;rw[nC]at this;exact this,by rw[List.length_take,h.len];omega⟩
theorem CL.cut{w:World}{S:Nat→Prop}{A:Option Addr}{n k cap:Nat}{xs:List CV}(h:CL w S A n xs)(b:k≤n)(a:n≤cap):CL w S (if cap=k then A else A.map (·.add (k*7))) (n-k) (xs.drop k):=
 ⟨by have:=h.rd.cut b a;rw[lD]at this;exact this,by rw[List.length_drop,h.len]⟩
def Bs(w:World)(a:ActV)(e:Ending)(w':World):Prop:=∃cs,e= .returned (.agg cs.toArray)∧cT w' cs a∧Fr ag w w'∧jJ w.heap.size cs
theorem uD{B:Nat}{k:eE}{c d:Value}(e:∀i,c.ownBlock=some i→B≤i)(f:∀i,d.ownBlock=some i→B≤i):jJ B (k.cells++[c,d]):=fun v b i a=>by
 simp only[eE.cells,List.cons_append,List.nil_append,List.mem_cons,List.not_mem_nil,or_false]at b;rcases b with rfl|rfl|rfl|rfl|rfl|rfl;·cases a
 ·cases a
 ·cases a
 ·cases a
 ·exact e i a
 ·exact f i a
theorem uz(w:World):Calls Tryz.prog 49 #[] w (Bs w clockA):=by
 obtain⟨h,C,D,d,U⟩:=info_parts o3;have y:Hid (¬1*h.size>2^24):=by simp only[Hid];rw[d];omega
 have z:Hid (¬1*h.size=0):=by simp only[Hid];rw[d];omega
 have q:Hid (Instr.fill (fun i=>some (i*7,7)) ((Array.range (1*7)).map (dj.cells[· %dj.cells.size]!)) [(0, .agg me.cells.toArray)]=some me.cells.toArray):=mi _ _ rfl (by simp);have A:Hid (Instr.fill (fun i=>some (i*h.size,h.size)) ((Array.range (1*h.size)).map (dj.cells[· %dj.cells.size]!)) [(0, .agg me.cells.toArray)]=some me.cells.toArray):=by simp only[Hid];rw[d];exact q.out
 have O:=af BO;have N:=af Fh;have M:=af BM;have G:Hid (∀w,Calls Tryz.prog 54 #[] w (aK w (.agg nt.cells.toArray))):=fun w=>by rw[←vW];exact qI w
 have n:Hid (∀j k:Value,(clockA.key.cells++[j,k]).toArray.size=6):=fun j k=>rfl;have u:Hid (∀j k:Value,j.oneCell'=true→k.oneCell'=true→(clockA.key.cells++[j,k]).toArray.all (·.oneCell')=true):=fun j k B T=>by simp only[eE.cells,List.cons_append,List.nil_append,List.all_toArray,List.all_cons,List.all_nil,B,T];rfl
 have b:Hid (∀(w':World)(g:Nat),ao w' g 119 me.cells.toArray→Fr ag w w'→w.heap.size≤g→Bs w clockA (.returned (.agg (clockA.key.cells++[Value.slice none 0 0, .slice (some ⟨g,0,none⟩) 1 1]).toArray)) w'):=fun w' g B f n1=>⟨_,rfl,⟨_,_,rfl,dU.nil _,Ii B⟩,f,uD (fun i s=>by cases s) (fun i s=>by simp only[Value.ownBlock,Option.some.injEq]at s;omega)⟩;generalize Bs w clockA=PP at*;generalize clockA.key.cells=o at*;generalize me.cells=c at*;generalize nt.cells=V at*;clear q;go_enter Tryz.func49,Tryz.ntmps49;go_wp2_with(refine ak rfl 46 rfl fH mJ #[.int .i64 0, .int .i64 0, .int .i64 0, .string ByteArray.empty, .slice none 0 0, .slice none 0 0] rfl ?_);intro w1 n1;have H:=af n1.fr;have E:=af n1.aF;clear n1;generalize r:w.heap.size=g0 at*;have l:=af r;clear r;go_wp2_with(refine eD rfl 43 _ rfl o.toArray _ (by simp only[List.map_toArray,List.map_cons,List.map_nil];rfl) O.out (bh.go ?zC));unfold bh;go_wp2_with fail;refine(G.out _).mono ?_;rintro e w2⟨rfl,f2⟩;have I:=af (H.out.trans f2);have F:=af (E.out.fr f2 (fun x=>x));clear f2 H E G;go_wp2_with(refine eD rfl 119 _ rfl c.toArray _ (by simp only[List.map_toArray,List.map_cons,List.map_nil];rfl) N.out (bh.go ?zB));unfold bh;refine wpList_buildSlice rfl 44 119 1 _ rfl c.toArray h dj Tryz.underlying44 C D y.out z.out (by simp only[List.map_toArray,List.map_cons,List.map_nil];exact A.out) ?_;have t:Hid (ao (w2.alloc (.cells c.toArray 119)) w2.heap.size 119 c.toArray):=ao.new _ _ _;have P:=af (I.out.trans ((Fr.refl ag w2).alloc (.cells c.toArray 119)));have L:=af (F.out.fr ((Fr.refl ag w2).alloc (.cells c.toArray 119)) (fun x=>x));have m:Hid (w.heap.size≤w2.heap.size∧g0<w2.heap.size):=⟨I.out.size,F.out.lt⟩;generalize(w2.alloc (.cells c.toArray 119))=W at*;generalize w2.heap.size=g3 at*;go_wp2_with(refine eD rfl 46 _ rfl (o++[Value.slice none 0 0, .slice (some ⟨g3,0,none⟩) 1 1]).toArray _ (by simp only[List.map_toArray,List.map_cons,List.map_nil];rfl) (M.out _ _ _) (bh.go ?zA));unfold bh;have a:Hid ((Tryz.prog.info? 46).map (·.size)=some (o++[Value.slice none 0 0, .slice (some ⟨g3,0,none⟩) 1 1]).toArray.size):=by rw[Hid,n.out];exact bT
 refine ai rfl 46 (.tmp 0) _ rfl g0 (o++[Value.slice none 0 0, .slice (some ⟨g3,0,none⟩) 1 1]).toArray rfl rfl _ _ L.out a.out (by rw[n.out];rfl) (u.out _ _ rfl rfl) ?_;intro K J v;have R:=af J;have Q:=af (b.out K g3 (t.out.fr v (fun e=>by have S:g3=g0:=e;have:=m.out;omega)) (P.out.aw v (fun i s e=>by have S:i=g0:=e;have:=l.out;omega)) (by have:=m.out;have:=l.out;omega));clear J v;go_wp2;exact bodyPost_ret (results_cell_row (fn:=Tryz.f49) (p:=0) (ty:=46) Tryz.results49 _ K _ 46 (o++[Value.slice none 0 0, .slice (some ⟨g3,0,none⟩) 1 1]).toArray (0,0) _ rfl R.out Tryz.underlying46 rfl a.out) rfl Q.out
def pc(w:World)(e:Ending)(w':World):Prop:=∃v l,e= .returned v∧dU w' v l∧l.length≤6∧(∀c∈l,eh c)∧Fr ag w w'∧∀k,v.ownBlock=some k→w.heap.size≤k
structure Hq(w wr:World)(v:Value)(l:List CV)(k:Nat):Prop where
 row:dU wr v l
 len:l.length≤k
 small:∀c∈l,eh c
 fr:Fr ag w wr
 new:∀i,v.ownBlock=some i→w.heap.size≤i
def pH(c:CV):CV:=⟨c.nm,if c.bm then ByteArray.empty else c.value,c.bm⟩
theorem zF{c:CV}(h:eh c):eh (pH c):=⟨h.owner,h.text,by
 have:=h.value;unfold pH;simp only;split;·simp
 ·exact this⟩
theorem np(n:Nat)(xs:List CV)(A:Option Addr)(a5:Nat)(S:Nat→Prop)(w:World)(bY:CL w S A n xs)(bA:n≤9223372036854775807)(bv:n≤a5):
  Calls Tryz.prog 81 #[.slice A n a5] w (pc w):=by
 have bK:Hid (∀w' G,Fr ag w w'→Calls Tryz.prog 127 #[.slice A (min n 6) G] w' (Kr w' (min n 6) (rO (xs.take (min n 6)) (min n 6)))):=fun w' G b=>by
  have:=KL (min n 6) (xs.take (min n 6)) A G S w' ((bY.take (by omega)).aq b) (by omega);rw[show min (min n 6) 24=min n 6 by omega]at this;exact this
 have bk:=af (yp (xs.take (min n 6)) (min n 6));have ae:Hid (min n 6≤a5∧min n 6≤6):=by simp only[Hid];omega
 have ba:min (n:Int) 6=((min n 6:Nat):Int):=by omega
 generalize rO (xs.take (min n 6)) (min n 6)=cG at*;generalize min n 6=m at*;clear bY;have bu:(0:Int)≤(m:Int):=by omega
 have cf:(m:Int)≤(a5:Int):=by have:=ae.out;omega
 obtain⟨Z,I,Y,D,al⟩:=info_parts o3;have br:Hid (¬1*Z.size>2^24):=by simp only[Hid];rw[D];omega
 have bs:Hid (¬1*Z.size=0):=by simp only[Hid];rw[D];omega
 have bt:Hid (∀c:CV,Instr.fill (fun i=>some (i*Z.size,Z.size)) ((Array.range (1*Z.size)).map (dj.cells[· %dj.cells.size]!)) [(0, .agg c.cells.toArray)]=some c.cells.toArray):=fun c=>by rw[D];exact mi _ _ rfl (by simp)
 go_enter Tryz.func81,Tryz.ntmps81;go_wp2_with fail;refine(bK.out _ _ aA).mono ?_;rintro e w1⟨cw,cm,cx,cC,rfl,f1,bZ⟩;have bL:=af f1;have b7:=af bZ.Ly;clear f1 bZ bK ba bu cf;go_wp2;go_loopw[5,6](fun v i wr=>∃(k:Nat)(ls:List CV),k≤m∧i= .int .i64 (k:Int)∧Hq w1 wr v ls k)(fun _ i _=>m-(intOf i).toNat);case atStart=>exact⟨0,[],Nat.zero_le _,rfl,⟨dU.nil _,by simp,by simp,aA,by intro i V;cases V⟩⟩
 case round=>
  obtain⟨k,ls,r,rfl,a9⟩:=hrel;have g:=af a9;have bM:=af r;obtain⟨q,n6,k6,rfl,ap,ar⟩:=aW a9.row;have s:Hid (n6≤6):=by have:=a9.len;have:=ae.out;have:=ap.out;simp only[Hid];omega
  clear a9 r;generalize wr=aO at*;by_cases bz:k<m
  ·have t0:decide ((k:Int)<(m:Int))=true:=dJ (by omega);have cs:(k:Int)<(m:Int):=by omega
   have b3:(0:Int)≤(k:Int):=by omega
   obtain⟨bO,c,rfl,bv,U⟩:=(b7.out.aq g.out.fr).at_ bz;have aM:=af U;have bN:=af (bk.out c (List.mem_of_getElem? bv));have bJ:=af c.one;clear bv U;go_wp2_with(refine aB rfl 119 (.tmp 27) rfl (bO.add (k*7)) rfl c.cells _ ?zK Tryz.underlying119 rfl jw (bh.go ?hold));case zK=>exact aM.out
   unfold bh;go_wp2_with(refine ak rfl 119 rfl dj EH #[.int .i64 0, .string ByteArray.empty, .int .i64 0, .int .i64 0, .string ByteArray.empty, .string ByteArray.empty, .bool false] rfl ?_);intro ct b2;have bl:=af b2;clear b2;generalize aZ:aO.heap.size=g7 at*;have ax:=af aZ;clear aZ;have bH:Hid (ao ct g7 119 #[.int .i64 0, .string ByteArray.empty, .int .i64 0, .int .i64 0, .string ByteArray.empty, .string ByteArray.empty, .bool false]):=by have h:=bl.out.aF;rw[ax.out]at h;exact h
   go_wp2_with(refine ai rfl 119 (.tmp 7) _ rfl g7 c.cells.toArray rfl rfl _ _ bH.out jw rfl bJ.out ?_);intro bd bb bT;have a0:Hid (ao bd g7 119 #[.int .i64 c.nm.kind, .string c.nm.owner, .int .i64 c.nm.number, .int .i64 c.nm.index, .string c.nm.text, .string c.value, .bool c.bm]):=bb;have bi:Hid (Fr ag aO bd):=bl.out.fr.aw bT (fun i V e=>by have ca:i=g7:=e;have:=ax.out;omega);clear bb bT bl bH aM;have bQ:bd.cell? ⟨g7,6,none⟩=some (.bool c.bm):=a0.out.cell 6;obtain⟨b9,aJ⟩:∃z,c.bm=z:=⟨_,rfl⟩;have aR:=af aJ;rw[aJ]at bQ;clear aJ;have b8:Hid ((Value.string ByteArray.empty).oneCell'=true):=by simp[Hid,Value.oneCell']
   go_upto_if 30 with fail;clear bQ;go_cut[3,5,6,7](fun co cp cq cr be=>co= .slice (some bO) m cm∧cp= .slice q n6 k6∧cq= .int .i64 (k:Int)∧cr= .pointer (some ⟨g7,0,none⟩)∧ao be g7 119 (pH c).cells.toArray∧Fr ag aO be);case first=>
    cases b9
    ·have aT:Hid (#[Value.int .i64 c.nm.kind, .string c.nm.owner, .int .i64 c.nm.number, .int .i64 c.nm.index, .string c.nm.text, .string c.value, .bool c.bm]=(pH c).cells.toArray):=by
      rw[Hid,pH,if_neg (by rw[aR.out];decide)];rfl
     have HB:Hid (ao bd g7 119 (pH c).cells.toArray):=by rw[←aT.out];exact a0.out
     clear aT;go_wp2;go_meet;exact⟨rfl,rfl,rfl,rfl,HB.out,bi.out⟩
    ·have aT:Hid (#[Value.int .i64 c.nm.kind, .string c.nm.owner, .int .i64 c.nm.number, .int .i64 c.nm.index, .string c.nm.text, .string ByteArray.empty, .bool c.bm]=(pH c).cells.toArray):=by
      rw[Hid,pH,if_pos aR.out];rfl
     go_wp2_with(refine oh rfl 9 _ _ rfl g7 5 (.string ByteArray.empty) rfl rfl b8.out oK _ _ _ a0.out (show 5<7 by decide) rfl ?_);intro wc bP bU;have HB:Hid (ao wc g7 119 (pH c).cells.toArray):=by rw[←aT.out];exact bP
     have b5:Hid (Fr ag aO wc):=bi.out.aw bU (fun i V e=>by have ca:i=g7:=e;have:=ax.out;omega);clear bP bU aT;go_wp2;go_meet;exact⟨rfl,rfl,rfl,rfl,HB.out,b5.out⟩
   case rest=>
    obtain⟨rfl,rfl,rfl,rfl,b0,b⟩:=hcut;have a1:=af b0;have bg:=af b;have ay:=af (zF bN.out);clear b0 b a0 bi bJ bN;generalize pH c=d at*;have cz:=af g.out.row;have ab:=af (show CL aO (fun _=>True) q n6 ls from by have e:=ap.out;subst e;exact⟨(Rd.gO g.out.row).any,rfl⟩);go_wp2;go_loopw[8](fun i be=>∃j:Nat,j≤n6∧i= .int .i64 (j:Int)∧Fr ag wc be)(fun i _=>n6-(intOf i).toNat);case atStart=>exact⟨0,Nat.zero_le _,rfl,aA⟩
    case round=>
     obtain⟨j,ba,rfl,b⟩:=hrel;have ad:=af ba;have a2:=af b;clear ba b;obtain⟨E,z,O⟩:∃(E:Addr)(z:CV),Hid (j<n6→q=some E∧ls[j]? =some z∧∀aa x,z.cells[aa]? =some x→wc.cell? ((E.add (j*7)).add aa)=some x):=by
      by_cases h:j<n6;·obtain⟨E,z,cc,cd,ce⟩:=(ab.out.aq bg.out).at_ h;exact⟨E,z,fun _=>⟨cc,cd,ce⟩⟩
      ·exact⟨⟨0,0,none⟩,d,fun a7=>absurd a7 h⟩
     obtain⟨P,bS⟩:∃z:Bool,decide (j<n6)=z:=⟨_,rfl⟩;have J:=af bS;have ah:Hid (decide ((j:Int)<(n6:Int))=P):=by rw[Hid,←J.out];exact decide_eq_decide.2 (by omega)
     obtain⟨Q,aX⟩:∃bG:Bool,decide (bX z.nm d.nm<0)=bG:=⟨_,rfl⟩;have EQ:=af aX;clear bS aX;have M:Hid (j<n6→q=some E):=fun h=>(O.out h).1;have bI:Hid (j<n6→∀w',Calls Tryz.prog 128 #[.agg z.nm.cells.toArray, .agg d.nm.cells.toArray] w' (aK w' (.int .i64 (bX z.nm d.nm)))):=fun h w'=>gT z.nm d.nm w' (by have:=(g.out.small z (List.mem_of_getElem? (O.out h).2.1)).owner;omega) (by have:=ay.out.owner;omega);obtain⟨B,bV⟩:∃z:Bool,(bif P then Q else false)=z:=⟨_,rfl⟩;have HB:=af bV;clear bV;go_upto_region 10 with fail;refine iU 15 [.int .i64 (j:Int), .slice q n6 k6, .int .i64 (n6:Nat), .bool P, .bool P,bif P then .slice q n6 k6 else undef,bif P then .int .i64 (j:Int)else undef,bif P then .pointer (some (E.add (j*7)))else undef,bif P then .pointer (some (E.add (j*7)))else undef,bif P then .agg z.nm.cells.toArray else undef,bif P then .pointer (some ⟨g7,0,none⟩)else undef,bif P then .agg d.nm.cells.toArray else undef,bif P then .int .i64 (bX z.nm d.nm)else undef,bif P then .bool Q else undef, .bool B] ?zL ?_;case zL=>
      refine⟨?yL,?yM,?zO,?zP,?zQ,?zR,?zS,?zT,?zU,?zV,?zA,?zB,?zC,?zD,?zE,trivial⟩;all_goals intro u w' b a
      all_goals simp only[z1,z2,z3,z4,au,Act.put,z5,z6,z7,Nat.reduceAdd,Nat.zero_add]
      case' zO=>simp only[show u 1=_ from a 1]
      case zP=>
       simp only[show u 0=_ from a 0,show u 2=_ from a 2];refine aC ?_;have t1:=ah.out;have t2:=J.out;go_simp;exact aG
      case' zQ=>simp only[show u 3=_ from a 3]
      case' zR=>
       simp only[show u 4=_ from a 4];cases P;case false=>exact bR
      case' zS=>
       simp only[show u 4=_ from a 4];cases P;case false=>exact bR
      case zT=>
       simp only[show u 5=_ from a 5,show u 6=_ from a 6,show u 4=_ from a 4];cases P;case false=>exact bR
       refine aC ?_;have r:=of_decide_eq_true J.out;have bp:q=some E:=M.out r;have aN:(j:Int)<(n6:Int):=by omega
       have a6:(0:Int)≤(j:Int):=by omega
       clear M;subst bp;go_simp;exact aG
      case' zU=>
       simp only[show u 7=_ from a 7,show u 4=_ from a 4];cases P;case false=>exact bR
      case zV=>
       simp only[show u 8=_ from a 8,show u 4=_ from a 4];cases P;case false=>exact bR
       refine aC ?_;have r:=of_decide_eq_true J.out;exact az _ _ rfl (E.add (j*7)) rfl z.nm.cells _ (fun aa v X=>(a2.out.trans b).an ((O.out r).2.2 aa v (by rw[CV.cells,List.getElem?_append_left (List.getElem?_eq_some_iff.1 X).1];exact X)) (fun x=>x)) Tryz.underlying106 rfl bB aG
      case' zA=>
       simp only[show u 4=_ from a 4];cases P;case false=>exact bR
      case zB=>
       simp only[show u 10=_ from a 10,show u 4=_ from a 4];cases P;case false=>exact bR
       refine aC ?_;exact az _ _ rfl ⟨g7,0,none⟩ rfl d.nm.cells _ (fun aa v X=>by rw[Addr.add_mid,Nat.zero_add,(a1.out.fr (a2.out.trans b) (fun x=>x)).cell aa,bD,CV.cells,List.getElem?_append_left (List.getElem?_eq_some_iff.1 X).1];exact X) Tryz.underlying106 rfl bB aG
      case zC=>
       simp only[show u 9=_ from a 9,show u 11=_ from a 11,show u 4=_ from a 4];cases P;case false=>exact bR
       refine aC ?_;have r:=of_decide_eq_true J.out;go_simp;refine(bI.out r _).mono ?_;rintro e aP⟨rfl,f4⟩;exact⟨rfl,f4⟩
      case zD=>
       simp only[show u 12=_ from a 12,show u 4=_ from a 4];cases P;case false=>exact bR
       refine aC ?_;have t:=EQ.out;go_simp;exact aG
      case zE=>
       simp only[show u 4=_ from a 4,show u 13=_ from a 13];cases P<;>exact aC (by go_simp;exact⟨by rw[←HB.out];rfl,aA⟩)
      all_goals
       try simp only[cond]
       refine aC ?_;go_simp;exact aG
     intro w' b;simp only[z1,z2,z3,z4,au,Act.put,z5,z6,z7,z8,z9,iO,iP,Nat.reduceAdd,Nat.zero_add];have a3:=af (a2.out.trans b);clear b a2 bI EQ;cases B
     ·generalize w'=aP at*;have L:Hid (Fr ag aO aP):=bg.out.trans a3.out;clear HB;go_upto_region 12 with fail;refine DW 9 ag (fun i=>i==7) (fun i j=>(i==7&&(j==0||j==4||j==6))) [⟨fun K am=>∃i:Nat,K= .slice (some ⟨i,0,none⟩) 0 0∧am.ownsRow 0 119 7 (.slice (some ⟨i,0,none⟩) 0 0) 0 []∧aP.heap.size≤i,fun _ _ _ f⟨i,e,h,l⟩=>⟨i,e,aQ h f (fun _ _ x=>x),l⟩⟩,iS (.slice q n6 k6),iS (.int .i64 (j:Int)),iS (.slice q j k6),⟨fun K am=>am.ownsRow 0 119 7 K j ((ls.take j).flatMap CV.cells)∧∀k,K.ownBlock=some k→aP.heap.size≤k,fun _ _ _ f h=>⟨aQ h.1 f (fun _ _ x=>x),h.2⟩⟩,iS (.agg d.cells.toArray),⟨fun K am=>∃i:Nat,K= .slice (some ⟨i,0,none⟩) 1 1∧ao am i 119 d.cells.toArray,fun _ _ _ f⟨i,e,h⟩=>⟨i,e,h.fr f (fun x=>x)⟩⟩,⟨fun K am=>dU am K (ls.take j++[d])∧∀k,K.ownBlock=some k→aP.heap.size≤k,fun _ _ _ f h=>⟨h.1.aq f,h.2⟩⟩,⟨fun K am=>dU am K (ls.take j++[d])∧∀k,K.ownBlock=some k→aP.heap.size≤k,fun _ _ _ f h=>⟨h.1.aq f,h.2⟩⟩] ?zN ?_;case zN=>
       refine⟨?yE,?yP,?yQ,?yF,?yG,?yH,?yI,?yJ,?yK,trivial⟩;all_goals intro u w' b a cB
       all_goals simp only[z1,z2,z3,z4,au,Act.put,z5,z6,z7,Nat.reduceAdd,Nat.zero_add]
       case yE=>
        refine aC ?_;refine nV 44 119 rfl Z Tryz.underlying44 I ?_;intro b4 bA;exact⟨_,rfl,bA.fr,⟨w'.heap.size,rfl,bA.IS,b.size⟩⟩
       case yF=>
        simp only[show u 1=_ from a 1,show u 2=_ from a 2];refine aC ?_;have aN:(j:Int)≤(k6:Int):=by have:=ad.out;have:=ar.out;omega
        have a6:(0:Int)≤(j:Int):=by omega
        go_simp;exact⟨_,rfl,aA,rfl⟩
       case yG=>
        obtain⟨i0,cb,bu,cD⟩:=a 0;simp only[cb,show u 3=_ from a 3];refine aC ?_;refine Bb (.tmp 49) (.tmp 52) 44 rfl 119 Z dj 7 80 Tryz.underlying44 I Y D al rfl (by decide) i0 rfl bu (fun _=>True) q j k6 ((ls.take j).flatMap CV.cells) rfl ((ab.out.aq (L.out.trans b)).take ad.out).rd (by have:=ad.out;have:=s.out;omega) (by have:=ad.out;have:=s.out;omega) ?_;intro v5 b4 ck bw cj;exact⟨_,rfl,bw,ck,fun k r=>(cj k r).elim (fun e=>by omega) (fun e=>Nat.le_trans b.size e)⟩
       case yH=>
        refine aC ?_;exact az _ _ rfl ⟨g7,0,none⟩ rfl d.cells _ (kH (a1.out.fr (a3.out.trans b) (fun x=>x))) Tryz.underlying119 rfl jw ⟨_,rfl,aA,rfl⟩
       case yI=>
        simp only[show u 5=_ from a 5];refine aC ?_;refine wp_buildSlice 44 119 1 #[(0, .tmp 54)] rfl d.cells.toArray Z dj Tryz.underlying44 I Y br.out bs.out ?_ ?_;·simp only[List.map_toArray,List.map_cons,List.map_nil];exact bt.out d
        ·exact⟨_,rfl,aA.alloc _,⟨w'.heap.size,rfl,ao.new _ _ _⟩⟩
       case yJ=>
        obtain⟨cg,b1⟩:=a 4;obtain⟨i6,aN,ch⟩:=a 6;simp only[aN];refine aC ?_;refine tP _ (.tmp 53) (.tmp 55) 44 rfl 119 Z dj 7 80 Tryz.underlying44 I Y D al rfl (by decide) _ _ _ rfl cg (fun _=>True) (some ⟨i6,0,none⟩) 1 1 d.cells rfl ⟨rfl,fun _=>⟨_,rfl,trivial,fun aa x cl=>by rw[Addr.add_mid,Nat.zero_add,ch.cell,bD];exact cl⟩⟩ (tU d) (by have:=ad.out;have:=s.out;omega) (by decide) ?_;intro cE cF H;refine⟨_,rfl,⟨b.aw H.fr (fun k r e=>by have:=b1 k e;omega),?_⟩,?_,fun k r=>(H.ez k r).elim (b1 k) (fun h=>Nat.le_trans b.size h)⟩;·exact⟨mT,fun _ h=>h,fun _ h=>h,fun _ h=>h,mT,fun _ h=>h,mT,mT,mT,trivial⟩
        ·have h:=H.own;unfold dU;rw[show(ls.take j++[d]).length=j+1 by rw[aY,List.length_take,List.length_singleton,Nat.min_eq_left (by have:=ad.out;have:=ap.out;omega)],List.flatMap_append];simpa using h
       case yK=>
        obtain⟨ci,cn⟩:=a 7;refine aC ?_;go_simp;exact⟨_,rfl,aA,ci,cn⟩
       all_goals
        refine aC ?_;go_simp;exact⟨_,rfl,aA,rfl⟩
      intro u w' b a;obtain⟨a8,bE⟩:=a 8 (by omega);obtain⟨bf,bF,bC,bq,cy,b6⟩:=aW a8;rw[bq]at a8 bE;simp only[z1,z2,z3,z4,au,Act.put,z5,z6,z7,z8,z9,Nat.reduceAdd,Nat.zero_add];clear a;simp only[bq];have aU:=af a8;have a4:=af bE;have ac:=af (a3.out.trans b);clear b a8 bE bq;obtain⟨Q,aX⟩:∃bG:Bool,ym z.nm d.nm=bG:=⟨_,rfl⟩;have EQ:=af aX;clear aX;obtain⟨C,bW⟩:∃z:Bool,(bif P then Q else false)=z:=⟨_,rfl⟩;have aM:=af bW;clear bW;have aV:Hid (∀W,Fr ag w' W→dU W (.slice bf bF bC) (ls.take j++[d])):=fun W f=>aU.out.aq f;clear aU;generalize w'=b4 at*;go_upto_region 13 with fail;refine iU 14 [.int .i64 (j:Int), .slice q n6 k6, .int .i64 (n6:Nat), .bool P, .bool P,bif P then .slice q n6 k6 else undef,bif P then .int .i64 (j:Int)else undef,bif P then .pointer (some (E.add (j*7)))else undef,bif P then .pointer (some (E.add (j*7)))else undef,bif P then .agg z.nm.cells.toArray else undef,bif P then .pointer (some ⟨g7,0,none⟩)else undef,bif P then .agg d.nm.cells.toArray else undef,bif P then .bool Q else undef, .bool C] ?zM ?_;case zM=>
       refine⟨?yN,?yO,?zW,?zX,?zY,?zZ,?yA,?yB,?yC,?yD,?zG,?zH,?zI,?zJ,trivial⟩;all_goals intro u w' b a
       all_goals simp only[z1,z2,z3,z4,au,Act.put,z5,z6,z7,Nat.reduceAdd,Nat.zero_add]
       case' zW=>simp only[show u 1=_ from a 1]
       case zX=>
        simp only[show u 0=_ from a 0,show u 2=_ from a 2];refine aC ?_;have t1:=ah.out;have t2:=J.out;go_simp;exact aG
       case' zY=>simp only[show u 3=_ from a 3]
       case' zZ=>
        simp only[show u 4=_ from a 4];cases P;case false=>exact bR
       case' yA=>
        simp only[show u 4=_ from a 4];cases P;case false=>exact bR
       case yB=>
        simp only[show u 5=_ from a 5,show u 6=_ from a 6,show u 4=_ from a 4];cases P;case false=>exact bR
        refine aC ?_;have r:=of_decide_eq_true J.out;have bp:q=some E:=M.out r;have aN:(j:Int)<(n6:Int):=by omega
        have a6:(0:Int)≤(j:Int):=by omega
        clear M;subst bp;go_simp;exact aG
       case' yC=>
        simp only[show u 7=_ from a 7,show u 4=_ from a 4];cases P;case false=>exact bR
       case yD=>
        simp only[show u 8=_ from a 8,show u 4=_ from a 4];cases P;case false=>exact bR
        refine aC ?_;have r:=of_decide_eq_true J.out;exact az _ _ rfl (E.add (j*7)) rfl z.nm.cells _ (fun aa v X=>(ac.out.trans b).an ((O.out r).2.2 aa v (by rw[CV.cells,List.getElem?_append_left (List.getElem?_eq_some_iff.1 X).1];exact X)) (fun x=>x)) Tryz.underlying106 rfl bB aG
       case' zG=>
        simp only[show u 4=_ from a 4];cases P;case false=>exact bR
       case zH=>
        simp only[show u 10=_ from a 10,show u 4=_ from a 4];cases P;case false=>exact bR
        refine aC ?_;exact az _ _ rfl ⟨g7,0,none⟩ rfl d.nm.cells _ (fun aa v X=>by rw[Addr.add_mid,Nat.zero_add,(a1.out.fr (ac.out.trans b) (fun x=>x)).cell aa,bD,CV.cells,List.getElem?_append_left (List.getElem?_eq_some_iff.1 X).1];exact X) Tryz.underlying106 rfl bB aG
       case zI=>
        simp only[show u 9=_ from a 9,show u 11=_ from a 11,show u 4=_ from a 4];cases P;case false=>exact bR
        refine aC ?_;exact eS _ _ _ _ _ rfl _ _ rfl rfl Tryz.eqGuardType106 _ (by rw[←EQ.out];exact FQ z.nm d.nm _) aG
       case zJ=>
        simp only[show u 4=_ from a 4,show u 12=_ from a 12];cases P<;>exact aC (by go_simp;exact⟨by rw[←aM.out];rfl,aA⟩)
       all_goals
        try simp only[cond]
        refine aC ?_;go_simp;exact aG
      intro w' b;simp only[z1,z2,z3,z4,au,Act.put,z5,z6,z7,z8,z9,iO,iP,Nat.reduceAdd,Nat.zero_add];have aU:=af (aV.out _ b);have F:=af (bg.out.trans (ac.out.trans b));clear b aV;generalize w'=bc at*;have cA:=ad.out;have cv:IntKind.i64.wrap ((k:Int)+1)=(k:Int)+1:=IntWalk.i64_in _ (by have:=bM.out;have:=ae.out;omega);have aS:Hid (C=true→j<n6):=fun h=>by
       have a7:=aM.out;rw[h]at a7;cases P;·cases a7
       ·exact of_decide_eq_true J.out
      clear J ah EQ aM O M ac a1;cases C
      ·clear aS;have aN:(j:Int)≤(n6:Int):=by omega
       have a6:(0:Int)≤(j:Int):=by omega
       obtain⟨N,aj⟩:∃N,(ls.take j++[d]).length=N:=⟨_,rfl⟩;obtain⟨aI,y⟩:∃aI,(ls.take j++[d]).flatMap CV.cells=aI:=⟨_,rfl⟩;obtain⟨T,o⟩:∃T,(ls.drop (j)).flatMap CV.cells=T:=⟨_,rfl⟩;have bo:Hid (bc.ownsRow 0 119 7 (.slice bf bF bC) N aI):=by rw[Hid,←aj,←y];exact aU.out
       have bn:Hid (Rd bc (fun _=>True) 7 (if k6=j then q else q.map (·.add ((j)*7))) (n6-(j)) T):=by rw[Hid,←o];exact((ab.out.aq F.out).cut (k:=j) (cap:=k6) (by omega) ar.out).rd
       have R:Hid (∀u∈T,u.oneCell'=true):=by
        rw[Hid,←o];intro u hu;obtain⟨G,_,p⟩:=List.mem_flatMap.1 hu;exact tU G u p
       have av:Hid ((N+(n6-(j)))*80≤140737488355328):=by
        have:=s.out;rw[Hid,←aj,aY,List.length_take,List.length_singleton];omega
       have bj:=af aj;have aD:=af y;have aE:=af o;clear aj y o;go_wp2_with(refine iF _ rfl _ _ 44 rfl 119 Z dj 7 80 Tryz.underlying44 I Y D al rfl (by decide) _ _ _ rfl bo.out (fun _=>True) _ _ _ T rfl bn.out R.out av.out (by decide) ?_);all_goals
        intro v10 aL H;have aH:Hid (Hq w1 aL v10 (ls.take j++[d]++ls.drop (j)) (k+1)):=by
         refine⟨?_,?_,?_,?_,?_⟩;·have h:=H.own;unfold dU;rw[List.flatMap_append,aY,List.length_drop,←ap.out,bj.out,aD.out,aE.out];exact h
         ·have:=g.out.len;have:=ap.out;have:=ad.out;rw[aY,aY,List.length_take,List.length_drop,List.length_singleton];omega
         ·intro G p;rw[List.mem_append,List.mem_append,List.mem_singleton]at p;rcases p with(h|rfl)|h;·exact g.out.small G (List.mem_of_mem_take h)
          ·exact ay.out
          ·exact g.out.small G (List.mem_of_mem_drop h)
         ·exact(g.out.fr.trans F.out).aw H.fr (fun i V e=>by have:=a4.out i e;have:=g.out.fr.size;have:=L.out.size;omega)
         ·intro i V;have:=g.out.fr.size;have:=L.out.size;have:=F.out.size;rcases H.ez i V with h|h;·have:=a4.out i h;omega
          ·omega
        clear H;go_wp2;go_roundw;case rel=>exact⟨k+1,_,by omega,by go_num,aH.out⟩
        case measure=>simp[intOf];omega
      ·have bx:j<n6:=aS.out rfl;have cu:IntKind.i64.wrap ((j:Int)+1)=(j:Int)+1:=IntWalk.i64_in _ (by have:=s.out;omega);have aN:(j:Int)+1≤(n6:Int):=by omega
       have a6:(0:Int)≤(j:Int)+1:=by omega
       obtain⟨N,aj⟩:∃N,(ls.take j++[d]).length=N:=⟨_,rfl⟩;obtain⟨aI,y⟩:∃aI,(ls.take j++[d]).flatMap CV.cells=aI:=⟨_,rfl⟩;obtain⟨T,o⟩:∃T,(ls.drop (j+1)).flatMap CV.cells=T:=⟨_,rfl⟩;have bo:Hid (bc.ownsRow 0 119 7 (.slice bf bF bC) N aI):=by rw[Hid,←aj,←y];exact aU.out
       have bn:Hid (Rd bc (fun _=>True) 7 (if k6=j+1 then q else q.map (·.add ((j+1)*7))) (n6-(j+1)) T):=by rw[Hid,←o];exact((ab.out.aq F.out).cut (k:=j+1) (cap:=k6) (by omega) ar.out).rd
       have R:Hid (∀u∈T,u.oneCell'=true):=by
        rw[Hid,←o];intro u hu;obtain⟨G,_,p⟩:=List.mem_flatMap.1 hu;exact tU G u p
       have av:Hid ((N+(n6-(j+1)))*80≤140737488355328):=by
        have:=s.out;rw[Hid,←aj,aY,List.length_take,List.length_singleton];omega
       have bj:=af aj;have aD:=af y;have aE:=af o;clear aj y o;go_wp2_with(refine iF _ rfl _ _ 44 rfl 119 Z dj 7 80 Tryz.underlying44 I Y D al rfl (by decide) _ _ _ rfl bo.out (fun _=>True) _ _ _ T rfl bn.out R.out av.out (by decide) ?_);all_goals
        intro v10 aL H;have aH:Hid (Hq w1 aL v10 (ls.take j++[d]++ls.drop (j+1)) (k+1)):=by
         refine⟨?_,?_,?_,?_,?_⟩;·have h:=H.own;unfold dU;rw[List.flatMap_append,aY,List.length_drop,←ap.out,bj.out,aD.out,aE.out];exact h
         ·have:=g.out.len;have:=ap.out;have:=ad.out;rw[aY,aY,List.length_take,List.length_drop,List.length_singleton];omega
         ·intro G p;rw[List.mem_append,List.mem_append,List.mem_singleton]at p;rcases p with(h|rfl)|h;·exact g.out.small G (List.mem_of_mem_take h)
          ·exact ay.out
          ·exact g.out.small G (List.mem_of_mem_drop h)
         ·exact(g.out.fr.trans F.out).aw H.fr (fun i V e=>by have:=a4.out i e;have:=g.out.fr.size;have:=L.out.size;omega)
         ·intro i V;have:=g.out.fr.size;have:=L.out.size;have:=F.out.size;rcases H.ez i V with h|h;·have:=a4.out i h;omega
          ·omega
        clear H;go_wp2;go_roundw;case rel=>exact⟨k+1,_,by omega,by go_num,aH.out⟩
        case measure=>simp[intOf];omega
     ·have bx:j<n6:=by
       have h:=HB.out;cases P;·cases h
       ·exact of_decide_eq_true J.out
      have cu:IntKind.i64.wrap ((j:Int)+1)=(j:Int)+1:=IntWalk.i64_in _ (by have:=s.out;omega);clear HB J ah;go_wp2;go_roundw;case rel=>exact⟨j+1,by omega,by go_num,a3.out⟩
      case measure=>simp[intOf];omega
  ·obtain rfl:k=m:=by have:=bM.out;omega
   have t0:decide ((k:Int)<(k:Int))=false:=cN (by omega);go_wp2;go_ret;exact⟨_,ls,rfl,g.out.row,by have:=g.out.len;have:=ae.out;omega,g.out.small,bL.out.trans g.out.fr,fun i V=>by have:=g.out.new i V;have:=bL.out.size;omega⟩
structure mB(c:CV):Prop where
 owner:c.nm.owner.size≤1099511627776
 text:c.nm.text.size≤1099511627776
theorem gQ.fit{c:CV}(h:gQ c):mB c:=⟨by have:=h.owner;omega,by have:=h.text;omega⟩
def Hh(w:World)(b:Bool)(e:Ending)(w':World):Prop:=aK w (.bool b) e w'
theorem rn(xs:List CV)(n:Nat)(A:Option Addr)(a2:Nat)(S:Nat→Prop)(w:World)(a9:eG w)(aP:CL w S A n xs)(ba:∀c∈xs,mB c)(bc:n≤1099511627776):
  Calls Tryz.prog 112 #[.slice A n a2] w (Hh w (fZ xs)):=by
 have aX:=af aP;have bf:=af a9;have a0:=af ba;have aY:=af aP.len;have I:=af bc;have m:Hid (∀k,k<xs.length→eX xs k=false→fZ xs=false):=fun k X h=>Gy X h;have C:Hid ((∀k,k<xs.length→eX xs k=true)→fZ xs=true):=Gx;obtain⟨R,a⟩:∃R,fZ xs=R:=⟨_,rfl⟩;rw[a]at m C⊢;clear aP ba a9 bc a;go_enter Tryz.func112,Tryz.ntmps112;go_wp2;go_loopw[7](fun i wr=>∃k:Nat,k≤n∧i= .int .i64 (k:Int)∧(∀j,j<k→eX xs j=true)∧Fr ag w wr)(fun i _=>n-(intOf i).toNat);case atStart=>exact⟨0,Nat.zero_le _,rfl,(fun j aR=>by omega),aA⟩
 case round=>
  obtain⟨k,X,rfl,a8,hF⟩:=hrel;have aJ:=af hF;have a1:=af a8;clear a8 hF;by_cases ap:k<n
  ·have a7:(k:Int)<(n:Int):=by omega
   have bn:(0:Int)≤(k:Int):=by omega
   have t0:decide ((k:Int)<(n:Int))=true:=decide_eq_true a7;obtain⟨L,c,rfl,aQ,o⟩:=(aX.out.aq aJ.out).at_ ap;have Z:=af o;have be:=af c.one;have G:Hid (xs[k]? =some c):=aQ;have aO:Hid (mB c):=a0.out c (List.mem_of_getElem? aQ);have aM:Hid (k<xs.length):=by rw[Hid,aY.out];exact ap
   clear o aQ;go_wp2_with(refine aB rfl 119 (.tmp 10) rfl _ rfl c.cells _ ?zN Tryz.underlying119 rfl jw (bh.go ?hold));case zN=>exact Z.out
   unfold bh;go_wp2_with(refine ak rfl 119 rfl dj EH #[.int .i64 0, .string ByteArray.empty, .int .i64 0, .int .i64 0, .string ByteArray.empty, .string ByteArray.empty, .bool false] rfl ?_);intro bs bd;have aN:=af bd;clear bd;generalize am:wr.heap.size=g4 at*;have ab:=af am;clear am;have aT:Hid (ao bs g4 119 #[.int .i64 0, .string ByteArray.empty, .int .i64 0, .int .i64 0, .string ByteArray.empty, .string ByteArray.empty, .bool false]):=by have h:=aN.out.aF;rw[ab.out]at h;exact h
   go_wp2_with(refine ai rfl 119 (.tmp 4) _ rfl g4 c.cells.toArray rfl rfl _ _ aT.out jw rfl be.out ?_);intro U bb a5;have ay:Hid (ao U g4 119 c.cells.toArray):=bb;have aW:Hid (Fr ag wr U):=aN.out.fr.aw a5 (fun i bz e=>by have bv:i=g4:=e;have:=ab.out;omega);clear bb a5 aN aT Z;have Y:Hid (∀w',Fr ag U w'→∀j x,c.nm.cells[j]? =some x→w'.cell? ((⟨g4,0,none⟩:Addr).add j)=some x):=fun w' f j x av=>by
    rw[Addr.add_mid,Nat.zero_add,(ay.out.fr f (fun x=>x)).cell j,bD,CV.cells,List.getElem?_append_left (List.getElem?_eq_some_iff.1 av).1];exact av
   have p:Hid (Fr ag w U):=aJ.out.trans aW.out;have K:Hid (jt c=(dD c.nm&&decide (c.value.size≤65536)&&(!c.bm||c.value.toList.isEmpty))):=rfl;have F:Hid (jt c=false→R=false):=fun h=>m.out k aM.out (by
    have e:=G.out;simp only[eX,e,h,Bool.false_and]);obtain⟨ok,T⟩:∃z,dD c.nm=z:=⟨_,rfl⟩;obtain⟨V,aH⟩:∃z,decide (65536<c.value.size)=z:=⟨_,rfl⟩;obtain⟨em,hem⟩:∃z,c.value.toList.isEmpty=z:=⟨_,rfl⟩;obtain⟨g,N⟩:∃z,c.bm=z:=⟨_,rfl⟩;have aV:Hid (∀w',Fr ag U w'→Calls Tryz.prog 115 #[.agg c.nm.cells.toArray] w' (fun e l=>∃t:Int,e= .returned (.int .i64 t)∧(t==0)=ok∧Fr ag w' l)):=fun w' f=>by
    rw[←T];exact kY c.nm w' (bf.out.aq (p.out.trans f)) (by have:=aO.out.owner;omega) (by have:=aO.out.text;omega)
   have al:decide (c.value.size≤65536)=!V:=by
    rw[←aH];by_cases h:c.value.size≤65536;·rw[decide_eq_true h,cN (by omega)];rfl
    ·rw[decide_eq_false h,dJ (by omega)];rfl
   have aj:decide ((65536:Int)<(c.value.size:Int))=V:=by
    rw[←aH];exact decide_eq_decide.2 (by omega)
   rw[T,al,N,hem]at K;have ad:=af aj;have ac:=af aH;have aa:=af hem;have c5:Hid (∀w',Fr ag U w'→w'.cell? {block:=g4,off:=5}=some (.string c.value)):=fun w' f=>(ay.out.fr f (fun x=>x)).cell 5;have a3:Hid (∀w',Fr ag U w'→w'.cell? {block:=g4,off:=6}=some (.bool g)):=fun w' f=>by rw[←N];exact(ay.out.fr f (fun x=>x)).cell 6
   clear T aH hem N al aj;obtain⟨aI,ah⟩:∃z:Bool,(bif ok then(bif V then true else(bif g then(!em)else false))else true)=z:=⟨_,rfl⟩;have E:=af ah;clear ah;go_upto_region 4 with fail;refine DX 19 [iS (.pointer (some ⟨g4,0,none⟩)),iS (.agg c.nm.cells.toArray),⟨fun bt _=>∃t:Int,bt= .int .i64 t∧(t==0)=ok,fun _ _ _ _ h=>h⟩,iS (.bool (!ok)),iS (.bool (!ok)),iS ((bif ok then .pointer (some ⟨g4,5,none⟩)else undef)),iS ((bif ok then .string c.value else undef)),iS ((bif ok then .int .i64 (c.value.size:Nat)else undef)),iS ((bif ok then .bool V else undef)),iS ((bif ok then .bool V else .bool true)),iS ((bif ok then .bool V else .bool true)),iS ((bif ok then(bif V then undef else .pointer (some ⟨g4,6,none⟩))else undef)),iS ((bif ok then(bif V then undef else .bool g)else undef)),iS ((bif ok then(bif V then undef else .bool g)else undef)),iS ((bif ok then(bif V then undef else(bif g then .pointer (some ⟨g4,5,none⟩)else undef))else undef)),iS ((bif ok then(bif V then undef else(bif g then .string c.value else undef))else undef)),iS ((bif ok then(bif V then undef else(bif g then .bool (!em)else undef))else undef)),iS ((bif ok then(bif V then undef else(bif g then .bool (!em)else .bool false))else undef)),iS (.bool aI)] ?zO ?_;case zO=>
    refine⟨?yI,?zQ,?zR,?zS,?zT,?zU,?zV,?zW,?zX,?zY,?zA,?zB,?zC,?zD,?zE,?zF,?zG,?zH,?zI,trivial⟩;all_goals intro u w' b a
    all_goals simp only[z1,z2,z3,z4,au,Act.put,z5,z6,z7,Nat.reduceAdd,Nat.zero_add]
    case zQ=>
     simp only[show u 0=_ from a 0];refine aC ?_;exact az _ _ rfl ⟨g4,0,none⟩ rfl c.nm.cells _ (fun ax v ar=>Y.out _ b ax v ar) Tryz.underlying106 rfl bB ⟨_,rfl,aA,rfl⟩
    case zR=>
     simp only[show u 1=_ from a 1];refine aC ?_;go_simp;refine(aV.out _ b).mono ?_;rintro e br⟨t,rfl,O,f4⟩;exact⟨_,rfl,f4,t,rfl,O⟩
    case zS=>
     obtain⟨t,aD,O⟩:=a 2;simp only[aD];refine aC ?_;have t1:(t !=0)=!ok:=by rw[bne,O]
     go_simp;exact⟨_,rfl,aA,rfl⟩
    case' zT=>simp only[show u 3=_ from a 3]
    case' zU=>
     simp only[show u 4=_ from a 4];cases ok;case false=>exact js
    case zV=>
     simp only[show u 5=_ from a 5,show u 4=_ from a 4];cases ok;case false=>exact js
     refine aC ?_;have q:=c5.out _ b;go_simp;exact⟨_,rfl,aA,rfl⟩
    case' zW=>
     simp only[show u 6=_ from a 6,show u 4=_ from a 4];cases ok;case false=>exact js
    case zX=>
     simp only[show u 7=_ from a 7,show u 4=_ from a 4];cases ok;case false=>exact js
     refine aC ?_;have t1:=ad.out;have t2:=ac.out;go_simp;exact⟨_,rfl,aA,rfl⟩
    case' zY=>
     simp only[show u 4=_ from a 4,show u 8=_ from a 8];cases ok
    case' zA=>
     simp only[show u 9=_ from a 9];cases ok
    case' zB=>
     simp only[show u 10=_ from a 10];cases ok;case false=>exact js
     cases V;case true=>exact js
    case zC=>
     simp only[show u 11=_ from a 11,show u 10=_ from a 10];cases ok;case false=>exact js
     cases V;case true=>exact js
     refine aC ?_;have q:=a3.out _ b;go_simp;exact⟨_,rfl,aA,rfl⟩
    case' zD=>
     simp only[show u 12=_ from a 12,show u 10=_ from a 10];cases ok;case false=>exact js
     cases V;case true=>exact js
    case' zE=>
     simp only[show u 13=_ from a 13];cases ok;case false=>exact js
     cases V;case true=>exact js
     cases g;case false=>exact js
    case zF=>
     simp only[show u 14=_ from a 14,show u 13=_ from a 13];cases ok;case false=>exact js
     cases V;case true=>exact js
     cases g;case false=>exact js
     refine aC ?_;have q:=c5.out _ b;go_simp;exact⟨_,rfl,aA,rfl⟩
    case zG=>
     simp only[show u 15=_ from a 15,show u 13=_ from a 13];cases ok;case false=>exact js
     cases V;case true=>exact js
     cases g;case false=>exact js
     refine aC ?_;have t1:=aa.out;go_simp;exact⟨_,rfl,aA,rfl⟩
    case' zH=>
     simp only[show u 13=_ from a 13,show u 16=_ from a 16,show u 10=_ from a 10];cases ok;case false=>exact js
     cases V;case true=>exact js
     cases g
    case zI=>
     simp only[show u 10=_ from a 10,show u 17=_ from a 17];cases ok<;>cases V<;>cases g<;>exact aC (by go_simp;exact⟨_,rfl,aA,congrArg Value.bool E.out⟩)
    all_goals
     try simp only[cond]
     refine aC ?_;go_simp;exact⟨_,rfl,aA,rfl⟩
   intro u w' b a;simp only[z1,z2,z3,z4,au,Act.put,z5,z6,z7,z8,z9,Nat.reduceAdd,Nat.zero_add,show u 18=_ from a 18 (by omega)];clear a;have p:Hid (Fr ag w w'):=p.out.trans b;have Y:Hid (∀l,Fr ag w' l→∀j x,c.nm.cells[j]? =some x→l.cell? ((⟨g4,0,none⟩:Addr).add j)=some x):=fun l f=>Y.out l (b.trans f);clear b aV c5 a3 ad ac aa ay aW;generalize w'=bq at*;have r:Hid (jt c=!aI):=by
    rw[Hid,K.out,←E.out];cases ok<;>cases V<;>cases g<;>cases em<;>rfl
   clear K E;cases y:aI;case true=>
    obtain rfl:R=false:=F.out (by rw[r.out,y];rfl);clear y r F;go_wp2;go_ret;exact⟨rfl,p.out⟩
   have D:Hid (jt c=true):=by rw[Hid,r.out,y];rfl
   clear y r F;obtain⟨q,bo⟩:∃q:Nat,k-1=q:=⟨_,rfl⟩;have aZ:Hid (0<k→(k:Int)-1=(q:Int)):=fun h=>by omega
   obtain⟨d,H⟩:∃d:CV,Hid (0<k→xs[q]? =some d):=by
    by_cases aE:0<k;·exact⟨_,fun _=>List.getElem?_eq_getElem (show q<xs.length by have:=aM.out;omega)⟩
    ·exact⟨c,fun h=>absurd h aE⟩
   have ae:Hid (0<k→some L=some L∧∀j x,d.nm.cells[j]? =some x→bq.cell? ((L.add (q*7)).add j)=some x):=fun h=>by
    obtain⟨bi,bu,bj,aD,bk⟩:=(aX.out.aq p.out).at_ (show q<n by omega);cases bj;rw[H.out h]at aD;cases aD;refine⟨rfl,fun j x av=>bk j x ?_⟩;rw[CV.cells,List.getElem?_append_left (List.getElem?_eq_some_iff.1 av).1];exact av
   have bg:Hid (0<k→mB d):=fun h=>a0.out d (List.mem_of_getElem? (H.out h));have aU:Hid (0<k→∀w',Calls Tryz.prog 128 #[.agg d.nm.cells.toArray, .agg c.nm.cells.toArray] w' (aK w' (.int .i64 (bX d.nm c.nm)))):=fun h w'=>gT d.nm c.nm w' (by have:=(bg.out h).owner;omega) (by have:=aO.out.owner;omega);have J:Hid (eX xs k=!(decide (0<k)&&decide (0≤bX d.nm c.nm))):=by
    by_cases aE:0<k
    ·obtain⟨aS,rfl⟩:∃aS,k=aS+1:=⟨k-1,by omega⟩;obtain rfl:aS=q:=by omega
     rw[Hid,Ap G.out (H.out aE),D.out,decide_eq_true aE,Bool.true_and,Bool.true_and];by_cases a6:bX d.nm c.nm<0;·rw[decide_eq_true a6,cN (show¬0≤bX d.nm c.nm by omega)];rfl
     ·rw[decide_eq_false a6,dJ (show 0≤bX d.nm c.nm by omega)];rfl
    ·obtain rfl:k=0:=by omega
     rw[Hid,Aq G.out,D.out];rfl
   obtain⟨P,W⟩:∃z:Bool,decide (0<k)=z:=⟨_,rfl⟩;obtain⟨Q,a4⟩:∃z:Bool,decide (0≤bX d.nm c.nm)=z:=⟨_,rfl⟩;obtain⟨B,M⟩:∃z:Bool,(bif P then Q else false)=z:=⟨_,rfl⟩;have HB:=af M;clear M;rw[W,a4]at J;clear bo;go_upto_region 6 with fail;refine iU 14 [.int .i64 (k:Int), .bool P, .bool P,bif P then .slice (some L) n a2 else undef,bif P then .int .i64 (k:Int)else undef,bif P then .int .i64 (q:Int)else undef,bif P then .pointer (some (L.add (q*7)))else undef,bif P then .pointer (some (L.add (q*7)))else undef,bif P then .agg d.nm.cells.toArray else undef,bif P then .pointer (some ⟨g4,0,none⟩)else undef,bif P then .agg c.nm.cells.toArray else undef,bif P then .int .i64 (bX d.nm c.nm)else undef,bif P then .bool Q else undef, .bool B] ?zP ?_;case zP=>
    refine⟨?yJ,?zZ,?yA,?yB,?yC,?yD,?yE,?yF,?yG,?yH,?zJ,?zK,?zL,?zM,trivial⟩;all_goals intro u w' b a
    all_goals simp only[z1,z2,z3,z4,au,Act.put,z5,z6,z7,Nat.reduceAdd,Nat.zero_add]
    case' zZ=>simp only[show u 0=_ from a 0]
    case' yA=>simp only[show u 1=_ from a 1]
    case' yB=>
     simp only[show u 2=_ from a 2];cases P;case false=>exact bR
    case' yC=>
     simp only[show u 2=_ from a 2];cases P;case false=>exact bR
    case yD=>
     simp only[show u 4=_ from a 4,show u 2=_ from a 2];cases P;case false=>exact bR
     refine aC ?_;have X:=of_decide_eq_true W;have bw:(k:Int)-1=(q:Int):=aZ.out X;have bl:IntKind.i64.wrap (q:Int)=(q:Int):=IntWalk.i64_in _ (by have:=I.out;omega);go_simp;exact aG
    case yE=>
     simp only[show u 3=_ from a 3,show u 5=_ from a 5,show u 2=_ from a 2];cases P;case false=>exact bR
     refine aC ?_;have X:=of_decide_eq_true W;have bl:(q:Int)<(n:Int):=by have:=aZ.out X;omega
     have bx:(0:Int)≤(q:Int):=by omega
     go_simp;exact aG
    case' yF=>
     simp only[show u 6=_ from a 6,show u 2=_ from a 2];cases P;case false=>exact bR
    case yG=>
     simp only[show u 7=_ from a 7,show u 2=_ from a 2];cases P;case false=>exact bR
     refine aC ?_;exact az _ _ rfl (L.add (q*7)) rfl d.nm.cells _ (fun ax v ar=>b.an ((ae.out (of_decide_eq_true W)).2 ax v ar) (fun x=>x)) Tryz.underlying106 rfl bB aG
    case' yH=>
     simp only[show u 2=_ from a 2];cases P;case false=>exact bR
    case zJ=>
     simp only[show u 9=_ from a 9,show u 2=_ from a 2];cases P;case false=>exact bR
     refine aC ?_;exact az _ _ rfl ⟨g4,0,none⟩ rfl c.nm.cells _ (fun ax v ar=>Y.out _ b ax v ar) Tryz.underlying106 rfl bB aG
    case zK=>
     simp only[show u 8=_ from a 8,show u 10=_ from a 10,show u 2=_ from a 2];cases P;case false=>exact bR
     refine aC ?_;go_simp;refine(aU.out (of_decide_eq_true W) _).mono ?_;rintro e br⟨rfl,f4⟩;exact⟨rfl,f4⟩
    case' zL=>
     simp only[show u 11=_ from a 11,show u 2=_ from a 2];cases P;case false=>exact bR
    case zM=>
     simp only[show u 2=_ from a 2,show u 12=_ from a 12];cases P<;>exact aC (by go_simp;exact⟨by rw[←HB.out];rfl,aA⟩)
    all_goals
     try simp only[cond]
     refine aC ?_;go_simp;exact aG
   intro w' b;simp only[z1,z2,z3,z4,au,Act.put,z5,z6,z7,z8,z9,iO,iP,Nat.reduceAdd,Nat.zero_add];have p:Hid (Fr ag w w'):=p.out.trans b;clear b aU ae W a4 Y;have s:Hid (eX xs k=!B):=by
    rw[Hid,J.out,←HB.out];cases P<;>cases Q<;>rfl
   clear J HB;cases M:B;case true=>
    obtain rfl:R=false:=m.out k aM.out (by rw[s.out,M];rfl);clear M s;go_wp2;go_ret;exact⟨rfl,p.out⟩
   have aL:Hid (eX xs k=true):=by rw[Hid,s.out,M];rfl
   clear M s;have bp:n≤1099511627776:=I.out;go_wp2;go_roundw;case rel=>
    refine⟨k+1,by omega,by go_num,fun j aR=>?_,p.out⟩;by_cases h:j=k;·rw[h];exact aL.out
    ·exact a1.out j (by omega)
   case measure=>have bp:=I.out;simp[intOf];omega
  ·obtain rfl:k=n:=by omega
   have a7:¬(k:Int)<(k:Int):=by omega
   obtain rfl:R=true:=C.out (fun j aR=>a1.out j (by rw[←aY.out];exact aR));go_wp2;go_ret;exact⟨rfl,aJ.out⟩
theorem od(a:ActV)(cs:List Value)(w:World)(L:eG w)(ae:cT w cs a)(V:a.key.fF.size≤1099511627776)(W:∀c∈a.reads,mB c)(hw:∀c∈a.writes,mB c)(nr:a.reads.length≤1099511627776)(nw:a.writes.length≤1099511627776):
  Calls Tryz.prog 60 #[.agg cs.toArray] w (Hh w (gA a)):=by
 obtain⟨am,an,rfl,S,T⟩:=ae;obtain⟨p,aj,A,rfl,rfl,_,m⟩:=S.cl;obtain⟨r,ak,C,rfl,rfl,_,o⟩:=T.cl;have D:Hid (∀w',Calls Tryz.prog 111 #[.agg a.key.cells.toArray] w' (fun e M=>∃d:Int,e= .returned (.int .i64 d)∧(d==0)=dQ a.key∧Fr ag w' M)):=fun w'=>vT a.key w' V;have N:Hid (∀w',Fr ag w w'→Calls Tryz.prog 112 #[.slice p a.reads.length A] w' (aK w' (.bool (fZ a.reads)))):=fun w' f=>rn a.reads _ p A _ w' (L.aq f) (m.aq f) W nr;have CW:Hid (∀w',Fr ag w w'→Calls Tryz.prog 112 #[.slice r a.writes.length C] w' (aK w' (.bool (fZ a.writes)))):=fun w' f=>rn a.writes _ r C _ w' (L.aq f) (o.aq f) hw nw;have k:Hid (gA a=(dQ a.key&&fZ a.reads&&fZ a.writes)):=rfl;obtain⟨P,I⟩:∃z,dQ a.key=z:=⟨_,rfl⟩;obtain⟨Q,J⟩:∃z,fZ a.reads=z:=⟨_,rfl⟩;obtain⟨R,K⟩:∃z,fZ a.writes=z:=⟨_,rfl⟩;obtain⟨O,H⟩:∃z,gA a=z:=⟨_,rfl⟩;rw[I]at D;rw[J]at N;rw[K]at CW;rw[I,J,K,H]at k;rw[H];generalize a.reads.length=Y at*;generalize a.writes.length=Z at*;obtain⟨⟨t,c,n,s⟩,_,_⟩:=a;simp only[eE.cells,List.cons_append,List.nil_append]at D⊢;clear L V W hw nr nw S T m o I J K H;go_enter Tryz.func60,Tryz.ntmps60;go_wp2_with(refine ay rfl 46 (.tmp 0) rfl _ rfl ?_);intro w1 n1;have F:=af n1.fr;have y:=af n1.aF;clear n1;generalize w.heap.size=g at*;have E:Hid (∀w',Fr ag w1 w'→∀j x,[Value.int .i64 t, .int .i64 c, .int .i64 n, .string s][j]? =some x→w'.cell? ((⟨g,0,none⟩:Addr).add j)=some x):=fun w' f j x X=>by
  rw[Addr.add_mid,Nat.zero_add,(y.out.fr f (fun x=>x)).cell j];rcases j with _|_|_|_|j<;>simp at X<;>simp[←X]
 have ac:Hid (∀w',Fr ag w1 w'→w'.cell? {block:=g,off:=4}=some (.slice p Y A)):=fun w' f=>(y.out.fr f (fun x=>x)).cell 4;have c5:Hid (∀w',Fr ag w1 w'→w'.cell? {block:=g,off:=5}=some (.slice r Z C)):=fun w' f=>(y.out.fr f (fun x=>x)).cell 5;clear y;obtain⟨B,U⟩:∃z:Bool,(bif P then(bif Q then R else false)else false)=z:=⟨_,rfl⟩;have HB:=af U;clear U;go_upto_region 1 with fail;refine DX 15 [iS (.pointer (some ⟨g,0,none⟩)),iS (.agg [Value.int .i64 t, .int .i64 c, .int .i64 n, .string s].toArray),⟨fun al _=>∃d:Int,al= .int .i64 d∧(d==0)=P,fun _ _ _ _ h=>h⟩,iS (.bool P),iS (.bool P),iS ((bif P then .pointer (some ⟨g,4,none⟩)else undef)),iS ((bif P then .slice p Y A else undef)),iS ((bif P then .bool Q else undef)),iS ((bif P then .bool Q else .bool false)),iS ((bif P then .bool Q else .bool false)),iS ((bif P then(bif Q then .pointer (some ⟨g,5,none⟩)else undef)else undef)),iS ((bif P then(bif Q then .slice r Z C else undef)else undef)),iS ((bif P then(bif Q then .bool R else undef)else undef)),iS (.bool B),iS (.bool B)] ?zF ?_;case zF=>
  refine⟨?zP,?zG,?zH,?zI,?zJ,?zK,?zL,?zM,?zN,?zO,?zA,?zB,?zC,?zD,?zE,trivial⟩;all_goals intro u w' i b
  all_goals simp only[z1,z2,z3,z4,au,Act.put,z5,z6,z7,Nat.reduceAdd,Nat.zero_add]
  case zG=>
   simp only[show u 0=_ from b 0];refine aC ?_;exact az _ _ rfl ⟨g,0,none⟩ rfl [Value.int .i64 t, .int .i64 c, .int .i64 n, .string s] _ (fun ai v ah=>E.out _ i ai v ah) Tryz.underlying43 rfl fO ⟨_,rfl,aA,rfl⟩
  case zH=>
   simp only[show u 1=_ from b 1];refine aC ?_;go_simp;refine(D.out _).mono ?_;rintro e aa⟨d,rfl,l,f4⟩;exact⟨_,rfl,f4,d,rfl,l⟩
  case zI=>
   obtain⟨d,ad,l⟩:=b 2;simp only[ad];refine aC ?_;have t1:(d==0)=P:=l;go_simp;exact⟨_,rfl,aA,rfl⟩
  case' zJ=>simp only[show u 3=_ from b 3]
  case' zK=>
   simp only[show u 4=_ from b 4];cases P;case false=>exact js
  case zL=>
   simp only[show u 5=_ from b 5,show u 4=_ from b 4];cases P;case false=>exact js
   refine aC ?_;have q:=ac.out _ i;go_simp;exact⟨_,rfl,aA,rfl⟩
  case zM=>
   simp only[show u 6=_ from b 6,show u 4=_ from b 4];cases P;case false=>exact js
   refine aC ?_;go_simp;refine(N.out _ (F.out.trans i)).mono ?_;rintro e aa⟨rfl,f4⟩;exact⟨_,rfl,f4,rfl⟩
  case' zN=>
   simp only[show u 4=_ from b 4,show u 7=_ from b 7];cases P
  case' zO=>
   simp only[show u 8=_ from b 8];cases P
  case' zA=>
   simp only[show u 9=_ from b 9];cases P;case false=>exact js
   cases Q;case false=>exact js
  case zB=>
   simp only[show u 10=_ from b 10,show u 9=_ from b 9];cases P;case false=>exact js
   cases Q;case false=>exact js
   refine aC ?_;have q:=c5.out _ i;go_simp;exact⟨_,rfl,aA,rfl⟩
  case zC=>
   simp only[show u 11=_ from b 11,show u 9=_ from b 9];cases P;case false=>exact js
   cases Q;case false=>exact js
   refine aC ?_;go_simp;refine(CW.out _ (F.out.trans i)).mono ?_;rintro e aa⟨rfl,f4⟩;exact⟨_,rfl,f4,rfl⟩
  case zD=>
   simp only[show u 9=_ from b 9,show u 12=_ from b 12];cases P<;>cases Q<;>exact aC (by go_simp;exact⟨_,rfl,aA,congrArg Value.bool HB.out⟩)
  case' zE=>simp only[show u 13=_ from b 13]
  all_goals
   try simp only[cond]
   refine aC ?_;go_simp;exact⟨_,rfl,aA,rfl⟩
 intro u w' i b;simp only[z1,z2,z3,z4,au,Act.put,z5,z6,z7,z8,z9,Nat.reduceAdd,Nat.zero_add,show u 14=_ from b 14 (by omega)];clear b;have ab:=af (F.out.trans i);have G:Hid (O=B):=by
  rw[Hid,k.out,←HB.out];cases P<;>cases Q<;>cases R<;>rfl
 clear i k HB;go_wp2;go_ret;rw[G.out];exact⟨rfl,ab.out⟩
end Go.Proofs.YtphjagkehiklkaaGreatDoor
namespace Go.Proofs.YtphjagkehiklkaaGreatDoor
open Go.RowKit
theorem gH.behind{W w w':World}{v:Value}{l:List UInt8}(h:gH W w v l)(k:Fr ag w w'):gH W w' v l:=by
 obtain⟨i,g,cap,rfl,b,a,e,c,f,n,m⟩:=h;exact⟨i.trans k,g,cap,rfl,b,Nat.lt_of_lt_of_le a k.size,e,c,fun j d=>by rw[k.cell a (fun x=>x)];exact f j d,fun j d=>by rw[k.frozen a (fun x=>x)];exact n j d,fun j u hu=>by rw[k.cell a (fun x=>x)];exact m j u hu⟩
theorem gH.slice{W w:World}{v:Value}{l:List UInt8}(h:gH W w v l):∃g c,v= .slice (some ⟨g,0,none⟩) l.length c∧Rd w (fun k=>k=g) 1 (some ⟨g,0,none⟩) l.length (l.map aT):=by
 obtain⟨m,g,cap,rfl,a,d,e,b,i,n,f⟩:=h;exact⟨g,cap,rfl,by simp,fun _=>⟨_,rfl,rfl,fun j u hu=>by rw[Addr.add_mid,Nat.zero_add];exact f j u hu⟩⟩
theorem gH.store{W w:World}{g n cap p:Nat}{l:List UInt8}(h:gH W w (.slice (some ⟨g,0,none⟩) n cap) l)(t:p<l.length)(x:UInt8):gH W (w.setCell ⟨g,p,none⟩ (aT x)) (.slice (some ⟨g,0,none⟩) n cap) (l.set p x):=by
 obtain⟨s,A,o,y,b,d,i,c,q,z,v⟩:=h;cases y;have f:=q p (by omega);refine⟨Fr.setCell s (fun m=>absurd m (by simp only;omega)) _,g,cap,by rw[List.length_set],b,by simpa[World.setCell]using d,by rw[List.length_set];exact i,c,fun j a=>?_,fun j a=>?_,fun j u hu=>?_⟩;·have:=Lib.isSome_setCells g [aT x] p w ⟨g,j,none⟩ (q j a);simpa[World.setCells]using this
 ·have:=World.frozen?_setCells (w:=w) g [aT x] p ⟨g,j,none⟩;simp only[World.setCells]at this;rw[this];exact z j a
 ·by_cases a:j=p;·subst a;rw[List.map_set,List.getElem?_set_self (by simpa using t)]at hu;have e:=World.cell?_setCells_in g [aT x] j w (fun k r=>by simp at r;subst r;exact f) 0 (by simp);simp only[World.setCells,Nat.add_zero,List.getElem_cons_zero]at e;rw[e,←hu]
  ·rw[List.map_set,List.getElem?_set_ne (Ne.symm a)]at hu;have e:=World.cell?_setCells_out g [aT x] p w ⟨g,j,none⟩ (fun _ _=>by simp only[List.length_singleton];omega);simp only[World.setCells]at e;rw[e];exact v j u hu
theorem vQ{ops:Array Oper}{rest:List Oper}{I:Oper}{a:Act}{w:World}{Q:Exit→Act→World→Prop}(e:I.guard=none)(x y:Operand)(u:I.op= .store 5 x y)
  {W:World}(g p n cap:Nat)(b:UInt8)(B:a.eval x= .pointer (some ⟨g,p,none⟩))(C:a.eval y= .int .u8 ((b.toNat:Nat):Int)){l:List UInt8}(k:gH W w (.slice (some ⟨g,0,none⟩) n cap) l)(v:p<l.length)
  (h:∀w',gH W w' (.slice (some ⟨g,0,none⟩) n cap) (l.set p b)→wpList Tryz.prog ops Q rest (a.put I.dst undef) w'):wpList Tryz.prog ops Q (I::rest) a w:=by
 obtain⟨E,f,_,z,_⟩:=info_parts xq;have d:=k;obtain⟨G,F,j,A,o,s,t,r,q,D,H⟩:=d;cases A;obtain⟨i,hold⟩:=Option.isSome_iff_exists.1 (q p (by omega));have c:=Lib.rl_storeVar_one (P:=Tryz.prog) 5 E f z ⟨g,p,none⟩ (.int .u8 ((b.toNat:Nat):Int)) i rfl w hold (D p (by omega));refine wpList_plain e fun K m=>?_;unfold Oper.wp execOp;simp only[u,B,C,Instr.storeAt,Instr.sureAddr,Sem.run_bind,Sem.run_pure,Result.andThen_ok,c];exact m _ _ (h _ (k.store v b))
end Go.Proofs.YtphjagkehiklkaaGreatDoor
