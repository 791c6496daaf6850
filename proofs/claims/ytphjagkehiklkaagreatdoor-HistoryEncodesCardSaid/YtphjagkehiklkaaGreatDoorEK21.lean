/- Texts. -/
import Derived.Test.YtphjagkehiklkaaGreatDoorEK11
import Derived.Test.YtphjagkehiklkaaGreatDoorEK19
set_option linter.unusedVariables false
set_option linter.unusedSimpArgs false
set_option maxRecDepth 100000
set_option maxHeartbeats 4000000
namespace Go.Proofs.YtphjagkehiklkaaGreatDoor
open Proofs.Tryz Go.RowKit Go.Shelf
def mT(c d:CV):Bool:=zp c.nm d.nm&&(c.value.toList==d.value.toList)&&(c.bw==d.bw)
theorem JM(a b:aG):zp a b=true↔a=b:=by
 unfold zp;rw[beq_iff_eq];exact⟨cp.eq _ _,λh=>by rw[h];exact cp.refl _⟩
theorem qf(c d:CV):mT c d=true↔c=d:=by
 obtain⟨n,v,b⟩:=c;obtain⟨m,u,e⟩:=d;simp only[mT,Bool.and_eq_true,beq_iff_eq,JM,CV.mk.injEq];exact⟨λh=>⟨h.1.1,toList_inj h.1.2,h.2⟩,λh=>⟨⟨h.1,by rw[h.2.1]⟩,h.2.2⟩⟩
def zq(a b:dM):Bool:=a.tick==b.tick&&a.cls==b.cls&&a.num==b.num&&(a.fD.toList==b.fD.toList)
theorem vQ(a b:dM):zq a b=true↔a=b:=by
 obtain⟨t,c,n,s⟩:=a;obtain⟨g,d,e,f⟩:=b;simp only[zq,Bool.and_eq_true,beq_iff_eq,dM.mk.injEq];exact⟨λh=>⟨h.1.1.1,h.1.1.2,h.1.2,toList_inj h.2⟩,λh=>⟨⟨⟨h.1,h.2.1⟩,h.2.2.1⟩,by rw[h.2.2.2]⟩⟩
def iK:List CV->List CV->Bool
 |[],[]=>true
 |c::l,d::m=>mT c d&&iK l m
 |_,_=>false
theorem qg:∀(l m:List CV),iK l m=true↔l=m
 |[],[]=>by simp[iK]
 |[],_::_=>by simp[iK]
 |_::_,[]=>by simp[iK]
 |c::l,d::m=>by simp[iK,qf,qg l m]
def Hw(a b:ActV):Bool:=zq a.key b.key&&iK a.reads b.reads&&iK a.writes b.writes
theorem vO(a b:ActV):Hw a b=true↔a=b:=by
 obtain⟨k,r,w⟩:=a;obtain⟨c,d,w'⟩:=b;simp only[Hw,Bool.and_eq_true,vQ,qg,ActV.mk.injEq];exact⟨λh=>⟨h.1.1,h.1.2,h.2⟩,λh=>⟨⟨h.1,h.2.1⟩,h.2.2⟩⟩
theorem EH(c d:CV)(w:World):(binOp .neq 119 (.agg c.cells.toArray) (.agg d.cells.toArray)).run prog w= .ok (.bool (!mT c d)) w:=by
 by_cases h:c=d;·subst h;rw[(qf c c).2 rfl];obtain⟨⟨k,z,n,i,t⟩,v,b⟩:=c;simp only[CV.cells,aG.cells,List.cons_append,List.nil_append];go_simp
 ·have e:mT c d=false:=by
   cases a:mT c d;·rfl
   ·exact absurd ((qf c d).1 a) h
  rw[e];obtain⟨⟨k,z,n,i,t⟩,v,b⟩:=c;obtain⟨⟨r,u,s,i',x⟩,y,q⟩:=d;simp only[CV.cells,aG.cells,List.cons_append,List.nil_append];go_simp;intro f g j l m o p;exact h (by rw[f,toList_inj g,j,l,toList_inj m,toList_inj o,p])
theorem Ia(a b:dM)(w:World):(binOp .eql 43 (.agg a.cells.toArray) (.agg b.cells.toArray)).run prog w= .ok (.bool (zq a b)) w:=by
 by_cases h:a=b;·subst h;rw[(vQ a a).2 rfl];obtain⟨t,c,n,s⟩:=a;simp only[dM.cells];go_simp
 ·have e:zq a b=false:=by
   cases d:zq a b;·rfl
   ·exact absurd ((vQ a b).1 d) h
  rw[e];obtain⟨t,c,n,s⟩:=a;obtain⟨o,k,l,m⟩:=b;simp only[dM.cells];go_simp;intro f g i j;exact h (by rw[f,g,i,toList_inj j])
theorem vP:∀{xs a:List CV},xs.length=a.length->(∀(k:Nat)(c d:CV),xs[k]? =some c->a[k]? =some d->mT c d=true)->iK xs a=true
 |[],[],_,_=>rfl
 |c::l,d::m,h,b=>by
  rw[iK,b 0 c d rfl rfl,Bool.true_and];exact vP (by simpa using h) (λk x y e f=>b (k+1) x y (by simpa using e) (by simpa using f))
theorem Hy{xs a:List CV}{k:Nat}{c d:CV}(f:xs[k]? =some c)(b:a[k]? =some d)(h:mT c d=false):iK xs a=false:=by
 cases e:iK xs a;·rfl
 ·have:=(qg xs a).1 e;subst this;rw[f]at b;cases b;rw[(qf c c).2 rfl]at h;cases h
theorem rL(xs f:List CV)(n m:Nat)(A B:Option Addr)(c V:Nat)(S aa:Nat->Prop)(w:World)(s:CL w S A n xs)(a:CL w aa B m f)(P:n<=1099511627776):
  Calls prog 68 #[.slice A n c, .slice B m V] w (aM w (.bool (iK xs f))):=by
 by_cases q:n=m;case neg=>
  have t1:((n:Int)!=(m:Int))=true:=by rw[bne_iff_ne];omega
  have t2:((n:Int)==(m:Int))=false:=by rw[beq_eq_false_iff_ne];omega
  have J:Hid (iK xs f=false):=by
   cases e:iK xs f;·rfl
   ·have:=(qg xs f).1 e;subst this;exact absurd (s.len.symm.trans a.len) q
  rw[J.out];clear q s a P;go_enter func68,ntmps68;go_wp2;go_ret;exact aR
 subst q;have Z:=af s;have J:=af a;have z:Hid (∀(k:Nat)(c d:CV),xs[k]? =some c->f[k]? =some d->mT c d=false->iK xs f=false):=λ_ _ _=>Hy;have t:Hid ((∀(k:Nat)(c d:CV),xs[k]? =some c->f[k]? =some d->mT c d=true)->iK xs f=true):=vP (s.len.trans a.len.symm);have L:=af s.len;generalize iK xs f=R at*;have M:=af P;clear s a P;go_enter func68,ntmps68;go_wp2;go_loopw[13](λi wr=>∃k:Nat,k<=n/\i= .int .i64 k/\(∀(j:Nat)(c d:CV),j<k->xs[j]? =some c->f[j]? =some d->mT c d=true)/\Fr Nothing w wr)(λi _=>n-(intOf i).toNat);case atStart=>exact⟨0,Nat.zero_le _,rfl,(λj c d h=>by omega),aA⟩
 case round=>
  obtain⟨k,ae,rfl,W,p⟩:=hrel;have I:=af p;have U:=af W;clear p W;by_cases H:k<n
  ·obtain⟨N,x,rfl,X,g⟩:=(Z.out.ao I.out).at_ H;obtain⟨O,y,rfl,Y,b⟩:=(J.out.ao I.out).at_ H;have C:=af g;have D:=af b;have l:Hid (xs[k]? =some x/\f[k]? =some y):=⟨X,Y⟩;have qn:Hid (∀w:World,(binOp .neq 119 (.agg x.cells.toArray) (.agg y.cells.toArray)).run prog w= .ok (.bool (!mT x y)) w):=λw=>EH x y w;obtain⟨E,a⟩:∃E,mT x y=E:=⟨_,rfl⟩;rw[a]at qn;have F:=af a;have ab:(k:Int)<(n:Int):=by omega
   have ac:(0:Int)<=(k:Int):=by omega
   clear X Y g b a;go_upto_region 6 with fail;refine iH 9 [.slice (some N) n c, .int .i64 (k:Int), .pointer (some (N.add (k*7))), .agg x.cells.toArray, .slice (some O) n V, .int .i64 (k:Int), .pointer (some (O.add (k*7))), .agg y.cells.toArray, .bool (!E)] ?zA ?_;case zA=>
    refine⟨?zG,?zH,?zB,?zC,?zI,?zJ,?zD,?zE,?zF,trivial⟩;all_goals intro u w' p o
    all_goals simp only[z1,z2,z3,z4,ar,Act.put,z5,z6,z7,Nat.reduceAdd,Nat.zero_add]
    case' zB=>simp only[ah (o 0),ah (o 1)]
    case zC=>
     simp only[ah (o 2)];refine aI ?_;exact au _ _ rfl (N.add (k*7)) rfl x.cells _ (λj v Q=>p.ak (C.out j v Q) id) underlying119 rfl j4 aR
    case' zD=>simp only[ah (o 4),ah (o 5)]
    case zE=>
     simp only[ah (o 6)];refine aI ?_;exact au _ _ rfl (O.add (k*7)) rfl y.cells _ (λj v Q=>p.ak (D.out j v Q) id) underlying119 rfl j4 aR
    case zF=>
     simp only[ah (o 3),ah (o 7)];refine aI ?_;exact mJ _ _ _ _ _ rfl _ _ rfl rfl eqGuardType119 _ (qn.out _) aR
    all_goals
     refine aI ?_;go_simp;exact aR
   intro w' p;simp only[z1,z2,z3,z4,ar,Act.put,z5,z6,z7,z8,z9,jS,jT,Nat.reduceAdd,Nat.zero_add];have T:=af (I.out.trans p);clear p C D qn;cases a:E;·obtain rfl:R=false:=z.out k x y l.out.1 l.out.2 (by rw[F.out,a]);clear a;go_wp2;go_ret;exact⟨rfl,T.out⟩
   ·have K:Hid (mT x y=true):=by rw[Hid,F.out,a]
    clear a;have ag:n<=1099511627776:=M.out;go_wp2;go_roundw
    case rel=>exact⟨k+1,by omega,by go_num,λj c d ad r G=>by
     by_cases e:j=k;·subst e;rw[l.out.1]at r;rw[l.out.2]at G;cases r;cases G;exact K.out
     ·exact U.out j c d (by omega) r G,T.out⟩
    case measure=>simp[intOf];omega
  ·obtain rfl:k=n:=by omega
   have ab:¬(k:Int)<(k:Int):=by omega
   obtain rfl:R=true:=t.out (λj c d r G=>U.out j c d (by have:=(List.getElem?_eq_some_iff.1 r).1;have:=L.out;omega) r G);go_wp2;go_ret;exact⟨rfl,I.out⟩
theorem oX(a b:ActV)(cs ds:List Value)(w:World)(ap:cL w cs a)(W:cL w ds b)(nr:a.reads.length<=1099511627776)(nw:a.writes.length<=1099511627776):
  Calls prog 19 #[.agg cs.toArray, .agg ds.toArray] w (aM w (.bool (Hw a b))):=by
 obtain⟨ay,az,rfl,ag,ai⟩:=ap;obtain⟨N,n,U,rfl,rfl,_,I⟩:=ag.cl;obtain⟨O,o,V,rfl,rfl,_,K⟩:=ai.cl;obtain⟨av,ax,rfl,E,F⟩:=W;obtain⟨s,i,C,rfl,rfl,_,J⟩:=E.cl;obtain⟨t,k,D,rfl,rfl,_,L⟩:=F.cl;have ak:Hid (∀w',Fr Nothing w w'->Calls prog 68 #[.slice N a.reads.length U, .slice s b.reads.length C] w' (aM w' (.bool (iK a.reads b.reads)))):=λw' f=>rL _ _ _ _ _ _ _ _ _ _ w' (I.ao f) (J.ao f) nr;have al:Hid (∀w',Fr Nothing w w'->Calls prog 68 #[.slice O a.writes.length V, .slice t b.writes.length D] w' (aM w' (.bool (iK a.writes b.writes)))):=λw' f=>rL _ _ _ _ _ _ _ _ _ _ w' (K.ao f) (L.ao f) nw;have an:Hid (∀w:World,(binOp .eql 43 (.agg a.key.cells.toArray) (.agg b.key.cells.toArray)).run prog w= .ok (.bool (zq a.key b.key)) w):=λw=>Ia _ _ w;have ae:Hid (Hw a b=(zq a.key b.key&&iK a.reads b.reads&&iK a.writes b.writes)):=rfl;have l:Hid ((prog.info? 43).map (·.size)=some a.key.cells.length):=gj;have m:Hid ((prog.info? 43).map (·.size)=some b.key.cells.length):=gj;have d:Hid (a.key.cells.length=4/\b.key.cells.length=4):=⟨rfl,rfl⟩;rw[ae.out];generalize a.reads.length=n at*;generalize a.writes.length=o at*;generalize b.reads.length=i at*;generalize b.writes.length=k at*;generalize a.key.cells=S at*;generalize b.key.cells=A at*;generalize zq a.key b.key=P at*;generalize iK a.reads b.reads=Q at*;generalize iK a.writes b.writes=R at*;clear ag ai I K E F J L ae nr nw;go_enter func19,ntmps19;go_wp2_with(refine aD rfl 46 (.tmp 0) rfl _ rfl ?_);intro w1 n1;have ab:=af n1;clear n1;generalize G:w.heap.size=p at*;have y:Hid (aq w1 p 46 (S++[Value.slice N n U, .slice O o V]).toArray):=by have h:=ab.out.aF;rw[G]at h;exact h
 clear G;go_wp2_with(refine aD rfl 46 (.tmp 1) rfl (A++[Value.slice s i C, .slice t k D]).toArray rfl ?_);intro w2 aj;have T:=af aj;clear aj;generalize H:w1.heap.size=r at*;have HB:Hid (aq w2 r 46 (A++[Value.slice s i C, .slice t k D]).toArray):=by have h:=T.out.aF;rw[H]at h;exact h
 clear H;have HA:=af (y.out.fr T.out.fr id);have Z:=af (ab.out.fr.trans T.out.fr);have X:Hid (∀w',Fr Nothing w2 w'->∀j x,S[j]? =some x->w'.cell? ((⟨p,0,none⟩:Addr).add j)=some x):=λw' f j x M=>by
  rw[Addr.add_mid,Nat.zero_add,(HA.out.fr f id).cell j,bP,List.getElem?_append_left (List.getElem?_eq_some_iff.1 M).1];exact M
 have Y:Hid (∀w',Fr Nothing w2 w'->∀j x,A[j]? =some x->w'.cell? ((⟨r,0,none⟩:Addr).add j)=some x):=λw' f j x M=>by
  rw[Addr.add_mid,Nat.zero_add,(HB.out.fr f id).cell j,bP,List.getElem?_append_left (List.getElem?_eq_some_iff.1 M).1];exact M
 have a4:Hid (∀w',Fr Nothing w2 w'->w'.cell? {block:=p,off:=4}=some (.slice N n U)):=λw' f=>by
  rw[(HA.out.fr f id).cell 4,bP,List.getElem?_append_right (by rw[d.out.1];omega),d.out.1];rfl
 have a5:Hid (∀w',Fr Nothing w2 w'->w'.cell? {block:=p,off:=5}=some (.slice O o V)):=λw' f=>by
  rw[(HA.out.fr f id).cell 5,bP,List.getElem?_append_right (by rw[d.out.1];omega),d.out.1];rfl
 have b4:Hid (∀w',Fr Nothing w2 w'->w'.cell? {block:=r,off:=4}=some (.slice s i C)):=λw' f=>by
  rw[(HB.out.fr f id).cell 4,bP,List.getElem?_append_right (by rw[d.out.2];omega),d.out.2];rfl
 have b5:Hid (∀w',Fr Nothing w2 w'->w'.cell? {block:=r,off:=5}=some (.slice t k D)):=λw' f=>by
  rw[(HB.out.fr f id).cell 5,bP,List.getElem?_append_right (by rw[d.out.2];omega),d.out.2];rfl
 clear ab T y HA HB;obtain⟨B,W⟩:∃z:Bool,(bif P then(bif Q then R else false)else false)=z:=⟨_,rfl⟩;have HB:=af W;clear W;go_upto_region 1 with fail;refine lF 19 [.pointer (some ⟨p,0,none⟩), .agg S.toArray, .pointer (some ⟨r,0,none⟩), .agg A.toArray, .bool P, .bool P,bif P then .pointer (some ⟨p,4,none⟩)else undef,bif P then .slice N n U else undef,bif P then .pointer (some ⟨r,4,none⟩)else undef,bif P then .slice s i C else undef,bif P then .bool Q else undef,bif P then .bool Q else .bool false,bif P then .bool Q else .bool false,bif P then(bif Q then .pointer (some ⟨p,5,none⟩)else undef)else undef,bif P then(bif Q then .slice O o V else undef)else undef,bif P then(bif Q then .pointer (some ⟨r,5,none⟩)else undef)else undef,bif P then(bif Q then .slice t k D else undef)else undef,bif P then(bif Q then .bool R else undef)else undef, .bool B] ?zJ ?_;case zJ=>
  refine⟨?zS,?zK,?zT,?zL,?zM,?zN,?zO,?zP,?zQ,?zR,?zA,?zB,?zC,?zD,?zE,?zF,?zG,?zH,?zI,trivial⟩;all_goals intro u w' g c
  all_goals simp only[z1,z2,z3,z4,ar,Act.put,z5,z6,z7,Nat.reduceAdd,Nat.zero_add]
  case zK=>
   simp only[ah (c 0)];refine aI ?_;exact au _ _ rfl ⟨p,0,none⟩ rfl S _ (λad v ac=>X.out _ g ad v ac) underlying43 rfl l.out aR
  case zL=>
   simp only[ah (c 2)];refine aI ?_;exact au _ _ rfl ⟨r,0,none⟩ rfl A _ (λad v ac=>Y.out _ g ad v ac) underlying43 rfl m.out aR
  case zM=>
   simp only[ah (c 1),ah (c 3)];refine aI ?_;exact mJ .eql _ _ _ _ rfl _ _ rfl rfl eqGuardType43 _ (an.out _) aR
  case' zN=>simp only[ah (c 4)]
  case' zO=>
   simp only[ah (c 5)];cases P;case false=>exact bS
  case zP=>
   simp only[ah (c 6),ah (c 5)];cases P;case false=>exact bS
   refine aI ?_;have q:=a4.out _ g;go_simp;exact aR
  case' zQ=>
   simp only[ah (c 5)];cases P;case false=>exact bS
  case zR=>
   simp only[ah (c 8),ah (c 5)];cases P;case false=>exact bS
   refine aI ?_;have q:=b4.out _ g;go_simp;exact aR
  case zA=>
   simp only[ah (c 7),ah (c 9),ah (c 5)];cases P;case false=>exact bS
   refine aI ?_;go_simp;refine(ak.out _ (Z.out.trans g)).mono ?_;rintro e aw⟨rfl,f4⟩;exact⟨rfl,f4⟩
  case' zB=>
   simp only[ah (c 5),ah (c 10)];cases P
  case' zC=>
   simp only[ah (c 11)];cases P
  case' zD=>
   simp only[ah (c 12)];cases P;case false=>exact bS
   cases Q;case false=>exact bS
  case zE=>
   simp only[ah (c 13),ah (c 12)];cases P;case false=>exact bS
   cases Q;case false=>exact bS
   refine aI ?_;have q:=a5.out _ g;go_simp;exact aR
  case' zF=>
   simp only[ah (c 12)];cases P;case false=>exact bS
   cases Q;case false=>exact bS
  case zG=>
   simp only[ah (c 15),ah (c 12)];cases P;case false=>exact bS
   cases Q;case false=>exact bS
   refine aI ?_;have q:=b5.out _ g;go_simp;exact aR
  case zH=>
   simp only[ah (c 14),ah (c 16),ah (c 12)];cases P;case false=>exact bS
   cases Q;case false=>exact bS
   refine aI ?_;go_simp;refine(al.out _ (Z.out.trans g)).mono ?_;rintro e aw⟨rfl,f4⟩;exact⟨rfl,f4⟩
  case zI=>
   simp only[ah (c 12),ah (c 17)];cases P<;>cases Q<;>exact aI (by go_simp;exact⟨by rw[<-HB.out];rfl,aA⟩)
  all_goals
   try simp only[cond]
   refine aI ?_;go_simp;exact aR
 intro w' g;simp only[z1,z2,z3,z4,ar,Act.put,z5,z6,z7,z8,z9,jS,jT,Nat.reduceAdd,Nat.zero_add];have am:=af (Z.out.trans g);have aa:Hid ((P&&Q&&R)=B):=by
  rw[Hid,<-HB.out];cases P<;>cases Q<;>cases R<;>rfl
 clear g HB;go_wp2;go_ret;rw[aa.out];exact⟨rfl,am.out⟩
theorem xp:lN=oo.cells.toArray:=rfl
def mP:CV:=⟨oo,⟨#[53]⟩,false⟩
def clockA:ActV:=⟨⟨1,0,1,ByteArray.empty⟩,[],[mP]⟩
theorem DM:prog.built 43 [(0, .int .i64 1),(2, .int .i64 1)]=some clockA.key.cells.toArray:=by kernel_rfl
theorem Hd:prog.built 119 [(0, .agg oo.cells.toArray),(1, .string ⟨#[53]⟩)]=some mP.cells.toArray:=by kernel_rfl
theorem DK(A:Option Addr)(x y:Nat):prog.built 46 [(0, .agg clockA.key.cells.toArray),(2, .slice A x y)]=some (clockA.key.cells++[Value.slice none 0 0, .slice A x y]).toArray:=by kernel_rfl
theorem JC{w:World}{g:Nat}{c:CV}(h:aq w g 119 c.cells.toArray):ed w (.slice (some ⟨g,0,none⟩) 1 1) [c]:=by
 exact⟨rfl, .inr ⟨g,1,c.cells.toArray,rfl,Nat.zero_le _,h,Nat.le_refl _,by decide,rfl,by rfl⟩⟩
theorem uA{P:Program}{ops:Array Oper}{rest:List Oper}{u:Oper}{a:Act}{w:World}{Q:Exit->Act->World->Prop}(j:u.guard=none)(ty:TypeId)(x y:Operand)(p:u.op= .store ty x y)
  (g f:Nat)(v:Value)(r:a.eval x= .pointer (some ⟨g,f,none⟩))(s:a.eval y=v)(m:v.oneCell'=true)(d:(P.info? ty).map (·.size)=some 1)
  (t:TypeId)(cs cs':Array Value)(e:aq w g t cs)(o:f<cs.size)(i:cs.setIfInBounds f v=cs')
  (h:∀w',aq w' g t cs'->Fr (λk=>k=g) w w'->wpList P ops Q rest (a.put u.dst undef) w'):wpList P ops Q (u::rest) a w:=by
 subst i;obtain⟨b,l,q⟩:∃b,P.info? ty=some b/\b.size=1:=by
  cases he:P.info? ty with
  |none=>rw[he]at d;cases d
  |some b=>rw[he]at d;exact⟨b,rfl,by simpa using d⟩
 have c:=Lib.rl_storeVar_one (P:=P) ty b l q ⟨g,f,none⟩ v (cs[f]) m w (by rw[e.cell];simp[o]) (e.frozen _);refine wpList_plain j λK n=>?_;unfold Oper.wp execOp;simp only[p,r,s,Instr.storeAt,Instr.sureAddr,Sem.run_bind,Sem.run_pure,Result.andThen_ok,c];exact n _ _ (h _ (e.kq f v) (Fr.setCell (T:=λk=>k=g) (Fr.refl _ w) (λ_=>rfl) v))
theorem ox:∀(xs:List CV)(k:Nat),(xs.flatMap CV.cells).take (k*7)=(xs.take k).flatMap CV.cells
 |[],k=>by simp
 |c::r,0=>by simp
 |c::r,k+1=>by
  rw[List.take_succ_cons,List.flatMap_cons,List.flatMap_cons,List.take_append,List.take_of_length_le (by rw[CV.eM];omega),CV.eM,show(k+1)*7-7=k*7 by omega,ox r k]
theorem mx:∀(xs:List CV)(k:Nat),(xs.flatMap CV.cells).drop (k*7)=(xs.drop k).flatMap CV.cells
 |[],k=>by simp
 |c::r,0=>by simp
 |c::r,k+1=>by
  rw[List.drop_succ_cons,List.flatMap_cons,List.drop_append,List.drop_of_length_le (by rw[CV.eM];omega),List.nil_append,CV.eM,show(k+1)*7-7=k*7 by omega,mx r k]
theorem CL.take{w:World}{S:Nat->Prop}{A:Option Addr}{n k:Nat}{xs:List CV}(h:CL w S A n xs)(a:k<=n):CL w S A k (xs.take k):=
 ⟨by have:=h.rd.take a;rw[ox]at this;exact this,by rw[List.length_take,h.len];omega⟩
theorem CL.cut{w:World}{S:Nat->Prop}{A:Option Addr}{n k cap:Nat}{xs:List CV}(h:CL w S A n xs)(b:k<=n)(a:n<=cap):CL w S (if cap=k then A else A.map (·.add (k*7))) (n-k) (xs.drop k):=
 ⟨by have:=h.rd.cut b a;rw[mx]at this;exact this,by rw[List.length_drop,h.len]⟩
def Dr(w:World)(a:ActV)(e:Ending)(w':World):Prop:=∃cs,e= .returned (.agg cs.toArray)/\cL w' cs a/\Fr Nothing w w'/\kr w.heap.size cs
theorem vD{B:Nat}{k:dM}{c d:Value}(e:∀i,c.ownBlock=some i->B<=i)(f:∀i,d.ownBlock=some i->B<=i):kr B (k.cells++[c,d]):=λv b i a=>by
 simp only[dM.cells,List.cons_append,List.nil_append,List.mem_cons,List.not_mem_nil,or_false]at b;rcases b with rfl|rfl|rfl|rfl|rfl|rfl;·cases a
 ·cases a
 ·cases a
 ·cases a
 ·exact e i a
 ·exact f i a
theorem vz(w:World):Calls prog 49 #[] w (Dr w clockA):=by
 obtain⟨h,B,C,d,T⟩:=info_parts nX;have x:Hid (¬1*h.size>2^24):=by simp only[Hid];rw[d];omega
 have y:Hid (¬1*h.size=0):=by simp only[Hid];rw[d];omega
 have q:Hid (Instr.fill (λi=>some (i*7,7)) ((Array.range (1*7)).map (cm.cells[· %cm.cells.size]!)) [(0, .agg mP.cells.toArray)]=some mP.cells.toArray):=lj _ _ rfl (by simp);have z:Hid (Instr.fill (λi=>some (i*h.size,h.size)) ((Array.range (1*h.size)).map (cm.cells[· %cm.cells.size]!)) [(0, .agg mP.cells.toArray)]=some mP.cells.toArray):=by simp only[Hid];rw[d];exact q.out
 have N:=af DM;have M:=af Hd;have L:=af DK;have F:Hid (∀w,Calls prog 54 #[] w (aM w (.agg oo.cells.toArray))):=λw=>by rw[<-xp];exact rD w
 have n:Hid (∀j k:Value,(clockA.key.cells++[j,k]).toArray.size=6):=λj k=>rfl;have u:Hid (∀j k:Value,j.oneCell'=true->k.oneCell'=true->(clockA.key.cells++[j,k]).toArray.all (·.oneCell')=true):=λj k A S=>by simp only[dM.cells,List.cons_append,List.nil_append,List.all_toArray,List.all_cons,List.all_nil,A,S];rfl
 have b:Hid (∀(w':World)(g:Nat),aq w' g 119 mP.cells.toArray->Fr Nothing w w'->w.heap.size<=g->Dr w clockA (.returned (.agg (clockA.key.cells++[Value.slice none 0 0, .slice (some ⟨g,0,none⟩) 1 1]).toArray)) w'):=λw' g A f n1=>⟨_,rfl,⟨_,_,rfl,ed.nil _,JC A⟩,f,vD (λi s=>by cases s) (λi s=>by simp only[Value.ownBlock,Option.some.injEq]at s;omega)⟩;generalize Dr w clockA=PP at*;generalize clockA.key.cells=o at*;generalize mP.cells=c at*;generalize oo.cells=U at*;clear q;go_enter func49,ntmps49;go_wp2_with(refine an rfl 46 rfl eF kh #[.int .i64 0, .int .i64 0, .int .i64 0, .string ByteArray.empty, .slice none 0 0, .slice none 0 0] rfl ?_);intro w1 n1;have G:=af n1.fr;have D:=af n1.aF;clear n1;generalize r:w.heap.size=g0 at*;have l:=af r;clear r;go_wp2_with(refine dU rfl 43 _ rfl o.toArray _ (by simp only[List.map_toArray,List.map_cons,List.map_nil];rfl) N.out (aX.go ?zC));unfold aX;go_wp2_with fail;refine(F.out _).mono ?_;rintro e w2⟨rfl,f2⟩;have H:=af (G.out.trans f2);have E:=af (D.out.fr f2 id);clear f2 G D F;go_wp2_with(refine dU rfl 119 _ rfl c.toArray _ (by simp only[List.map_toArray,List.map_cons,List.map_nil];rfl) M.out (aX.go ?zB));unfold aX;refine wpList_buildSlice rfl 44 119 1 _ rfl c.toArray h cm underlying44 B C x.out y.out (by simp only[List.map_toArray,List.map_cons,List.map_nil];exact z.out) ?_;have t:Hid (aq (w2.alloc (.cells c.toArray 119)) w2.heap.size 119 c.toArray):=aq.new _ _ _;have O:=af (H.out.trans ((Fr.refl Nothing w2).alloc (.cells c.toArray 119)));have K:=af (E.out.fr ((Fr.refl Nothing w2).alloc (.cells c.toArray 119)) id);have m:Hid (w.heap.size<=w2.heap.size/\g0<w2.heap.size):=⟨H.out.size,E.out.lt⟩;generalize(w2.alloc (.cells c.toArray 119))=w3 at*;generalize w2.heap.size=g3 at*;go_wp2_with(refine dU rfl 46 _ rfl (o++[Value.slice none 0 0, .slice (some ⟨g3,0,none⟩) 1 1]).toArray _ (by simp only[List.map_toArray,List.map_cons,List.map_nil];rfl) (L.out _ _ _) (aX.go ?zA));unfold aX;have a:Hid ((prog.info? 46).map (·.size)=some (o++[Value.slice none 0 0, .slice (some ⟨g3,0,none⟩) 1 1]).toArray.size):=by rw[Hid,n.out];exact bQ
 refine ai rfl 46 (.tmp 0) _ rfl g0 (o++[Value.slice none 0 0, .slice (some ⟨g3,0,none⟩) 1 1]).toArray rfl rfl _ _ K.out a.out (by rw[n.out];rfl) (u.out _ _ rfl rfl) ?_;intro J I v;have Q:=af I;have P:=af (b.out J g3 (t.out.fr v (λe=>by have R:g3=g0:=e;have:=m.out;omega)) (O.out.aw v (λi s e=>by have R:i=g0:=e;have:=l.out;omega)) (by have:=m.out;have:=l.out;omega));clear I v;go_wp2;exact bodyPost_ret (results_cell_row (fn:=Tryz.f49) (p:=0) (ty:=46) results49 _ J _ 46 (o++[Value.slice none 0 0, .slice (some ⟨g3,0,none⟩) 1 1]).toArray (0,0) _ rfl Q.out underlying46 rfl a.out) rfl P.out
def pX(w:World)(e:Ending)(w':World):Prop:=∃v l,e= .returned v/\ed w' v l/\l.length<=6/\(∀c∈l,eo c)/\Fr Nothing w w'/\∀k,v.ownBlock=some k->w.heap.size<=k
structure Jl(w wr:World)(v:Value)(l:List CV)(k:Nat):Prop where
 row:ed wr v l
 len:l.length<=k
 small:∀c∈l,eo c
 fr:Fr Nothing w wr
 new:∀i,v.ownBlock=some i->w.heap.size<=i
def qt(c:CV):CV:=⟨c.nm,if c.bw then ByteArray.empty else c.value,c.bw⟩
theorem AT{c:CV}(h:eo c):eo (qt c):=⟨h.owner,h.text,by
 have:=h.value;unfold qt;simp only;split;·simp
 ·exact this⟩
theorem om(n:Nat)(xs:List CV)(A:Option Addr)(a5:Nat)(S:Nat->Prop)(w:World)(bW:CL w S A n xs)(bz:n<=9223372036854775807)(bt:n<=a5):
  Calls prog 81 #[.slice A n a5] w (pX w):=by
 have bH:Hid (∀w' G,Fr Nothing w w'->Calls prog 127 #[.slice A (min n 6) G] w' (Mw w' (min n 6) (sM (xs.take (min n 6)) (min n 6)))):=λw' G b=>by
  have:=MP (min n 6) (xs.take (min n 6)) A G S w' ((bW.take (by omega)).ao b) (by omega);rw[show min (min n 6) 24=min n 6 by omega]at this;exact this
 have bj:=af (zr (xs.take (min n 6)) (min n 6));have ae:Hid (min n 6<=a5/\min n 6<=6):=by simp only[Hid];omega
 have ba:min (n:Int) 6=((min n 6:Nat):Int):=by omega
 generalize sM (xs.take (min n 6)) (min n 6)=cF at*;generalize min n 6=m at*;clear bW;have bs:(0:Int)<=(m:Int):=by omega
 have cc:(m:Int)<=(a5:Int):=by have:=ae.out;omega
 obtain⟨Z,I,Y,D,aj⟩:=info_parts nX;have bp:Hid (¬1*Z.size>2^24):=by simp only[Hid];rw[D];omega
 have bq:Hid (¬1*Z.size=0):=by simp only[Hid];rw[D];omega
 have br:Hid (∀c:CV,Instr.fill (λi=>some (i*Z.size,Z.size)) ((Array.range (1*Z.size)).map (cm.cells[· %cm.cells.size]!)) [(0, .agg c.cells.toArray)]=some c.cells.toArray):=λc=>by rw[D];exact lj _ _ rfl (by simp)
 go_enter func81,ntmps81;go_wp2_with fail;refine(bH.out _ _ aA).mono ?_;rintro e w1⟨cv,cj,cw,cB,rfl,f1,hT⟩;have bI:=af f1;have b4:=af hT.NF;clear f1 hT bH ba bs cc;go_wp2;go_loopw[5,6](λv i wr=>∃(k:Nat)(ls:List CV),k<=m/\i= .int .i64 (k:Int)/\Jl w1 wr v ls k)(λ_ i _=>m-(intOf i).toNat);case atStart=>exact⟨0,[],Nat.zero_le _,rfl,⟨ed.nil _,by simp,by simp,aA,by intro i V;cases V⟩⟩
 case round=>
  obtain⟨k,ls,r,rfl,a9⟩:=hrel;have g:=af a9;have bJ:=af r;obtain⟨q,n6,k6,rfl,am,ap⟩:=aK a9.row;have s:Hid (n6<=6):=by have:=a9.len;have:=ae.out;have:=am.out;simp only[Hid];omega
  clear a9 r;generalize wr=w3 at*;by_cases bx:k<m
  ·have t0:decide ((k:Int)<(m:Int))=true:=cX (by omega);have cq:(k:Int)<(m:Int):=by omega
   have b0:(0:Int)<=(k:Int):=by omega
   obtain⟨bM,c,rfl,bt,U⟩:=(b4.out.ao g.out.fr).at_ bx;have aJ:=af U;have bK:=af (bj.out c (List.mem_of_getElem? bt));have bG:=af c.one;clear bt U;go_wp2_with(refine aB rfl 119 (.tmp 27) rfl (bM.add (k*7)) rfl c.cells _ ?zJ underlying119 rfl j4 (aX.go ?hold));case zJ=>exact aJ.out
   unfold aX;go_wp2_with(refine an rfl 119 rfl cm GD #[.int .i64 0, .string ByteArray.empty, .int .i64 0, .int .i64 0, .string ByteArray.empty, .string ByteArray.empty, .bool false] rfl ?_);intro cr bZ;have bk:=af bZ;clear bZ;generalize aZ:w3.heap.size=g7 at*;have ax:=af aZ;clear aZ;have bE:Hid (aq cr g7 119 #[.int .i64 0, .string ByteArray.empty, .int .i64 0, .int .i64 0, .string ByteArray.empty, .string ByteArray.empty, .bool false]):=by have h:=bk.out.aF;rw[ax.out]at h;exact h
   go_wp2_with(refine ai rfl 119 (.tmp 7) _ rfl g7 c.cells.toArray rfl rfl _ _ bE.out j4 rfl bG.out ?_);intro bd bb bR;have a0:Hid (aq bd g7 119 #[.int .i64 c.nm.kind, .string c.nm.owner, .int .i64 c.nm.number, .int .i64 c.nm.index, .string c.nm.text, .string c.value, .bool c.bw]):=bb;have bh:Hid (Fr Nothing w3 bd):=bk.out.fr.aw bR (λi V e=>by have b7:i=g7:=e;have:=ax.out;omega);clear bb bR bk bE aJ;have bO:bd.cell? ⟨g7,6,none⟩=some (.bool c.bw):=a0.out.cell 6;obtain⟨b6,aG⟩:∃z,c.bw=z:=⟨_,rfl⟩;have aO:=af aG;rw[aG]at bO;clear aG;have b5:Hid ((Value.string ByteArray.empty).oneCell'=true):=by simp[Hid,Value.oneCell']
   go_upto_if 30 with fail;clear bO;go_cut[3,5,6,7](λcl cn co cp be=>cl= .slice (some bM) m cj/\cn= .slice q n6 k6/\co= .int .i64 (k:Int)/\cp= .pointer (some ⟨g7,0,none⟩)/\aq be g7 119 (qt c).cells.toArray/\Fr Nothing w3 be);case first=>
    cases b6
    ·have aS:Hid (#[Value.int .i64 c.nm.kind, .string c.nm.owner, .int .i64 c.nm.number, .int .i64 c.nm.index, .string c.nm.text, .string c.value, .bool c.bw]=(qt c).cells.toArray):=by
      rw[Hid,qt,if_neg (by rw[aO.out];decide)];rfl
     have HB:Hid (aq bd g7 119 (qt c).cells.toArray):=by rw[<-aS.out];exact a0.out
     clear aS;go_wp2;go_meet;exact⟨rfl,rfl,rfl,rfl,HB.out,bh.out⟩
    ·have aS:Hid (#[Value.int .i64 c.nm.kind, .string c.nm.owner, .int .i64 c.nm.number, .int .i64 c.nm.index, .string c.nm.text, .string ByteArray.empty, .bool c.bw]=(qt c).cells.toArray):=by
      rw[Hid,qt,if_pos aO.out];rfl
     go_wp2_with(refine uA rfl 9 _ _ rfl g7 5 (.string ByteArray.empty) rfl rfl b5.out pD _ _ _ a0.out (show 5<7 by decide) rfl ?_);intro wc bN bT;have HB:Hid (aq wc g7 119 (qt c).cells.toArray):=by rw[<-aS.out];exact bN
     have b2:Hid (Fr Nothing w3 wc):=bh.out.aw bT (λi V e=>by have b7:i=g7:=e;have:=ax.out;omega);clear bN bT aS;go_wp2;go_meet;exact⟨rfl,rfl,rfl,rfl,HB.out,b2.out⟩
   case rest=>
    obtain⟨rfl,rfl,rfl,rfl,bX,b⟩:=hcut;have a1:=af bX;have bg:=af b;have ay:=af (AT bK.out);clear bX b a0 bh bG bK;generalize qt c=d at*;have cy:=af g.out.row;have ab:=af (show CL w3 (λ_=>True) q n6 ls from by have e:=am.out;subst e;exact⟨(Rd.ia g.out.row).any,rfl⟩);go_wp2;go_loopw[8](λi be=>∃j:Nat,j<=n6/\i= .int .i64 (j:Int)/\Fr Nothing wc be)(λi _=>n6-(intOf i).toNat);case atStart=>exact⟨0,Nat.zero_le _,rfl,aA⟩
    case round=>
     obtain⟨j,ba,rfl,b⟩:=hrel;have ad:=af ba;have a2:=af b;clear ba b;obtain⟨E,z,O⟩:∃(E:Addr)(z:CV),Hid (j<n6->q=some E/\ls[j]? =some z/\∀aa x,z.cells[aa]? =some x->wc.cell? ((E.add (j*7)).add aa)=some x):=by
      by_cases h:j<n6;·obtain⟨E,z,b9,ca,cb⟩:=(ab.out.ao bg.out).at_ h;exact⟨E,z,λ_=>⟨b9,ca,cb⟩⟩
      ·exact⟨⟨0,0,none⟩,d,λa7=>absurd a7 h⟩
     obtain⟨P,bQ⟩:∃z:Bool,decide (j<n6)=z:=⟨_,rfl⟩;have J:=af bQ;have ag:Hid (decide ((j:Int)<(n6:Int))=P):=by rw[Hid,<-J.out];exact decide_eq_decide.2 (by omega)
     obtain⟨Q,aY⟩:∃bD:Bool,decide (bL z.nm d.nm<0)=bD:=⟨_,rfl⟩;have EQ:=af aY;clear bQ aY;have M:Hid (j<n6->q=some E):=λh=>(O.out h).1;have bF:Hid (j<n6->∀w',Calls prog 128 #[.agg z.nm.cells.toArray, .agg d.nm.cells.toArray] w' (aM w' (.int .i64 (bL z.nm d.nm)))):=λh w'=>fi z.nm d.nm w' (by have:=(g.out.small z (List.mem_of_getElem? (O.out h).2.1)).owner;omega) (by have:=ay.out.owner;omega);obtain⟨B,bU⟩:∃z:Bool,(bif P then Q else false)=z:=⟨_,rfl⟩;have HB:=af bU;clear bU;go_upto_region 10 with fail;refine iH 15 [.int .i64 (j:Int), .slice q n6 k6, .int .i64 (n6:Nat), .bool P, .bool P,bif P then .slice q n6 k6 else undef,bif P then .int .i64 (j:Int)else undef,bif P then .pointer (some (E.add (j*7)))else undef,bif P then .pointer (some (E.add (j*7)))else undef,bif P then .agg z.nm.cells.toArray else undef,bif P then .pointer (some ⟨g7,0,none⟩)else undef,bif P then .agg d.nm.cells.toArray else undef,bif P then .int .i64 (bL z.nm d.nm)else undef,bif P then .bool Q else undef, .bool B] ?zK ?_;case zK=>
      refine⟨?yK,?yL,?zN,?zO,?zP,?zQ,?zR,?zS,?zT,?zU,?zA,?zB,?zC,?zD,?zE,trivial⟩;all_goals intro u w' b a
      all_goals simp only[z1,z2,z3,z4,ar,Act.put,z5,z6,z7,Nat.reduceAdd,Nat.zero_add]
      case' zN=>simp only[ah (a 1)]
      case zO=>
       simp only[ah (a 0),ah (a 2)];refine aI ?_;have t1:=ag.out;have t2:=J.out;go_simp;exact aR
      case' zP=>simp only[ah (a 3)]
      case' zQ=>
       simp only[ah (a 4)];cases P;case false=>exact bS
      case' zR=>
       simp only[ah (a 4)];cases P;case false=>exact bS
      case zS=>
       simp only[ah (a 5),ah (a 6),ah (a 4)];cases P;case false=>exact bS
       refine aI ?_;have r:=of_decide_eq_true J.out;have bn:q=some E:=M.out r;have aL:(j:Int)<(n6:Int):=by omega
       have a6:(0:Int)<=(j:Int):=by omega
       clear M;subst bn;go_simp;exact aR
      case' zT=>
       simp only[ah (a 7),ah (a 4)];cases P;case false=>exact bS
      case zU=>
       simp only[ah (a 8),ah (a 4)];cases P;case false=>exact bS
       refine aI ?_;have r:=of_decide_eq_true J.out;exact au _ _ rfl (E.add (j*7)) rfl z.nm.cells _ (λaa v X=>(a2.out.trans b).ak ((O.out r).2.2 aa v (by rw[CV.cells,List.getElem?_append_left (List.getElem?_eq_some_iff.1 X).1];exact X)) id) underlying106 rfl aW aR
      case' zA=>
       simp only[ah (a 4)];cases P;case false=>exact bS
      case zB=>
       simp only[ah (a 10),ah (a 4)];cases P;case false=>exact bS
       refine aI ?_;exact au _ _ rfl ⟨g7,0,none⟩ rfl d.nm.cells _ (λaa v X=>by rw[Addr.add_mid,Nat.zero_add,(a1.out.fr (a2.out.trans b) id).cell aa,bP,CV.cells,List.getElem?_append_left (List.getElem?_eq_some_iff.1 X).1];exact X) underlying106 rfl aW aR
      case zC=>
       simp only[ah (a 9),ah (a 11),ah (a 4)];cases P;case false=>exact bS
       refine aI ?_;have r:=of_decide_eq_true J.out;go_simp;refine(bF.out r _).mono ?_;rintro e aN⟨rfl,f4⟩;exact⟨rfl,f4⟩
      case zD=>
       simp only[ah (a 12),ah (a 4)];cases P;case false=>exact bS
       refine aI ?_;have t:=EQ.out;go_simp;exact aR
      case zE=>
       simp only[ah (a 4),ah (a 13)];cases P<;>exact aI (by go_simp;exact⟨by rw[<-HB.out];rfl,aA⟩)
      all_goals
       try simp only[cond]
       refine aI ?_;go_simp;exact aR
     intro w' b;simp only[z1,z2,z3,z4,ar,Act.put,z5,z6,z7,z8,z9,jS,jT,Nat.reduceAdd,Nat.zero_add];have a3:=af (a2.out.trans b);clear b a2 bF EQ;cases B
     ·generalize w'=aN at*;have L:Hid (Fr Nothing w3 aN):=bg.out.trans a3.out;clear HB;go_upto_region 12 with fail;refine FG 9 Nothing (λi=>i==7) (λi j=>(i==7&&(j==0||j==4||j==6))) [⟨λK al=>∃i:Nat,K= .slice (some ⟨i,0,none⟩) 0 0/\al.ownsRow 0 119 7 (.slice (some ⟨i,0,none⟩) 0 0) 0 []/\aN.heap.size<=i,λ_ _ _ f⟨i,e,h,l⟩=>⟨i,e,aP h f (λ_ _ x=>x),l⟩⟩,iS (.slice q n6 k6),iS (.int .i64 (j:Int)),iS (.slice q j k6),⟨λK al=>al.ownsRow 0 119 7 K j ((ls.take j).flatMap CV.cells)/\∀k,K.ownBlock=some k->aN.heap.size<=k,λ_ _ _ f h=>⟨aP h.1 f (λ_ _ x=>x),h.2⟩⟩,iS (.agg d.cells.toArray),⟨λK al=>∃i:Nat,K= .slice (some ⟨i,0,none⟩) 1 1/\aq al i 119 d.cells.toArray,λ_ _ _ f⟨i,e,h⟩=>⟨i,e,h.fr f id⟩⟩,⟨λK al=>ed al K (ls.take j++[d])/\∀k,K.ownBlock=some k->aN.heap.size<=k,λ_ _ _ f h=>⟨h.1.ao f,h.2⟩⟩,⟨λK al=>ed al K (ls.take j++[d])/\∀k,K.ownBlock=some k->aN.heap.size<=k,λ_ _ _ f h=>⟨h.1.ao f,h.2⟩⟩] ?zM ?_;case zM=>
       refine⟨?yD,?yO,?yP,?yE,?yF,?yG,?yH,?yI,?yJ,trivial⟩;all_goals intro u w' b a cA
       all_goals simp only[z1,z2,z3,z4,ar,Act.put,z5,z6,z7,Nat.reduceAdd,Nat.zero_add]
       case yD=>
        refine aI ?_;refine lX 44 119 rfl Z underlying44 I ?_;intro b1 bz;exact⟨_,rfl,bz.fr,⟨w'.heap.size,rfl,bz.Km,b.size⟩⟩
       case yE=>
        simp only[ah (a 1),ah (a 2)];refine aI ?_;have aL:(j:Int)<=(k6:Int):=by have:=ad.out;have:=ap.out;omega
        have a6:(0:Int)<=(j:Int):=by omega
        go_simp;exact⟨_,rfl,aA,rfl⟩
       case yF=>
        obtain⟨i0,b8,bs,cC⟩:=a 0;simp only[b8,ah (a 3)];refine aI ?_;refine Cx (.tmp 49) (.tmp 52) 44 rfl 119 Z cm 7 80 underlying44 I Y D aj rfl (by decide) i0 rfl bs (λ_=>True) q j k6 ((ls.take j).flatMap CV.cells) rfl ((ab.out.ao (L.out.trans b)).take ad.out).rd (by have:=ad.out;have:=s.out;omega) (by have:=ad.out;have:=s.out;omega) ?_;intro v5 b1 ch bu cg;exact⟨_,rfl,bu,ch,λk r=>(cg k r).elim (λe=>by omega) (λe=>Nat.le_trans b.size e)⟩
       case yG=>
        refine aI ?_;exact au _ _ rfl ⟨g7,0,none⟩ rfl d.cells _ (ly (a1.out.fr (a3.out.trans b) id)) underlying119 rfl j4 ⟨_,rfl,aA,rfl⟩
       case yH=>
        simp only[ah (a 5)];refine aI ?_;refine wp_buildSlice 44 119 1 #[(0, .tmp 54)] rfl d.cells.toArray Z cm underlying44 I Y bp.out bq.out ?_ ?_;·simp only[List.map_toArray,List.map_cons,List.map_nil];exact br.out d
        ·exact⟨_,rfl,aA.alloc _,⟨w'.heap.size,rfl,aq.new _ _ _⟩⟩
       case yI=>
        obtain⟨cd,bY⟩:=a 4;obtain⟨i6,aL,ce⟩:=a 6;simp only[aL];refine aI ?_;refine uM _ (.tmp 53) (.tmp 55) 44 rfl 119 Z cm 7 80 underlying44 I Y D aj rfl (by decide) _ _ _ rfl cd (λ_=>True) (some ⟨i6,0,none⟩) 1 1 d.cells rfl ⟨rfl,λ_=>⟨_,rfl,trivial,λaa x ci=>by rw[Addr.add_mid,Nat.zero_add,ce.cell,bP];exact ci⟩⟩ (uR d) (by have:=ad.out;have:=s.out;omega) (by decide) ?_;intro cD cE H;refine⟨_,rfl,⟨b.aw H.fr (λk r e=>by have:=bY k e;omega),?_⟩,?_,λk r=>(H.eL k r).elim (bY k) (λh=>Nat.le_trans b.size h)⟩;·exact⟨nP,λ_ h=>h,λ_ h=>h,λ_ h=>h,nP,λ_ h=>h,nP,nP,nP,trivial⟩
        ·have h:=H.own;unfold ed;rw[show(ls.take j++[d]).length=j+1 by rw[aT,List.length_take,List.length_singleton,Nat.min_eq_left (by have:=ad.out;have:=am.out;omega)],List.flatMap_append];simpa using h
       case yJ=>
        obtain⟨cf,ck⟩:=a 7;refine aI ?_;go_simp;exact⟨_,rfl,aA,cf,ck⟩
       all_goals
        refine aI ?_;go_simp;exact⟨_,rfl,aA,rfl⟩
      intro u w' b a;obtain⟨a8,bB⟩:=a 8 (by omega);obtain⟨bf,bC,bA,bo,cx,b3⟩:=aK a8;rw[bo]at a8 bB;simp only[z1,z2,z3,z4,ar,Act.put,z5,z6,z7,z8,z9,Nat.reduceAdd,Nat.zero_add];clear a;simp only[bo];have aU:=af a8;have a4:=af bB;have ac:=af (a3.out.trans b);clear b a8 bB bo;obtain⟨Q,aY⟩:∃bD:Bool,zp z.nm d.nm=bD:=⟨_,rfl⟩;have EQ:=af aY;clear aY;obtain⟨C,bV⟩:∃z:Bool,(bif P then Q else false)=z:=⟨_,rfl⟩;have aJ:=af bV;clear bV;have aV:Hid (∀W,Fr Nothing w' W->ed W (.slice bf bC bA) (ls.take j++[d])):=λW f=>aU.out.ao f;clear aU;generalize w'=b1 at*;go_upto_region 13 with fail;refine iH 14 [.int .i64 (j:Int), .slice q n6 k6, .int .i64 (n6:Nat), .bool P, .bool P,bif P then .slice q n6 k6 else undef,bif P then .int .i64 (j:Int)else undef,bif P then .pointer (some (E.add (j*7)))else undef,bif P then .pointer (some (E.add (j*7)))else undef,bif P then .agg z.nm.cells.toArray else undef,bif P then .pointer (some ⟨g7,0,none⟩)else undef,bif P then .agg d.nm.cells.toArray else undef,bif P then .bool Q else undef, .bool C] ?zL ?_;case zL=>
       refine⟨?yM,?yN,?zV,?zW,?zX,?zY,?zZ,?yA,?yB,?yC,?zF,?zG,?zH,?zI,trivial⟩;all_goals intro u w' b a
       all_goals simp only[z1,z2,z3,z4,ar,Act.put,z5,z6,z7,Nat.reduceAdd,Nat.zero_add]
       case' zV=>simp only[ah (a 1)]
       case zW=>
        simp only[ah (a 0),ah (a 2)];refine aI ?_;have t1:=ag.out;have t2:=J.out;go_simp;exact aR
       case' zX=>simp only[ah (a 3)]
       case' zY=>
        simp only[ah (a 4)];cases P;case false=>exact bS
       case' zZ=>
        simp only[ah (a 4)];cases P;case false=>exact bS
       case yA=>
        simp only[ah (a 5),ah (a 6),ah (a 4)];cases P;case false=>exact bS
        refine aI ?_;have r:=of_decide_eq_true J.out;have bn:q=some E:=M.out r;have aL:(j:Int)<(n6:Int):=by omega
        have a6:(0:Int)<=(j:Int):=by omega
        clear M;subst bn;go_simp;exact aR
       case' yB=>
        simp only[ah (a 7),ah (a 4)];cases P;case false=>exact bS
       case yC=>
        simp only[ah (a 8),ah (a 4)];cases P;case false=>exact bS
        refine aI ?_;have r:=of_decide_eq_true J.out;exact au _ _ rfl (E.add (j*7)) rfl z.nm.cells _ (λaa v X=>(ac.out.trans b).ak ((O.out r).2.2 aa v (by rw[CV.cells,List.getElem?_append_left (List.getElem?_eq_some_iff.1 X).1];exact X)) id) underlying106 rfl aW aR
       case' zF=>
        simp only[ah (a 4)];cases P;case false=>exact bS
       case zG=>
        simp only[ah (a 10),ah (a 4)];cases P;case false=>exact bS
        refine aI ?_;exact au _ _ rfl ⟨g7,0,none⟩ rfl d.nm.cells _ (λaa v X=>by rw[Addr.add_mid,Nat.zero_add,(a1.out.fr (ac.out.trans b) id).cell aa,bP,CV.cells,List.getElem?_append_left (List.getElem?_eq_some_iff.1 X).1];exact X) underlying106 rfl aW aR
       case zH=>
        simp only[ah (a 9),ah (a 11),ah (a 4)];cases P;case false=>exact bS
        refine aI ?_;exact mJ _ _ _ _ _ rfl _ _ rfl rfl eqGuardType106 _ (by rw[<-EQ.out];exact Hz z.nm d.nm _) aR
       case zI=>
        simp only[ah (a 4),ah (a 12)];cases P<;>exact aI (by go_simp;exact⟨by rw[<-aJ.out];rfl,aA⟩)
       all_goals
        try simp only[cond]
        refine aI ?_;go_simp;exact aR
      intro w' b;simp only[z1,z2,z3,z4,ar,Act.put,z5,z6,z7,z8,z9,jS,jT,Nat.reduceAdd,Nat.zero_add];have aU:=af (aV.out _ b);have F:=af (bg.out.trans (ac.out.trans b));clear b aV;generalize w'=bc at*;have cz:=ad.out;have cu:IntKind.i64.wrap ((k:Int)+1)=(k:Int)+1:=IntWalk.i64_in _ (by have:=bJ.out;have:=ae.out;omega);have aQ:Hid (C=true->j<n6):=λh=>by
       have a7:=aJ.out;rw[h]at a7;cases P;·cases a7
       ·exact of_decide_eq_true J.out
      clear J ag EQ aJ O M ac a1;cases C
      ·clear aQ;have aL:(j:Int)<=(n6:Int):=by omega
       have a6:(0:Int)<=(j:Int):=by omega
       obtain⟨N,hN⟩:∃N,(ls.take j++[d]).length=N:=⟨_,rfl⟩;obtain⟨aE,y⟩:∃aE,(ls.take j++[d]).flatMap CV.cells=aE:=⟨_,rfl⟩;obtain⟨T,o⟩:∃T,(ls.drop (j)).flatMap CV.cells=T:=⟨_,rfl⟩;have bm:Hid (bc.ownsRow 0 119 7 (.slice bf bC bA) N aE):=by rw[Hid,<-hN,<-y];exact aU.out
       have bl:Hid (Rd bc (λ_=>True) 7 (if k6=j then q else q.map (·.add ((j)*7))) (n6-(j)) T):=by rw[Hid,<-o];exact((ab.out.ao F.out).cut (k:=j) (cap:=k6) (by omega) ap.out).rd
       have R:Hid (∀u∈T,u.oneCell'=true):=by
        rw[Hid,<-o];intro u hu;obtain⟨G,_,p⟩:=List.mem_flatMap.1 hu;exact uR G u p
       have av:Hid ((N+(n6-(j)))*80<=140737488355328):=by
        have:=s.out;rw[Hid,<-hN,aT,List.length_take,List.length_singleton];omega
       have bi:=af hN;have az:=af y;have aC:=af o;clear hN y o;go_wp2_with(refine fJ _ rfl _ _ 44 rfl 119 Z cm 7 80 underlying44 I Y D aj rfl (by decide) _ _ _ rfl bm.out (λ_=>True) _ _ _ T rfl bl.out R.out av.out (by decide) ?_);all_goals
        intro v10 aH H;have aD:Hid (Jl w1 aH v10 (ls.take j++[d]++ls.drop (j)) (k+1)):=by
         refine⟨?_,?_,?_,?_,?_⟩;·have h:=H.own;unfold ed;rw[List.flatMap_append,aT,List.length_drop,<-am.out,bi.out,az.out,aC.out];exact h
         ·have:=g.out.len;have:=am.out;have:=ad.out;rw[aT,aT,List.length_take,List.length_drop,List.length_singleton];omega
         ·intro G p;rw[List.mem_append,List.mem_append,List.mem_singleton]at p;rcases p with(h|rfl)|h;·exact g.out.small G (List.mem_of_mem_take h)
          ·exact ay.out
          ·exact g.out.small G (List.mem_of_mem_drop h)
         ·exact(g.out.fr.trans F.out).aw H.fr (λi V e=>by have:=a4.out i e;have:=g.out.fr.size;have:=L.out.size;omega)
         ·intro i V;have:=g.out.fr.size;have:=L.out.size;have:=F.out.size;rcases H.eL i V with h|h;·have:=a4.out i h;omega
          ·omega
        clear H;go_wp2;go_roundw;case rel=>exact⟨k+1,_,by omega,by go_num,aD.out⟩
        case measure=>simp[intOf];omega
      ·have bv:j<n6:=aQ.out rfl;have cs:IntKind.i64.wrap ((j:Int)+1)=(j:Int)+1:=IntWalk.i64_in _ (by have:=s.out;omega);have aL:(j:Int)+1<=(n6:Int):=by omega
       have a6:(0:Int)<=(j:Int)+1:=by omega
       obtain⟨N,hN⟩:∃N,(ls.take j++[d]).length=N:=⟨_,rfl⟩;obtain⟨aE,y⟩:∃aE,(ls.take j++[d]).flatMap CV.cells=aE:=⟨_,rfl⟩;obtain⟨T,o⟩:∃T,(ls.drop (j+1)).flatMap CV.cells=T:=⟨_,rfl⟩;have bm:Hid (bc.ownsRow 0 119 7 (.slice bf bC bA) N aE):=by rw[Hid,<-hN,<-y];exact aU.out
       have bl:Hid (Rd bc (λ_=>True) 7 (if k6=j+1 then q else q.map (·.add ((j+1)*7))) (n6-(j+1)) T):=by rw[Hid,<-o];exact((ab.out.ao F.out).cut (k:=j+1) (cap:=k6) (by omega) ap.out).rd
       have R:Hid (∀u∈T,u.oneCell'=true):=by
        rw[Hid,<-o];intro u hu;obtain⟨G,_,p⟩:=List.mem_flatMap.1 hu;exact uR G u p
       have av:Hid ((N+(n6-(j+1)))*80<=140737488355328):=by
        have:=s.out;rw[Hid,<-hN,aT,List.length_take,List.length_singleton];omega
       have bi:=af hN;have az:=af y;have aC:=af o;clear hN y o;go_wp2_with(refine fJ _ rfl _ _ 44 rfl 119 Z cm 7 80 underlying44 I Y D aj rfl (by decide) _ _ _ rfl bm.out (λ_=>True) _ _ _ T rfl bl.out R.out av.out (by decide) ?_);all_goals
        intro v10 aH H;have aD:Hid (Jl w1 aH v10 (ls.take j++[d]++ls.drop (j+1)) (k+1)):=by
         refine⟨?_,?_,?_,?_,?_⟩;·have h:=H.own;unfold ed;rw[List.flatMap_append,aT,List.length_drop,<-am.out,bi.out,az.out,aC.out];exact h
         ·have:=g.out.len;have:=am.out;have:=ad.out;rw[aT,aT,List.length_take,List.length_drop,List.length_singleton];omega
         ·intro G p;rw[List.mem_append,List.mem_append,List.mem_singleton]at p;rcases p with(h|rfl)|h;·exact g.out.small G (List.mem_of_mem_take h)
          ·exact ay.out
          ·exact g.out.small G (List.mem_of_mem_drop h)
         ·exact(g.out.fr.trans F.out).aw H.fr (λi V e=>by have:=a4.out i e;have:=g.out.fr.size;have:=L.out.size;omega)
         ·intro i V;have:=g.out.fr.size;have:=L.out.size;have:=F.out.size;rcases H.eL i V with h|h;·have:=a4.out i h;omega
          ·omega
        clear H;go_wp2;go_roundw;case rel=>exact⟨k+1,_,by omega,by go_num,aD.out⟩
        case measure=>simp[intOf];omega
     ·have bv:j<n6:=by
       have h:=HB.out;cases P;·cases h
       ·exact of_decide_eq_true J.out
      have cs:IntKind.i64.wrap ((j:Int)+1)=(j:Int)+1:=IntWalk.i64_in _ (by have:=s.out;omega);clear HB J ag;go_wp2;go_roundw;case rel=>exact⟨j+1,by omega,by go_num,a3.out⟩
      case measure=>simp[intOf];omega
  ·obtain rfl:k=m:=by have:=bJ.out;omega
   have t0:decide ((k:Int)<(k:Int))=false:=ct (by omega);go_wp2;go_ret;exact⟨_,ls,rfl,g.out.row,by have:=g.out.len;have:=ae.out;omega,g.out.small,bI.out.trans g.out.fr,λi V=>by have:=g.out.new i V;have:=bI.out.size;omega⟩
theorem ck.Eo{w w':World}{T:Nat->Prop}{g:Nat}{ty:TypeId}{cs:Array Value}(c:aq w g ty cs)(b:ty≠177)(d:Fr T w w')(hT:∀k,T k->k=g):∀{a:Option Addr}{t:Tr},ck w a t->ck w' a t
 |_, .leaf,h=>h
 |_, .node _ _ _ _,⟨k,l,ra,e,i,j,f⟩=>⟨k,l,ra,e,i.Eo c b d hT,j.Eo c b d hT,f.fr d (λx=>dn c f b (hT k x).symm)⟩
theorem dQ.Eo{w w':World}{T:Nat->Prop}{g s:Nat}{ty:TypeId}{cs:Array Value}{L:List Ent}(h:dQ w s L)(b:aq w g ty cs)(f:ty≠177)(i:ty≠174)(c:Fr T w w')(hT:∀k,T k->k=g):dQ w' s L:=by
 obtain⟨t,⟨a,d,j⟩,e⟩:=h;exact⟨t,⟨a,d.fr c (λx=>dn b d i (hT s x).symm),j.Eo b f c hT⟩,e⟩
structure DL(w W:World)(g a:Nat)(S:Nat->Prop)(s:Nat)(st:dc)(last:aG)(L:List Ent):Prop where
 rr:Rr W g S st.1 st.2.1 st.2.2
 lb:aq W a 106 last.cells.toArray
 sl:dQ W s L
 fr:Fr Nothing w W
 new:w.heap.size<=g/\w.heap.size<=a
 ap:∀k,S k->k<a
theorem DL.read{w W W':World}{g a s:Nat}{S:Nat->Prop}{st st':dc}{last:aG}{L:List Ent}(h:DL w W g a S s st last L)(k:fp W g S W' st'.1 st'.2.1 st'.2.2):DL w W' g a S s st' last L:=by
 obtain⟨⟨A,n,c,b,_,_⟩,_,_⟩:=h.rr;exact⟨k.rr,h.lb.fr k.fr (λe=>dn b h.lb (by decide) (show a=g from e).symm),h.sl.Eo b (by decide) (by decide) k.fr (λ_ x=>x),h.fr.aw k.fr (λi f e=>by have d:i=g:=e;have:=h.new;omega),h.new,h.ap⟩
theorem DL.cJ{w W W':World}{g a s:Nat}{S:Nat->Prop}{st:dc}{last:aG}{L:List Ent}(h:DL w W g a S s st last L)(f:Fr Nothing W W'):DL w W' g a S s st last L:=
 ⟨h.rr.iZ f,h.lb.fr f id,h.sl.ao f,h.fr.trans f,h.new,h.ap⟩
theorem DL.put{w W W':World}{g a s:Nat}{S:Nat->Prop}{st:dc}{last m:aG}{L:List Ent}(h:DL w W g a S s st last L)(d:aq W' a 106 m.cells.toArray)(f:Fr (λk=>k=a) W W'):DL w W' g a S s st m L:=by
 obtain⟨⟨A,n,c,j,_,_⟩,_,_⟩:=h.rr;exact⟨h.rr.kl f (λe=>dn j h.lb (by decide) e) (λk l e=>by have b:k=a:=e;have:=h.ap k l;omega),d,h.sl.Eo h.lb (by decide) (by decide) f (λ_ x=>x),h.fr.aw f (λi o e=>by have b:i=a:=e;have:=h.new;omega),h.new,h.ap⟩
theorem DL.state{w W W':World}{g b s c:Nat}{S:Nat->Prop}{st:dc}{last:aG}{L a:List Ent}(h:DL w W g b S s st last L)(f:Fr Nothing W W')(k:dQ W' c a):DL w W' g b S c st last a:=
 ⟨h.rr.iZ f,h.lb.fr f id,k,h.fr.trans f,h.new,h.ap⟩
def GS(w:World)(a:Int×List Ent)(e:Ending)(w':World):Prop:=∃p,e= .returned (.tuple #[.pointer p, .int .i64 a.1])/\Fr Nothing w w'/\((a.1=0/\∃s,p=some ⟨s,0,none⟩/\dQ w' s a.2)\/(a.1≠0/\p=none))
def Jd(w:World)(g b:Nat)(S:Nat->Prop)(N:Nat)(c:Int×List Ent)(s i:Value)(W:World):Prop:=
 ∃(k a:Nat)(st:dc)(last:aG)(L:List Ent),k<=N/\s= .pointer (some ⟨a,0,none⟩)/\i= .int .i64 (k:Int)/\L.length=k/\jU L last st/\(L=[]->last.owner.size=0)/\iz (N-k) st last L=c/\DL w W g b S a st last L
theorem Gz(st:dc):(aV st).1.length<=65536:=by
 unfold aV aE;split;·simp
 ·split;·simp
  next h=>
   simp only[cg]at h⊢;split;·simp
   ·split;·simp
    ·split;·simp
     next a b c=>
      simp only[List.length_take];omega
theorem Ed{n:Nat}{st:dc}{last:aG}{L:List Ent}(h:(aV st).2.2.2≠0):iz (n+1) st last L=((aV st).2.2.2,[]):=by
 rw[iz,if_pos h]
theorem Ee{n:Nat}{st:dc}{last:aG}{L:List Ent}(a:(aV st).2.2.2=0)(h:(dh (aV st).1).2≠0):iz (n+1) st last L=((dh (aV st).1).2,[]):=by
 rw[iz,if_neg (by simp[a]),if_pos h]
theorem Ef{n:Nat}{st:dc}{last:aG}{L:List Ent}(a:(aV st).2.2.2=0)(b:(dh (aV st).1).2=0)(h:0<L.length/\bL (dh (aV st).1).1 last<=0):iz (n+1) st last L=(32,[]):=by
 rw[iz,if_neg (by simp[a]),if_neg (by simp[b]),if_pos h]
theorem Eg{n:Nat}{st:dc}{last:aG}{L:List Ent}(a:(aV st).2.2.2=0)(b:(dh (aV st).1).2=0)(c:¬(0<L.length/\bL (dh (aV st).1).1 last<=0))(h:(aV (aV st).2).2.2.2≠0):iz (n+1) st last L=((aV (aV st).2).2.2.2,[]):=by
 rw[iz,if_neg (by simp[a]),if_neg (by simp[b]),if_neg c,if_pos h]
theorem Eh{n:Nat}{st:dc}{last:aG}{L:List Ent}(a:(aV st).2.2.2=0)(b:(dh (aV st).1).2=0)(c:¬(0<L.length/\bL (dh (aV st).1).1 last<=0))(h:(aV (aV st).2).2.2.2=0):
  iz (n+1) st last L=iz n (aV (aV st).2).2 (dh (aV st).1).1 (L++[((dh (aV st).1).1,⟨(aV (aV st).2).1.toArray⟩)]):=by
 rw[iz,if_neg (by simp[a]),if_neg (by simp[b]),if_neg c,if_neg (by simp[h])]
theorem L0(l:List UInt8)(aS:Int)(hm:0<=aS):0<=(aE 0 (aO aS) (l,0,0)).1/\(aE 0 (aO aS) (l,0,0)).1<=aS:=by
 unfold aE;simp only[ne_eq,not_true_eq_false,if_false];split;·exact⟨Int.le_refl _,hm⟩
 next h=>
  simp only[aO]at h⊢;split at h;·omega
  next a=>
   have b:(pn l 9).2.2=0:=by omega
   have:¬aS<((pn l 9).1:Int):=λe=>a ⟨b,e⟩;omega
theorem GR(A:Option Addr)(n c:Nat)(l:List UInt8)(bK:Nat->Prop)(w:World)(bx:Rd w bK 1 A n (l.map bv))(bu:l.length<=110000)(bY:dO w):
  Calls prog 106 #[.slice A n c] w (GS w (iW l)):=by
 have bw:l.length=n:=by simpa using bx.1
 have bG:=af bY;have ap:=af bx;have ak:Hid (n<=1099511627776):=by simp only[Hid];omega
 have b3:=af bu;have al:=L0 l 65536 (by omega);obtain⟨N,hN⟩:∃N:Nat,(aE 0 (aO 65536) (l,0,0)).1=(N:Int):=⟨(aE 0 (aO 65536) (l,0,0)).1.toNat,by omega⟩;obtain⟨R,d⟩:∃R,iW l=R:=⟨_,rfl⟩;have ax:Hid (iz N (aE 0 (aO 65536) (l,0,0)).2 Iw []=R):=by
  simp only[Hid];rw[<-d,iW,hN,Int.toNat_natCast]
 have ag:Hid (jU [] Iw (aE 0 (aO 65536) (l,0,0)).2):=jU.nil bu _ (ig 65536 (l,0,0));rw[d];rw[hN]at al;have am:=af hN;have ci:N<=65536:=by omega
 clear bx bw bu bY hN al d;go_enter func106,ntmps106;go_wp2_with fail;refine(jV A n c l _ bK ap.out ak.out).mono ?_;rintro e w1⟨g,S,rfl,aU,f1,aS,aQ⟩;have bJ:=af aU;have bE:=af f1;have bj:Hid (w.heap.size<=g):=aS;have ay:Hid (∀k,S k->k<w1.heap.size):=λk X=>(aQ k X).2;clear aU f1 aS aQ;go_wp2_with fail;refine(o3 _).mono ?_;rintro e w2⟨a7,rfl,aY,f2⟩;have aH:Hid (dQ w2 a7 []):=⟨.leaf,aY,rfl⟩;have bq:=af (bJ.out.iZ f2);have bF:=af (bE.out.trans f2);have az:Hid (∀k,S k->k<w2.heap.size):=λk X=>Nat.lt_of_lt_of_le (ay.out k X) f2.size;clear aY f2 bJ bE ay;go_wp2_with fail;refine(jz g S l 0 0 65536 _ bq.out).mono ?_;rintro e w3⟨rfl,a⟩;rw[am.out];have o:Hid (fp w2 g S w3 (aE 0 (aO 65536) (l,0,0)).2.1 (aE 0 (aO 65536) (l,0,0)).2.2.1 (aE 0 (aO 65536) (l,0,0)).2.2.2):=a;clear a;go_wp2_with(refine an rfl 106 rfl pG so (ji 0 ByteArray.empty 0 0 ByteArray.empty) rfl ?_);intro bA n4;have E:Hid (DL w bA g w3.heap.size S a7 (aE 0 (aO 65536) (l,0,0)).2 Iw []):=by
  obtain⟨⟨b1,cf,ca,bt,_,_⟩,_,_⟩:=bq.out;have a6:=bF.out.aw o.out.fr (T':=eH g) (T:=Nothing) (λi cc e=>by have cb:i=g:=e;have:=bj.out;omega);exact⟨o.out.rr.iZ n4.fr,n4.aF,(aH.out.Eo bt (by decide) (by decide) o.out.fr (λ_ x=>x)).ao n4.fr,a6.trans n4.fr,⟨bj.out,a6.size⟩,λk X=>Nat.lt_of_lt_of_le (az.out k X) o.out.fr.size⟩
 clear n4 o aH bq bF az bj ap ak am;generalize w3.heap.size=C at*;have aj:Hid (Jd w g C S N R (.pointer (some ⟨a7,0,none⟩)) (.int .i64 0) bA):=⟨0,a7,_,_,_,by omega,rfl,rfl,rfl,ag.out,(λ_=>rfl),ax.out,E.out⟩;clear ag ax E;go_wp2;go_loopw[5,24](λs i wr=>Jd w g C S N R s i wr)(λ_ i _=>N-(intOf i).toNat);case atStart=>exact aj.out
 case round=>
  obtain⟨k,s1,st,last,L,X,rfl,rfl,aP,bX,bZ,bW,aN⟩:=hrel;have bo:Hid (L=[]->last.owner.size<=1099511627776):=λe=>by rw[bZ e];omega
  have ac:=af bX;have a4:=af bW;have E:=af aN;have bI:=af aP;clear bX bW aN aj aP bZ;have bl:Hid (last.owner.size<=1099511627776):=by
   rcases ac.out.last with e|⟨M,v,e⟩;·exact bo.out e
   ·have:=ac.out.owner (last,v) (by rw[e];simp);simp only at this;simp only[Hid];omega
  by_cases cd:k<N
  ·have t0:decide ((k:Int)<(N:Int))=true:=cX (by omega);have ab:Hid (iz (N-k-1+1) st last L=R):=by simp only[Hid];rw[show N-k-1+1=N-k by omega];exact a4.out
   clear a4;go_wp2_with fail;refine(kH g S st.1 st.2.1 st.2.2 65536 _ E.out.rr).mono ?_;rintro e bM⟨rfl,a⟩;have H:Hid (DL w bM g C S s1 (aV st).2 last L):=E.out.read (st':=(aV st).2) a;rw[show aE [] (cg 65536) (st.1,st.2.1,st.2.2)=aV st from rfl];clear a E;go_wp2_with fail;refine(j8 g S _ _ _ _ H.out.rr).mono ?_;rintro e ch⟨rfl,f2⟩;have a0:=af (H.out.cJ f2);clear f2 H;by_cases aJ:(aV st).2.2.2≠0
   ·have D:((aV st).2.2.2 !=0)=true:=by rw[bne_iff_ne];exact aJ
    have b:Hid (R=((aV st).2.2.2,[])):=by simp only[Hid];rw[<-ab.out,Ed aJ]
    have be:=af aJ;generalize(aV st).2.2.2=W at*;clear aJ;go_wp2;go_ret2;refine⟨none,?_,a0.out.fr, .inr ⟨?_,rfl⟩⟩;·rw[b.out];first|done|rfl
    ·rw[b.out];exact be.out
   have D:((aV st).2.2.2 !=0)=false:=by rw[bne_eq_false_iff_eq];omega
   have Y:Hid ((aV st).2.2.2=0):=by simp only[Hid];omega
   have bH:Hid ((aV st).1.length<=65536/\(aV st).1.length<=110000):=by
    have aL:=qY 65536 st;have bU:=ac.out.len;have a6:(aV st).1.length<=65536:=Gz st;exact⟨a6,by omega⟩
   obtain⟨m,hm⟩:∃m,dh (aV st).1=m:=⟨_,rfl⟩;have I:=af hm;have bC:Hid (∀w',Fr Nothing w w'->Calls prog 118 #[tV (aV st).1] w' (λe aZ=>e= .returned (.tuple #[.agg m.1.cells.toArray, .int .i64 m.2])/\Fr Nothing w' aZ)):=λw' f=>by
    have h:=xO ⟨(aV st).1.toArray⟩ w' (bG.out.ao f) (by have:=bH.out.1;simp[ByteArray.size];omega);unfold rB at h;rw[nS,hm]at h;exact h
   have bm:Hid (m.1.owner.size<=110000/\m.1.text.size<=110000):=by
    have h:=pk (aV st).1;rw[hm]at h;have:=bH.out.2;simp only[Hid];omega
   clear aJ hm;generalize bz:tV (aV st).1=cj at*;generalize y:(aV st).2.2.2=W at D⊢;obtain rfl:W=0:=by rw[<-y];exact Y.out
   clear y;clear bz;go_wp2_with fail;refine(bC.out _ a0.out.fr).mono ?_;rintro e bN⟨rfl,f3⟩;have ba:=af (a0.out.cJ f3);clear f3 a0 bC D;go_wp2_with(refine an rfl 106 rfl pG so (ji 0 ByteArray.empty 0 0 ByteArray.empty) rfl ?_);intro b4 n4;have bn:=af n4;clear n4;generalize aT:bN.heap.size=r at*;have F:=af aT;clear aT;have aC:Hid (aq b4 r 106 (ji 0 ByteArray.empty 0 0 ByteArray.empty)):=by have h:=bn.out.aF;rw[F.out]at h;exact h
   go_wp2_with(refine ai rfl 106 (.tmp 12) _ rfl r m.1.cells.toArray rfl rfl _ _ aC.out j5 rfl m.1.one ?_);intro b6 b5 f5;have J:=af b5;have ad:Hid (Fr Nothing bN b6):=bn.out.fr.aw f5 (λi cc e=>by have cb:i=r:=e;have:=F.out;omega);have a1:=af (ba.out.cJ ad.out);have bc:Hid (r≠C):=by have:=ba.out.lb.lt;have:=F.out;simp only[Hid];omega
   clear b5 f5 bn aC ad ba F;have bd:Hid (r≠C):=bc.out;by_cases aK:m.2≠0
   ·have D:(m.2 !=0)=true:=by rw[bne_iff_ne];exact aK
    have b:Hid (R=(m.2,[])):=by simp only[Hid];rw[<-ab.out,Ee Y.out (by rw[I.out];exact aK),I.out]
    have bf:=af aK;generalize m.2=W at*;clear aK;go_wp2;go_ret2;refine⟨none,?_,a1.out.fr, .inr ⟨?_,rfl⟩⟩;·rw[b.out];first|done|rfl
    ·rw[b.out];exact bf.out
   have D:(m.2 !=0)=false:=by rw[bne_eq_false_iff_eq];omega
   have Z:Hid ((dh (aV st).1).2=0):=by simp only[Hid];rw[I.out];omega
   clear aK;have bB:Hid (∀w',Calls prog 128 #[.agg m.1.cells.toArray, .agg last.cells.toArray] w' (aM w' (.int .i64 (bL m.1 last)))):=λw'=>fi m.1 last w' (by have:=bm.out;omega) bl.out;obtain⟨P,bQ⟩:∃z:Bool,decide (0<k)=z:=⟨_,rfl⟩;obtain⟨Q,bR⟩:∃z:Bool,decide (bL m.1 last<=0)=z:=⟨_,rfl⟩;obtain⟨B,bV⟩:∃z:Bool,(bif P then Q else false)=z:=⟨_,rfl⟩;have HB:=af bV;clear bV;have ae:Hid (decide (0<L.length/\bL m.1 last<=0)=B):=by rw[Hid,<-HB.out,<-bQ,<-bR,bI.out];simp
   go_upto_region 14 with fail;refine lF 8 [.int .i64 (k:Int), .bool P, .bool P,bif P then .agg m.1.cells.toArray else undef,bif P then .agg last.cells.toArray else undef,bif P then .int .i64 (bL m.1 last)else undef,bif P then .bool Q else undef, .bool B] ?_ ?_
   ·refine⟨?zL,?zE,?zF,?zG,?zH,?zI,?zJ,?zK,trivial⟩;all_goals intro u w' U d
    all_goals simp only[z1,z2,z3,z4,ar,Act.put,z5,z6,z7,Nat.reduceAdd,Nat.zero_add]
    case' zE=>simp only[ah (d 0)]
    case' zF=>simp only[ah (d 1)]
    case zG=>
     simp only[ah (d 2)];cases P;case false=>exact bS
     refine aI ?_;exact au _ _ rfl ⟨r,0,none⟩ rfl m.1.cells _ (λj x V=>by rw[Addr.add_mid,Nat.zero_add];exact(J.out.fr U id).cell j|>.trans (by rw[bP];exact V)) underlying106 rfl aW aR
    case zH=>
     simp only[ah (d 2)];cases P;case false=>exact bS
     refine aI ?_;exact au _ _ rfl ⟨C,0,none⟩ rfl last.cells _ (λj x V=>by rw[Addr.add_mid,Nat.zero_add];exact(a1.out.lb.fr U id).cell j|>.trans (by rw[bP];exact V)) underlying106 rfl aW aR
    case zI=>
     simp only[ah (d 3),ah (d 4),ah (d 2)];cases P;case false=>exact bS
     refine aI ?_;go_simp;refine(bB.out _).mono ?_;rintro e bA⟨rfl,f4⟩;exact⟨rfl,f4⟩
    case' zJ=>
     simp only[ah (d 5),ah (d 2)];cases P;case false=>exact bS
    case zK=>
     simp only[ah (d 2),ah (d 6)];cases P<;>exact aI (by go_simp;exact⟨by rw[<-HB.out];rfl,aA⟩)
    all_goals
     try simp only[cond]
     refine aI ?_;go_simp;exact aR
   ·intro w' U;simp only[z1,z2,z3,z4,ar,Act.put,z5,z6,z7,z8,z9,jS,jT,Nat.reduceAdd,Nat.zero_add];have bs:=U;clear U;clear HB bQ bR;have HB:=af ae.out;clear ae;have a2:=af (a1.out.cJ bs);have K:=af (J.out.fr bs id);clear bs a1 J bB;cases G:B;case true=>
     rw[G]at HB;have b:Hid (R=(32,[])):=by simp only[Hid];rw[<-ab.out,Ef Y.out Z.out (by rw[I.out];exact of_decide_eq_true HB.out)]
     clear G;go_wp2;go_ret2;refine⟨none,?_,a2.out.fr, .inr ⟨?_,rfl⟩⟩;·rw[b.out];first|done|rfl
     ·rw[b.out];simp
    case false=>
     rw[G]at HB;have a8:Hid (¬(0<L.length/\bL (dh (aV st).1).1 last<=0)):=by simp only[Hid];rw[I.out];exact of_decide_eq_false HB.out
     clear G HB;go_wp2_with(refine aB rfl 106 (.tmp 12) rfl ⟨r,0,none⟩ rfl m.1.cells _ ?zA underlying106 rfl aW (aX.go ?zC));case zA=>exactλj x V=>by rw[Addr.add_mid,Nat.zero_add];exact K.out.cell j|>.trans (by rw[bP];exact V)
     unfold aX;refine ai rfl 106 (.tmp 7) _ rfl C m.1.cells.toArray rfl rfl _ _ a2.out.lb j5 rfl m.1.one ?_;intro b8 b7 f7;have a3:=af (a2.out.put b7 f7);have NE:Hid (r≠C):=bd.out;have O:=af (K.out.fr f7 (λe=>NE.out e));clear b7 f7 a2 K;go_wp2_with fail;refine(kH g S (aV st).2.1 (aV st).2.2.1 (aV st).2.2.2 65536 _ a3.out.rr).mono ?_;rintro e br⟨rfl,a⟩;have av:Hid (fp b8 g S br (aV (aV st).2).2.1 (aV (aV st).2).2.2.1 (aV (aV st).2).2.2.2):=a;have bb:Hid (DL w br g C S s1 (aV (aV st).2).2 m.1 L):=a3.out.read (st':=(aV (aV st).2).2) a;have aD:Hid (aq br r 106 m.1.cells.toArray):=by
      obtain⟨⟨b1,cf,ca,bt,_,_⟩,_,_⟩:=a3.out.rr;exact O.out.fr av.out.fr (λe=>dn bt O.out (by decide) (show r=g from e).symm)
     rw[show aE [] (cg 65536) ((aV st).2.1,(aV st).2.2.1,(aV st).2.2.2)=aV (aV st).2 from rfl];clear a av a3 O;go_wp2_with fail;refine(j8 g S _ _ _ _ bb.out.rr).mono ?_;rintro e b9⟨rfl,f9⟩;have aa:=af (bb.out.cJ f9);have aG:=af (aD.out.fr f9 id);clear f9 bb aD;by_cases c3:(aV (aV st).2).2.2.2≠0
     ·have D:((aV (aV st).2).2.2.2 !=0)=true:=by rw[bne_iff_ne];exact c3
      have b:Hid (R=((aV (aV st).2).2.2.2,[])):=by simp only[Hid];rw[<-ab.out,Eg Y.out Z.out a8.out c3]
      have bg:=af c3;generalize(aV (aV st).2).2.2.2=W at*;clear c3;go_wp2;go_ret2;refine⟨none,?_,aa.out.fr, .inr ⟨?_,rfl⟩⟩;·rw[b.out];first|done|rfl
      ·rw[b.out];exact bg.out
     have D:((aV (aV st).2).2.2.2 !=0)=false:=by rw[bne_eq_false_iff_eq];omega
     have a9:Hid ((aV (aV st).2).2.2.2=0):=by simp only[Hid];omega
     have bp:Hid (jU (L++[(m.1,⟨(aV (aV st).2).1.toArray⟩)]) m.1 (aV (aV st).2).2/\dC m.1 ⟨(aV (aV st).2).1.toArray⟩ L=L++[(m.1,⟨(aV (aV st).2).1.toArray⟩)]/\da m.1=true):=by
      have h:=ac.out.next Z.out a8.out a9.out;have aL:=(sK Z.out).1;rw[I.out]at h aL;exact⟨h.1,h.2.1,aL⟩
     have bi:Hid (iz (N-k-1) (aV (aV st).2).2 m.1 (L++[(m.1,⟨(aV (aV st).2).1.toArray⟩)])=R):=by
      simp only[Hid];rw[<-ab.out,Eh Y.out Z.out a8.out a9.out,I.out]
     have bk:Hid ((aV (aV st).2).1.length<=65536):=Gz _;have bD:Hid (∀w',Fr Nothing b9 w'->Calls prog 130 #[.pointer (some ⟨s1,0,none⟩), .agg m.1.cells.toArray,tV (aV (aV st).2).1] w' (y8 w' L m.1 ⟨(aV (aV st).2).1.toArray⟩)):=λw' f=>xQ L m.1 _ s1 w' (aa.out.sl.ao f) (bG.out.ao (aa.out.fr.trans f)) ac.out.jZ ⟨by have:=bm.out;omega,by have:=bm.out;omega⟩;clear c3;generalize y:(aV (aV st).2).2.2.2=W at D⊢;obtain rfl:W=0:=by rw[<-y];exact a9.out
     clear y;go_wp2_with(refine aB rfl 106 (.tmp 12) rfl ⟨r,0,none⟩ rfl m.1.cells _ ?zB underlying106 rfl aW (aX.go ?zD));case zB=>exactλj x V=>by rw[Addr.add_mid,Nat.zero_add];exact aG.out.cell j|>.trans (by rw[bP];exact V)
     unfold aX;go_wp2_with fail;refine(bD.out _ aA).mono ?_;rintro e bO⟨p,q,rfl,bT,t⟩;obtain⟨rfl,s2,rfl,b0⟩:q=0/\∃s2,p=some ⟨s2,0,none⟩/\dQ bO s2 (L++[(m.1,⟨(aV (aV st).2).1.toArray⟩)]):=by
      rw[<-bp.out.2.1];rcases t with⟨_,_,h⟩|⟨h,_⟩|⟨_,h,_⟩;·exact h
      ·rw[bp.out.2.2]at h;cases h
      ·exact absurd bk.out (by simp[ByteArray.size]at h;omega)
     have b2:Hid (DL w bO g C S s2 (aV (aV st).2).2 m.1 (L++[(m.1,⟨(aV (aV st).2).1.toArray⟩)])):=aa.out.state bT b0;clear t b0 bT bD aa aG D;go_wp2;go_roundw;case rel=>
      refine⟨k+1,s2,_,_,_,by omega,rfl,by go_num,?_,bp.out.1,(λe=>by simp at e),?_,b2.out⟩;·have:=bI.out;simp;omega
      ·rw[show N-(k+1)=N-k-1 by omega];exact bi.out
     case measure=>simp[intOf];omega
  ·have t0:decide ((k:Int)<(N:Int))=false:=ct (by omega);obtain⟨ce,hce⟩:∃ce,dK st=ce:=⟨_,rfl⟩;have b:Hid (R=(ce,L)):=by
    have h:=a4.out;rw[show N-k=0 by omega,iz,hce]at h;exact h.symm
   have CL:Hid (∀w',Fr Nothing wr w'->Calls prog 72 #[.pointer (some ⟨g,0,none⟩)] w' (aM w' (.int .i64 ce))):=λw' U=>by
    have h:=pP g S st.1 st.2.1 st.2.2 w' (E.out.rr.iZ U);rw[<-hce];exact h.mono (λe aZ⟨aL,bU⟩=>⟨aL,by rw[bU];exact aA⟩)
   clear hce a4;go_wp2_with fail;refine(CL.out _ aA).mono ?_;rintro e bM⟨rfl,f1⟩;have H:=af (E.out.cJ f1);clear f1 CL E;by_cases a5:ce=0
   ·subst a5;go_wp2;go_ret2;refine⟨some ⟨s1,0,none⟩,?_,H.out.fr, .inl ⟨?_,s1,rfl,?_⟩⟩;·rw[b.out];first|done|rfl
    ·rw[b.out];first|done|rfl
    ·rw[b.out];exact H.out.sl
   ·have D:(ce !=0)=true:=by rw[bne_iff_ne];exact a5
    have bh:=af a5;clear a5;go_wp2;go_ret2;refine⟨none,?_,H.out.fr, .inr ⟨?_,rfl⟩⟩;·rw[b.out];first|done|rfl
    ·rw[b.out];exact bh.out
end Go.Proofs.YtphjagkehiklkaaGreatDoor
