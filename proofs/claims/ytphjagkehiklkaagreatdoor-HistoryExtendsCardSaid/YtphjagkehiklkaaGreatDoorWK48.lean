/- Texts. -/
import Derived.Test.YtphjagkehiklkaaGreatDoorWK46
set_option linter.unusedVariables false
set_option linter.unusedSimpArgs false
set_option maxRecDepth 100000
set_option maxHeartbeats 4000000
namespace Go.Proofs.YtphjagkehiklkaaGreatDoor
open Go.RowKit Go.Shelf
def ou(E:List Ent)(L:List ActV)(m n:Int):List (List UInt8)×Int:=if 0≤n∧n≤L.length∧0≤m∧m≤n then Lt.lx (cj E L) (m+1) (n+1)else([],2)
theorem xm(h:Nat)(E:List Ent)(L:List ActV)(T:Nat→Prop)(m n:Int)(w:World)(Q:fK w h E L T)(H:bB w)(G:L.length≤65536):Calls Tryz.prog 34 #[.pointer (some ⟨h,0,none⟩), .int .i64 m, .int .i64 n] w (Lt.im w (ou E L m n)):=by
 obtain⟨b,s,g,va,vk,K,A,c,mb,p,rfl⟩:=Q;obtain⟨P,f,y⟩:=p.kW;obtain⟨J,n1,O,rfl,H1,_⟩:=aU f;have M:Hid (Calls Tryz.prog 55 #[.pointer (some ⟨h,0,none⟩)] w (aY w (.bool false))):=kQ w h b (p.aH.cell 0);have D:Hid (∀(k j:Nat),k≤j→j≤L.length→Calls Tryz.prog 88 #[.pointer (some ⟨g,0,none⟩), .int .i64 ((k:Int)+1), .int .i64 ((j:Int)+1)] w (Lt.im w (Lt.lx (cj E L) ((k:Int)+1) ((j:Int)+1)))):=fun k j B z=>
  Lt.yC _ w g (cj E L) _ _ (r7 p.log) (by rw[gj];omega) H (by omega) (by omega);have d:Hid (n1=L.length):=H1.out;have r:=af G;obtain⟨U,x⟩:∃U,ou E L m n=U:=⟨_,rfl⟩;have i:Hid (U=if 0≤n∧n≤L.length∧0≤m∧m≤n then Lt.lx (cj E L) (m+1) (n+1)else([],2)):=x.symm;rw[x];have R:w.cell? {block:=h,off:=1}=some (.slice J n1 O):=p.aH.cell 1;have S:w.cell? {block:=h,off:=4}=some (.pointer (some ⟨g,0,none⟩)):=p.aH.cell 4;clear p f y H1 H G x;go_enter Tryz.func34,Tryz.ntmps34;go_wp2_with fail;refine M.out.mono ?_;rintro e w'⟨rfl,rfl⟩;have a:Hid (¬(0≤n∧n≤L.length∧0≤m∧m≤n)→U=([],2)):=fun h=>by rw[i.out,if_neg h]
 by_cases l:n<0;·have t1:decide (n<0)=true:=decide_eq_true l;obtain rfl:=a.out (by omega);clear l;go_wp2;go_ret2;exact Lt.im.none aD
 have t1:decide (n<0)=false:=decide_eq_false l;by_cases o:(n1:Int)<n;·have t2:decide ((n1:Int)<n)=true:=decide_eq_true o;obtain rfl:=a.out (by have:=d.out;omega);clear l o;go_wp2;go_ret2;exact Lt.im.none aD
 have t2:decide ((n1:Int)<n)=false:=decide_eq_false o;by_cases t:m<0;·have t3:decide (m<0)=true:=decide_eq_true t;obtain rfl:=a.out (by omega);clear l o t;go_wp2;go_ret2;exact Lt.im.none aD
 have t3:decide (m<0)=false:=decide_eq_false t;by_cases u:n<m;·have t4:decide (n<m)=true:=decide_eq_true u;obtain rfl:=a.out (by omega);clear l o t u;go_wp2;go_ret2;exact Lt.im.none aD
 have t4:decide (n<m)=false:=decide_eq_false u;obtain⟨j,z⟩:∃j:Nat,n=j:=⟨n.toNat,by omega⟩;obtain⟨k,B⟩:∃k:Nat,m=k:=⟨m.toNat,by omega⟩;have F:Hid (U=Lt.lx (cj E L) (m+1) (n+1)):=by rw[Hid,i.out,if_pos (by have:=d.out;omega)]
 have C:Hid (Calls Tryz.prog 88 #[.pointer (some ⟨g,0,none⟩), .int .i64 (m+1), .int .i64 (n+1)] w (Lt.im w U)):=by
  have q:=D.out k j (by omega) (by have:=d.out;omega);rw[←z,←B]at q;rw[F.out];exact q
 have w1:IntKind.i64.wrap (n+1)=n+1:=IntWalk.i64_in _ (by have:=d.out;have:=r.out;omega);have w2:IntKind.i64.wrap (m+1)=m+1:=IntWalk.i64_in _ (by have:=d.out;have:=r.out;omega);clear i D a l o t u z B F;go_wp2_with fail;refine C.out.mono ?_;rintro e w2⟨v,rfl,I⟩;have N:=af I;clear I C;go_wp2;go_ret2;exact⟨v,rfl,N.out⟩
def rB(a:List UInt8)(m:Int)(root:List UInt8)(n:Int)(path:List (List UInt8)):Bool:=
 if 0≤n∧n≤65536∧0≤m∧m≤n then(bif decide ((Lt.eZ a (m+1) (n+1) path).2.2=0)then(bif decide ((Lt.eZ a (m+1) (n+1) path).1=a)then decide ((Lt.eZ a (m+1) (n+1) path).2.1=root)else false)else false)else false
theorem kT(a:List UInt8)(L:a.length=32)(root:List UInt8)(ac:root.length=32)(m n:Int)(path:List (List UInt8))(p:Nat)(A:Option Addr)(c:Nat)(S:Nat→Prop)(w:World)(ab:Lt.eM w S A p path)(am:p≤c)(l:c≤9223372036854775807)(al:bB w):
  Calls Tryz.prog 35 #[aE a, .int .i64 m,aE root, .int .i64 n, .slice A p c] w (aJ w (.bool (rB a m root n path))):=by
 have U:Hid (∀w',Fr ag w w'→(0≤n∧n≤65536∧0≤m∧m≤n)→Calls Tryz.prog 36 #[aE a, .int .i64 (m+1), .int .i64 (n+1), .slice A p c] w' (aJ w' (.tuple #[aE (Lt.eZ a (m+1) (n+1) path).1,aE (Lt.eZ a (m+1) (n+1) path).2.1, .int .i64 (Lt.eZ a (m+1) (n+1) path).2.2]))):=fun w' f h=>
  Lt.mV a L _ _ (by omega) (by omega) path p A c S w' (ab.ar f) am l (al.ar f);obtain⟨l1,l2⟩:=Lt.qO a (m+1) (n+1) path L ab.each;obtain⟨I,v⟩:∃I,rB a m root n path=I:=⟨_,rfl⟩;have k:Hid (I=if 0≤n∧n≤65536∧0≤m∧m≤n then(bif decide ((Lt.eZ a (m+1) (n+1) path).2.2=0)then(bif decide ((Lt.eZ a (m+1) (n+1) path).1=a)then decide ((Lt.eZ a (m+1) (n+1) path).2.1=root)else false)else false)else false):=v.symm;rw[v];generalize(Lt.eZ a (m+1) (n+1) path).2.2=J at*;generalize(Lt.eZ a (m+1) (n+1) path).2.1=B at*;generalize(Lt.eZ a (m+1) (n+1) path).1=z at*;have V:Hid (Lt.bT (z.map aS).toArray):=Lt.bT.of l1;have W:Hid (Lt.bT (B.map aS).toArray):=Lt.bT.of l2;have ai:Hid (∀w:World,(binOp .eql 38 (.agg (z.map aS).toArray) (.agg (a.map aS).toArray)).run Tryz.prog w= .ok (.bool (decide (z=a))) w):=fun w=>oU w _ Tryz.underlying38 z a l1 L;have aj:Hid (∀w:World,(binOp .eql 38 (.agg (B.map aS).toArray) (.agg (root.map aS).toArray)).run Tryz.prog w= .ok (.bool (decide (B=root))) w):=fun w=>oU w _ Tryz.underlying38 B root l2 ac;have iOq:Hid ((Tryz.prog.info? 38).map (·.size)=some (a.map aS).length):=by rw[Hid,List.length_map,L];exact cg
 have IR:Hid ((Tryz.prog.info? 38).map (·.size)=some (root.map aS).length):=by rw[Hid,List.length_map,ac];exact cg
 have au:Hid ((Tryz.prog.info? 38).map (·.size)=some (z.map aS).length):=by rw[Hid,List.length_map,l1];exact cg
 have av:Hid ((Tryz.prog.info? 38).map (·.size)=some (B.map aS).length):=by rw[Hid,List.length_map,l2];exact cg
 obtain⟨g,r⟩:∃g,decide (z=a)=g:=⟨_,rfl⟩;obtain⟨C,s⟩:∃C,decide (B=root)=C:=⟨_,rfl⟩;obtain⟨b,t⟩:∃b,(J==0)=b:=⟨_,rfl⟩;have Y:=af t;have ak:decide (J=0)=b:=by rw[←t];by_cases h:J=0<;>simp[h]
 rw[r,s,ak]at k;rw[r]at ai;rw[s]at aj;unfold aE at U⊢;generalize z.map aS=M at*;generalize B.map aS=N at*;generalize a.map aS=E at*;generalize root.map aS=aa at*;clear v l1 l2 L ac ab al r s t ak am l;go_enter Tryz.func35,Tryz.ntmps35;go_wp2_with(refine aA rfl 38 (.tmp 0) rfl E.toArray rfl ?_);intro w1 n1;have ah:=af n1.fr;have G:=af n1.aH;clear n1;generalize w.heap.size=g5 at*;go_wp2_with(refine aA rfl 38 (.tmp 2) rfl aa.toArray rfl ?_);intro w2 P;have D:=af (ah.out.trans P.fr);have ad:=af P.aH;have Q:=af (G.out.fr P.fr (fun x=>x));clear P ah G;generalize w1.heap.size=g7 at*;have i:Hid (¬(0≤n∧n≤65536∧0≤m∧m≤n)→I=false):=fun h=>by rw[k.out,if_neg h]
 by_cases o:n<0;·have t1:decide (n<0)=true:=decide_eq_true o;obtain rfl:=i.out (by omega);clear o;go_wp2;go_ret;exact⟨rfl,D.out⟩
 have t1:decide (n<0)=false:=decide_eq_false o;by_cases F:65536<n;·have t2:decide (65536<n)=true:=decide_eq_true F;obtain rfl:=i.out (by omega);clear o F;go_wp2;go_ret;exact⟨rfl,D.out⟩
 have t2:decide (65536<n)=false:=decide_eq_false F;by_cases K:m<0;·have t3:decide (m<0)=true:=decide_eq_true K;obtain rfl:=i.out (by omega);clear o F K;go_wp2;go_ret;exact⟨rfl,D.out⟩
 have t3:decide (m<0)=false:=decide_eq_false K;by_cases O:n<m;·have t4:decide (n<m)=true:=decide_eq_true O;obtain rfl:=i.out (by omega);clear o F K O;go_wp2;go_ret;exact⟨rfl,D.out⟩
 have t4:decide (n<m)=false:=decide_eq_false O;have aq:Hid (I=(bif b then(bif g then C else false)else false)):=by rw[Hid,k.out,if_pos (by omega)]
 have H:Hid (∀w',Fr ag w w'→Calls Tryz.prog 36 #[.agg E.toArray, .int .i64 (m+1), .int .i64 (n+1), .slice A p c] w' (aJ w' (.tuple #[.agg M.toArray, .agg N.toArray, .int .i64 J]))):=fun w' f=>U.out w' f (by omega);have ax:IntKind.i64.wrap (n+1)=n+1:=IntWalk.i64_in _ (by omega);have aC:IntKind.i64.wrap (m+1)=m+1:=IntWalk.i64_in _ (by omega);have Z:Hid (∀j x,E[j]? =some x→w2.cell? ((⟨g5,0,none⟩:Addr).add j)=some x):=fE Q.out;clear o F K O k i U;go_wp2_with(refine aF rfl 38 (.tmp 5) rfl ⟨g5,0,none⟩ rfl E _ ?zD Tryz.underlying38 rfl iOq.out (bj.go ?zE));case zD=>first|exact Z.out|exact fun j x aw=>by have q:=Z.out j x aw;rw[Addr.add_mid,Nat.zero_add]at q;exact q
 unfold bj;go_wp2_with fail;refine(H.out _ D.out).mono ?_;rintro e w3⟨rfl,f3⟩;have ae:=af f3;clear f3 H Z t1 t2 t3 t4 ax aC;go_wp2_with(refine pb rfl rfl rfl rfl 38 11 12 rfl rfl _ rfl _ rfl aI dW aB rfl M.toArray N.toArray (fun _ _=>rfl) (fun _ _=>rfl) (fun _ _=>rfl) (fun _ _=>rfl) V.out.info V.out.zero V.out.one W.out.info W.out.zero W.out.one ?_);intro aD g11 g12 _ _ _ b1 b2 f4;have an:=af b1;have ao:=af b2;have X:=af (ae.out.trans f4);have R:=af (Q.out.fr X.out (fun x=>x));have T:=af (ad.out.fr X.out (fun x=>x));clear b1 b2 f4 ae Q ad;go_upto_region 4 with fail;refine iQ 13 [.int .i64 J, .bool b, .bool b,bif b then .agg M.toArray else undef,bif b then .agg E.toArray else undef,bif b then .bool g else undef,bif b then .bool g else .bool false,bif b then .bool g else .bool false,bif b then(bif g then .agg N.toArray else undef)else undef,bif b then(bif g then .agg aa.toArray else undef)else undef,bif b then(bif g then .bool C else undef)else undef,bif b then(bif g then .bool C else .bool false)else .bool false,bif b then(bif g then .bool C else .bool false)else .bool false] ?zF ?_;case zF=>
  refine⟨?zP,?zG,?zH,?zI,?zJ,?zK,?zL,?zM,?zN,?zO,?zA,?zB,?zC,trivial⟩;all_goals intro u w' y d
  all_goals simp only[z1,z2,z3,z4,ay,Act.put,z5,z6,z7,Nat.reduceAdd,Nat.zero_add]
  case zG=>
   simp only[show u 0=_ from d 0];refine aG ?_;have t1:=Y.out;go_simp;exact aM
  case' zH=>simp only[show u 1=_ from d 1]
  case zI=>
   simp only[show u 2=_ from d 2];cases b;case false=>exact bE
   refine aG ?_;exact az _ _ rfl ⟨g11,0,none⟩ rfl M _ (fE (an.out.fr y (fun x=>x))) Tryz.underlying38 rfl au.out aM
  case zJ=>
   simp only[show u 2=_ from d 2];cases b;case false=>exact bE
   refine aG ?_;exact az _ _ rfl ⟨g5,0,none⟩ rfl E _ (fE (R.out.fr y (fun x=>x))) Tryz.underlying38 rfl iOq.out aM
  case zK=>
   simp only[show u 3=_ from d 3,show u 4=_ from d 4,show u 2=_ from d 2];cases b;case false=>exact bE
   refine aG ?_;exact fD _ _ _ _ _ rfl _ _ rfl rfl Tryz.eqGuardType38 _ (ai.out _) aM
  case' zL=>
   simp only[show u 2=_ from d 2,show u 5=_ from d 5];cases b
  case' zM=>
   simp only[show u 6=_ from d 6];cases b
  case zN=>
   simp only[show u 7=_ from d 7];cases b;case false=>exact bE
   cases g;case false=>exact bE
   refine aG ?_;exact az _ _ rfl ⟨g12,0,none⟩ rfl N _ (fE (ao.out.fr y (fun x=>x))) Tryz.underlying38 rfl av.out aM
  case zO=>
   simp only[show u 7=_ from d 7];cases b;case false=>exact bE
   cases g;case false=>exact bE
   refine aG ?_;exact az _ _ rfl ⟨g7,0,none⟩ rfl aa _ (fE (T.out.fr y (fun x=>x))) Tryz.underlying38 rfl IR.out aM
  case zA=>
   simp only[show u 8=_ from d 8,show u 9=_ from d 9,show u 7=_ from d 7];cases b;case false=>exact bE
   cases g;case false=>exact bE
   refine aG ?_;exact fD _ _ _ _ _ rfl _ _ rfl rfl Tryz.eqGuardType38 _ (aj.out _) aM
  case' zB=>
   simp only[show u 7=_ from d 7,show u 10=_ from d 10];cases b<;>cases g
  case' zC=>
   simp only[show u 11=_ from d 11];cases b<;>cases g
  all_goals
   try simp only[cond]
   refine aG ?_;go_simp;exact aM
 intro w' y;simp only[z1,z2,z3,z4,ay,Act.put,z5,z6,z7,z8,z9,jx,jy,Nat.reduceAdd,Nat.zero_add];have ap:=af (D.out.trans (X.out.trans y));clear y;go_wp2;go_ret;exact⟨by rw[aq.out];first|rfl|(cases b<;>first|rfl|(cases g<;>rfl)),ap.out⟩
end Go.Proofs.YtphjagkehiklkaaGreatDoor
