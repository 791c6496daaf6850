/- Texts. -/
import Derived.Test.YtphjagkehiklkaaGreatDoorZK18
set_option linter.unusedVariables false
set_option linter.unusedSimpArgs false
set_option maxRecDepth 100000
set_option maxHeartbeats 4000000
namespace Go.Proofs.YtphjagkehiklkaaGreatDoor
open Go.RowKit Go.Shelf
theorem tI(w:World)(a:Option Addr)(l c:Nat):(binOp .eql 26 (.slice a l c) (.slice none 0 0)).run Tryz.prog w= .ok (.bool a.isNone) w:=by
 simp only[binOp];simp[run_equal_slice_nil w 26 46 a l c Tryz.underlying26]
theorem AM(xs:List Value)(n:Nat)(A:Option Addr)(c:Nat)(S:Nat→Prop)(w:World)(b:Rd w S 6 A n xs)(l:∀u∈xs,u.oneCell'=true)(s:n≤1099511627776):
  Calls Tryz.prog 99 #[.slice A n c] w (fun e w'=>∃v,e= .returned v∧bK 46 6 w (.slice none 0 0) w' v n xs):=by
 obtain⟨i0,f,o,p,q⟩:=info_parts qv;have x:=af b;have y:=af l;cases A with
 |none=>
  have m:n=0:=by
   rcases Nat.eq_zero_or_pos n with h|h;·exact h
   ·obtain⟨g,h,_⟩:=b.2 h;cases h
  subst m;have E:xs=[]:=List.eq_nil_of_length_eq_zero (by rw[b.1,Nat.zero_mul]);subst E;have D:∀w:World,(binOp .eql 26 (.slice none 0 c) (.slice none 0 0)).run Tryz.prog w= .ok (.bool true) w:=fun w=>tI w none 0 c;clear b l;go_enter Tryz.func99,Tryz.ntmps99;go_wp2;go_ret;exact⟨_,rfl,bK.start ⟨rfl, .inl ⟨rfl,rfl⟩⟩⟩
 |some g=>
  have D:∀w:World,(binOp .eql 26 (.slice (some g) n c) (.slice none 0 0)).run Tryz.prog w= .ok (.bool false) w:=fun w=>tI w (some g) n c;have i:=af s;clear b l s;go_enter Tryz.func99,Tryz.ntmps99;go_wp2_with(refine gY rfl 26 46 rfl i0 Tryz.underlying26 f ?_);intro w1 t;have j:=af t;clear t;generalize d:w.heap.size=g1 at*;have a:=af d;clear d;have B:Hid (w1.ownsRow 0 46 6 (.slice (some ⟨g1,0,none⟩) 0 0) 0 []):=by rw[←a.out];exact j.out.Cq
  go_wp2_with(refine dR _ rfl _ _ 26 rfl 46 i0 ep 6 88 Tryz.underlying26 f o p q rfl (by decide) _ _ _ rfl B.out S (some g) n c xs rfl (x.out.ao j.out.fr) y.out (by have:=i.out;omega) (by decide) ?_);intro v2 w2 r;have z:Hid (bK 46 6 w (.slice none 0 0) w2 v2 n xs):=by
   have h:=bK.fresh j.out.fr (fun k C=>by simp only[Value.ownBlock,Option.some.injEq]at C;have:=a.out;omega) r;exact h
  clear r;go_wp2;go_ret;exact⟨_,rfl,z.out⟩
theorem tY(w:World)(a:Option Addr)(l c:Nat):(binOp .eql 108 (.slice a l c) (.slice none 0 0)).run Tryz.prog w= .ok (.bool a.isNone) w:=by
 simp only[binOp];simp[run_equal_slice_nil w 108 25 a l c Tryz.underlying108]
theorem Ca(xs:List Value)(n:Nat)(A:Option Addr)(c:Nat)(S:Nat→Prop)(w:World)(b:Rd w S 1 A n xs)(l:∀u∈xs,u.oneCell'=true)(s:n≤1099511627776):
  Calls Tryz.prog 100 #[.slice A n c] w (fun e w'=>∃v,e= .returned v∧bK 25 1 w (.slice none 0 0) w' v n xs):=by
 obtain⟨i0,f,o,p,q⟩:=info_parts yZ;have x:=af b;have y:=af l;cases A with
 |none=>
  have m:n=0:=by
   rcases Nat.eq_zero_or_pos n with h|h;·exact h
   ·obtain⟨g,h,_⟩:=b.2 h;cases h
  subst m;have E:xs=[]:=List.eq_nil_of_length_eq_zero (by rw[b.1,Nat.zero_mul]);subst E;have D:∀w:World,(binOp .eql 108 (.slice none 0 c) (.slice none 0 0)).run Tryz.prog w= .ok (.bool true) w:=fun w=>tY w none 0 c;clear b l;go_enter Tryz.func100,Tryz.ntmps100;go_wp2;go_ret;exact⟨_,rfl,bK.start ⟨rfl, .inl ⟨rfl,rfl⟩⟩⟩
 |some g=>
  have D:∀w:World,(binOp .eql 108 (.slice (some g) n c) (.slice none 0 0)).run Tryz.prog w= .ok (.bool false) w:=fun w=>tY w (some g) n c;have i:=af s;clear b l s;go_enter Tryz.func100,Tryz.ntmps100;go_wp2_with(refine gY rfl 108 25 rfl i0 Tryz.underlying108 f ?_);intro w1 t;have j:=af t;clear t;generalize d:w.heap.size=g1 at*;have a:=af d;clear d;have B:Hid (w1.ownsRow 0 25 1 (.slice (some ⟨g1,0,none⟩) 0 0) 0 []):=by rw[←a.out];exact j.out.Cq
  go_wp2_with(refine dR _ rfl _ _ 108 rfl 25 i0 (.pointer none) 1 8 Tryz.underlying108 f o p q rfl (by decide) _ _ _ rfl B.out S (some g) n c xs rfl (x.out.ao j.out.fr) y.out (by have:=i.out;omega) (by decide) ?_);intro v2 w2 r;have z:Hid (bK 25 1 w (.slice none 0 0) w2 v2 n xs):=by
   have h:=bK.fresh j.out.fr (fun k C=>by simp only[Value.ownBlock,Option.some.injEq]at C;have:=a.out;omega) r;exact h
  clear r;go_wp2;go_ret;exact⟨_,rfl,z.out⟩
def Jv(w:World)(L:List ActV)(v:Value)(W:World):Prop:=jZ W v L∧∀k,v.ownBlock=some k→w.heap.size≤k
def Jw(w:World)(K:List Nat)(v:Value)(W:World):Prop:=W.ownsRow 0 25 1 v K.length (K.map fun k=>Value.pointer (some ⟨k,0,none⟩))∧∀k,v.ownBlock=some k→w.heap.size≤k
def Jy(w:World)(ds:List (List UInt8))(p:Nat)(W:World):Prop:=∃A c mb,Lt.dZ W p A ds.length c mb ds (Lt.bp ds.length)∧∀k,Lt.TB p A ds.length c mb k→w.heap.size≤k
theorem Jv.ao{w W W':World}{L:List ActV}{v:Value}(h:Jv w L v W)(f:Fr ag W W'):Jv w L v W':=⟨h.1.ao f,h.2⟩
theorem Jw.ao{w W W':World}{K:List Nat}{v:Value}(h:Jw w K v W)(f:Fr ag W W'):Jw w K v W':=⟨aL h.1 f (fun _ _ x=>x),h.2⟩
theorem Jy.ao{w W W':World}{ds:List (List UInt8)}{p:Nat}(h:Jy w ds p W)(f:Fr ag W W'):Jy w ds p W':=by
 obtain⟨A,c,mb,a,b⟩:=h;exact⟨A,c,mb,a.ao f,b⟩
theorem dG.one{w:World}:∀{cs:List (List Value)}{l:List ActV},dG w cs l→∀u∈cs.flatten,u.oneCell'=true
 |[],_,_,u,hu=>by cases hu
 |c::r,[],h,_,_=>by cases h
 |c::r,a::l,h,u,hu=>by
  rw[List.flatten_cons,List.mem_append]at hu;rcases hu with hu|hu;·have b:=ActV.one h.1;rw[Array.all_eq_true_iff_forall_mem]at b;exact b u (by simpa using hu)
  ·exact dG.one h.2 u hu
def JC(w:World)(E:List Ent)(L:List ActV)(e:Ending)(w':World):Prop:=∃k T,e= .returned (.pointer (some ⟨k,0,none⟩))∧ez w' k E L T∧Fr ag w w'∧∀j,T j→w.heap.size≤j
theorem AF(h:Nat)(E:List Ent)(L:List ActV)(T:Nat→Prop)(w:World)(aJ:ez w h E L T)(aK:L.length≤65536):
  Calls Tryz.prog 44 #[.pointer (some ⟨h,0,none⟩)] w (JC w E L):=by
 obtain⟨b,s,g,va,vk,K,A,c,mb,r,rfl⟩:=aJ;obtain⟨I,ai,B⟩:=id r.jq;obtain⟨Y,aM,ab,rfl,Q,_⟩:=aG ai;have R:aM=L.length:=Q;subst R;obtain⟨Z,aN,ac,rfl,S,_⟩:=aG r.kept;have U:aN=K.length:=S;subst U;have P:=r.mq;have am:Hid (∀w',Fr ag w w'→Calls Tryz.prog 55 #[.pointer (some ⟨h,0,none⟩)] w' (bm w' (.bool false))):=fun w' f=>jf w' h b ((r.aE.fr f (fun x=>x)).cell 0);have ak:Hid (∀w',Fr ag w w'→Calls Tryz.prog 99 #[.slice Y L.length ab] w' (fun e d=>∃v,e= .returned v∧Fr ag w' d∧∃A n c,v= .slice A n c∧Jv w L (.slice A n c) d)):=fun w' f=>by
  refine(AM I.flatten L.length Y ab _ w' ((Rd.gR ai).ao f) B.one (by omega)).mono ?_;rintro e w2⟨v,rfl,m⟩;obtain⟨y,n1,z,rfl,_,_⟩:=aG m.own;exact⟨_,rfl,m.ao,y,n1,z,rfl,⟨I,m.own,B.cN (f.trans m.ao) (fM.nothing w)⟩,fun k t=>by have:=m.new k t;have:=f.size;omega⟩
 have al:Hid (∀w',Fr ag w w'→Calls Tryz.prog 100 #[.slice Z K.length ac] w' (fun e d=>∃v,e= .returned v∧Fr ag w' d∧∃A n c,v= .slice A n c∧Jw w K (.slice A n c) d)):=fun w' f=>by
  refine(Ca (K.map fun k=>Value.pointer (some ⟨k,0,none⟩)) K.length Z ac _ w' ((Rd.gR r.kept).ao f) (fun u hu=>by obtain⟨k,_,rfl⟩:=List.mem_map.1 hu;rfl) (by omega)).mono ?_;rintro e w2⟨v,rfl,m⟩;obtain⟨y,n1,z,rfl,_,_⟩:=aG m.own;exact⟨_,rfl,m.ao,y,n1,z,rfl,m.own,fun k t=>by have:=m.new k t;have:=f.size;omega⟩
 have an:Hid (∀w',Fr ag w w'→Calls Tryz.prog 101 #[.pointer (some ⟨g,0,none⟩)] w' (fun e d=>∃k,e= .returned (.pointer (some ⟨k,0,none⟩))∧Fr ag w' d∧Jy w (db E L) k d)):=fun w' f=>by
  refine(Lt.Hb w' g A (L.length+1) c mb (db E L) (r.log.ao f) (by omega)).mono ?_;rintro e w2⟨k,rfl,y,z,C,aD,aH,aI⟩;exact⟨k,rfl,aH,y,z,C,aD,fun j o=>by have:=aI j o;have:=f.size;omega⟩
 have ae:=af r;have HB:Hid (aq w h 111 #[.pointer (some ⟨b,0,none⟩), .slice Y L.length ab, .slice Z K.length ac, .pointer (some ⟨s,0,none⟩), .pointer (some ⟨g,0,none⟩)]):=r.aE;have ad:=af P;clear r ai B Q S P aK;go_enter Tryz.func44,Tryz.ntmps44;go_wp2_with fail;refine(am.out _ az).mono ?_;rintro e w1⟨rfl,rfl⟩;go_upto_region 3 with fail;refine xJ 23 [iS (.pointer (some ⟨h,0,none⟩)),iS (.pointer (some ⟨h,0,none⟩)),iS (.pointer (some ⟨h,0,none⟩)),iS (.pointer (some ⟨b,0,none⟩)),iS (.pointer (some ⟨h,0,none⟩)),iS (.pointer (some ⟨h,0,none⟩)),iS (.pointer (some ⟨h,1,none⟩)),iS (.slice Y L.length ab),⟨fun X W=>∃(A:Option Addr)(n c:Nat),X= .slice A n c∧Jv w L (.slice A n c) W,fun _ _ _ f⟨A,n,c,e,h⟩=>⟨A,n,c,e,h.ao f⟩⟩,iS (.pointer (some ⟨h,0,none⟩)),iS (.pointer (some ⟨h,0,none⟩)),iS (.pointer (some ⟨h,2,none⟩)),iS (.slice Z K.length ac),⟨fun X W=>∃(A:Option Addr)(n c:Nat),X= .slice A n c∧Jw w K (.slice A n c) W,fun _ _ _ f⟨A,n,c,e,h⟩=>⟨A,n,c,e,h.ao f⟩⟩,iS (.pointer (some ⟨h,0,none⟩)),iS (.pointer (some ⟨h,0,none⟩)),iS (.pointer (some ⟨h,3,none⟩)),iS (.pointer (some ⟨s,0,none⟩)),iS (.pointer (some ⟨h,0,none⟩)),iS (.pointer (some ⟨h,0,none⟩)),iS (.pointer (some ⟨h,4,none⟩)),iS (.pointer (some ⟨g,0,none⟩)),⟨fun X W=>∃k,X= .pointer (some ⟨k,0,none⟩)∧Jy w (db E L) k W,fun _ _ _ f⟨k,e,h⟩=>⟨k,e,h.ao f⟩⟩] ?zL ?_;case zL=>
  refine⟨?zV,?zM,?zN,?zO,?zW,?zP,?zQ,?zR,?zS,?zX,?zA,?zB,?zC,?zD,?zT,?zE,?zF,?zG,?zU,?zH,?zI,?zJ,?zK,trivial⟩;all_goals intro u w' l a
  all_goals simp only[z1,z2,z3,z4,ar,Act.put,z5,z6,z7,Nat.reduceAdd,Nat.zero_add]
  case' zM=>simp only[show u 0=_ from a 0]
  case' zN=>simp only[show u 1=_ from a 1]
  case zO=>
   simp only[show u 2=_ from a 2];refine aF ?_;have q:_=some _:=(HB.out.fr l (fun x=>x)).cell 0;go_simp;exact⟨_,rfl,az,rfl⟩
  case' zP=>simp only[show u 4=_ from a 4]
  case' zQ=>simp only[show u 5=_ from a 5]
  case zR=>
   simp only[show u 6=_ from a 6];refine aF ?_;have q:_=some _:=(HB.out.fr l (fun x=>x)).cell 1;go_simp;exact⟨_,rfl,az,rfl⟩
  case zS=>
   simp only[show u 7=_ from a 7];refine aF ?_;go_simp;refine(ak.out _ l).mono ?_;rintro e aC⟨v,rfl,f4,A,n,c,rfl,h⟩;exact⟨_,rfl,f4,⟨A,n,c,rfl,h⟩⟩
  case' zA=>simp only[show u 9=_ from a 9]
  case' zB=>simp only[show u 10=_ from a 10]
  case zC=>
   simp only[show u 11=_ from a 11];refine aF ?_;have q:_=some _:=(HB.out.fr l (fun x=>x)).cell 2;go_simp;exact⟨_,rfl,az,rfl⟩
  case zD=>
   simp only[show u 12=_ from a 12];refine aF ?_;go_simp;refine(al.out _ l).mono ?_;rintro e aC⟨v,rfl,f4,A,n,c,rfl,h⟩;exact⟨_,rfl,f4,⟨A,n,c,rfl,h⟩⟩
  case' zE=>simp only[show u 14=_ from a 14]
  case' zF=>simp only[show u 15=_ from a 15]
  case zG=>
   simp only[show u 16=_ from a 16];refine aF ?_;have q:_=some _:=(HB.out.fr l (fun x=>x)).cell 3;go_simp;exact⟨_,rfl,az,rfl⟩
  case' zH=>simp only[show u 18=_ from a 18]
  case' zI=>simp only[show u 19=_ from a 19]
  case zJ=>
   simp only[show u 20=_ from a 20];refine aF ?_;have q:_=some _:=(HB.out.fr l (fun x=>x)).cell 4;go_simp;exact⟨_,rfl,az,rfl⟩
  case zK=>
   simp only[show u 21=_ from a 21];refine aF ?_;go_simp;refine(an.out _ l).mono ?_;rintro e aC⟨k,rfl,f4,h⟩;exact⟨_,rfl,f4,⟨k,rfl,h⟩⟩
  all_goals
   refine aF ?_;go_simp;exact⟨_,rfl,az,rfl⟩
 intro u w' l a;obtain⟨aj,aA,aw,ax,ay⟩:=a 8 (by omega);obtain⟨D,V,H,J,N⟩:=a 13 (by omega);obtain⟨p,M,O⟩:=a 22 (by omega);simp only[z1,z2,z3,z4,ar,Act.put,z5,z6,z7,z8,z9,Nat.reduceAdd,Nat.zero_add,show u 3=_ from a 3 (by omega),show u 17=_ from a 17 (by omega)];clear a;simp only[ax,J,M];have av:=af ay;have F:=af N;have ah:=af O;have ap:=af l;clear ay N O l ax J M ak al an am;go_wp2_with(refine aB rfl 111 (.tmp 28) rfl #[.pointer (some ⟨b,0,none⟩), .slice aj aA aw, .slice D V H, .pointer (some ⟨s,0,none⟩), .pointer (some ⟨p,0,none⟩)] rfl ?_);intro w3 n3;have G:=af n3;clear n3;generalize t:w'.heap.size=k at*;have au:=af t;clear t;go_wp2;go_ret;have aa:Fr ag w w3:=ap.out.trans G.out.fr;obtain⟨y,z,C,t1,t2⟩:=ah.out.ao G.out.fr;have aL:(db E L).length=L.length+1:=km E L;rw[aL]at t1 t2;refine⟨k,_,rfl,⟨b,s,p, .slice aj aA aw, .slice D V H,K,y,z,C,⟨by have h:=G.out.aE;rw[au.out]at h;exact h,ae.out.base.ao aa,(av.out.ao G.out.fr).1,(F.out.ao G.out.fr).1,ad.out,fun i k t=>(ae.out.q9 i k t).ao aa,ae.out.last.ao aa,t1⟩,rfl⟩,aa,fun j o=>?_⟩;rcases o with rfl|o|o|o;·have:=au.out;have:=ap.out.size;omega
 ·exact av.out.2 j o
 ·exact F.out.2 j o
 ·exact t2 j o
end Go.Proofs.YtphjagkehiklkaaGreatDoor
namespace Go.Proofs.YtphjagkehiklkaaGreatDoor.Lt
open Go.RowKit
theorem JI(T w:World)(p:Nat)(ds:List (List UInt8))(a:Nat)(N:og T w p ds)(Q:ds.length≤1048576)(R:a≤ds.length)(H:bT w):
  Calls Tryz.prog 57 #[.pointer (some ⟨p,0,none⟩), .int .i64 a] w (aH w (.tuple #[aY (gV (ds.take a)), .int .i64 0])):=by
 obtain⟨A,c,mb,t,L,M⟩:=N;obtain⟨n,m⟩:∃n,n=ds.length:=⟨_,rfl⟩;have s:w.cell? ⟨p,0,none⟩=some (.slice A n c):=by rw[m];exact t.aE.cell 0
 have n4:n≤1048576:=by omega
 have y:Hid (∀w',Calls Tryz.prog 89 #[.int .i64 a, .int .i64 0, .int .i64 n] w' (bm w' (.bool (decide (0≤(a:Int)∧(a:Int)≤n))))):=fun w'=>fI a 0 n w';rw[de (show 0≤(a:Int)∧(a:Int)≤n by omega)]at y;have I:(gV (ds.take a)).length=32:=nz a _ (by rw[List.length_take];omega) (by omega) (fun d O=>t.each d (List.mem_of_mem_take O));have z:Hid (a=0→∀w',Fr ag w w'→Calls Tryz.prog 73 #[] w' (aH w' (aY (gV (ds.take a))))):=fun h w' u=>by
  rw[h,List.take_zero];exact Du w' (H.ao u)
 have C:Hid (¬a=0→∀w',Fr ag w w'→Calls Tryz.prog 110 #[.pointer (some ⟨p,0,none⟩), .int .i64 0, .int .i64 a] w' (aH w' (aY (gV (ds.take a))))):=fun h w' u=>by
  have k:=xp a (by omega) w' p A ds.length c mb ds (bp ds.length) 0 20 (t.ao u) (ue _) Q (H.ao u) (by omega) (by omega) (by omega) (Nat.dvd_zero _);rw[List.drop_zero]at k;have e:gV (ds.take a)=cW (ds.take a):=by
   unfold gV;rw[if_neg (by intro j;have:=congrArg List.length j;rw[List.length_take,List.length_nil]at this;omega)]
  rw[e];exact k
 generalize gV (ds.take a)=rt at*;have g:Hid (dI (aA rt).toArray):=dI.of I;have a4:a≤1048576:=by omega
 unfold aY at*;simp only[show∀l:List UInt8,l.map bN=aA l from fun _=>rfl]at*;generalize aA rt=r at*;clear t L M m R I H;by_cases j:a=0
 ·have B:=af (z.out j);have t0:((a:Int)==0)=true:=by rw[j];rfl
  subst j;clear z C;go_enter Tryz.func57,Tryz.ntmps57;go_wp2_with(refine an rfl 38 rfl aZ iR aD rfl ?_);intro w1 b;have f:=af b;have J:w1.cell? ⟨p,0,none⟩=some (.slice A n c):=b.fr.ak s (fun x=>x);clear b s;go_wp2_with fail;refine(y.out _).mono ?_;rintro e w'⟨rfl,rfl⟩;go_wp2_with fail;refine(B.out _ f.out.fr).mono ?_;rintro e w2⟨rfl,f2⟩;have E:=af (f.out.fr.trans f2);have v:=af (f.out.aE.fr f2 (fun x=>x));clear f2 f;go_wp2_with(refine ai rfl 38 (.tmp 4) _ rfl w.heap.size r.toArray rfl rfl _ _ v.out g.out.info g.out.zero g.out.one ?_);intro o b5 f5;have F:=af b5;have G:Hid (Fr ag w o):=E.out.aw f5 (fun i P e=>by have K:i=w.heap.size:=e;omega);clear b5 f5;go_wp2;exact bodyPost_ret (dB (fn:=Tryz.f57) (p:=4) (q:=5) (ty:=38) Tryz.results57 _ o _ 38 r.toArray (0,0) _ rfl F.out Tryz.underlying38 rfl g.out.info _ rfl) rfl ⟨rfl,G.out⟩
 ·have D:=af (C.out j);have t0:((a:Int)==0)=false:=by rw[beq_eq_false_iff_ne];omega
  have S:¬a=0:=j;clear z C;go_enter Tryz.func57,Tryz.ntmps57;go_wp2_with(refine an rfl 38 rfl aZ iR aD rfl ?_);intro w1 b;have f:=af b;have J:w1.cell? ⟨p,0,none⟩=some (.slice A n c):=b.fr.ak s (fun x=>x);clear b s;go_wp2_with fail;refine(y.out _).mono ?_;rintro e w'⟨rfl,rfl⟩;go_wp2_with fail;refine(D.out _ f.out.fr).mono ?_;rintro e w2⟨rfl,f2⟩;have E:=af (f.out.fr.trans f2);have v:=af (f.out.aE.fr f2 (fun x=>x));clear f2 f;go_wp2_with(refine ai rfl 38 (.tmp 4) _ rfl w.heap.size r.toArray rfl rfl _ _ v.out g.out.info g.out.zero g.out.one ?_);intro o b5 f5;have F:=af b5;have G:Hid (Fr ag w o):=E.out.aw f5 (fun i P e=>by have K:i=w.heap.size:=e;omega);clear b5 f5;go_wp2;exact bodyPost_ret (dB (fn:=Tryz.f57) (p:=4) (q:=5) (ty:=38) Tryz.results57 _ o _ 38 r.toArray (0,0) _ rfl F.out Tryz.underlying38 rfl g.out.info _ rfl) rfl ⟨rfl,G.out⟩
end Go.Proofs.YtphjagkehiklkaaGreatDoor.Lt
namespace Go.Proofs.YtphjagkehiklkaaGreatDoor.Lt
open Go.RowKit
def DO(w:World)(PL:List (List UInt8))(v:Value)(w':World):Prop:=∃v1,v=v1∧bK 37 32 w (.slice none 0 0) w' v1 PL.length (PL.flatMap aA)
theorem DO.ah{w W:World}{PL:List (List UInt8)}:∀v w' a,Fr ag W w'→Fr ag w' a→DO w PL v w'→DO w PL v a:=fun _ _ _ _ c⟨v1,h,b⟩=>⟨v1,h,b.behind c⟩
end Go.Proofs.YtphjagkehiklkaaGreatDoor.Lt
namespace Go.Proofs.YtphjagkehiklkaaGreatDoor.Lt
open Go.RowKit Go.ChangeShapes Go.WideShapes Go.Deep
end Go.Proofs.YtphjagkehiklkaaGreatDoor.Lt
namespace Go.Proofs.YtphjagkehiklkaaGreatDoor
open Go.RowKit Go.Shelf
theorem yX{w:World}{p:Nat}{A:Option Addr}{n c:Nat}{mb:Option Nat}{ds:List (List UInt8)}(h:Lt.dZ w p A n c mb ds (Lt.bp n)):Lt.og {w with heap:=#[]} w p ds:=by
 have e:=h.len;subst e;exact⟨A,c,mb,h,⟨rfl,rfl,rfl,Nat.zero_le _,fun k a=>absurd a (by simp)⟩,fun k _=>Nat.zero_le _⟩
def zd(E:List Ent)(L:List ActV)(n:Int):Value:=if 0≤n∧n≤L.length then .tuple #[aY (Lt.gV (db E (L.take n.toNat))), .int .i64 0]else .tuple #[.agg aD, .int .i64 2]
theorem qa(h:Nat)(E:List Ent)(L:List ActV)(T:Nat→Prop)(w:World)(m:ez w h E L T):Calls Tryz.prog 46 #[.pointer (some ⟨h,0,none⟩)] w (bm w (.int .i64 (L.length:Int))):=by
 obtain⟨b,s,g,va,vk,K,A,c,mb,d,rfl⟩:=m;obtain⟨l,a,f⟩:=d.jq;obtain⟨n,n1,j,rfl,H1,_⟩:=aG a;have i:=d.aE.cell 0;have j:=d.aE.cell 1;simp only[bP,List.getElem?_cons_succ,List.getElem?_cons_zero]at i j;have k:=H1;clear d a f;go_enter Tryz.func46,Tryz.ntmps46;go_wp2_with fail;refine(jf w h b i).mono ?_;rintro e w'⟨rfl,rfl⟩;go_wp2;go_ret;exact⟨by rw[k.out];rfl,rfl⟩
def Dy(w:World)(E:List Ent)(L:List ActV)(e:Ending)(w':World):Prop:=∃s,e= .returned (.tuple #[.pointer (some ⟨s,0,none⟩), .int .i64 0])∧w=w'∧eJ w' s (fj L E)
theorem rH(h:Nat)(E:List Ent)(L:List ActV)(T:Nat→Prop)(w:World)(m:ez w h E L T):Calls Tryz.prog 38 #[.pointer (some ⟨h,0,none⟩), .int .i64 (L.length:Int)] w (Dy w E L):=by
 obtain⟨b,s,g,va,vk,K,A,c,mb,d,rfl⟩:=m;obtain⟨l,a,f⟩:=d.jq;obtain⟨n,n1,j,rfl,H1,_⟩:=aG a;have i:=d.aE.cell 0;have j:=d.aE.cell 1;have c3:=d.aE.cell 3;simp only[bP,List.getElem?_cons_succ,List.getElem?_cons_zero]at i j c3;have k:=af d.last;obtain rfl:n1=L.length:=H1.out;clear d a f H1;generalize L.length=n1 at*;have t1:decide ((n1:Int)<0)=false:=cD (by omega);have t2:decide ((n1:Int)<(n1:Int))=false:=cD (by omega);have t3:((n1:Int)==(n1:Int))=true:=by rw[beq_iff_eq]
 go_enter Tryz.func38,Tryz.ntmps38;go_wp2_with fail;refine(jf w h b i).mono ?_;rintro e w'⟨rfl,rfl⟩;go_wp2;go_ret2;exact⟨s,rfl,rfl,k.out⟩
theorem Dz(h:Nat)(E:List Ent)(L:List ActV)(T:Nat→Prop)(n:Int)(w:World)(ae:ez w h E L T)(S:bT w)(hL:L.length≤65536):Calls Tryz.prog 16 #[.pointer (some ⟨h,0,none⟩), .int .i64 n] w (aH w (zd E L n)):=by
 obtain⟨b,s,g,va,vk,K,A,c,mb,v,rfl⟩:=ae;obtain⟨ac,m,N⟩:=v.jq;obtain⟨V,n1,aa,rfl,H1,_⟩:=aG m;have al:=af v;have Y:Hid (∀w',Fr ag w w'→Calls Tryz.prog 55 #[.pointer (some ⟨h,0,none⟩)] w' (bm w' (.bool false))):=fun w' f=>jf w' h b ((v.aE.fr f (fun x=>x)).cell 0);have O:Hid (∀(k:Nat)w',Fr ag w w'→k≤L.length→Calls Tryz.prog 57 #[.pointer (some ⟨g,0,none⟩), .int .i64 ((k:Int)+1)] w' (aH w' (.tuple #[aY (Lt.gV (db E (L.take k))), .int .i64 0]))):=fun k w' f am=>by
  have h:=Lt.JI _ w' g (db E L) (k+1) (yX (v.ao f).log) (by rw[km];omega) (by rw[km];omega) (S.ao f);rw[wU]at h;exact h
 have J:Hid (∀k,(Lt.gV (db E (L.take k))).length=32):=fun k=>Lt.nz _ _ rfl (by rw[km,List.length_take];omega) (rh _ _);have d:Hid (n1=L.length):=H1.out;have I:=af hL;obtain⟨R,M⟩:∃R,zd E L n=R:=⟨_,rfl⟩;have a:Hid (R=if 0≤n∧n≤L.length then .tuple #[aY (Lt.gV (db E (L.take n.toNat))), .int .i64 0]else .tuple #[.agg aD, .int .i64 2]):=M.symm;rw[M];have ab:Hid (∀W,Fr ag w W→W.cell? {block:=h,off:=1}=some (.slice V n1 aa)∧W.cell? {block:=h,off:=4}=some (.pointer (some ⟨g,0,none⟩))):=fun W f=>⟨(v.aE.fr f (fun x=>x)).cell 1,(v.aE.fr f (fun x=>x)).cell 4⟩;clear v m N H1 S hL M;go_enter Tryz.func16,Tryz.ntmps16;go_wp2_with(refine an rfl 38 rfl aZ iR aD rfl ?_);intro w1 y;have t:=af y.fr;have F:=af y.aE;clear y;generalize D:w.heap.size=g4 at*;have u:Hid (w.heap.size≤g4):=by rw[Hid,D];exact Nat.le_refl _
 clear D;go_wp2_with fail;refine(Y.out _ t.out).mono ?_;rintro e w'⟨rfl,rfl⟩;obtain⟨aj,ak⟩:=ab.out _ t.out;by_cases H:n<0
 ·have t1:decide (n<0)=true:=decide_eq_true H;have z:Hid (R= .tuple #[.agg aD, .int .i64 2]):=by rw[Hid,a.out,if_neg (by omega)]
  clear H;go_wp2_with(first|(refine wpList_buildTo rfl 38 #[] rfl aD Lt.pz ?_)|(refine ai rfl 38 (.tmp 4) _ rfl g4 aD rfl rfl _ _ F.out Lt.q6 rfl Lt.qu ?_));intro o j l;have B:=af j;have C:Hid (Fr ag w o):=t.out.aw l (fun i U e=>by have Q:i=g4:=e;have:=u.out;omega);clear j l;go_wp2;rw[z.out];exact bodyPost_ret (dB (fn:=Tryz.f16) (p:=4) (q:=5) (ty:=38) Tryz.results16 _ o _ 38 aD (0,0) _ rfl B.out Tryz.underlying38 rfl Lt.q6 _ rfl) rfl ⟨rfl,C.out⟩
 obtain⟨k,rfl⟩:∃k:Nat,n=k:=⟨n.toNat,by omega⟩;have t1:decide ((k:Int)<0)=false:=decide_eq_false H;clear H;by_cases ad:n1<k
 ·have t2:decide ((n1:Int)<(k:Int))=true:=de (by omega);have z:Hid (R= .tuple #[.agg aD, .int .i64 2]):=by rw[Hid,a.out,if_neg (by have:=d.out;omega)]
  clear a;go_wp2_with(first|(refine wpList_buildTo rfl 38 #[] rfl aD Lt.pz ?_)|(refine ai rfl 38 (.tmp 4) _ rfl g4 aD rfl rfl _ _ F.out Lt.q6 rfl Lt.qu ?_));intro o j l;have B:=af j;have C:Hid (Fr ag w o):=t.out.aw l (fun i U e=>by have Q:i=g4:=e;have:=u.out;omega);clear j l;go_wp2;rw[z.out];exact bodyPost_ret (dB (fn:=Tryz.f16) (p:=4) (q:=5) (ty:=38) Tryz.results16 _ o _ 38 aD (0,0) _ rfl B.out Tryz.underlying38 rfl Lt.q6 _ rfl) rfl ⟨rfl,C.out⟩
 have t2:decide ((n1:Int)<(k:Int))=false:=cD (by omega);have ah:¬(n1:Int)<(k:Int):=by omega
 have z:Hid (R= .tuple #[aY (Lt.gV (db E (L.take k))), .int .i64 0]):=by rw[Hid,a.out,if_pos (by have:=d.out;omega),Int.toNat_natCast]
 have r:=af (O.out k _ t.out (by have:=d.out;omega));have G:Hid (Lt.dI ((Lt.gV (db E (L.take k))).map bN).toArray):=Lt.dI.of (J.out k);unfold aY at z r;generalize((Lt.gV (db E (L.take k))).map bN).toArray=P at*;have ap:k≤65536:=by have:=d.out;have:=I.out;omega
 have aq:IntKind.i64.wrap ((k:Int)+1)=(k:Int)+1:=IntWalk.i64_in _ (by omega);clear a O ad;go_wp2_with fail;refine r.out.mono ?_;rintro e w2⟨rfl,f2⟩;have Z:=af (t.out.trans f2);have X:=af (F.out.fr f2 (fun x=>x));clear f2 r t F aj ak;go_wp2_with(refine ai rfl 38 (.tmp 4) _ rfl g4 P rfl rfl _ _ X.out G.out.info G.out.zero G.out.one ?_);intro o j l;have B:=af j;have C:Hid (Fr ag w o):=Z.out.aw l (fun i U e=>by have Q:i=g4:=e;have:=u.out;omega);clear j l;go_wp2;rw[z.out];exact bodyPost_ret (dB (fn:=Tryz.f16) (p:=4) (q:=5) (ty:=38) Tryz.results16 _ o _ 38 P (0,0) _ rfl B.out Tryz.underlying38 rfl G.out.info _ rfl) rfl ⟨rfl,C.out⟩
def dN:List Value:=[.int .i64 0, .int .i64 0, .string ByteArray.empty, .slice none 0 0]
theorem qd:Tryz.prog.built 33 []=some dN.toArray:=by kernel_rfl
theorem JV(i n:Int)(s:ByteArray)(A:Option Addr)(x y:Nat):Tryz.prog.built 33 [(0, .int .i64 i),(1, .int .i64 n),(2, .string s),(3, .slice A x y)]=some [Value.int .i64 i, .int .i64 n, .string s, .slice A x y].toArray:=by kernel_rfl
theorem MV(w:World):(zeroValue 33).run Tryz.prog w= .ok (.agg dN.toArray) w:=by kernel_rfl
theorem kF:(Tryz.prog.info? 33).map (·.size)=some dN.toArray.size:=by kernel_rfl
theorem Ks:(Tryz.prog.info? 33).map (·.size)=some 4:=by kernel_rfl
theorem ng:dN.toArray.all (·.oneCell')=true:=by simp[dN,Value.oneCell']
def rG(w:World)(E:List Ent)(L:List ActV)(i n:Int)(e:Ending)(w':World):Prop:=
 (¬(0≤n∧n≤L.length∧0≤i∧i<n)∧e= .returned (.tuple #[.agg dN.toArray, .int .i64 2])∧Fr ag w w')∨
 ∃(k m:Nat)(a:ActV)(v:Value),i=(k:Int)∧n=(m:Int)∧k<m∧m≤L.length∧L[k]? =some a∧e= .returned (.tuple #[.agg [Value.int .i64 (k:Int), .int .i64 (m:Int), .string ⟨(cC a).toArray⟩,v].toArray, .int .i64 0])∧bK 38 32 w (.slice none 0 0) w' v (Lt.da (db E (L.take m)) (k+1)).length ((Lt.da (db E (L.take m)) (k+1)).flatMap Lt.aA)
theorem lE{w:World}{A:Option Addr}{n c:Nat}{e:List (List Value)}{L:List ActV}(f:w.ownsRow 0 46 6 (.slice A n c) L.length e.flatten)(h:dG w e L)(p:n=L.length){k:Nat}(o:k<L.length):
  ∃g d a,A=some g∧L[k]? =some a∧cF w d a∧d.length=6∧∀j x,d[j]? =some x→w.cell? ((g.add (k*6)).add j)=some x:=by
 subst p;obtain⟨d,l,_,r,i,s⟩:=dG.at_ (k:=k) h o;obtain⟨g,m,_,b⟩:=(Rd.gR f).2 (by omega);refine⟨g,d,l,m,r,i,i.len,fun j x q=>?_⟩;rw[iT];exact b _ x (s j x q)
theorem AG(h:Nat)(E:List Ent)(L:List ActV)(T:Nat→Prop)(i n:Int)(w:World)(a3:ez w h E L T)(aP:eh w)(aO:bT w)(a4:L.length≤65536)(ab:∀a∈L,fY a=true)(ac:∀a∈L,Hk a):
  Calls Tryz.prog 15 #[.pointer (some ⟨h,0,none⟩), .int .i64 i, .int .i64 n] w (rG w E L i n):=by
 obtain⟨b,s,g,va,vk,K,A,c,mb,Q,rfl⟩:=a3;obtain⟨aZ,C,Z⟩:=Q.jq;obtain⟨aB,n1,aY,rfl,H1,_⟩:=aG C;have aT:Hid (∀w',Fr ag w w'→Calls Tryz.prog 55 #[.pointer (some ⟨h,0,none⟩)] w' (bm w' (.bool false))):=fun w' f=>jf w' h b ((Q.aE.fr f (fun x=>x)).cell 0);have aJ:Hid (∀(k m:Nat)w',Fr ag w w'→k<m→m≤L.length→Calls Tryz.prog 56 #[.pointer (some ⟨g,0,none⟩), .int .i64 ((k:Int)+1), .int .i64 ((m:Int)+1)] w' (Lt.sJ w' (Lt.da (db E (L.take m)) (k+1),0))):=fun k m w' f aS hm=>by
  have h:=Lt.zh _ w' g (db E L) ((k:Int)+1) ((m:Int)+1) (yX (Q.ao f).log) (by rw[km];omega) (aO.ao f) (by omega) (by omega);have e:Lt.sc (db E L) ((k:Int)+1) ((m:Int)+1)=(Lt.da (db E (L.take m)) (k+1),0):=by
   unfold Lt.sc;rw[if_pos (by rw[km];omega),show((m:Int)+1).toNat=m+1 by omega,show((k:Int)+1).toNat=k+1 by omega,wU]
  rw[e]at h;exact h
 have S:Hid (∀k,k<L.length→∃ah u a,aB=some ah∧L[k]? =some a∧cF w u a∧u.length=6∧∀j x,u[j]? =some x→w.cell? ((ah.add (k*6)).add j)=some x):=fun k aS=>lE C Z H1.out aS;have aI:Hid (∀a u w',a∈L→cF w u a→Fr ag w w'→Calls Tryz.prog 18 #[.agg u.toArray] w' (aH w' (.tuple #[.string ⟨(cC a).toArray⟩, .int .i64 0]))):=fun a u w' aQ a5 f=>by
  have h:=p9 a u w' (aP.ao f) (a5.ao f) (ac a aQ);unfold j4 at h;rw[if_pos (ab a aQ)]at h;exact h
 have F:Hid (n1=L.length∧n1≤65536):=by have:=H1.out;exact⟨this,by omega⟩
 have aM:Hid (∀W,Fr ag w W→W.cell? {block:=h,off:=1}=some (.slice aB n1 aY)∧W.cell? {block:=h,off:=4}=some (.pointer (some ⟨g,0,none⟩))):=fun W f=>⟨(Q.aE.fr f (fun x=>x)).cell 1,(Q.aE.fr f (fun x=>x)).cell 4⟩;have d:Hid (¬(0≤n∧n≤n1∧0≤i∧i<n)→∀w',Fr ag w w'→rG w E L i n (.returned (.tuple #[.agg dN.toArray, .int .i64 2])) w'):=fun am w' f=> .inl ⟨by rw[←H1.out];exact am,rfl,f⟩;have l:Hid (∀(k m:Nat)(a:ActV)(v:Value)w',i=(k:Int)→n=(m:Int)→k<m→m≤n1→L[k]? =some a→bK 38 32 w (.slice none 0 0) w' v (Lt.da (db E (L.take m)) (k+1)).length ((Lt.da (db E (L.take m)) (k+1)).flatMap Lt.aA)→rG w E L i n (.returned (.tuple #[.agg [Value.int .i64 (k:Int), .int .i64 (m:Int), .string ⟨(cC a).toArray⟩,v].toArray, .int .i64 0])) w'):=fun k m a v w' am O aN a0 a1 a2=> .inr ⟨k,m,a,v,am,O,aN,by rw[←H1.out];exact a0,a1,rfl,a2⟩;generalize rG w E L i n=PP at*;clear Q C Z H1 aO a4 aP ab ac;go_enter Tryz.func15,Tryz.ntmps15;go_wp2_with(refine an rfl 33 rfl (.agg dN.toArray) MV dN.toArray rfl ?_);intro w1 J;have D:=af J.fr;have N:=af J.aE;clear J;generalize aa:w.heap.size=g6 at*;have y:Hid (w.heap.size≤g6):=by rw[Hid,aa];exact Nat.le_refl _
 clear aa;go_wp2_with fail;refine(aT.out _ D.out).mono ?_;rintro e w'⟨rfl,rfl⟩;obtain⟨ay,az⟩:=aM.out _ D.out;by_cases al:n<0;·have t1:decide (n<0)=true:=decide_eq_true al;have G:=af (d.out (by omega));clear d l al;go_wp2_with(first|(refine wpList_buildTo rfl 33 #[] rfl dN.toArray qd ?_)|(refine ai rfl 33 (.tmp 6) _ rfl g6 dN.toArray rfl rfl _ _ N.out kF rfl ng ?_));intro r t o;have H:=af t;have I:Hid (Fr ag w r):=D.out.aw o (fun i P e=>by have aj:i=g6:=e;have:=y.out;omega);clear t o;go_wp2;exact bodyPost_ret (bh (fn:=Tryz.f15) (p:=6) (q:=7) (ty:=33) Tryz.results15 _ r _ 33 dN.toArray (0,0) _ rfl H.out Tryz.underlying33 rfl kF _ rfl) rfl (G.out _ I.out)
 obtain⟨m,rfl⟩:∃m:Nat,n=m:=⟨n.toNat,by omega⟩;have t1:decide ((m:Int)<0)=false:=decide_eq_false al;clear al;by_cases am:n1<m;·have t2:decide ((n1:Int)<(m:Int))=true:=de (by omega);have G:=af (d.out (by omega));clear d l;go_wp2_with(first|(refine wpList_buildTo rfl 33 #[] rfl dN.toArray qd ?_)|(refine ai rfl 33 (.tmp 6) _ rfl g6 dN.toArray rfl rfl _ _ N.out kF rfl ng ?_));intro r t o;have H:=af t;have I:Hid (Fr ag w r):=D.out.aw o (fun i P e=>by have aj:i=g6:=e;have:=y.out;omega);clear t o;go_wp2;exact bodyPost_ret (bh (fn:=Tryz.f15) (p:=6) (q:=7) (ty:=33) Tryz.results15 _ r _ 33 dN.toArray (0,0) _ rfl H.out Tryz.underlying33 rfl kF _ rfl) rfl (G.out _ I.out)
 have t2:decide ((n1:Int)<(m:Int))=false:=cD (by omega);have a9:¬(n1:Int)<(m:Int):=by omega
 by_cases O:i<0;·have t3:decide (i<0)=true:=decide_eq_true O;have G:=af (d.out (by omega));clear d l O;go_wp2_with(first|(refine wpList_buildTo rfl 33 #[] rfl dN.toArray qd ?_)|(refine ai rfl 33 (.tmp 6) _ rfl g6 dN.toArray rfl rfl _ _ N.out kF rfl ng ?_));intro r t o;have H:=af t;have I:Hid (Fr ag w r):=D.out.aw o (fun i P e=>by have aj:i=g6:=e;have:=y.out;omega);clear t o;go_wp2;exact bodyPost_ret (bh (fn:=Tryz.f15) (p:=6) (q:=7) (ty:=33) Tryz.results15 _ r _ 33 dN.toArray (0,0) _ rfl H.out Tryz.underlying33 rfl kF _ rfl) rfl (G.out _ I.out)
 obtain⟨k,rfl⟩:∃k:Nat,i=k:=⟨i.toNat,by omega⟩;have t3:decide ((k:Int)<0)=false:=decide_eq_false O;clear O;by_cases aN:m≤k
 ·have t4:decide ((m:Int)≤(k:Int))=true:=de (by omega);have ax:(m:Int)≤(k:Int):=by omega
  have G:=af (d.out (by omega));clear d l;go_wp2_with(first|(refine wpList_buildTo rfl 33 #[] rfl dN.toArray qd ?_)|(refine ai rfl 33 (.tmp 6) _ rfl g6 dN.toArray rfl rfl _ _ N.out kF rfl ng ?_));intro r t o;have H:=af t;have I:Hid (Fr ag w r):=D.out.aw o (fun i P e=>by have aj:i=g6:=e;have:=y.out;omega);clear t o;go_wp2;exact bodyPost_ret (bh (fn:=Tryz.f15) (p:=6) (q:=7) (ty:=33) Tryz.results15 _ r _ 33 dN.toArray (0,0) _ rfl H.out Tryz.underlying33 rfl kF _ rfl) rfl (G.out _ I.out)
 have t4:decide ((m:Int)≤(k:Int))=false:=cD (by omega);have ax:¬(m:Int)≤(k:Int):=by omega
 have a7:(k:Int)<(n1:Int):=by omega
 have a6:(0:Int)≤(k:Int):=by omega
 obtain⟨ah,u,a,rfl,X,V,Y,B⟩:=S.out k (by have:=F.out;omega);have U:=af X;have ar:=af V;have au:=af Y;have aq:=af B;have aW:Hid ((Tryz.prog.info? 46).map (·.size)=some u.length):=by rw[Hid,au.out];exact bL
 have z:Hid (k<m∧m≤n1):=⟨by omega,by omega⟩;clear X V Y B d S;go_wp2_with(refine aC rfl 46 (.tmp 41) rfl (ah.add (k*6)) rfl u _ ?zA Tryz.underlying46 rfl aW.out (aR.go ?zB));case zA=>exact fun j x a8=>D.out.ak (aq.out j x a8) (fun x=>x)
 unfold aR;go_wp2_with fail;refine(aI.out a u _ (List.mem_of_getElem? U.out) ar.out D.out).mono ?_;rintro e w2⟨rfl,f2⟩;have ae:=af (D.out.trans f2);have aD:=af (N.out.fr f2 (fun x=>x));clear f2 aI D N ay az;obtain⟨ay,az⟩:=aM.out _ ae.out;have bb:IntKind.i64.wrap ((k:Int)+1)=(k:Int)+1:=IntWalk.i64_in _ (by have:=F.out;omega);have bc:IntKind.i64.wrap ((m:Int)+1)=(m:Int)+1:=IntWalk.i64_in _ (by have:=F.out;have:=z.out;omega);have R:=af (aJ.out k m _ ae.out z.out.1 (by have:=F.out;have:=z.out;omega));have av:=af (l.out k m a);generalize Lt.da (db E (L.take m)) (k+1)=PL at*;generalize(⟨(cC a).toArray⟩:ByteArray)=ad at*;clear aJ l;go_wp2_with fail;refine R.out.mono ?_;rintro e w3⟨v,rfl,ap⟩;obtain⟨M,n3,c3,rfl,_,_⟩:=aG ap.own;have aU:=af (ap.ahead ae.out);have aF:=af (aD.out.fr ap.ao (fun x=>x));clear ap R ae aD ay az;have ba:=af (JV (k:Int) (m:Int) ad M n3 c3);have aK:Hid ((Tryz.prog.info? 33).map (·.size)=some [Value.int .i64 (k:Int), .int .i64 (m:Int), .string ad, .slice M n3 c3].toArray.size):=Ks;have aX:Hid ([Value.int .i64 (k:Int), .int .i64 (m:Int), .string ad, .slice M n3 c3].toArray.all (·.oneCell')=true):=by simp[Hid,Value.oneCell']
 go_wp2_with(refine ai rfl 33 (.tmp 6) _ rfl g6 [Value.int .i64 (k:Int), .int .i64 (m:Int), .string ad, .slice M n3 c3].toArray rfl rfl _ _ aF.out aK.out rfl aX.out ?_);intro r t o;have H:=af t;have aV:Hid (bK 38 32 w (.slice none 0 0) r (.slice M n3 c3) PL.length (PL.flatMap Lt.aA)):=by
  have g:=aU.out;refine⟨aL g.own o (fun i P e=>?_),(g.ao.aw o (fun i P e=>by have aj:i=g6:=e;have:=y.out;omega)).bO,g.eG⟩;obtain rfl:i=g6:=e;exact bM g.own aF.out (by decide) P
 have G:=af (av.out _ r (by first|rfl|trivial) (by first|rfl|trivial) z.out.1 z.out.2 U.out aV.out);clear t o;go_wp2;exact bodyPost_ret (bh (fn:=Tryz.f15) (p:=6) (q:=7) (ty:=33) Tryz.results15 _ r _ 33 [Value.int .i64 (k:Int), .int .i64 (m:Int), .string ad, .slice M n3 c3].toArray (0,0) _ rfl H.out Tryz.underlying33 rfl aK.out _ rfl) rfl G.out
end Go.Proofs.YtphjagkehiklkaaGreatDoor
