/- Texts. -/
import Derived.Test.YtphjagkehiklkaaGreatDoorXK11
set_option linter.unusedVariables false
set_option linter.unusedSimpArgs false
set_option maxRecDepth 100000
set_option maxHeartbeats 8000000
namespace Go.Proofs.YtphjagkehiklkaaGreatDoor
open Go.RowKit Go.Shelf
theorem zG(x y z t:Int):∀(k:Nat)(v:Int),([x,y,z,t])[k]? =some v→v≠0→(∀(j:Nat)(u:Int),j<k→([x,y,z,t])[j]? =some u→u=0)→aV x (aV y (aV z t))=v
 |0,v,a,c,_=>by
  obtain rfl:x=v:=by simpa using a
  simp[aV,c]
 |1,v,a,c,b=>by
  obtain rfl:y=v:=by simpa using a
  have:=b 0 x (by omega) rfl;simp[aV,this,c]
 |2,v,a,c,b=>by
  obtain rfl:z=v:=by simpa using a
  have d:=b 0 x (by omega) rfl;have e:=b 1 y (by omega) rfl;simp[aV,d,e,c]
 |3,v,a,_,b=>by
  obtain rfl:t=v:=by simpa using a
  have d:=b 0 x (by omega) rfl;have e:=b 1 y (by omega) rfl;have f:=b 2 z (by omega) rfl;simp[aV,d,e,f]
 |k+4,v,a,_,_=>by simp at a
theorem yi(x y z t:Int)(a:∀(j:Nat)(u:Int),j<4→([x,y,z,t])[j]? =some u→u=0):aV x (aV y (aV z t))=0:=by
 have b:=a 0 x (by omega) rfl;have c:=a 1 y (by omega) rfl;have d:=a 2 z (by omega) rfl;have e:=a 3 t (by omega) rfl;simp[aV,b,c,d,e]
theorem zR(x y z t:Int)(g:Nat)(w:World)(h:aq w g 3 #[.int .i64 x, .int .i64 y, .int .i64 z, .int .i64 t]):Calls Tryz.prog 132 #[.slice (some ⟨g,0,none⟩) 4 4] w (bG w (.int .i64 (aV x (aV y (aV z t))))):=by
 have HB:=af h;have n:Hid (∀k:Nat,k<4→∃v:Int,([x,y,z,t])[k]? =some v∧w.cell? ⟨g,k,none⟩=some (.int .i64 v)):=fun k f=>by
  match k,f with
  |0,_=>exact⟨x,rfl,h.cell 0⟩
  |1,_=>exact⟨y,rfl,h.cell 1⟩
  |2,_=>exact⟨z,rfl,h.cell 2⟩
  |3,_=>exact⟨t,rfl,h.cell 3⟩
 clear h;have o:Hid (∀(k:Nat)(v:Int),([x,y,z,t])[k]? =some v→v≠0→(∀(j:Nat)(u:Int),j<k→([x,y,z,t])[j]? =some u→u=0)→aV x (aV y (aV z t))=v):=fun k v=>zG x y z t k v;have p:Hid ((∀(j:Nat)(u:Int),j<4→([x,y,z,t])[j]? =some u→u=0)→aV x (aV y (aV z t))=0):=yi x y z t;generalize aV x (aV y (aV z t))=A at*;go_enter Tryz.func132,Tryz.ntmps132;go_wp2;go_loopw[8](fun i wr=>∃k:Nat,k≤4∧(∀j u,j<k→([x,y,z,t])[j]? =some u→u=0)∧i= .int .i64 k∧w=wr)(fun i _=>4-(intOf i).toNat);case atStart=>exact⟨0,by omega,fun j u h=>by omega,rfl,rfl⟩
 case round=>
  obtain⟨k,f,m,rfl,rfl⟩:=hrel;have b:=af m;clear m;by_cases c:k<4
  ·have q:(k:Int)<4:=by omega
   obtain⟨v,l,r⟩:=n.out k c;have d:=af l;clear l;by_cases a:v=0
   ·subst a;go_wp2;go_roundw
    case rel=>exact⟨k+1,by omega,fun j u s hu=>by
      by_cases e:j=k;·subst e;have:=d.out;rw[hu]at this;cases this;rfl
      ·exact b.out j u (by omega) hu,by go_num,trivial⟩
    case measure=>simp[intOf];omega
   ·have t1:=sL a;obtain rfl:A=v:=o.out k v d.out a b.out;go_wp2;go_ret;exact⟨rfl,rfl⟩
  ·obtain rfl:k=4:=by omega
   obtain rfl:A=0:=p.out b.out;go_wp2;go_ret;exact⟨rfl,rfl⟩
theorem om(k m:dH)(w:World)(y:k.fA.size≤1099511627776)(hm:m.fA.size≤1099511627776):Calls Tryz.prog 85 #[.agg k.cells.toArray, .agg m.cells.toArray] w (aK w (.int .i64 (dV k m))):=by
 have C:Hid (∀w,Calls Tryz.prog 133 #[.int .i64 k.tick, .int .i64 m.tick] w (bG w (.int .i64 (dR k.tick m.tick)))):=fun w=>iy _ _ w;have D:Hid (∀w,Calls Tryz.prog 133 #[.int .i64 k.cls, .int .i64 m.cls] w (bG w (.int .i64 (dR k.cls m.cls)))):=fun w=>iy _ _ w;have E:Hid (∀w,Calls Tryz.prog 133 #[.int .i64 k.num, .int .i64 m.num] w (bG w (.int .i64 (dR k.num m.num)))):=fun w=>iy _ _ w;have F:=af (fun w=>kL k.fA m.fA w y hm);have J:Hid (dV k m=aV (dR k.tick m.tick) (aV (dR k.cls m.cls) (aV (dR k.num m.num) (kI k.fA m.fA)))):=rfl;generalize dV k m=P at*;generalize dR k.tick m.tick=o at*;generalize dR k.cls m.cls=p at*;generalize dR k.num m.num=r at*;generalize kI k.fA m.fA=y3 at*;clear y hm;go_enter Tryz.func85,Tryz.ntmps85;go_wp2_with(refine aB rfl 43 (.tmp 0) rfl k.cells.toArray rfl ?_);intro w1 n1;have t:=af n1;clear n1;generalize j:w.heap.size=g at*;have f:Hid (aq w1 g 43 k.cells.toArray):=by have h:=t.out.aD;rw[j]at h;exact h
 clear j;go_wp2_with(refine aB rfl 43 (.tmp 1) rfl m.cells.toArray rfl ?_);intro w2 A;have s:=af A;clear A;generalize l:w1.heap.size=i at*;have d:Hid (aq w2 i 43 m.cells.toArray):=by have h:=s.out.aD;rw[l]at h;exact h
 clear l;have c:=af (f.out.fr s.out.fr (fun x=>x));have G:=af (t.out.fr.trans s.out.fr);clear t s f;go_upto_region 1 with fail;refine iW 20 [.pointer (some ⟨g,0,none⟩), .int .i64 k.tick, .pointer (some ⟨i,0,none⟩), .int .i64 m.tick, .int .i64 o, .pointer (some ⟨g,1,none⟩), .int .i64 k.cls, .pointer (some ⟨i,1,none⟩), .int .i64 m.cls, .int .i64 p, .pointer (some ⟨g,2,none⟩), .int .i64 k.num, .pointer (some ⟨i,2,none⟩), .int .i64 m.num, .int .i64 r, .pointer (some ⟨g,3,none⟩), .string k.fA, .pointer (some ⟨i,3,none⟩), .string m.fA, .int .i64 y3] ?zG ?_;case zG=>
  refine⟨?zS,?zH,?zT,?zI,?zJ,?zU,?zK,?zV,?zL,?zM,?zN,?zA,?zO,?zB,?zC,?zP,?zD,?zQ,?zE,?zF,trivial⟩;all_goals intro u w' b a
  all_goals simp only[z1,z2,z3,z4,ar,Act.put,z5,z6,z7,Nat.reduceAdd,Nat.zero_add]
  case zH=>
   simp only[show u 0=_ from a 0];refine aF ?_;have q:_=some (Value.int .i64 k.tick):=(c.out.fr b (fun x=>x)).cell 0;go_simp;exact aL
  case zI=>
   simp only[show u 2=_ from a 2];refine aF ?_;have q:_=some (Value.int .i64 m.tick):=(d.out.fr b (fun x=>x)).cell 0;go_simp;exact aL
  case zJ=>
   simp only[show u 1=_ from a 1,show u 3=_ from a 3];refine aF ?_;go_simp;refine(C.out _).mono ?_;rintro e v⟨rfl,rfl⟩;exact aL
  case zK=>
   simp only[show u 5=_ from a 5];refine aF ?_;have q:_=some (Value.int .i64 k.cls):=(c.out.fr b (fun x=>x)).cell 1;go_simp;exact aL
  case zL=>
   simp only[show u 7=_ from a 7];refine aF ?_;have q:_=some (Value.int .i64 m.cls):=(d.out.fr b (fun x=>x)).cell 1;go_simp;exact aL
  case zM=>
   simp only[show u 6=_ from a 6,show u 8=_ from a 8];refine aF ?_;go_simp;refine(D.out _).mono ?_;rintro e v⟨rfl,rfl⟩;exact aL
  case zA=>
   simp only[show u 10=_ from a 10];refine aF ?_;have q:_=some (Value.int .i64 k.num):=(c.out.fr b (fun x=>x)).cell 2;go_simp;exact aL
  case zB=>
   simp only[show u 12=_ from a 12];refine aF ?_;have q:_=some (Value.int .i64 m.num):=(d.out.fr b (fun x=>x)).cell 2;go_simp;exact aL
  case zC=>
   simp only[show u 11=_ from a 11,show u 13=_ from a 13];refine aF ?_;go_simp;refine(E.out _).mono ?_;rintro e v⟨rfl,rfl⟩;exact aL
  case zD=>
   simp only[show u 15=_ from a 15];refine aF ?_;have q:_=some (Value.string k.fA):=(c.out.fr b (fun x=>x)).cell 3;go_simp;exact aL
  case zE=>
   simp only[show u 17=_ from a 17];refine aF ?_;have q:_=some (Value.string m.fA):=(d.out.fr b (fun x=>x)).cell 3;go_simp;exact aL
  case zF=>
   simp only[show u 16=_ from a 16,show u 18=_ from a 18];refine aF ?_;go_simp;refine(F.out _).mono ?_;rintro e v⟨rfl,f4⟩;exact⟨rfl,f4⟩
  all_goals
   refine aF ?_;go_simp;exact aL
 intro w' b;simp only[z1,z2,z3,z4,ar,Act.put,z5,z6,z7,z8,z9,jn,jo,Nat.reduceAdd,Nat.zero_add];have I:=af (G.out.trans b);clear b;obtain⟨i0,M,z,n,N⟩:=info_parts sc;have K:Hid (¬4*i0.size>2^24):=by simp only[Hid];rw[n];omega
 have L:Hid (¬4*i0.size=0):=by simp only[Hid];rw[n];omega
 go_wp2_with fail;have B:Hid (aq (w'.alloc (.cells #[.int .i64 o, .int .i64 p, .int .i64 r, .int .i64 y3] 3)) w'.heap.size 3 #[.int .i64 o, .int .i64 p, .int .i64 r, .int .i64 y3]):=aq.new _ _ _;have H:=af (I.out.trans ((Fr.refl ah w').alloc (.cells #[.int .i64 o, .int .i64 p, .int .i64 r, .int .i64 y3] 3)));refine(zR o p r y3 _ _ B.out).mono ?_;rintro e O⟨rfl,rfl⟩;go_wp2;go_ret;rw[J.out];exact⟨rfl,H.out⟩
theorem jq(L:List Ent)(a:ActV)(cs:List Value)(m s:Nat)(w:World)(A:cy w cs a)(u:ec w s L)(v:ed w)(r:cI m L)(x:∀c∈a.writes,eh c)(hm:m+a.writes.length≤60000):
  Calls Tryz.prog 86 #[.agg cs.toArray, .pointer (some ⟨s,0,none⟩)] w (lz w L a.writes):=by
 obtain⟨D,E,rfl,_,o⟩:=A;obtain⟨h,B,i,rfl,rfl,_,d⟩:=o.cl;have k:Hid (∀w',Fr ah w w'→Calls Tryz.prog 82 #[.pointer (some ⟨s,0,none⟩), .slice h a.writes.length i] w' (lz w' L a.writes)):=fun w' f=>tW L a.writes _ m h i _ s w' (u.ao f) (v.ao f) r (d.ao f) x hm;generalize a.writes.length=n at*;obtain⟨⟨t,c,C,li⟩,_,ws⟩:=a;simp only[dH.cells,List.cons_append,List.nil_append]at k⊢;clear u v r x hm o d;go_enter Tryz.func86,Tryz.ntmps86;go_wp2_with(refine aB rfl 46 (.tmp 0) rfl _ rfl ?_);intro w1 n1;have l:=af n1.fr;have j:=af n1.aD;clear n1;generalize w.heap.size=g at*;have c5:w1.cell? ⟨g,5,none⟩=some (.slice h n i):=j.out.cell 5;go_wp2_with fail;refine(k.out _ l.out).mono ?_;rintro e w2⟨p,q,rfl,f2,b⟩;have y:=af (l.out.trans f2);have z:=af b;clear f2 b c5 j;go_wp2;go_ret2;exact⟨p,q,rfl,y.out,z.out⟩
theorem EB(w:World)(a:Option Addr)(l c:Nat):(binOp .eql 44 (.slice a l c) (.slice none 0 0)).run Tryz.prog w= .ok (.bool a.isNone) w:=by
 simp only[binOp];simp[run_equal_slice_nil w 44 119 a l c Tryz.underlying44]
def ui(w:World)(l:List CV)(e:Ending)(w':World):Prop:=∃v,e= .returned v∧bO 119 7 w (.slice none 0 0) w' v l.length (l.flatMap CV.cells)
theorem ui.ch{w w':World}{l:List CV}{e:Ending}(h:ui w l e w'):∃v,e= .returned v∧dU w' v l∧Fr ah w w'∧∀k,v.ownBlock=some k→w.heap.size≤k:=by
 obtain⟨v,rfl,a⟩:=h;exact⟨v,rfl,a.own,a.ao,a.new⟩
theorem qX(xs:List CV)(n:Nat)(A:Option Addr)(c:Nat)(S:Nat→Prop)(w:World)(a:CL w S A n xs)(r:n≤1099511627776):Calls Tryz.prog 135 #[.slice A n c] w (ui w xs):=by
 obtain⟨i0,f,m,o,p⟩:=info_parts mZ;have t:=af a;have v:=af a.len;have x:Hid (∀u∈xs.flatMap CV.cells,u.oneCell'=true):=by
  intro u hu;obtain⟨d,_,B⟩:=List.mem_flatMap.1 hu;have h:=d.one;rw[Array.all_eq_true_iff_forall_mem]at h;exact h u (by simpa using B)
 cases A with
 |none=>
  have l:n=0:=by
   rcases Nat.eq_zero_or_pos n with h|h;·exact h
   ·obtain⟨g,h,_⟩:=a.rd.2 h;cases h
  subst l;have E:xs=[]:=List.eq_nil_of_length_eq_zero a.len;subst E;have D:∀w:World,(binOp .eql 44 (.slice none 0 c) (.slice none 0 0)).run Tryz.prog w= .ok (.bool true) w:=fun w=>EB w none 0 c;clear a;go_enter Tryz.func135,Tryz.ntmps135;go_wp2;go_ret;exact⟨_,rfl,bO.start ⟨rfl, .inl ⟨rfl,rfl⟩⟩⟩
 |some g=>
  have D:∀w:World,(binOp .eql 44 (.slice (some g) n c) (.slice none 0 0)).run Tryz.prog w= .ok (.bool false) w:=fun w=>EB w (some g) n c;have i:=af r;clear a r;go_enter Tryz.func135,Tryz.ntmps135;go_wp2_with(refine j7 rfl 44 119 rfl i0 Tryz.underlying44 f ?_);intro w1 s;have j:=af s;clear s;generalize e:w.heap.size=g1 at*;have b:=af e;clear e;have z:Hid (w1.ownsRow 0 119 7 (.slice (some ⟨g1,0,none⟩) 0 0) 0 []):=by rw[←b.out];exact j.out.AI
  go_wp2_with(refine eL _ rfl _ _ 44 rfl 119 i0 bY 7 80 Tryz.underlying44 f m o p rfl (by decide) _ _ _ rfl z.out S (some g) n c (xs.flatMap CV.cells) rfl (t.out.ao j.out.fr).rd x.out (by have:=i.out;omega) (by decide) ?_);intro v2 w2 q;have y:Hid (bO 119 7 w (.slice none 0 0) w2 v2 xs.length (xs.flatMap CV.cells)):=by
   have h:=bO.fresh j.out.fr (fun k C=>by simp only[Value.ownBlock,Option.some.injEq]at C;have:=b.out;omega) q;rw[Hid,v.out];exact h
  clear q;go_wp2;go_ret;exact⟨_,rfl,y.out⟩
def jN(B:Nat)(cs:List Value):Prop:=∀v∈cs,∀k,v.ownBlock=some k→B≤k
theorem jN.mono{B a:Nat}{cs:List Value}(h:jN B cs)(b:a≤B):jN a cs:=fun v d k c=>Nat.le_trans b (h v d k c)
theorem cy.yc{w w':World}{T:Nat→Prop}{cs:List Value}{a:ActV}{B:Nat}(h:cy w cs a)(f:jN B cs)(e:Fr T w w')(d:∀k,T k→k<B):cy w' cs a:=by
 obtain⟨g,i,rfl,j,l⟩:=h;refine⟨g,i,rfl,aJ j e (fun k b c=>?_),aJ l e (fun k b c=>?_)⟩;·have:=d k c;have:=f g (by simp) k b;omega
 ·have:=d k c;have:=f i (by simp) k b;omega
def qK(w:World)(a:ActV)(e:Ending)(w':World):Prop:=∃cs,e= .returned (.agg cs.toArray)∧cy w' cs a∧Fr ah w w'∧jN w.heap.size cs
theorem xb(t c n:Int)(s:ByteArray)(A B:Option Addr)(x y z u:Nat):Tryz.prog.built 46 [(0, .agg [Value.int .i64 t, .int .i64 c, .int .i64 n, .string s].toArray),(1, .slice A x y),(2, .slice B z u)]=some ([Value.int .i64 t, .int .i64 c, .int .i64 n, .string s]++[Value.slice A x y, .slice B z u]).toArray:=by kernel_rfl
def eC:Value:= .agg #[.int .i64 0, .int .i64 0, .int .i64 0, .string ByteArray.empty, .slice none 0 0, .slice none 0 0]
theorem j8(w:World):(zeroValue 46).run Tryz.prog w= .ok eC w:=by kernel_rfl
theorem ActV.one{w:World}{cs:List Value}{a:ActV}(h:cy w cs a):cs.toArray.all (·.oneCell')=true:=by
 obtain⟨f,g,rfl,b,e⟩:=h;obtain⟨A,n,c,rfl,_⟩:=b.cl;obtain⟨B,m,d,rfl,_⟩:=e.cl;simp[dH.cells,Value.oneCell']
theorem dU.form{w:World}{v:Value}{l:List CV}(h:dU w v l):∃A n c,v= .slice A n c∧dU w (.slice A n c) l:=by
 obtain⟨A,n,c,rfl,_⟩:=h.cl;exact⟨A,n,c,rfl,h⟩
theorem oO(a:ActV)(cs:List Value)(w:World)(a3:cy w cs a)(nr:a.reads.length≤1099511627776)(nw:a.writes.length≤1099511627776):
  Calls Tryz.prog 87 #[.agg cs.toArray] w (qK w a):=by
 obtain⟨b,c,rfl,t,C⟩:=a3;obtain⟨I,a5,K,rfl,rfl,_,Y⟩:=t.cl;obtain⟨J,a6,L,rfl,rfl,_,Z⟩:=C.cl;have P:Hid (∀w',Fr ah w w'→Calls Tryz.prog 135 #[.slice I a.reads.length K] w' (ui w' a.reads)):=fun w' f=>qX a.reads _ I K _ w' (Y.ao f) nr;have Q:Hid (∀w',Fr ah w w'→Calls Tryz.prog 135 #[.slice J a.writes.length L] w' (ui w' a.writes)):=fun w' f=>qX a.writes _ J L _ w' (Z.ao f) nw;have N:Hid (∀(A B:Option Addr)(x y z u:Nat),Tryz.prog.built 46 [(0, .agg a.key.cells.toArray),(1, .slice A x y),(2, .slice B z u)]=some (a.key.cells++[Value.slice A x y, .slice B z u]).toArray):=fun A B x y z u=>xb _ _ _ _ A B x y z u;have s:Hid ((Tryz.prog.info? 43).map (·.size)=some a.key.cells.length):=fQ;have o:Hid (a.key.cells.length=4):=rfl;have D:Hid (∀(w':World)(b c:Value),dU w' b a.reads→dU w' c a.writes→Fr ah w w'→(∀k,b.ownBlock=some k→w.heap.size≤k)→(∀k,c.ownBlock=some k→w.heap.size≤k)→qK w a (.returned (.agg (a.key.cells++[b,c]).toArray)) w'):=fun w' b c t C f n1 ag=>⟨_,rfl,⟨b,c,rfl,t,C⟩,f,fun v ae k d=>by
  simp only[dH.cells,List.cons_append,List.nil_append,List.mem_cons,List.not_mem_nil,or_false]at ae;rcases ae with rfl|rfl|rfl|rfl|rfl|rfl;·cases d
  ·cases d
  ·cases d
  ·cases d
  ·exact n1 k d
  ·exact ag k d⟩;have E:Hid (∀b c:Value,(a.key.cells++[b,c]).toArray.size=6):=fun b c=>rfl;have ay:Hid (∀b c:Value,b.oneCell'=true→c.oneCell'=true→(a.key.cells++[b,c]).toArray.all (·.oneCell')=true):=fun b c t C=>by simp only[dH.cells,List.cons_append,List.nil_append,List.all_toArray,List.all_cons,List.all_nil,t,C];rfl
 generalize qK w a=PP at*;generalize a.reads.length=ai at*;generalize a.writes.length=aj at*;generalize a.reads=R at*;generalize a.writes=aE at*;generalize a.key.cells=V at*;clear t C Y Z nr nw;go_enter Tryz.func87,Tryz.ntmps87;go_wp2_with(refine aB rfl 46 (.tmp 0) rfl (V++[Value.slice I ai K, .slice J aj L]).toArray rfl ?_);intro w1 n1;have am:=af n1.fr;have aK:=af n1.aD;clear n1;generalize W:w.heap.size=g1 at*;have S:=af W;clear W;go_wp2_with(refine an rfl 46 rfl eC j8 #[.int .i64 0, .int .i64 0, .int .i64 0, .string ByteArray.empty, .slice none 0 0, .slice none 0 0] rfl ?_);intro w2 ag;have ad:=af ag;clear ag;generalize X:w1.heap.size=g2 at*;have T:=af X;clear X;have aL:Hid (aq w2 g2 46 #[.int .i64 0, .int .i64 0, .int .i64 0, .string ByteArray.empty, .slice none 0 0, .slice none 0 0]):=by have h:=ad.out.aD;rw[T.out]at h;exact h
 have F2:=af (am.out.trans ad.out.fr);have n:=af (aK.out.fr ad.out.fr (fun x=>x));have ax:Hid (w.heap.size≤g2):=by have:=am.out.size;have:=T.out;simp only[Hid];omega
 have O:Hid (∀w',Fr ah w2 w'→∀j x,V[j]? =some x→w'.cell? ((⟨g1,0,none⟩:Addr).add j)=some x):=fun w' f j x aS=>by
  rw[Addr.add_mid,Nat.zero_add,(n.out.fr f (fun x=>x)).cell j,bQ,List.getElem?_append_left (List.getElem?_eq_some_iff.1 aS).1];exact aS
 have aG:Hid (∀w',Fr ah w2 w'→w'.cell? {block:=g1,off:=4}=some (.slice I ai K)):=fun w' f=>by
  rw[(n.out.fr f (fun x=>x)).cell 4,bQ,List.getElem?_append_right (by rw[o.out];omega),o.out];rfl
 have c5:Hid (∀w',Fr ah w2 w'→w'.cell? {block:=g1,off:=5}=some (.slice J aj L)):=fun w' f=>by
  rw[(n.out.fr f (fun x=>x)).cell 5,bQ,List.getElem?_append_right (by rw[o.out];omega),o.out];rfl
 have aM:Hid (∀w',Fr ah w2 w'→Calls Tryz.prog 135 #[.slice I ai K] w' (ui w' R)):=fun w' f=>P.out w' (F2.out.trans f);have aN:Hid (∀w',Fr ah w2 w'→Calls Tryz.prog 135 #[.slice J aj L] w' (ui w' aE)):=fun w' f=>Q.out w' (F2.out.trans f);have aV:=N;have U:Hid (w.heap.size≤w2.heap.size):=F2.out.size;clear ad aK n P Q N am;go_upto_region 1 with fail;refine y8 9 [iS (.pointer (some ⟨g1,0,none⟩)),iS (.agg V.toArray),iS (.pointer (some ⟨g1,4,none⟩)),iS (.slice I ai K),⟨fun H M=>dU M H R∧∀k,H.ownBlock=some k→w.heap.size≤k,fun _ _ _ f h=>⟨h.1.ao f,h.2⟩⟩,iS (.pointer (some ⟨g1,5,none⟩)),iS (.slice J aj L),⟨fun H M=>dU M H aE∧∀k,H.ownBlock=some k→w.heap.size≤k,fun _ _ _ f h=>⟨h.1.ao f,h.2⟩⟩,⟨fun H M=>∃b c,H= .agg (V++[b,c]).toArray∧dU M b R∧dU M c aE∧(∀k,b.ownBlock=some k→w.heap.size≤k)∧(∀k,c.ownBlock=some k→w.heap.size≤k),fun _ _ _ f h=>(by obtain⟨r,v,e,t,C,a0⟩:=h;exact⟨r,v,e,t.ao f,C.ao f,a0⟩)⟩] ?zA ?_;case zA=>
  refine⟨?zH,?zB,?zI,?zC,?zD,?zJ,?zE,?zF,?zG,trivial⟩;all_goals intro u w' m g
  all_goals simp only[z1,z2,z3,z4,ar,Act.put,z5,z6,z7,Nat.reduceAdd,Nat.zero_add]
  case zB=>
   simp only[show u 0=_ from g 0];refine aF ?_;exact aw _ _ rfl ⟨g1,0,none⟩ rfl V _ (fun a4 v ae=>O.out _ m a4 v ae) Tryz.underlying43 rfl s.out ⟨_,rfl,az,rfl⟩
  case zC=>
   simp only[show u 2=_ from g 2];refine aF ?_;have q:=aG.out _ m;go_simp;exact⟨_,rfl,az,rfl⟩
  case zD=>
   simp only[show u 3=_ from g 3];refine aF ?_;go_simp;refine(aM.out _ m).mono ?_;rintro e a7 he;obtain⟨v,rfl,aI,f4,aJ⟩:=he.ch;exact⟨_,rfl,f4,aI,fun k d=>by have:=aJ k d;have:=m.size;have:=U.out;omega⟩
  case zE=>
   simp only[show u 5=_ from g 5];refine aF ?_;have q:=c5.out _ m;go_simp;exact⟨_,rfl,az,rfl⟩
  case zF=>
   simp only[show u 6=_ from g 6];refine aF ?_;go_simp;refine(aN.out _ m).mono ?_;rintro e a7 he;obtain⟨v,rfl,aI,f4,aJ⟩:=he.ch;exact⟨_,rfl,f4,aI,fun k d=>by have:=aJ k d;have:=m.size;have:=U.out;omega⟩
  case zG=>
   have aT:=(g 4).2;obtain⟨ba,n4,aG,aP,a1⟩:=dU.form (g 4).1;rw[aP]at aT;have aU:=(g 7).2;obtain⟨bb,n7,bc,aQ,a2⟩:=dU.form (g 7).1;rw[aQ]at aU;simp only[show u 1=_ from g 1,aP,aQ];refine aF ?_;exact gR 46 _ rfl _ _ (by simp only[List.map_toArray,List.map_cons,List.map_nil];rfl) (aV.out _ _ _ _ _ _) ⟨_,rfl,az,_,_,rfl,a1,a2,aT,aU⟩
  all_goals
   refine aF ?_;go_simp;exact⟨_,rfl,az,rfl⟩
 intro u w' m g;obtain⟨b,c,aR,F,G,aa,ab⟩:=g 8 (by omega);simp only[z1,z2,z3,z4,ar,Act.put,z5,z6,z7,z8,z9,Nat.reduceAdd,Nat.zero_add];clear g;simp only[aR];have ac:=af (aL.out.fr m (fun x=>x));have aX:=af (F2.out.trans m);have aA:=af aa;have aC:=af ab;clear aa ab;obtain⟨a8,bf,bh,rfl,_⟩:=F.cl;obtain⟨a9,bg,bi,rfl,_⟩:=G.cl;have ap:=af F;have av:=af G;clear m aR F G aL F2 aM aN aG c5 O;refine ak rfl 46 (.tmp 2) _ rfl g2 _ rfl rfl _ _ ac.out (by rw[E.out];exact bM) (by rw[E.out];rfl) (ay.out _ _ rfl rfl) ?_;intro al aO aH;have aW:=af aO;have aY:Hid (Fr ah w al):=aX.out.au aH (fun i be e=>by have bd:i=g2:=e;have:=ax.out;omega);have NE:Hid (∀v l,dU w' v l→dU al v l):=fun v l h=>h.cu aH (fun k d=>by
  obtain rfl:k=g2:=d;exact⟨fun x=>by have:=x.one ac.out.ty;exact absurd this (by decide),fun x=>by have:=x.one ac.out.ty;exact absurd this (by decide),fun x=>by have:=x.one ac.out.ty;exact absurd this (by decide)⟩);have aZ:=af (D.out al _ _ (NE.out _ _ ap.out) (NE.out _ _ av.out) aY.out (fun k d=>by rw[←S.out];exact aA.out k d) (fun k d=>by rw[←S.out];exact aC.out k d));clear aO aH;go_wp2;exact bodyPost_ret (results_cell_row (fn:=Tryz.f87) (p:=2) (ty:=46) Tryz.results87 _ al _ 46 _ (0,0) _ rfl aW.out Tryz.underlying46 rfl (by rw[E.out];exact bM)) rfl aZ.out
structure Ri(a W:World)(g:Nat)(S:Nat→Prop)(st:fD):Prop where
 fr:Fr ah a W
 rr:Rr W g S st.1 st.2.1 st.2.2
 new:a.heap.size≤g
 sn:∀k,S k→a.heap.size≤k∧k<W.heap.size
theorem Rr.aD{W:World}{g:Nat}{S:Nat→Prop}{l:List UInt8}{p:Nat}{f:Int}(h:Rr W g S l p f):∃A n c,aq W g 193 #[.slice A n c, .int .i64 p, .int .i64 f]:=by
 obtain⟨A,n,c,a,_⟩:=h.ex;exact⟨A,n,c,a⟩
theorem Ri.step{c W W':World}{g:Nat}{S:Nat→Prop}{st a:fD}(h:Ri c W g S st)(k:fY W g S W' a.1 a.2.1 a.2.2):Ri c W' g S a:=
 ⟨h.fr.au k.fr (fun i b e=>by have d:i=g:=e;have:=h.new;omega),k.rr,h.new,fun i b=>⟨(h.sn i b).1,Nat.lt_of_lt_of_le (h.sn i b).2 k.fr.size⟩⟩
theorem Ri.later{b W W':World}{g:Nat}{S:Nat→Prop}{st:fD}(h:Ri b W g S st)(f:Fr ah W W'):Ri b W' g S st:=
 ⟨h.fr.trans f,h.rr.kD f,h.new,fun i a=>⟨(h.sn i a).1,Nat.lt_of_lt_of_le (h.sn i a).2 f.size⟩⟩
theorem Ri.uX{j l W W':World}{g b:Nat}{S:Nat→Prop}{d st:fD}(a:Ri j l g S d)(h:Ri j W g S st)(f:Fr (fun k=>k=b) W W')(q:l.heap.size≤b):Ri j W' g S st:=by
 have o:=a.rr.lt;have p:=a.fr.size;refine⟨h.fr.au f (fun i c e=>by have m:i=b:=e;omega),h.rr.kK f (fun e=>by have m:g=b:=e;omega) (fun k n e=>by
  have m:k=b:=e;have:=(a.sn k n).2;omega),h.new,fun i c=>⟨(h.sn i c).1,Nat.lt_of_lt_of_le (h.sn i c).2 f.size⟩⟩
def qU(a W:World)(g:Nat)(S:Nat→Prop)(v:Value)(st:fD)(e:Ending)(W':World):Prop:=e= .returned v∧Ri a W' g S st∧Fr (eI g) W W'
theorem Ri.number{b W:World}{g:Nat}{S:Nat→Prop}{st:fD}(h:Ri b W g S st)(aP:Int):
  Calls Tryz.prog 107 #[.pointer (some ⟨g,0,none⟩), .int .i64 aP] W (qU b W g S (.int .i64 (aO 0 (bj aP) st).1) (aO 0 (bj aP) st).2):=by
 obtain⟨l,p,f⟩:=st;refine(ki g S l p f aP W h.rr).mono ?_;rintro e w'⟨rfl,a⟩;exact⟨rfl,h.step a,a.fr⟩
theorem Ri.text{b W:World}{g:Nat}{S:Nat→Prop}{st:fD}(h:Ri b W g S st)(aP:Int):
  Calls Tryz.prog 104 #[.pointer (some ⟨g,0,none⟩), .int .i64 aP] W (qU b W g S (.string ⟨(aO [] (cq aP) st).1.toArray⟩) (aO [] (cq aP) st).2):=by
 obtain⟨l,p,f⟩:=st;refine(nY g S l p f aP W h.rr).mono ?_;rintro e w'⟨rfl,a⟩;exact⟨rfl,h.step a,a.fr⟩
theorem Ri.flag{b W:World}{g:Nat}{S:Nat→Prop}{st:fD}(h:Ri b W g S st):
  Calls Tryz.prog 119 #[.pointer (some ⟨g,0,none⟩)] W (qU b W g S (.bool (aO false cW st).1) (aO false cW st).2):=by
 obtain⟨l,p,f⟩:=st;refine(DK g S l p f W h.rr).mono ?_;rintro e w'⟨rfl,a⟩;exact⟨rfl,h.step a,a.fr⟩
theorem Ri.rest{a W:World}{g:Nat}{S:Nat→Prop}{st:fD}(h:Ri a W g S st):
  Calls Tryz.prog 117 #[.pointer (some ⟨g,0,none⟩)] W (bG W (.int .i64 (st.1.length:Nat))):=by
 obtain⟨l,p,f⟩:=st;exact DO g S l p f W h.rr
theorem Ri.close{a W:World}{g:Nat}{S:Nat→Prop}{st:fD}(h:Ri a W g S st):
  Calls Tryz.prog 72 #[.pointer (some ⟨g,0,none⟩)] W (bG W (.int .i64 (gg st))):=by
 obtain⟨l,p,f⟩:=st;exact tk g S l p f W h.rr
theorem aq.only{W W':World}{g b:Nat}{S:Nat→Prop}{j:World}{st:fD}{t:TypeId}{cs:Array Value}(h:aq W b t cs)(f:Ri j W g S st)(d:Fr (eI g) W W')(i:t≠193):aq W' b t cs:=
 h.fr d (fun e=>by
  obtain⟨A,n,c,a⟩:=f.rr.aD;exact ey h a i e)
theorem dU.only{W W' f:World}{g:Nat}{S:Nat→Prop}{st:fD}{v:Value}{l:List CV}(h:dU W v l)(e:Ri f W g S st)(b:Fr (eI g) W W'):dU W' v l:=
 h.cu b (fun k d=>by
  obtain rfl:k=g:=d;obtain⟨A,n,c,a⟩:=e.rr.aD;exact⟨fun x=>absurd (x.one a.ty) (by decide),fun x=>absurd (x.one a.ty) (by decide),fun x=>absurd (x.one a.ty) (by decide)⟩)
def zf:Value:= .agg #[.int .i64 0, .int .i64 0, .int .i64 0, .string ByteArray.empty]
theorem Ei(w:World):(zeroValue 43).run Tryz.prog w= .ok zf w:=by kernel_rfl
theorem dH.one(k:dH):k.cells.toArray.all (·.oneCell')=true:=by simp[dH.cells,Value.oneCell']
theorem yR(o W:World)(g:Nat)(S:Nat→Prop)(l:List UInt8)(h:Ri o W g S (l,0,0)):
  Calls Tryz.prog 70 #[.pointer (some ⟨g,0,none⟩)] W (qU o W g S (.agg (iD l).1.cells.toArray) (iD l).2):=by
 have z:=af h;have K:Hid ((iD l)=(⟨(jd l).1,(jY l).1,(rdNum l).1,⟨(iV l).1.toArray⟩⟩,(iV l).2)):=rfl;have R:Hid (∀W',Ri o W' g S (l,0,0)→Calls Tryz.prog 107 #[.pointer (some ⟨g,0,none⟩), .int .i64 1073741824] W' (qU o W' g S (.int .i64 (jd l).1) (jd l).2)):=fun W' h=>h.number _;have T:Hid (∀W',Ri o W' g S (jd l).2→Calls Tryz.prog 107 #[.pointer (some ⟨g,0,none⟩), .int .i64 2] W' (qU o W' g S (.int .i64 (jY l).1) (jY l).2)):=fun W' h=>h.number _;have U:Hid (∀W',Ri o W' g S (jY l).2→Calls Tryz.prog 107 #[.pointer (some ⟨g,0,none⟩), .int .i64 999999] W' (qU o W' g S (.int .i64 (rdNum l).1) (rdNum l).2)):=fun W' h=>h.number _;have V:Hid (∀W',Ri o W' g S (rdNum l).2→Calls Tryz.prog 104 #[.pointer (some ⟨g,0,none⟩), .int .i64 16777216] W' (qU o W' g S (.string ⟨(iV l).1.toArray⟩) (iV l).2)):=fun W' h=>h.text _;rw[K.out];simp only[dH.cells];generalize(jd l).1=n at*;generalize(jd l).2=s1 at*;generalize(jY l).1=q at*;generalize(jY l).2=s2 at*;generalize(rdNum l).1=t at*;generalize(rdNum l).2=ae at*;generalize(iV l).2=H at*;generalize(⟨(iV l).1.toArray⟩:ByteArray)=u at*;have w:Hid (∀W',Ri o W' g S H→Fr (eI g) W W'→qU o W g S (.agg [Value.int .i64 n, .int .i64 q, .int .i64 t, .string u].toArray) H (.returned (.agg [Value.int .i64 n, .int .i64 q, .int .i64 t, .string u].toArray)) W'):=fun W' a b=>⟨rfl,a,b⟩;clear h K;generalize qU o W g S (.agg [Value.int .i64 n, .int .i64 q, .int .i64 t, .string u].toArray) H=PP at*;go_enter Tryz.func70,Tryz.ntmps70;go_wp2_with(refine an rfl 43 rfl zf Ei #[.int .i64 0, .int .i64 0, .int .i64 0, .string ByteArray.empty] rfl ?_);intro w1 n1;have D:=af n1;clear n1;generalize y:W.heap.size=g2 at*;have A:Hid (aq w1 g2 43 #[.int .i64 0, .int .i64 0, .int .i64 0, .string ByteArray.empty]):=by have h:=D.out.aD;rw[y]at h;exact h
 have B:=af y;clear y;go_wp2_with(refine an rfl 43 rfl zf Ei #[.int .i64 0, .int .i64 0, .int .i64 0, .string ByteArray.empty] rfl ?_);intro w2 M;have E:=af M;clear M;generalize F:w1.heap.size=g3 at*;have k:Hid (aq w2 g3 43 #[.int .i64 0, .int .i64 0, .int .i64 0, .string ByteArray.empty]):=by have h:=E.out.aD;rw[F]at h;exact h
 have r:Hid (g2<g3):=by have:=D.out.size;have:=B.out;simp only[Hid];omega
 have d:Hid (W.heap.size≤g2∧W.heap.size≤g3):=by have:=B.out;have:=r.out;exact⟨by omega,by omega⟩
 clear F;have f:=af (A.out.fr E.out.fr (fun x=>x));have m:Hid (Fr (eI g) W w2):=(D.out.fr.trans E.out.fr).bJ;have c:=af (z.out.later (D.out.fr.trans E.out.fr));clear D E A;go_wp2_with fail;refine(R.out _ c.out).mono ?_;rintro e ab⟨rfl,s,f3⟩;have f:=af (f.out.only c.out f3 (by decide));have k:=af (k.out.only c.out f3 (by decide));have m:Hid (Fr (eI g) W ab):=m.out.trans f3;have c:=af s;clear s f3;go_wp2_with(refine aM rfl 3 (.tmp 6) (.tmp 5) rfl g3 0 (.int .i64 n) rfl rfl rfl mR _ _ #[.int .i64 n, .int .i64 0, .int .i64 0, .string ByteArray.empty] k.out (show 0<4 by decide) rfl ?_);intro N b3 f3;have k:Hid (aq N g3 43 #[.int .i64 n, .int .i64 0, .int .i64 0, .string ByteArray.empty]):=b3;have f:=af (f.out.fr f3 (fun e=>by have v:g2=g3:=e;have:=r.out;omega));have c:=af (z.out.uX c.out f3 d.out.2);have m:Hid (Fr (eI g) W N):=m.out.au f3 (fun i G e=>by have v:i=g3:=e;have:=d.out;omega);clear b3 f3;go_wp2_with fail;refine(T.out _ c.out).mono ?_;rintro e ac⟨rfl,s,f3⟩;have f:=af (f.out.only c.out f3 (by decide));have k:=af (k.out.only c.out f3 (by decide));have m:Hid (Fr (eI g) W ac):=m.out.trans f3;have c:=af s;clear s f3;go_wp2_with(refine aM rfl 3 (.tmp 9) (.tmp 8) rfl g3 1 (.int .i64 q) rfl rfl rfl mR _ _ #[.int .i64 n, .int .i64 q, .int .i64 0, .string ByteArray.empty] k.out (show 1<4 by decide) rfl ?_);intro O b3 f3;have k:Hid (aq O g3 43 #[.int .i64 n, .int .i64 q, .int .i64 0, .string ByteArray.empty]):=b3;have f:=af (f.out.fr f3 (fun e=>by have v:g2=g3:=e;have:=r.out;omega));have c:=af (z.out.uX c.out f3 d.out.2);have m:Hid (Fr (eI g) W O):=m.out.au f3 (fun i G e=>by have v:i=g3:=e;have:=d.out;omega);clear b3 f3;go_wp2_with fail;refine(U.out _ c.out).mono ?_;rintro e ad⟨rfl,s,f3⟩;have f:=af (f.out.only c.out f3 (by decide));have k:=af (k.out.only c.out f3 (by decide));have m:Hid (Fr (eI g) W ad):=m.out.trans f3;have c:=af s;clear s f3;go_wp2_with(refine aM rfl 3 (.tmp 12) (.tmp 11) rfl g3 2 (.int .i64 t) rfl rfl rfl mR _ _ #[.int .i64 n, .int .i64 q, .int .i64 t, .string ByteArray.empty] k.out (show 2<4 by decide) rfl ?_);intro P b3 f3;have k:Hid (aq P g3 43 #[.int .i64 n, .int .i64 q, .int .i64 t, .string ByteArray.empty]):=b3;have f:=af (f.out.fr f3 (fun e=>by have v:g2=g3:=e;have:=r.out;omega));have c:=af (z.out.uX c.out f3 d.out.2);have m:Hid (Fr (eI g) W P):=m.out.au f3 (fun i G e=>by have v:i=g3:=e;have:=d.out;omega);clear b3 f3;go_wp2_with fail;refine(V.out _ c.out).mono ?_;rintro e x3⟨rfl,s,f3⟩;have f:=af (f.out.only c.out f3 (by decide));have k:=af (k.out.only c.out f3 (by decide));have m:Hid (Fr (eI g) W x3):=m.out.trans f3;have c:=af s;clear s f3;go_wp2_with(refine aM rfl 41 (.tmp 15) (.tmp 14) rfl g3 3 (.string u) rfl rfl rfl uT _ _ #[.int .i64 n, .int .i64 q, .int .i64 t, .string u] k.out (show 3<4 by decide) rfl ?_);intro y3 b3 f3;have k:Hid (aq y3 g3 43 #[.int .i64 n, .int .i64 q, .int .i64 t, .string u]):=b3;have f:=af (f.out.fr f3 (fun e=>by have v:g2=g3:=e;have:=r.out;omega));have c:=af (z.out.uX c.out f3 d.out.2);have m:Hid (Fr (eI g) W y3):=m.out.au f3 (fun i G e=>by have v:i=g3:=e;have:=d.out;omega);clear b3 f3;go_wp2_with(refine aC rfl 43 (.tmp 3) rfl ⟨g3,0,none⟩ rfl [Value.int .i64 n, .int .i64 q, .int .i64 t, .string u] _ ?zA Tryz.underlying43 rfl fQ (aR.go ?zB));case zA=>
  intro j x aa;rw[Addr.add_mid,Nat.zero_add,k.out.cell j,bQ];exact aa
 unfold aR;have C:Hid ([Value.int .i64 n, .int .i64 q, .int .i64 t, .string u].toArray.all (·.oneCell')=true):=by simp[Hid,Value.oneCell']
 go_wp2_with(refine ak rfl 43 (.tmp 2) _ rfl g2 [Value.int .i64 n, .int .i64 q, .int .i64 t, .string u].toArray rfl rfl _ _ f.out fQ rfl C.out ?_);intro I L J;have Q:=af L;have Z:Hid (Ri o I g S H):=z.out.uX c.out J d.out.1;have X:Hid (Fr (eI g) W I):=m.out.au J (fun i G e=>by have v:i=g2:=e;have:=d.out;omega);have Y:=af (w.out I Z.out X.out);clear L J;go_wp2;exact bodyPost_ret (results_cell_row (fn:=Tryz.f70) (p:=2) (ty:=43) Tryz.results70 _ I _ 43 _ (0,0) _ rfl Q.out Tryz.underlying43 rfl fQ) rfl Y.out
theorem Kh(st:fD):(j6 st).1.length≤16777216:=by
 unfold j6 aO;split;·simp
 ·split;·simp
  next h=>
   simp only[cq]at h⊢;split;·simp
   ·split;·simp
    ·split;·simp
     next a b c=>
      simp only[List.length_take];omega
theorem AY(st:fD):(aO 0 (bj (st.1.length:Int)) st).1≤(st.1.length:Int)∧0≤(aO 0 (bj (st.1.length:Int)) st).1:=by
 unfold aO;split;·simp
 ·split;·simp
  next h=>
   simp only[ne_eq,Decidable.not_not,bj]at h⊢;by_cases c:(pn st.1 9).2.2=0∧(st.1.length:Int)<((pn st.1 9).1:Int);·rw[if_pos c]at h;cases h
   ·rw[if_neg c]at h;have a:(pn st.1 9).2.2=0:=by omega
    have:¬(st.1.length:Int)<((pn st.1 9).1:Int):=fun x=>c ⟨a,x⟩;omega
def Lj(c W:World)(g:Nat)(S:Nat→Prop)(a:Option (List CV×fD))(e:Ending)(W':World):Prop:=
 ∃v b,e= .returned (.tuple #[v, .bool b])∧Fr (eI g) W W'∧((b=true∧∃L st,a=some (L,st)∧dU W' v L∧L.length≤1099511627776∧Ri c W' g S st∧∀k,v.ownBlock=some k→W.heap.size≤k)∨(b=false∧a=none∧v= .slice none 0 0∧c.heap.size≤W'.heap.size∧Fr ah c W'))
def Li(c W:World)(g:Nat)(S:Nat→Prop)(N:Nat)(a:Option (List CV×fD))(v i:Value)(wr:World):Prop:=
 ∃(k:Nat)(st:fD)(L:List CV),k≤N∧i= .int .i64 (k:Int)∧lW (N-k) st L=a∧L.length=k∧dU wr v L∧(∀b,v.ownBlock=some b→W.heap.size≤b)∧Ri c wr g S st∧Fr (eI g) W wr
theorem Fu(n:aI)(s:ByteArray)(b:Bool):Tryz.prog.built 119 [(0, .agg n.cells.toArray),(2, .bool b),(1, .string s)]=some (CV.cells ⟨n,s,b⟩).toArray:=by kernel_rfl
theorem IJ(n:aI):(Tryz.prog.info? 106).map (·.size)=some n.cells.toArray.size:=aT
theorem Jq(w:World):(zeroValue 106).run Tryz.prog w= .ok (.agg (aI.cells ⟨0,ByteArray.empty,0,0,ByteArray.empty⟩).toArray) w:=by kernel_rfl
theorem sj(q W:World)(g:Nat)(S:Nat→Prop)(st:fD)(h:Ri q W g S st)(bP:ed q):
  Calls Tryz.prog 71 #[.pointer (some ⟨g,0,none⟩)] W (Lj q W g S (jl st)):=by
 have aB:=af h;have b2:=af bP;have D:Hid (jl st=lW (aO 0 (bj (st.1.length:Int)) st).1.toNat (aO 0 (bj (st.1.length:Int)) st).2 []):=rfl;obtain⟨N,a8⟩:∃N:Nat,(aO 0 (bj (st.1.length:Int)) st).1=(N:Int):=⟨_,(Int.toNat_of_nonneg (AY st).2).symm⟩;have K:Hid (N≤1099511627776):=by
  have b5:=(AY st).1;have b6:=h.rr.small;simp only[Hid];omega
 rw[a8,Int.toNat_natCast]at D;have bt:Hid (∀W',Ri q W' g S st→Calls Tryz.prog 107 #[.pointer (some ⟨g,0,none⟩), .int .i64 (st.1.length:Nat)] W' (qU q W' g S (.int .i64 (N:Int)) (aO 0 (bj (st.1.length:Int)) st).2)):=fun W' h=>by
  rw[←a8];exact h.number _
 have bu:Hid (Calls Tryz.prog 117 #[.pointer (some ⟨g,0,none⟩)] W (bG W (.int .i64 (st.1.length:Nat)))):=h.rest;obtain⟨r,a9⟩:∃O,jl st=O:=⟨_,rfl⟩;rw[a9]at D;rw[a9];generalize(aO 0 (bj (st.1.length:Int)) st).2=s1 at*;obtain⟨i0,aj,am,E,ba⟩:=info_parts mZ;have a4:Hid (¬1*i0.size>2^24):=by simp only[Hid];rw[E];omega
 have a5:Hid (¬1*i0.size=0):=by simp only[Hid];rw[E];omega
 have a6:Hid (∀c:CV,Instr.fill (fun i=>some (i*i0.size,i0.size)) ((Array.range (1*i0.size)).map (bY.cells[· %bY.cells.size]!)) [(0, .agg c.cells.toArray)]=some c.cells.toArray):=fun c=>by rw[E];exact ku _ _ rfl (by simp[bY,Value.cells])
 clear h bP a8 a9;go_enter Tryz.func71,Tryz.ntmps71;go_wp2_with fail;refine bu.out.mono ?_;rintro e w1⟨rfl,rfl⟩;go_wp2_with fail;refine(bt.out _ aB.out).mono ?_;rintro e w1⟨rfl,bU,f1⟩;have aa:Hid (Li q W g S N r (.slice none 0 0) (.int .i64 0) w1):=⟨0,s1,[],Nat.zero_le _,rfl,D.out.symm,rfl,dU.nil _,(fun b ac=>by simp[Value.ownBlock]at ac),bU,f1⟩;clear bU f1 bt bu D;go_wp2;go_loopw[4,12](fun v i wr=>Li q W g S N r v i wr)(fun _ i _=>N-(intOf i).toNat);case atStart=>exact aa.out
 case round=>
  obtain⟨k,l,L,cf,rfl,bN,Q,bM,aG,a,hF⟩:=hrel;have aC:=af a;have aU:=af hF;have aZ:=af Q;have bk:=af aG;obtain⟨av,n4,aE,rfl,M⟩:=bM.form;have aM:=af M;have cd:Hid (n4=k):=by
   obtain⟨A,n,c,e,b8,_⟩:=M.cl;cases e;rw[Hid,b8,Q]
  have ax:=af bN;clear a hF Q aG bM M bN aa;by_cases b7:k<N
  ·have bO:(k:Int)<(N:Int):=by omega
   have t1:decide ((k:Int)<(N:Int))=true:=decide_eq_true bO;have bz:Hid (lW (N-k-1+1) l L=r):=by rw[Hid,show N-k-1+1=N-k by omega];exact ax.out
   have aY:Hid ((j6 l).1.length≤16777216):=Kh l;have bv:Hid (∀W',Ri q W' g S l→Calls Tryz.prog 104 #[.pointer (some ⟨g,0,none⟩), .int .i64 16777216] W' (qU q W' g S (.string ⟨(j6 l).1.toArray⟩) (j6 l).2)):=fun W' h=>h.text _;have o:Hid (lW (N-k-1+1) l L=if(gm (j6 l).1).2≠0 then none else lW (N-k-1) (dI (aO false cW (j6 l).2).2).2 (L++[⟨(gm (j6 l).1).1,⟨(dI (aO false cW (j6 l).2).2).1.toArray⟩,(aO false cW (j6 l).2).1⟩])):=rfl;rw[bz.out]at o;generalize(j6 l).1=V at*;generalize(j6 l).2=s2 at*;clear ax bz;go_wp2_with fail;refine(bv.out _ aC.out).mono ?_;rintro e w2⟨rfl,bV,f2⟩;have a1:=af bV;have bA:Hid (Fr (eI g) W w2):=aU.out.trans f2;have bl:=af (aM.out.only aC.out f2);clear bV f2 bv;obtain⟨m,hm⟩:∃m,gm V=m:=⟨_,rfl⟩;have aL:Hid (∀w',Fr ah q w'→Calls Tryz.prog 118 #[.string ⟨V.toArray⟩] w' (fun e z=>e= .returned (.tuple #[.agg m.1.cells.toArray, .int .i64 m.2])∧Fr ah w' z)):=fun w' f=>by
    have h:=Fh ⟨V.toArray⟩ w' (b2.out.ao f) (by have:=aY.out;simp[ByteArray.size];omega);unfold ug at h;rw[show aS ⟨V.toArray⟩=V from sx V,hm]at h;exact h
   rw[hm]at o;clear hm aC aU aM;obtain⟨nm,a2⟩:=m;simp only at aL o;go_wp2_with fail;refine(aL.out _ a1.out.fr).mono ?_;rintro e w3⟨rfl,f3⟩;have bH:=af (a1.out.later f3);have aN:Hid (Fr (eI g) W w3):=bA.out.trans f3.bJ;have bn:=af (bl.out.ao f3);clear f3 aL a1 bA bl;go_wp2_with(refine an rfl 106 rfl (.agg (aI.cells ⟨0,ByteArray.empty,0,0,ByteArray.empty⟩).toArray) Jq (aI.cells ⟨0,ByteArray.empty,0,0,ByteArray.empty⟩).toArray rfl ?_);intro cb bT;have a0:=af bT;clear bT;generalize ae:w3.heap.size=g5 at*;have I:=af ae;clear ae;have bi:Hid (aq cb g5 106 (aI.cells ⟨0,ByteArray.empty,0,0,ByteArray.empty⟩).toArray):=by have h:=a0.out.aD;rw[I.out]at h;exact h
   have b1:Hid (W.heap.size≤g5):=by have:=aN.out.size;have:=I.out;simp only[Hid];omega
   go_wp2_with(refine ak rfl 106 (.tmp 5) _ rfl g5 nm.cells.toArray rfl rfl _ _ bi.out (IJ nm) rfl nm.one ?_);intro bf bb bL;have bg:Hid (aq bf g5 106 nm.cells.toArray):=bb;have aA:Hid (Fr ah w3 bf):=a0.out.fr.au bL (fun i y e=>by have b4:i=g5:=e;have:=I.out;omega);have T:=af (bH.out.later aA.out);have aP:Hid (Fr (eI g) W bf):=aN.out.trans aA.out.bJ;have bo:=af (bn.out.ao aA.out);clear bb bL a0 bi aA bH aN bn;by_cases s:a2=0;case neg=>
    have t2:(a2 !=0)=true:=by rw[bne_iff_ne];exact s
    have t:Hid (r=none):=by rw[Hid,o.out,if_pos s]
    clear s o;go_wp2;go_ret2;exact⟨_,_,rfl,aP.out, .inr ⟨rfl,t.out,rfl,T.out.fr.size,T.out.fr⟩⟩
   have t2:(a2 !=0)=false:=by rw[bne_eq_false_iff_eq];exact s
   have ab:Hid (r=lW (N-k-1) (dI (aO false cW s2).2).2 (L++[⟨nm,⟨(dI (aO false cW s2).2).1.toArray⟩,(aO false cW s2).1⟩])):=by rw[Hid,o.out,if_neg (by simp[s])]
   clear s o;have bs:Hid (∀W',Ri q W' g S s2→Calls Tryz.prog 119 #[.pointer (some ⟨g,0,none⟩)] W' (qU q W' g S (.bool (aO false cW s2).1) (aO false cW s2).2)):=fun W' h=>h.flag;generalize(aO false cW s2).1=aF at*;generalize(aO false cW s2).2=p at*;go_wp2_with fail;refine(bs.out _ T.out).mono ?_;rintro e bd⟨rfl,bW,f5⟩;have B:=af bW;have aQ:Hid (Fr (eI g) W bd):=aP.out.trans f5;have bq:=af (bo.out.only T.out f5);have Y:=af (bg.out.only T.out f5 (by decide));clear bW f5 bs T aP bo bg;have bx:Hid (∀W',Rr W' g S p.1 p.2.1 p.2.2→Calls Tryz.prog 104 #[.pointer (some ⟨g,0,none⟩), .int .i64 65536] W' (fun e z=>e= .returned (.string ⟨(dI p).1.toArray⟩)∧Fr (eI g) W' z∧Rr z g S (dI p).2.1 (dI p).2.2.1 (dI p).2.2.2)):=fun W' h=>by
    refine(nY g S _ _ _ 65536 W' h).mono ?_;rintro e z⟨rfl,bR⟩;exact⟨rfl,bR.fr,bR.rr⟩
   generalize(⟨(dI p).1.toArray⟩:ByteArray)=aH at*;generalize(dI p).2=G at*;have aJ:=af (Fu nm aH aF);have Z:=af (CV.one ⟨nm,aH,aF⟩);obtain⟨cv,R⟩:∃cv:CV,cv=⟨nm,aH,aF⟩:=⟨_,rfl⟩;rw[←R]at aJ Z ab;have aV:Hid (cv.cells.length=7):=by rw[R];rfl
   clear R;have aX:Hid (g<bd.heap.size):=B.out.rr.lt;go_upto_region 8 with fail;refine ay 7 (eI g) [Is (.slice av n4 aE),Is (.agg nm.cells.toArray),Is (.bool aF),Is (.pointer (some ⟨g,0,none⟩)),Is (.string aH),Is (.agg cv.cells.toArray),fun x X=>∃b,x= .slice (some ⟨b,0,none⟩) 1 1∧aq X b 119 cv.cells.toArray∧b≠g∧bd.heap.size≤b] [(4,fun X=>Rr X g S G.1 G.2.1 G.2.2)] (fun X=>Rr X g S p.1 p.2.1 p.2.2) (fun _ _=>false) (by kernel_rfl) (by kernel_rfl) (by kernel_rfl) (by kernel_rfl) ⟨Is.ag _,Is.ag _,Is.ag _,Is.ag _,Is.ag _,Is.ag _,fun _ _ _ _ w⟨b,h,k,n,m⟩=>⟨b,h,k.fr w n,n,m⟩,trivial⟩ ⟨fun _ _ _ h a7=>a7.kD h,trivial⟩ (fun _ _ _ h a7=>a7.kD h) (B.out.rr.kD az.drew) ?_ ?_
   ·refine⟨?zE,?zA,?zF,?zG,?zB,?zC,?zD,trivial⟩;all_goals intro u w' d w a ap F C
    all_goals simp only[bm,bp,bw,bC,ar,Act.put,bD,bE,bF,Nat.reduceAdd,Nat.zero_add]
    case zA=>
     clear a ap F C;refine ai ?_;exact aw _ _ rfl ⟨g5,0,none⟩ rfl nm.cells _ (jJ (Y.out.only B.out w (by decide))) Tryz.underlying106 rfl aT ⟨_,rfl,al⟩
    case zB=>
     simp only[show u 3=_ from a 3];clear a;refine ai ?_;have aG:Rr w' g S p.1 p.2.1 p.2.2:=by rw[dn,if_neg (by rw[F 4 (by kernel_rfl)];exact Bool.false_ne_true)]at C;exact C
     clear ap F C;go_simp;refine(bx.out _ aG).mono ?_;rintro e ch⟨rfl,f4,ca⟩;exact⟨_,rfl,f4,rfl,ca⟩
    case zC=>
     simp only[show u 1=_ from a 1,show u 2=_ from a 2,show u 4=_ from a 4];clear a ap F C;refine ai ?_;exact gR 119 _ rfl _ _ (by simp only[List.map_toArray,List.map_cons,List.map_nil];rfl) aJ.out ⟨_,rfl,al⟩
    case zD=>
     simp only[show u 5=_ from a 5];clear a ap F C;refine ai ?_;refine wp_buildSlice 44 119 1 #[(0, .tmp 29)] rfl cv.cells.toArray i0 bY Tryz.underlying44 aj am a4.out a5.out ?_ ?_;·simp only[List.map_toArray,List.map_cons,List.map_nil];exact a6.out cv
     ·exact⟨_,rfl,az.alloc _,⟨w'.heap.size,rfl,aq.new _ _ _,by have:=aX.out;have:=w.size;omega,w.size⟩,trivial⟩
    all_goals
     clear a ap F C;refine ai ?_;go_simp;exact⟨_,rfl,al⟩
   intro u w' w a C;obtain⟨bI,bK,ad,bc,a3⟩:=a 6 (by omega);have F:u 0=_:=a 0 (by omega);have bS:Rr w' g S G.1 G.2.1 G.2.2:=C;have aR:Hid (Fr (eI g) W w'):=aQ.out.trans w;have br:=af (bq.out.only B.out w);have bh:=af ad;have cc:Hid (W.heap.size≤bI):=by have:=aQ.out.size;simp only[Hid];omega
   have U:Hid (Ri q w' g S G):=⟨B.out.fr.au w (fun i y e=>by have b4:i=g:=e;have:=B.out.new;omega),bS,B.out.new,fun i y=>⟨(B.out.sn i y).1,Nat.lt_of_lt_of_le (B.out.sn i y).2 w.size⟩⟩;simp only[bm,bp,bw,bC,ar,Act.put,bD,bE,bF,cZ,da,Nat.reduceAdd,Nat.zero_add,F,bK];clear w a C bS ad bc a3 F bK B aQ bq Y bx aJ;have bB:Hid (w'.ownsRow 0 119 7 (.slice av n4 aE) L.length (L.flatMap CV.cells)):=br.out;refine eL _ rfl _ _ 44 rfl 119 i0 bY 7 80 Tryz.underlying44 aj am E ba rfl (by decide) _ _ _ rfl bB.out (fun _=>True) (some ⟨bI,0,none⟩) 1 1 cv.cells rfl ⟨aV.out,fun _=>⟨_,rfl,trivial,fun j x b9=>by rw[Addr.add_mid,Nat.zero_add,bh.out.cell,bQ];exact b9⟩⟩ (fun u hu=>by
    have h:=Z.out;rw[Array.all_eq_true_iff_forall_mem]at h;exact h u (by simpa using hu)) (by have:=K.out;have:=aZ.out;omega) (by decide) ?_;intro bX be P;have bZ:Hid (dU be bX (L++[cv])):=by
    rw[Hid,dU,aW,List.flatMap_append,List.flatMap_cons,List.flatMap_nil,List.append_nil];exact P.own
   have H:Hid (∀b,(Value.slice av n4 aE).ownBlock=some b→W.heap.size≤b):=bk.out;have aK:Hid (∀b,bX.ownBlock=some b→W.heap.size≤b):=fun b ac=>by
    rcases P.eE b ac with h|h;·exact H.out b h
    ·have:=aR.out.size;omega
   have J:Hid (∀b,(Value.slice av n4 aE).ownBlock=some b→b≠g∧¬S b∧q.heap.size≤b):=fun b ac=>by
    have b5:=H.out b ac;have b6:=aB.out.rr.lt;have ce:=aB.out.fr.size;exact⟨by omega,fun h=>by have:=(aB.out.sn b h).2;omega,by omega⟩
   have b0:Hid (Fr (eI g) W be):=aR.out.au P.fr (fun i y e=>by have:=H.out i e;omega);have b3:Hid (Ri q be g S G):=⟨U.out.fr.au P.fr (fun i y e=>by have:=(J.out i e).2.2;omega),U.out.rr.kK P.fr (fun e=>(J.out g e).1 rfl) (fun i y e=>(J.out i e).2.1 y),U.out.new,fun i y=>⟨(U.out.sn i y).1,Nat.lt_of_lt_of_le (U.out.sn i y).2 P.fr.size⟩⟩;clear P bB U aR br bh;have cg:N≤1099511627776:=K.out;go_wp2;go_roundw;case rel=>exact⟨k+1,G,L++[cv],by omega,by go_num,by rw[ab.out,show N-(k+1)=N-k-1 by omega],by rw[aW,aZ.out];rfl,bZ.out,aK.out,b3.out,b0.out⟩
   case measure=>simp[intOf];omega
  ·obtain rfl:k=N:=by omega
   have bO:¬(k:Int)<(k:Int):=by omega
   have t:Hid (r=some (L,l)):=by
    rw[Hid,←ax.out,Nat.sub_self,lW]
   clear ax;go_wp2;go_ret2;exact⟨_,_,rfl,aU.out, .inl ⟨rfl,L,l,t.out,aM.out,by rw[aZ.out];exact K.out,aC.out,bk.out⟩⟩
theorem vV{P:Program}{ops:Array Oper}{rest:List Oper}{b c:Oper}{a:Act}{w:World}{Q:Exit→Act→World→Prop}(j:b.guard=none)(k:c.guard=none)(t:TypeId)(d:Tmp)(l:b.op= .alloc t)(v:b.dst=some d)(y:Operand)(m:c.op= .store t (.tmp d) y)
  (z:Value)(s:∀w,(zeroValue t).run P w= .ok z w)(f:Array Value)(n:z.cells=f)(cells:Array Value)
  (q:∀g,(a.put b.dst (.pointer (some ⟨g,0,none⟩))).eval (.tmp d)= .pointer (some ⟨g,0,none⟩))(r:∀g,(a.put b.dst (.pointer (some ⟨g,0,none⟩))).eval y= .agg cells)
  (o:(P.info? t).map (·.size)=some cells.size)(hold:f.size=cells.size)(p:cells.all (·.oneCell')=true)
  (h:∀w' g,w.heap.size≤g→g<w'.heap.size→aq w' g t cells→Fr ah w w'→wpList P ops Q rest ((a.put b.dst (.pointer (some ⟨g,0,none⟩))).put c.dst undef) w'):wpList P ops Q (b::c::rest) a w:=by
 refine an j t l z s f n fun w1 n1=>?_;refine ak k t (.tmp d) y m w.heap.size cells (q _) (r _) t f n1.aD o hold p fun w2 b2 f2=>?_;exact h w2 w.heap.size (Nat.le_refl _) b2.lt b2 (n1.fr.au f2 (fun i o e=>by have u:i=w.heap.size:=e;omega))
theorem po{P:Program}{ops:Array Oper}{rest:List Oper}{b F c:Oper}{a:Act}{w:World}{Q:Exit→Act→World→Prop}(j:b.guard=none)(r:F.guard=none)(k:c.guard=none)(t:TypeId)(d:Tmp)(l:b.op= .alloc t)(E:b.dst=some d)(x:Operand)(s:F.op= .assign x)(y:Operand)(m:c.op= .store t (.tmp d) y)
  (z:Value)(C:∀w,(zeroValue t).run P w= .ok z w)(f:Array Value)(n:z.cells=f)(v:Value)(cells:Array Value)
  (u:∀g,(a.put b.dst (.pointer (some ⟨g,0,none⟩))).eval x=v)
  (A:∀g,((a.put b.dst (.pointer (some ⟨g,0,none⟩))).put F.dst v).eval (.tmp d)= .pointer (some ⟨g,0,none⟩))(B:∀g,((a.put b.dst (.pointer (some ⟨g,0,none⟩))).put F.dst v).eval y= .agg cells)
  (o:(P.info? t).map (·.size)=some cells.size)(hold:f.size=cells.size)(p:cells.all (·.oneCell')=true)
  (h:∀w' g,w.heap.size≤g→g<w'.heap.size→aq w' g t cells→Fr ah w w'→wpList P ops Q rest (((a.put b.dst (.pointer (some ⟨g,0,none⟩))).put F.dst v).put c.dst undef) w'):wpList P ops Q (b::F::c::rest) a w:=by
 refine an j t l z C f n fun w1 n1=>?_;refine wpList_plain r fun K q=>?_;unfold Oper.wp execOp;simp only[s,Sem.run_pure,u];refine q _ _ ?_;refine ak k t (.tmp d) y m w.heap.size cells (A _) (B _) t f n1.aD o hold p fun w2 b2 f2=>?_;exact h w2 w.heap.size (Nat.le_refl _) b2.lt b2 (n1.fr.au f2 (fun i o e=>by have D:i=w.heap.size:=e;omega))
structure Hw(a:ActV):Prop where
 fA:a.key.fA.size≤1048576
 reads:∀c∈a.reads,gS c
 writes:∀c∈a.writes,gS c
 nr:a.reads.length≤60000
 nw:a.writes.length≤60000
def kJ(a:ActV):Value:=if gv a then .tuple #[.string ⟨(dj a).toArray⟩, .int .i64 0]else .tuple #[.string ByteArray.empty, .int .i64 3]
def iY(xs:List CV)(j:Nat):List UInt8:=enc xs.length++(xs.take j).flatMap ny
theorem Cp(xs:List CV):iY xs 0=enc xs.length:=by simp[iY]
theorem FD(xs:List CV):iY xs xs.length=eT xs:=by simp[iY,eT]
theorem Co{xs:List CV}{j:Nat}{c:CV}(h:xs[j]? =some c):iY xs (j+1)=iY xs j++(bN (cJ c.nm)++(jR c.bH++bN (aS c.value))):=by
 rw[iY,iY,List.take_add_one,h,Option.toList_some,List.flatMap_append,List.flatMap_cons,List.flatMap_nil,List.append_nil,ny,List.append_assoc]
theorem Ip(xs:List CV)(j:Nat):(iY xs j).length≤(eT xs).length:=by
 have e:eT xs=iY xs j++(xs.drop j).flatMap ny:=by
  rw[iY,eT,List.append_assoc,←List.flatMap_append,List.take_append_drop]
 rw[e,aW];omega
theorem yj:∀(xs:List CV),(∀c∈xs,gS c)→(∀c∈xs,jy c=true)→(xs.flatMap ny).length≤xs.length*4000000
 |[],_,_=>by simp
 |c::xs,h,e=>by
  have f:=yj xs (fun d a=>h d (by simp[a])) (fun d a=>e d (by simp[a]));have b:=h c (by simp);have a2:=e c (by simp);simp only[jy,Bool.and_eq_true,decide_eq_true_eq]at a2;have a3:=b.owner;have a4:=b.text;have b1:=ft c.nm;have b2:=aX (cJ c.nm).length;have b3:=aX (aS c.value).length;have b4:=aQ c.value;simp only[List.flatMap_cons,ny,bN,jR,aW,List.length_cons,List.length_nil]at f⊢;omega
def oo(a:ActV)(k:Nat):List UInt8:=if k=0 then rp a.key else if k=1 then rp a.key++eT a.reads else dj a
theorem Fp(a:ActV):oo a 2=dj a:=rfl
theorem Hz(a:ActV)(k:Nat):(oo a k).length≤(dj a).length:=by
 unfold oo;split;·simp only[dj,aW];omega
 ·split;·simp only[dj,aW];omega
  ·exact Nat.le_refl _
theorem Ia{a:ActV}(h:Hw a)(b:gv a=true):(dj a).length≤1000000000000:=by
 simp only[gv,Bool.and_eq_true]at b;have k:=yj a.reads h.reads (ky b.1.2);have l:=yj a.writes h.writes (ky b.2);have m:=h.nr;have n:=h.nw;have o:=h.fA;have c:=aX a.key.tick.toNat;have d:=aX a.key.cls.toNat;have e:=aX a.key.num.toNat;have f:=aX (aS a.key.fA).length;have g:=aQ a.key.fA;have i:=aX a.reads.length;have j:=aX a.writes.length;simp only[dj,rp,eT,bN,aW];omega
theorem Af(A B:Option Addr)(n m c d:Nat)(w:World):(Instr.index 116 (.agg #[.slice A n c, .slice B m d]) (.int .i64 ((0:Nat):Int))).run Tryz.prog w= .ok (.slice A n c) w:=by kernel_rfl
theorem Ag(A B:Option Addr)(n m c d:Nat)(w:World):(Instr.index 116 (.agg #[.slice A n c, .slice B m d]) (.int .i64 ((1:Nat):Int))).run Tryz.prog w= .ok (.slice B m d) w:=by kernel_rfl
theorem rK(a:ActV)(cs:List Value)(w:World)(aH:ed w)(a8:cy w cs a)(p:Hw a):
    Calls Tryz.prog 18 #[.agg cs.toArray] w (aK w (kJ a)):=by
  have bl:=af aH;have C:=af p;have ar:=af a8;obtain⟨bJ,bL,rfl,ac,O⟩:=a8;obtain⟨q,bu,s,rfl,rfl,_,U⟩:=ac.cl;obtain⟨r,bv,t,rfl,rfl,_,V⟩:=O.cl;have az:=af U;have aA:=af V;have G:Hid (∀w',Fr ah w w'→Calls Tryz.prog 60 #[.agg (a.key.cells++[Value.slice q a.reads.length s, .slice r a.writes.length t]).toArray] w' (aK w' (.bool (gv a)))):=fun w' f=>
    ot a _ w' (aH.ao f) (ar.out.ao f) (by have:=p.fA;omega) (fun c v=>(p.reads c v).fit) (fun c v=>(p.writes c v).fit) (by have:=p.nr;omega) (by have:=p.nw;omega);have d:Hid (gv a=true→(dj a).length≤1000000000000):=Ia p;have L:Hid (a.reads.length≤60000∧a.writes.length≤60000):=⟨p.nr,p.nw⟩;clear ac O U V aH p;go_enter Tryz.func18,Tryz.ntmps18;go_wp2_with(refine aB rfl 46 (.tmp 0) rfl _ rfl ?_);intro w1 n1;have am:=af n1.fr;have ae:=af n1.aD;clear n1;generalize w.heap.size=g at*;have al:Hid (∀w',aq w' g 46 (a.key.cells++[Value.slice q a.reads.length s, .slice r a.writes.length t]).toArray→∀j x,a.key.cells[j]? =some x→w'.cell? ((⟨g,0,none⟩:Addr).add j)=some x):=fun w' bs j x D=>by
    rw[Addr.add_mid,Nat.zero_add,bs.cell j,bQ,List.getElem?_append_left (List.getElem?_eq_some_iff.1 D).1];exact D
  have F:Hid (∀j x,(a.key.cells++[Value.slice q a.reads.length s, .slice r a.writes.length t])[j]? =some x→w1.cell? ((⟨g,0,none⟩:Addr).add j)=some x):=fun j x D=>by
    rw[Addr.add_mid,Nat.zero_add,ae.out.cell j,bQ];exact D
  go_wp2_with(refine aC rfl 46 (.tmp 1) rfl ⟨g,0,none⟩ rfl (a.key.cells++[Value.slice q a.reads.length s, .slice r a.writes.length t]) _ ?zC Tryz.underlying46 rfl bM (aR.go ?zF));case zC=>exact F.out
  unfold aR;go_wp2_with fail;refine(G.out _ am.out).mono ?_;rintro e w2⟨rfl,f2⟩;have ap:=af (am.out.trans f2);have aN:=af (ae.out.fr f2 (fun x=>x));clear f2 G am ae F;cases b:gv a
  · have ax:Hid (kJ a= .tuple #[.string ByteArray.empty, .int .i64 3]):=by rw[Hid,kJ,b];rfl
    clear b d;go_wp2;go_ret2;rw[ax.out];exact⟨rfl,ap.out⟩
  have ax:Hid (kJ a= .tuple #[.string ⟨(dj a).toArray⟩, .int .i64 0]):=by rw[Hid,kJ,b];rfl
  have bk:=af b;have K:Hid ((dj a).length≤1000000000000):=d.out b;have B:Hid (dQ a.key=true∧fW a.reads=true∧fW a.writes=true):=by
    have h:=b;simp only[gv,Bool.and_eq_true]at h;exact⟨h.1.1,h.1.2,h.2⟩
  clear b d;go_wp2_with fail;refine(Wi.start ap.out).mono ?_;rintro e w3⟨rfl,W,f3⟩;have aX:=af W;have ag:=af (aN.out.fr f3 (fun x=>x));generalize w2.heap.size=o at*;clear W f3 ap aN;go_wp2_with(refine aC rfl 43 (.tmp 15) rfl ⟨g,0,none⟩ rfl a.key.cells _ ?zE Tryz.underlying43 rfl fQ (aR.go ?zG));case zE=>exact al.out _ ag.out
  unfold aR;go_wp2_with fail;refine(wu w w3 o [] a.key aX.out (by simp) B.out.1 (by have:=C.out.fA;omega)).mono ?_;rintro e aM⟨rfl,X,ba⟩;have aY:Hid (Wi w aM o (oo a 0)):=X;have ai:=af (ba _ _ _ ag.out (by decide) (by decide));clear X ba aX ag;have bo:aM.cell? {block:=g,off:=4}=some (.slice q a.reads.length s):=ai.out.cell 4;have c5:aM.cell? {block:=g,off:=5}=some (.slice r a.writes.length t):=ai.out.cell 5;go_wp2;clear bo c5;go_loopw[24](fun i wr=>∃k:Nat,k≤2∧i= .int .i64 (k:Int)∧Wi w wr o (oo a k))(fun i _=>2-(intOf i).toNat);case atStart=>exact⟨0,by omega,rfl,aY.out⟩
  case round=>
    obtain⟨k,bG,rfl,hw⟩:=hrel;have ab:=af hw;clear hw aY ai;by_cases bt:k<2
    · have t0:decide ((k:Int)<2)=true:=cT (by omega);obtain⟨A,n,c,xs,y,R,aJ,aL,T,u⟩:∃A n c xs,Hid (∀w,(Instr.index 116 (.agg #[.slice q a.reads.length s, .slice r a.writes.length t]) (.int .i64 (k:Int))).run Tryz.prog w= .ok (.slice A n c) w)∧Hid (CL w (fun _=>True) A n xs)∧Hid (fW xs=true)∧Hid (∀c∈xs,gS c)∧Hid (n≤60000)∧Hid (oo a (k+1)=oo a k++eT xs):=by
        by_cases bq:k=0;· subst bq;exact⟨q,_,s,a.reads,Af q r _ _ s t,az.out,B.out.2.1,C.out.reads,L.out.1,rfl⟩
        · obtain rfl:k=1:=by omega
          exact⟨r,_,t,a.writes,Ag q r _ _ s t,aA.out,B.out.2.2,C.out.writes,L.out.2,by simp[Hid,oo,dj]⟩
      have H:Hid (∀j,(oo a k++iY xs j).length≤1000000000000):=fun j=>by
        have ac:=Ip xs j;have O:=Hz a (k+1);have bC:=K.out;rw[u.out,aW]at O;rw[aW];omega
      have av:Hid ((oo a k).length≤1000000000000):=by have:=H.out 0;simp only[aW]at this;simp only[Hid];omega
      have Q:Hid (xs.length=n):=R.out.len;have aG:=y.out;generalize P:oo a k=acc at*;have bj:=af P;clear P y;go_wp2_with fail;refine(ab.out.number n (by have:=av.out;omega) (by have:=T.out;omega)).mono ?_;rintro e bw⟨rfl,a4,_⟩;have aZ:Hid (Wi w bw o (acc++iY xs 0)):=by rw[Hid,Cp,Q.out];exact a4
      clear a4 aG ab;go_wp2;go_loopw[33](fun i wr=>∃j:Nat,j≤n∧i= .int .i64 (j:Int)∧Wi w wr o (acc++iY xs j))(fun i _=>n-(intOf i).toNat);case atStart=>exact⟨0,by omega,rfl,aZ.out⟩
      case round=>
        obtain⟨j,bF,rfl,Y⟩:=hrel;have N:=af Y;clear Y aZ;by_cases aI:j<n
        · have a9:(j:Int)<(n:Int):=by omega
          have br:(0:Int)≤(j:Int):=by omega
          have t1:decide ((j:Int)<(n:Int))=true:=decide_eq_true a9;obtain⟨bA,ch,rfl,v,m⟩:=(R.out.ao N.out.fr).at_ aI;have I:=af m;have bh:=af ch.one;have Z:Hid (gS ch):=aL.out ch (List.mem_of_getElem? v);have bm:Hid (jy ch=true):=ky aJ.out ch (List.mem_of_getElem? v);have l:Hid (acc++iY xs (j+1)=((acc++iY xs j)++bN (cJ ch.nm))++jR ch.bH++bN (aS ch.value)):=by
            rw[Hid,Co v];simp only[List.append_assoc]
          have aw:=af (H.out (j+1));clear m v;go_wp2_with(refine aC rfl 119 (.tmp 35) rfl _ rfl ch.cells _ ?zD Tryz.underlying119 rfl jC (aR.go ?hold));case zD=>exact I.out
          unfold aR;go_wp2_with(refine an rfl 119 rfl bY EV #[.int .i64 0, .string ByteArray.empty, .int .i64 0, .int .i64 0, .string ByteArray.empty, .string ByteArray.empty, .bool false] rfl ?_);intro bz be;have aE:=af be;clear be;generalize S:wr.heap.size=g8 at*;have J:=af S;clear S;have aP:Hid (aq bz g8 119 #[.int .i64 0, .string ByteArray.empty, .int .i64 0, .int .i64 0, .string ByteArray.empty, .string ByteArray.empty, .bool false]):=by have h:=aE.out.aD;rw[J.out]at h;exact h
          go_wp2_with(refine ak rfl 119 (.tmp 8) _ rfl g8 ch.cells.toArray rfl rfl _ _ aP.out jC rfl bh.out ?_);intro ad bb a3;have E:Hid (aq ad g8 119 ch.cells.toArray):=bb;have aV:Hid (Fr ah wr ad):=aE.out.fr.au a3 (fun i bE e=>by have bB:i=g8:=e;have:=J.out;omega);have aF:=af (N.out.later aV.out);clear bb a3 aE aP I N aV;have aU:Hid (∀j x,ch.nm.cells[j]? =some x→ad.cell? ((⟨g8,0,none⟩:Addr).add j)=some x):=fun j x D=>by
            rw[Addr.add_mid,Nat.zero_add,E.out.cell j,bQ,CV.cells,List.getElem?_append_left (List.getElem?_eq_some_iff.1 D).1];exact D
          go_wp2_with(refine aC rfl 106 (.tmp 38) rfl ⟨g8,0,none⟩ rfl ch.nm.cells _ ?zA Tryz.underlying106 rfl aT (aR.go ?zB));case zA=>exact aU.out
          unfold aR;have M:Hid (dD ch.nm=true∧ch.value.size≤65536):=by
            have h:=bm.out;simp only[jy,Bool.and_eq_true,decide_eq_true_eq]at h;exact h.1
          have ay:Hid ((cJ ch.nm).length≤16777216):=by
            have ac:=Z.out.owner;have O:=Z.out.text;have bD:=ft ch.nm;simp only[Hid];omega
          go_wp2_with fail;refine(wX ch.nm ad (bl.out.ao aF.out.fr) (by have:=Z.out.owner;omega) (by have:=Z.out.text;omega) M.out.1).mono ?_;rintro e bK⟨rfl,f6⟩;have a0:=af (aF.out.later f6);have aO:=af (E.out.fr f6 (fun x=>x));clear f6 aF E aU;have z:Hid ((acc++iY xs j).length≤1099511627776∧(acc++iY xs j++bN (cJ ch.nm)).length≤1099511627776∧(acc++iY xs j++bN (cJ ch.nm)++jR ch.bH).length≤1099511627776):=by
            have h:=aw.out;rw[l.out]at h;simp only[aW]at h;simp only[Hid,aW];omega
          go_wp2_with fail
          refine(a0.out.text ⟨(cJ ch.nm).toArray⟩ z.out.1 (by have h:=ay.out;have e:(⟨(cJ ch.nm).toArray⟩:ByteArray).size=(cJ ch.nm).length:=by rw[←aQ];rfl
                                                              omega)).mono ?_;rintro e bf⟨rfl,a5,bc⟩;have a1:Hid (Wi w bf o (acc++iY xs j++bN (cJ ch.nm))):=a5;have aj:=af (bc _ _ _ aO.out (by decide) (by decide));clear a5 bc a0 aO;have bp:bf.cell? {block:=g8,off:=6}=some (.bool ch.bH):=aj.out.cell 6;go_wp2_with fail;refine(a1.out.flag ch.bH z.out.2.1).mono ?_;rintro e bx⟨rfl,a6,bd⟩;have a2:=af a6;have E:=af (bd _ _ _ aj.out (by decide) (by decide));clear a6 bd a1 aj bp;have c5:bx.cell? {block:=g8,off:=5}=some (.string ch.value):=E.out.cell 5;go_wp2_with fail;refine(a2.out.text ch.value z.out.2.2 (by have:=M.out.2;omega)).mono ?_;rintro e bg⟨rfl,a7,_⟩;have bn:Hid (Wi w bg o (acc++iY xs (j+1))):=by rw[Hid,l.out];exact a7
          clear a7 a2 E c5;have bI:n≤60000:=T.out;go_wp2;go_roundw;case rel=>exact⟨j+1,by omega,by go_num,bn.out⟩
          case measure=>simp[intOf];omega
        · obtain rfl:j=n:=by omega
          have a9:¬(j:Int)<(j:Int):=by omega
          have aa:Hid (Wi w wr o (oo a (k+1))):=by
            have h:=N.out;rw[←Q.out,FD]at h;rw[Hid,u.out];exact h
          clear N;go_wp2;go_roundw;case rel=>exact⟨k+1,by omega,by go_num,aa.out⟩
          case measure=>simp[intOf];omega
    · obtain rfl:k=2:=by omega
      have aa:Hid (Wi w wr o (dj a)):=by rw[←Fp];exact ab.out
      clear ab;go_wp2_with fail;refine(zd w wr o (dj a) aa.out (by have:=K.out;omega)).mono ?_;rintro e bg⟨rfl,f9⟩;have bi:=af (aa.out.fr.trans f9);clear f9;go_wp2;go_ret2;rw[ax.out];exact⟨rfl,bi.out⟩
end Go.Proofs.YtphjagkehiklkaaGreatDoor
namespace Go.Proofs.YtphjagkehiklkaaGreatDoor
open Go.RowKit
def eN(s:ByteArray):List UInt8:=s.data.toList
theorem dP(s:ByteArray):(eN s).length=s.size:=by simp[eN]
structure nd(W w:World)(v:Value)(l:List UInt8):Prop where
 fr:Fr ah W w
 row:∃g cap,v= .slice (some ⟨g,0,none⟩) l.length cap∧W.heap.size≤g∧g<w.heap.size∧l.length≤cap∧cap≤maxLen∧(∀j,j<cap→(w.cell? ⟨g,j,none⟩).isSome=true)∧
  (∀j,j<cap→w.frozen? ⟨g,j,none⟩=false)∧(∀j u,(l.map bL)[j]? =some u→w.cell? ⟨g,j,none⟩=some u)
theorem xr:(Tryz.prog.info? 5).map (fun i=>(i.zero,i.size,i.bytes))=some (some (.int .u8 0),1,1):=by kernel_rfl
theorem nd.gO{W w:World}{base:Nat}{v:Value}{l:List UInt8}(h:w.ownsRow base 5 1 v l.length (l.map bL))(s:W.heap.size≤base)(p:Fr ah W w)(q:l≠[]):nd W w v l:=by
 rcases h.2 with⟨rfl,m⟩|⟨g,cap,cur,rfl,n,a,f,c,o,i⟩
 ·cases l with
  |nil=>exact absurd rfl q
  |cons x r=>simp at m
 ·have e:g<w.heap.size:=by
   rcases Nat.lt_or_ge g w.heap.size with b|b;·exact b
   ·rw[Array.getElem?_eq_none b]at a;cases a
  refine⟨p,g,cap,rfl,by omega,e,f,c,fun j t=>?_,fun j _=>by simp[World.frozen?,a],fun j u hu=>?_⟩
  ·have d:j<cur.size:=by omega
   simp[World.cell?,a,d]
  ·have k:=h.cells (g:=g) rfl j u hu;rw[show(⟨g,0,none⟩:Addr).add j=⟨g,j,none⟩by unfold Addr.add;split<;>simp_all]at k;exact k
theorem nd.app{W w:World}{v:Value}{l x:List UInt8}(h:nd W w v l)(ty:TypeId)(a:Addr)(c:Nat)(J:∀j u,(x.map bL)[j]? =some u→w.cell? (a.add j)=some u)(N:l.length+x.length≤140737488355328)(E:x≠[]):
  ∃s w',(Builtin.append_ #[61,61] ty #[v, .slice (some a) x.length c]).run Tryz.prog w= .ok s w'∧nd W w' s (l++x):=by
 obtain⟨A,g,cap,rfl,t,C,M,z,y,K,I⟩:=h;obtain⟨i,H,F,n,G⟩:=info_parts xr;have p:∀u∈x.map bL,u.oneCell'=true:=by
  intro u hu;obtain⟨b,_,rfl⟩:=List.mem_map.1 hu;rfl
 by_cases m:l.length+x.length≤cap
 ·have d:=run_append_room_cells (P:=Tryz.prog) w 61 ty 5 i Tryz.underlying61 H g 0 l.length cap a x.length c (x.map bL) (by rw[n];simp) J p m (fun j f=>by
   rw[n,Nat.mul_one,Nat.zero_add];simp at f;exact y _ (by omega)) (fun j f=>by rw[n,Nat.mul_one,Nat.zero_add];simp at f;exact K _ (by omega));rw[n,Nat.mul_one,Nat.zero_add]at d;refine⟨_,_,d,?_⟩;refine⟨Fr.setCells (fun o=>by omega) _ _ _ A,g,cap,by rw[aW],t,?_,by rw[aW];exact m,z,fun j f=>?_,fun j f=>?_,fun j u hu=>?_⟩;·exact Nat.lt_of_lt_of_le C (Fr.setCells (T:=fun k=>k=g) (fun _=>rfl) _ _ _ (Fr.refl _ w)).size
  ·exact Lib.isSome_setCells _ _ _ _ _ (y j f)
  ·rw[World.frozen?_setCells];exact K j f
  ·rw[List.map_append,List.getElem?_append]at hu;by_cases f:j<(l.map bL).length;·rw[if_pos f]at hu;rw[World.cell?_setCells_out _ _ _ _ _ (fun _ _=>Or.inl (by simpa using f))];exact I j u hu
   ·rw[if_neg f]at hu;have L:l.length≤j:=by simpa using f
    rw[List.length_map]at hu;obtain⟨o,r⟩:=List.getElem?_eq_some_iff.1 hu;have e:=World.cell?_setCells_in g (x.map bL) l.length w (fun k D=>y _ (by simp at D;omega)) (j-l.length) o;rw[show l.length+(j-l.length)=j by omega]at e;rw[e,r]
 ·obtain⟨s,w',d,q,B⟩:=run_append_arg_grows (P:=Tryz.prog) w 61 ty 5 i (.int .u8 0) 1 1 Tryz.underlying61 H F n G rfl (by omega) ⟨g,0,none⟩ l.length cap (l.map bL) (by simp) (fun j u hu=>by
   rw[show(⟨g,0,none⟩:Addr).add j=⟨g,j,none⟩by unfold Addr.add;split<;>simp_all];exact I j u hu) a x.length c (x.map bL) (by simp) J (by omega) (by simp only[maxLen];omega) (by omega);refine⟨s,w',d,nd.gO (base:=w.heap.size) ?_ A.size (A.trans ((Fr.grown B).mono (fun k _ D=>by cases D))) (by simp[E])⟩;rw[aW,List.map_append];exact q
end Go.Proofs.YtphjagkehiklkaaGreatDoor
namespace Go.Proofs.YtphjagkehiklkaaGreatDoor
open Go.RowKit
theorem Ic(l:List UInt8):∀(s:ByteArray),(l.map (fun b:UInt8=>(b.toNat:Int))).foldl (fun r n=>r.push (UInt8.ofNat n.toNat)) s=⟨(s.data.toList++l).toArray⟩:=by
 induction l with
 |nil=>intro s;simp
 |cons b l a=>
  intro s;simp only[List.map_cons,List.foldl_cons];rw[a];congr 1;have e:UInt8.ofNat (Int.toNat (b.toNat:Int))=b:=by simp
  rw[e];simp[ByteArray.push]
theorem vN{P:Program}(w:World)(src dst e:TypeId)(q:P.underlying src=some (.slice e))(he:P.underlying e=some (.int .u8))(p:P.underlying dst=some .string)
  (S:Nat→Prop)(A:Option Addr)(n c:Nat)(l:List UInt8)(f:Rd w S 1 A n (l.map bL)):(convert src dst (.slice A n c)).run P w= .ok (.string ⟨l.toArray⟩) w:=by
 rw[run_convert_bytes_string w src dst e A n c q he p];have d:l.length=n:=by simpa using f.1
 rcases A with _|a
 ·have:l=[]:=by
   rcases Nat.eq_zero_or_pos n with h|h;·exact List.eq_nil_of_length_eq_zero (d.trans h)
   ·obtain⟨a,e,_⟩:=f.2 h;cases e
  subst this;rfl
 ·have o:∀j v,(l.map bL)[j]? =some v→w.cell? (a.add j)=some v:=by
   intro j v i;rcases Nat.eq_zero_or_pos n with h|h;·have:l=[]:=List.eq_nil_of_length_eq_zero (d.trans h);subst this;simp at i
   ·obtain⟨k,e,_,m⟩:=f.2 h;injection e with e;subst e;exact m j v i
  have g:=run_loadCells_list (P:=P) w a (l.map bL) o;rw[List.length_map,d]at g;rw[run_bytesToString w a n c (l.map (fun b:UInt8=>(b.toNat:Int))) (by rw[g];simp[bL,Function.comp_def])];rw[Ic];rfl
abbrev By(w:World)(v:Value)(w':World)(a:Value)(l:List UInt8):Prop:=bO 5 1 w v w' a l.length (l.map bL)
theorem wQ(s:ByteArray):Lib.strCells s=(eN s).map bL:=rfl
theorem iP(l:List UInt8):∀u∈l.map bL,u.oneCell'=true:=by
 intro u hu;obtain⟨b,_,rfl⟩:=List.mem_map.1 hu;rfl
theorem Au(n:Nat):bL (im n)= .int .u8 ((n%256:Nat):Int):=by
 unfold bL im;rw[UInt8.toNat_ofNat']
def mV(s:ByteArray):Value:= .string s
def ef(tag:UInt8)(a:List ByteArray)(k:Nat):List UInt8:=tag::im a.length::(a.take k).flatMap fun p=>ej p.size++eN p
theorem sJ(tag:UInt8)(a:List ByteArray)(k:Nat)(p:ByteArray)(h:a[k]? =some p):ef tag a (k+1)=ef tag a k++ej p.size++eN p:=by
 unfold ef;rw[List.take_add_one,h];simp[List.flatMap_append]
theorem uf(tag:UInt8)(a:List ByteArray)(k:Nat)(h:a.length≤k):ef tag a k=ia tag (a.map eN):=by
 unfold ef ia;rw[List.take_of_length_le h,List.length_map];congr 2;rw[List.flatMap_map];congr 1
def Joined(w:World)(s:ByteArray)(e:Ending)(w':World):Prop:=e= .returned (.tuple #[.string s, .int .i64 0])∧Fr ah w w'
theorem CM(n:Nat)(h:n<4294967296):[Value.int .u8 ((n:Int)/16777216), .int .u8 ((n:Int)/65536%256), .int .u8 ((n:Int)/256%256), .int .u8 ((n:Int)%256)]=(ej n).map bL:=by
 unfold ej;simp only[List.map_cons,List.map_nil,Au];rw[show((n/16777216%256:Nat):Int)=(n:Int)/16777216 by omega,show((n/65536%256:Nat):Int)=(n:Int)/65536%256 by omega,show((n/256%256:Nat):Int)=(n:Int)/256%256 by omega,show((n%256:Nat):Int)=(n:Int)%256 by omega]
end Go.Proofs.YtphjagkehiklkaaGreatDoor
namespace Go.Proofs.YtphjagkehiklkaaGreatDoor
open Go.RowKit
theorem BO(tag:UInt8)(a:List ByteArray)(k:Nat)(p:ByteArray)(h:a[k]? =some p):(ef tag a (k+1)).length=(ef tag a k).length+(4+p.size):=by
 rw[sJ tag a k p h,aW,aW,dP];have:(ej p.size).length=4:=rfl;omega
theorem Fg(tag:UInt8)(a:List ByteArray)(A:Option Addr)(n c:Nat)(S:Nat→Prop)(w:World)(R:Rd w S 1 A n (a.map mV))(ar:n≤255)(ac:∀k,(ef tag a k).length≤1099511627776)(ab:∀p∈a,p.size<4294967296):
  Calls Tryz.prog 125 #[bL tag, .slice A n c] w (Joined w ⟨(ia tag (a.map eN)).toArray⟩):=by
 obtain⟨i0,M,g,j,l⟩:=info_parts xr;have aa:=af R;have z:Hid (a.length=n):=by have:=R.1;simpa[Hid]using this
 have I:=af ac;have ag:=af ab;have ai:Hid (ia tag (a.map eN)=ef tag a n):=(uf tag a n (by rw[z.out];exact Nat.le_refl _)).symm;generalize C:(⟨(ia tag (a.map eN)).toArray⟩:ByteArray)=RS at*;have O:=af C;clear C;clear R ac ab;unfold bL;have aq:decide ((255:Int)<(n:Int))=false:=bZ (by omega);go_enter Tryz.func125,Tryz.ntmps125;go_wp2;go_loopw[18,6](fun i sz wr=>∃k:Nat,k≤n∧i= .int .i64 k∧sz= .int .i64 ((ef tag a k).length:Nat)∧wr=w)(fun i _ _=>n-(intOf i).toNat);case atStart=>exact⟨0,by omega,rfl,rfl,rfl⟩
 case round=>
  obtain⟨k,s,rfl,rfl,rfl⟩:=hrel;by_cases f:k<n
  ·obtain⟨am,u,rfl,_,hu,b⟩:=aa.out.at_ f;obtain⟨p,t,rfl⟩:∃p,a[k]? =some p∧u=mV p:=by
    rw[List.getElem?_map]at hu;cases h:a[k]? with
    |none=>rw[h]at hu;cases hu
    |some p=>rw[h]at hu;exact⟨p,rfl,(Option.some.inj hu).symm⟩
   have B:=af (BO tag a k p t);have J:=I.out (k+1);rw[B.out]at J;unfold mV at b;clear hu t;have V:(k:Int)<(n:Int):=by omega
   generalize(ef tag a k).length=L at*;go_wp2;go_roundw;case rel=>exact⟨k+1,by omega,by go_num,by rw[B.out];go_num,by first|rfl|trivial⟩
   case measure=>simp[intOf];omega
  ·have D:decide ((k:Int)<(n:Int))=false:=bZ (by omega);have E:decide (k<n)=false:=bZ (by omega);have J:=I.out k;obtain⟨Z,ad⟩:∃Z,Z=(ef tag a k).length:=⟨_,rfl⟩;rw[←ad]at J⊢;clear ad s f;go_wp2_with(at_make;refine wpList_make_own _ rfl _ _ 61 rfl 0 5 i0 (.int .u8 0) 1 Tryz.underlying61 M g j _ _ _ Z rfl rfl ?zC ?zA ?zB (Nat.zero_le _) ?_);case zC=>rfl
   case zA=>rw[l];omega
   case zB=>unfold maxLen;omega
   intro w1 o G;have X:Hid (Fr ah wr w1):=(Fr.grown G).mono (fun k _ s=>by cases s);have H1:=af o;clear o G;go_wp2_with(at_builtin;refine cL _ rfl _ _ 61 rfl 5 i0 _ 1 1 Tryz.underlying61 M g j l rfl (by omega) _ _ _ rfl H1.out 2 _ _ rfl rfl rfl ?zD ?zE (by omega) ?_);case zD=>simp[Value.oneCell']
   case zE=>omega
   intro v2 w2 d;have Y:Hid (By wr (.slice none 0 0) w2 v2 (ef tag a 0)):=by
    have e:(ef tag a 0).map bL=[Value.int .u8 (tag.toNat:Int), .int .u8 (n:Int)]:=by
     show[bL tag,bL (im a.length)]=_;rw[Au,z.out,Nat.mod_eq_of_lt (by omega)];rfl
    have h:=bO.fresh X.out (fun k s=>by simp[Value.ownBlock]at s;omega) d;simp only[Hid,By];rw[e];simpa[ef]using h
   clear d H1 X;obtain⟨w,hw⟩:∃x,x=wr:=⟨_,rfl⟩;subst hw;clear D E J;go_wp2;go_loopw[9,39](fun v i wr=>∃k:Nat,k≤n∧i= .int .i64 k∧By w (.slice none 0 0) wr v (ef tag a k))(fun _ i _=>n-(intOf i).toNat);case atStart=>exact⟨0,by omega,rfl,Y.out⟩
   case round=>
    obtain⟨k,s,rfl,U⟩:=hrel;have q:=af U;obtain⟨N,n1,zA,rfl,Q,_⟩:=aH U.own;clear U Y;by_cases f:k<n
    ·obtain⟨am,u,rfl,_,hu,r⟩:=aa.out.at_ f;obtain⟨p,t,rfl⟩:∃p,a[k]? =some p∧u=mV p:=by
      rw[List.getElem?_map]at hu;cases h:a[k]? with
      |none=>rw[h]at hu;cases hu
      |some p=>rw[h]at hu;exact⟨p,rfl,(Option.some.inj hu).symm⟩
     have B:=af (sJ tag a k p t);have W:p.size<4294967296:=ag.out p (List.mem_of_getElem? t);have ak:=af (I.out k);have m:Hid ((ef tag a k).length+4+p.size≤1099511627776):=by
      have h:=I.out (k+1);rw[B.out,aW,aW,dP]at h;simp only[Hid];have:(ej p.size).length=4:=rfl;omega
     unfold mV at r;have b:=q.out.ao.aj r (fun x=>x);clear hu t;have V:(k:Int)<(n:Int):=by omega
     go_wp2_with(at_builtin;refine cL _ rfl _ _ 61 rfl 5 i0 _ 1 1 Tryz.underlying61 M g j l rfl (by omega) _ _ _ rfl q.out.own 4 _ _ rfl rfl rfl ?f1 ?f2 (by omega) ?_);case f1=>simp[Value.oneCell']
     case f2=>have:=m.out;omega
     intro v2 w2 d;have y:Hid (By w (.slice none 0 0) w2 v2 (ef tag a k++ej p.size)):=by
      have h:=q.out.trans d;rw[CM p.size W]at h;simpa[Hid,By,ej]using h
     obtain⟨an,au,zB,rfl,al,_⟩:=aH y.out.own;have K:=y.out.ao.aj r (fun x=>x);clear d b q;go_wp2_with(at_builtin;refine ma _ rfl _ _ 61 9 rfl 5 i0 Tryz.underlying61 Tryz.underlying9 M g j l _ _ _ rfl y.out.own p rfl ?f3 ?_);case f3=>
      have:=m.out;have ap:(ej p.size).length=4:=rfl;rw[aW];omega
     intro v3 w3 F;have ae:Hid (By w (.slice none 0 0) w3 v3 (ef tag a (k+1))):=by
      have h:=y.out.trans F;rw[wQ]at h;simp only[Hid];rw[B.out];simpa[By,dP,Nat.add_assoc]using h
     clear F y;go_wp2;go_roundw;case rel=>exact⟨k+1,by omega,by go_num,ae.out⟩
     case measure=>simp[intOf];omega
    ·have D:decide ((k:Int)<(n:Int))=false:=bZ (by omega);have E:decide (k<n)=false:=bZ (by omega);rw[show k=n by omega]at q;have H:Rd wr (nk (.slice N n1 zA)) 1 N n1 ((ef tag a n).map bL):=by
      have h:=q.out.own;have e:n1=(ef tag a n).length:=by have:=Q.out;rw[show k=n by omega]at this;exact this
      rw[←e]at h;exact Rd.gO h
     have T:=vN (P:=Tryz.prog) wr 61 9 5 Tryz.underlying61 Tryz.underlying5 Tryz.underlying9 _ N n1 zA _ H;rw[←ai.out,O.out]at T;clear H;go_wp2;go_ret2;exact⟨rfl,q.out.ao⟩
theorem nd.alloc{W w:World}{v:Value}{l:List UInt8}(h:nd W w v l)(o:Obj):nd W (w.alloc o) v l:=by
 obtain⟨k,g,cap,rfl,a,d,f,c,i,n,m⟩:=h;have b:(w.alloc o).heap[g]? =w.heap[g]? :=Below.heap_alloc w o g d;refine⟨k.alloc _,g,cap,rfl,a,by simp;omega,f,c,fun j e=>?_,fun j e=>?_,fun j u hu=>?_⟩;·have:=i j e;simp only[World.cell?]at this⊢;rw[b];exact this
 ·have:=n j e;simp only[World.frozen?]at this⊢;rw[b];exact this
 ·have:=m j u hu;simp only[World.cell?]at this⊢;rw[b];exact this
theorem jb(n:Nat):bL (im n)= .int .u8 ((n%256:Nat):Int):=by
 unfold bL im;rw[UInt8.toNat_ofNat']
end Go.Proofs.YtphjagkehiklkaaGreatDoor
