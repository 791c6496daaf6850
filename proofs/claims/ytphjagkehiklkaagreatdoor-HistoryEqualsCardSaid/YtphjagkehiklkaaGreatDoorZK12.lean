/- Texts. -/
import Derived.Test.YtphjagkehiklkaaGreatDoorZK11
set_option linter.unusedVariables false
set_option linter.unusedSimpArgs false
set_option maxRecDepth 100000
set_option maxHeartbeats 8000000
namespace Go.Proofs.YtphjagkehiklkaaGreatDoor
open Go.RowKit Go.Shelf
theorem Bb(x y z t:Int):∀(k:Nat)(v:Int),([x,y,z,t])[k]? =some v→v≠0→(∀(j:Nat)(u:Int),j<k→([x,y,z,t])[j]? =some u→u=0)→aX x (aX y (aX z t))=v
 |0,v,a,c,_=>by
  obtain rfl:x=v:=by simpa using a
  simp[aX,c]
 |1,v,a,c,b=>by
  obtain rfl:y=v:=by simpa using a
  have:=b 0 x (by omega) rfl;simp[aX,this,c]
 |2,v,a,c,b=>by
  obtain rfl:z=v:=by simpa using a
  have d:=b 0 x (by omega) rfl;have e:=b 1 y (by omega) rfl;simp[aX,d,e,c]
 |3,v,a,_,b=>by
  obtain rfl:t=v:=by simpa using a
  have d:=b 0 x (by omega) rfl;have e:=b 1 y (by omega) rfl;have f:=b 2 z (by omega) rfl;simp[aX,d,e,f]
 |k+4,v,a,_,_=>by simp at a
theorem zy(x y z t:Int)(a:∀(j:Nat)(u:Int),j<4→([x,y,z,t])[j]? =some u→u=0):aX x (aX y (aX z t))=0:=by
 have b:=a 0 x (by omega) rfl;have c:=a 1 y (by omega) rfl;have d:=a 2 z (by omega) rfl;have e:=a 3 t (by omega) rfl;simp[aX,b,c,d,e]
theorem Bo(x y z t:Int)(g:Nat)(w:World)(h:aq w g 3 #[.int .i64 x, .int .i64 y, .int .i64 z, .int .i64 t]):Calls Tryz.prog 132 #[.slice (some ⟨g,0,none⟩) 4 4] w (bm w (.int .i64 (aX x (aX y (aX z t))))):=by
 have HB:=af h;have n:Hid (∀k:Nat,k<4→∃v:Int,([x,y,z,t])[k]? =some v∧w.cell? ⟨g,k,none⟩=some (.int .i64 v)):=fun k f=>by
  match k,f with
  |0,_=>exact⟨x,rfl,h.cell 0⟩
  |1,_=>exact⟨y,rfl,h.cell 1⟩
  |2,_=>exact⟨z,rfl,h.cell 2⟩
  |3,_=>exact⟨t,rfl,h.cell 3⟩
 clear h;have o:Hid (∀(k:Nat)(v:Int),([x,y,z,t])[k]? =some v→v≠0→(∀(j:Nat)(u:Int),j<k→([x,y,z,t])[j]? =some u→u=0)→aX x (aX y (aX z t))=v):=fun k v=>Bb x y z t k v;have p:Hid ((∀(j:Nat)(u:Int),j<4→([x,y,z,t])[j]? =some u→u=0)→aX x (aX y (aX z t))=0):=zy x y z t;generalize aX x (aX y (aX z t))=A at*;go_enter Tryz.func132,Tryz.ntmps132;go_wp2;go_loopw[8](fun i wr=>∃k:Nat,k≤4∧(∀j u,j<k→([x,y,z,t])[j]? =some u→u=0)∧i= .int .i64 k∧w=wr)(fun i _=>4-(intOf i).toNat);case atStart=>exact⟨0,by omega,fun j u h=>by omega,rfl,rfl⟩
 case round=>
  obtain⟨k,f,m,rfl,rfl⟩:=hrel;have b:=af m;clear m;by_cases c:k<4
  ·have q:(k:Int)<4:=by omega
   obtain⟨v,l,r⟩:=n.out k c;have d:=af l;clear l;by_cases a:v=0
   ·subst a;go_wp2;go_roundw
    case rel=>exact⟨k+1,by omega,fun j u s hu=>by
      by_cases e:j=k;·subst e;have:=d.out;rw[hu]at this;cases this;rfl
      ·exact b.out j u (by omega) hu,by go_num,trivial⟩
    case measure=>simp[intOf];omega
   ·have t1:=tK a;obtain rfl:A=v:=o.out k v d.out a b.out;go_wp2;go_ret;exact⟨rfl,rfl⟩
  ·obtain rfl:k=4:=by omega
   obtain rfl:A=0:=p.out b.out;go_wp2;go_ret;exact⟨rfl,rfl⟩
theorem oW(k m:dJ)(w:World)(y:k.fV.size≤1099511627776)(hm:m.fV.size≤1099511627776):Calls Tryz.prog 85 #[.agg k.cells.toArray, .agg m.cells.toArray] w (aH w (.int .i64 (ew k m))):=by
 have C:Hid (∀w,Calls Tryz.prog 133 #[.int .i64 k.tick, .int .i64 m.tick] w (bm w (.int .i64 (dU k.tick m.tick)))):=fun w=>iV _ _ w;have D:Hid (∀w,Calls Tryz.prog 133 #[.int .i64 k.cls, .int .i64 m.cls] w (bm w (.int .i64 (dU k.cls m.cls)))):=fun w=>iV _ _ w;have E:Hid (∀w,Calls Tryz.prog 133 #[.int .i64 k.num, .int .i64 m.num] w (bm w (.int .i64 (dU k.num m.num)))):=fun w=>iV _ _ w;have F:=af (fun w=>lB k.fV m.fV w y hm);have J:Hid (ew k m=aX (dU k.tick m.tick) (aX (dU k.cls m.cls) (aX (dU k.num m.num) (lz k.fV m.fV)))):=rfl;generalize ew k m=P at*;generalize dU k.tick m.tick=o at*;generalize dU k.cls m.cls=p at*;generalize dU k.num m.num=r at*;generalize lz k.fV m.fV=y3 at*;clear y hm;go_enter Tryz.func85,Tryz.ntmps85;go_wp2_with(refine aB rfl 43 (.tmp 0) rfl k.cells.toArray rfl ?_);intro w1 n1;have t:=af n1;clear n1;generalize j:w.heap.size=g at*;have f:Hid (aq w1 g 43 k.cells.toArray):=by have h:=t.out.aE;rw[j]at h;exact h
 clear j;go_wp2_with(refine aB rfl 43 (.tmp 1) rfl m.cells.toArray rfl ?_);intro w2 A;have s:=af A;clear A;generalize l:w1.heap.size=i at*;have d:Hid (aq w2 i 43 m.cells.toArray):=by have h:=s.out.aE;rw[l]at h;exact h
 clear l;have c:=af (f.out.fr s.out.fr (fun x=>x));have G:=af (t.out.fr.trans s.out.fr);clear t s f;go_upto_region 1 with fail;refine jn 20 [.pointer (some ⟨g,0,none⟩), .int .i64 k.tick, .pointer (some ⟨i,0,none⟩), .int .i64 m.tick, .int .i64 o, .pointer (some ⟨g,1,none⟩), .int .i64 k.cls, .pointer (some ⟨i,1,none⟩), .int .i64 m.cls, .int .i64 p, .pointer (some ⟨g,2,none⟩), .int .i64 k.num, .pointer (some ⟨i,2,none⟩), .int .i64 m.num, .int .i64 r, .pointer (some ⟨g,3,none⟩), .string k.fV, .pointer (some ⟨i,3,none⟩), .string m.fV, .int .i64 y3] ?zG ?_;case zG=>
  refine⟨?zR,?zH,?zS,?zI,?zJ,?zT,?zK,?zU,?zL,?zM,?zN,?zA,?zO,?zB,?zC,?zP,?zD,?zQ,?zE,?zF,trivial⟩;all_goals intro u w' b a
  all_goals simp only[z1,z2,z3,z4,ar,Act.put,z5,z6,z7,Nat.reduceAdd,Nat.zero_add]
  case zH=>
   simp only[show u 0=_ from a 0];refine aF ?_;have q:_=some (Value.int .i64 k.tick):=(c.out.fr b (fun x=>x)).cell 0;go_simp;exact aM
  case zI=>
   simp only[show u 2=_ from a 2];refine aF ?_;have q:_=some (Value.int .i64 m.tick):=(d.out.fr b (fun x=>x)).cell 0;go_simp;exact aM
  case zJ=>
   simp only[show u 1=_ from a 1,show u 3=_ from a 3];refine aF ?_;go_simp;refine(C.out _).mono ?_;rintro e v⟨rfl,rfl⟩;exact aM
  case zK=>
   simp only[show u 5=_ from a 5];refine aF ?_;have q:_=some (Value.int .i64 k.cls):=(c.out.fr b (fun x=>x)).cell 1;go_simp;exact aM
  case zL=>
   simp only[show u 7=_ from a 7];refine aF ?_;have q:_=some (Value.int .i64 m.cls):=(d.out.fr b (fun x=>x)).cell 1;go_simp;exact aM
  case zM=>
   simp only[show u 6=_ from a 6,show u 8=_ from a 8];refine aF ?_;go_simp;refine(D.out _).mono ?_;rintro e v⟨rfl,rfl⟩;exact aM
  case zA=>
   simp only[show u 10=_ from a 10];refine aF ?_;have q:_=some (Value.int .i64 k.num):=(c.out.fr b (fun x=>x)).cell 2;go_simp;exact aM
  case zB=>
   simp only[show u 12=_ from a 12];refine aF ?_;have q:_=some (Value.int .i64 m.num):=(d.out.fr b (fun x=>x)).cell 2;go_simp;exact aM
  case zC=>
   simp only[show u 11=_ from a 11,show u 13=_ from a 13];refine aF ?_;go_simp;refine(E.out _).mono ?_;rintro e v⟨rfl,rfl⟩;exact aM
  case zD=>
   simp only[show u 15=_ from a 15];refine aF ?_;have q:_=some (Value.string k.fV):=(c.out.fr b (fun x=>x)).cell 3;go_simp;exact aM
  case zE=>
   simp only[show u 17=_ from a 17];refine aF ?_;have q:_=some (Value.string m.fV):=(d.out.fr b (fun x=>x)).cell 3;go_simp;exact aM
  case zF=>
   simp only[show u 16=_ from a 16,show u 18=_ from a 18];refine aF ?_;go_simp;refine(F.out _).mono ?_;rintro e v⟨rfl,f4⟩;exact⟨rfl,f4⟩
  all_goals
   refine aF ?_;go_simp;exact aM
 intro w' b;simp only[z1,z2,z3,z4,ar,Act.put,z5,z6,z7,z8,z9,jX,jY,Nat.reduceAdd,Nat.zero_add];have I:=af (G.out.trans b);clear b;obtain⟨i0,M,z,n,N⟩:=info_parts sW;have K:Hid (¬4*i0.size>2^24):=by simp only[Hid];rw[n];omega
 have L:Hid (¬4*i0.size=0):=by simp only[Hid];rw[n];omega
 go_wp2_with fail;have B:Hid (aq (w'.alloc (.cells #[.int .i64 o, .int .i64 p, .int .i64 r, .int .i64 y3] 3)) w'.heap.size 3 #[.int .i64 o, .int .i64 p, .int .i64 r, .int .i64 y3]):=aq.new _ _ _;have H:=af (I.out.trans ((Fr.refl ag w').alloc (.cells #[.int .i64 o, .int .i64 p, .int .i64 r, .int .i64 y3] 3)));refine(Bo o p r y3 _ _ B.out).mono ?_;rintro e O⟨rfl,rfl⟩;go_wp2;go_ret;rw[J.out];exact⟨rfl,H.out⟩
theorem kJ(L:List Ent)(a:ActV)(cs:List Value)(m s:Nat)(w:World)(A:cF w cs a)(u:eJ w s L)(v:eh w)(r:cE m L)(x:∀c∈a.writes,ev c)(hm:m+a.writes.length≤60000):
  Calls Tryz.prog 86 #[.agg cs.toArray, .pointer (some ⟨s,0,none⟩)] w (nE w L a.writes):=by
 obtain⟨D,E,rfl,_,o⟩:=A;obtain⟨h,B,i,rfl,rfl,_,d⟩:=o.cl;have k:Hid (∀w',Fr ag w w'→Calls Tryz.prog 82 #[.pointer (some ⟨s,0,none⟩), .slice h a.writes.length i] w' (nE w' L a.writes)):=fun w' f=>uR L a.writes _ m h i _ s w' (u.ao f) (v.ao f) r (d.ao f) x hm;generalize a.writes.length=n at*;obtain⟨⟨t,c,C,li⟩,_,ws⟩:=a;simp only[dJ.cells,List.cons_append,List.nil_append]at k⊢;clear u v r x hm o d;go_enter Tryz.func86,Tryz.ntmps86;go_wp2_with(refine aB rfl 46 (.tmp 0) rfl _ rfl ?_);intro w1 n1;have l:=af n1.fr;have j:=af n1.aE;clear n1;generalize w.heap.size=g at*;have c5:w1.cell? ⟨g,5,none⟩=some (.slice h n i):=j.out.cell 5;go_wp2_with fail;refine(k.out _ l.out).mono ?_;rintro e w2⟨p,q,rfl,f2,b⟩;have y:=af (l.out.trans f2);have z:=af b;clear f2 b c5 j;go_wp2;go_ret2;exact⟨p,q,rfl,y.out,z.out⟩
theorem Gy(w:World)(a:Option Addr)(l c:Nat):(binOp .eql 44 (.slice a l c) (.slice none 0 0)).run Tryz.prog w= .ok (.bool a.isNone) w:=by
 simp only[binOp];simp[run_equal_slice_nil w 44 119 a l c Tryz.underlying44]
def vp(w:World)(l:List CV)(e:Ending)(w':World):Prop:=∃v,e= .returned v∧bK 119 7 w (.slice none 0 0) w' v l.length (l.flatMap CV.cells)
theorem vp.ch{w w':World}{l:List CV}{e:Ending}(h:vp w l e w'):∃v,e= .returned v∧dV w' v l∧Fr ag w w'∧∀k,v.ownBlock=some k→w.heap.size≤k:=by
 obtain⟨v,rfl,a⟩:=h;exact⟨v,rfl,a.own,a.ao,a.new⟩
theorem rS(xs:List CV)(n:Nat)(A:Option Addr)(c:Nat)(S:Nat→Prop)(w:World)(a:CL w S A n xs)(r:n≤1099511627776):Calls Tryz.prog 135 #[.slice A n c] w (vp w xs):=by
 obtain⟨i0,f,m,o,p⟩:=info_parts nV;have t:=af a;have v:=af a.len;have x:Hid (∀u∈xs.flatMap CV.cells,u.oneCell'=true):=by
  intro u hu;obtain⟨d,_,B⟩:=List.mem_flatMap.1 hu;have h:=d.one;rw[Array.all_eq_true_iff_forall_mem]at h;exact h u (by simpa using B)
 cases A with
 |none=>
  have l:n=0:=by
   rcases Nat.eq_zero_or_pos n with h|h;·exact h
   ·obtain⟨g,h,_⟩:=a.rd.2 h;cases h
  subst l;have E:xs=[]:=List.eq_nil_of_length_eq_zero a.len;subst E;have D:∀w:World,(binOp .eql 44 (.slice none 0 c) (.slice none 0 0)).run Tryz.prog w= .ok (.bool true) w:=fun w=>Gy w none 0 c;clear a;go_enter Tryz.func135,Tryz.ntmps135;go_wp2;go_ret;exact⟨_,rfl,bK.start ⟨rfl, .inl ⟨rfl,rfl⟩⟩⟩
 |some g=>
  have D:∀w:World,(binOp .eql 44 (.slice (some g) n c) (.slice none 0 0)).run Tryz.prog w= .ok (.bool false) w:=fun w=>Gy w (some g) n c;have i:=af r;clear a r;go_enter Tryz.func135,Tryz.ntmps135;go_wp2_with(refine gY rfl 44 119 rfl i0 Tryz.underlying44 f ?_);intro w1 s;have j:=af s;clear s;generalize e:w.heap.size=g1 at*;have b:=af e;clear e;have z:Hid (w1.ownsRow 0 119 7 (.slice (some ⟨g1,0,none⟩) 0 0) 0 []):=by rw[←b.out];exact j.out.Cq
  go_wp2_with(refine dR _ rfl _ _ 44 rfl 119 i0 bY 7 80 Tryz.underlying44 f m o p rfl (by decide) _ _ _ rfl z.out S (some g) n c (xs.flatMap CV.cells) rfl (t.out.ao j.out.fr).rd x.out (by have:=i.out;omega) (by decide) ?_);intro v2 w2 q;have y:Hid (bK 119 7 w (.slice none 0 0) w2 v2 xs.length (xs.flatMap CV.cells)):=by
   have h:=bK.fresh j.out.fr (fun k C=>by simp only[Value.ownBlock,Option.some.injEq]at C;have:=b.out;omega) q;rw[Hid,v.out];exact h
  clear q;go_wp2;go_ret;exact⟨_,rfl,y.out⟩
def j8(B:Nat)(cs:List Value):Prop:=∀v∈cs,∀k,v.ownBlock=some k→B≤k
theorem j8.mono{B a:Nat}{cs:List Value}(h:j8 B cs)(b:a≤B):j8 a cs:=fun v d k c=>Nat.le_trans b (h v d k c)
theorem cF.zp{w w':World}{T:Nat→Prop}{cs:List Value}{a:ActV}{B:Nat}(h:cF w cs a)(f:j8 B cs)(e:Fr T w w')(d:∀k,T k→k<B):cF w' cs a:=by
 obtain⟨g,i,rfl,j,l⟩:=h;refine⟨g,i,rfl,aL j e (fun k b c=>?_),aL l e (fun k b c=>?_)⟩;·have:=d k c;have:=f g (by simp) k b;omega
 ·have:=d k c;have:=f i (by simp) k b;omega
def rD(w:World)(a:ActV)(e:Ending)(w':World):Prop:=∃cs,e= .returned (.agg cs.toArray)∧cF w' cs a∧Fr ag w w'∧j8 w.heap.size cs
theorem yq(t c n:Int)(s:ByteArray)(A B:Option Addr)(x y z u:Nat):Tryz.prog.built 46 [(0, .agg [Value.int .i64 t, .int .i64 c, .int .i64 n, .string s].toArray),(1, .slice A x y),(2, .slice B z u)]=some ([Value.int .i64 t, .int .i64 c, .int .i64 n, .string s]++[Value.slice A x y, .slice B z u]).toArray:=by kernel_rfl
def ep:Value:= .agg #[.int .i64 0, .int .i64 0, .int .i64 0, .string ByteArray.empty, .slice none 0 0, .slice none 0 0]
theorem kC(w:World):(zeroValue 46).run Tryz.prog w= .ok ep w:=by kernel_rfl
theorem ActV.one{w:World}{cs:List Value}{a:ActV}(h:cF w cs a):cs.toArray.all (·.oneCell')=true:=by
 obtain⟨f,g,rfl,b,e⟩:=h;obtain⟨A,n,c,rfl,_⟩:=b.cl;obtain⟨B,m,d,rfl,_⟩:=e.cl;simp[dJ.cells,Value.oneCell']
theorem dV.form{w:World}{v:Value}{l:List CV}(h:dV w v l):∃A n c,v= .slice A n c∧dV w (.slice A n c) l:=by
 obtain⟨A,n,c,rfl,_⟩:=h.cl;exact⟨A,n,c,rfl,h⟩
theorem pD(a:ActV)(cs:List Value)(w:World)(a3:cF w cs a)(nr:a.reads.length≤1099511627776)(nw:a.writes.length≤1099511627776):
  Calls Tryz.prog 87 #[.agg cs.toArray] w (rD w a):=by
 obtain⟨b,c,rfl,t,C⟩:=a3;obtain⟨I,a5,K,rfl,rfl,_,Y⟩:=t.cl;obtain⟨J,a6,L,rfl,rfl,_,Z⟩:=C.cl;have P:Hid (∀w',Fr ag w w'→Calls Tryz.prog 135 #[.slice I a.reads.length K] w' (vp w' a.reads)):=fun w' f=>rS a.reads _ I K _ w' (Y.ao f) nr;have Q:Hid (∀w',Fr ag w w'→Calls Tryz.prog 135 #[.slice J a.writes.length L] w' (vp w' a.writes)):=fun w' f=>rS a.writes _ J L _ w' (Z.ao f) nw;have N:Hid (∀(A B:Option Addr)(x y z u:Nat),Tryz.prog.built 46 [(0, .agg a.key.cells.toArray),(1, .slice A x y),(2, .slice B z u)]=some (a.key.cells++[Value.slice A x y, .slice B z u]).toArray):=fun A B x y z u=>yq _ _ _ _ A B x y z u;have s:Hid ((Tryz.prog.info? 43).map (·.size)=some a.key.cells.length):=gH;have o:Hid (a.key.cells.length=4):=rfl;have D:Hid (∀(w':World)(b c:Value),dV w' b a.reads→dV w' c a.writes→Fr ag w w'→(∀k,b.ownBlock=some k→w.heap.size≤k)→(∀k,c.ownBlock=some k→w.heap.size≤k)→rD w a (.returned (.agg (a.key.cells++[b,c]).toArray)) w'):=fun w' b c t C f n1 ah=>⟨_,rfl,⟨b,c,rfl,t,C⟩,f,fun v ae k d=>by
  simp only[dJ.cells,List.cons_append,List.nil_append,List.mem_cons,List.not_mem_nil,or_false]at ae;rcases ae with rfl|rfl|rfl|rfl|rfl|rfl;·cases d
  ·cases d
  ·cases d
  ·cases d
  ·exact n1 k d
  ·exact ah k d⟩;have E:Hid (∀b c:Value,(a.key.cells++[b,c]).toArray.size=6):=fun b c=>rfl;have ay:Hid (∀b c:Value,b.oneCell'=true→c.oneCell'=true→(a.key.cells++[b,c]).toArray.all (·.oneCell')=true):=fun b c t C=>by simp only[dJ.cells,List.cons_append,List.nil_append,List.all_toArray,List.all_cons,List.all_nil,t,C];rfl
 generalize rD w a=PP at*;generalize a.reads.length=aj at*;generalize a.writes.length=ak at*;generalize a.reads=R at*;generalize a.writes=aD at*;generalize a.key.cells=V at*;clear t C Y Z nr nw;go_enter Tryz.func87,Tryz.ntmps87;go_wp2_with(refine aB rfl 46 (.tmp 0) rfl (V++[Value.slice I aj K, .slice J ak L]).toArray rfl ?_);intro w1 n1;have am:=af n1.fr;have aK:=af n1.aE;clear n1;generalize W:w.heap.size=g1 at*;have S:=af W;clear W;go_wp2_with(refine an rfl 46 rfl ep kC #[.int .i64 0, .int .i64 0, .int .i64 0, .string ByteArray.empty, .slice none 0 0, .slice none 0 0] rfl ?_);intro w2 ah;have ad:=af ah;clear ah;generalize X:w1.heap.size=g2 at*;have T:=af X;clear X;have aL:Hid (aq w2 g2 46 #[.int .i64 0, .int .i64 0, .int .i64 0, .string ByteArray.empty, .slice none 0 0, .slice none 0 0]):=by have h:=ad.out.aE;rw[T.out]at h;exact h
 have F2:=af (am.out.trans ad.out.fr);have n:=af (aK.out.fr ad.out.fr (fun x=>x));have ax:Hid (w.heap.size≤g2):=by have:=am.out.size;have:=T.out;simp only[Hid];omega
 have O:Hid (∀w',Fr ag w2 w'→∀j x,V[j]? =some x→w'.cell? ((⟨g1,0,none⟩:Addr).add j)=some x):=fun w' f j x aS=>by
  rw[Addr.add_mid,Nat.zero_add,(n.out.fr f (fun x=>x)).cell j,bP,List.getElem?_append_left (List.getElem?_eq_some_iff.1 aS).1];exact aS
 have aG:Hid (∀w',Fr ag w2 w'→w'.cell? {block:=g1,off:=4}=some (.slice I aj K)):=fun w' f=>by
  rw[(n.out.fr f (fun x=>x)).cell 4,bP,List.getElem?_append_right (by rw[o.out];omega),o.out];rfl
 have c5:Hid (∀w',Fr ag w2 w'→w'.cell? {block:=g1,off:=5}=some (.slice J ak L)):=fun w' f=>by
  rw[(n.out.fr f (fun x=>x)).cell 5,bP,List.getElem?_append_right (by rw[o.out];omega),o.out];rfl
 have aM:Hid (∀w',Fr ag w2 w'→Calls Tryz.prog 135 #[.slice I aj K] w' (vp w' R)):=fun w' f=>P.out w' (F2.out.trans f);have aN:Hid (∀w',Fr ag w2 w'→Calls Tryz.prog 135 #[.slice J ak L] w' (vp w' aD)):=fun w' f=>Q.out w' (F2.out.trans f);have aV:=N;have U:Hid (w.heap.size≤w2.heap.size):=F2.out.size;clear ad aK n P Q N am;go_upto_region 1 with fail;refine xJ 9 [iS (.pointer (some ⟨g1,0,none⟩)),iS (.agg V.toArray),iS (.pointer (some ⟨g1,4,none⟩)),iS (.slice I aj K),⟨fun H M=>dV M H R∧∀k,H.ownBlock=some k→w.heap.size≤k,fun _ _ _ f h=>⟨h.1.ao f,h.2⟩⟩,iS (.pointer (some ⟨g1,5,none⟩)),iS (.slice J ak L),⟨fun H M=>dV M H aD∧∀k,H.ownBlock=some k→w.heap.size≤k,fun _ _ _ f h=>⟨h.1.ao f,h.2⟩⟩,⟨fun H M=>∃b c,H= .agg (V++[b,c]).toArray∧dV M b R∧dV M c aD∧(∀k,b.ownBlock=some k→w.heap.size≤k)∧(∀k,c.ownBlock=some k→w.heap.size≤k),fun _ _ _ f h=>(by obtain⟨r,v,e,t,C,a0⟩:=h;exact⟨r,v,e,t.ao f,C.ao f,a0⟩)⟩] ?zA ?_;case zA=>
  refine⟨?zH,?zB,?zI,?zC,?zD,?zJ,?zE,?zF,?zG,trivial⟩;all_goals intro u w' m g
  all_goals simp only[z1,z2,z3,z4,ar,Act.put,z5,z6,z7,Nat.reduceAdd,Nat.zero_add]
  case zB=>
   simp only[show u 0=_ from g 0];refine aF ?_;exact au _ _ rfl ⟨g1,0,none⟩ rfl V _ (fun a4 v ae=>O.out _ m a4 v ae) Tryz.underlying43 rfl s.out ⟨_,rfl,az,rfl⟩
  case zC=>
   simp only[show u 2=_ from g 2];refine aF ?_;have q:=aG.out _ m;go_simp;exact⟨_,rfl,az,rfl⟩
  case zD=>
   simp only[show u 3=_ from g 3];refine aF ?_;go_simp;refine(aM.out _ m).mono ?_;rintro e a7 he;obtain⟨v,rfl,aI,f4,aJ⟩:=he.ch;exact⟨_,rfl,f4,aI,fun k d=>by have:=aJ k d;have:=m.size;have:=U.out;omega⟩
  case zE=>
   simp only[show u 5=_ from g 5];refine aF ?_;have q:=c5.out _ m;go_simp;exact⟨_,rfl,az,rfl⟩
  case zF=>
   simp only[show u 6=_ from g 6];refine aF ?_;go_simp;refine(aN.out _ m).mono ?_;rintro e a7 he;obtain⟨v,rfl,aI,f4,aJ⟩:=he.ch;exact⟨_,rfl,f4,aI,fun k d=>by have:=aJ k d;have:=m.size;have:=U.out;omega⟩
  case zG=>
   have aT:=(g 4).2;obtain⟨ba,n4,aG,aP,a1⟩:=dV.form (g 4).1;rw[aP]at aT;have aU:=(g 7).2;obtain⟨bb,n7,bc,aQ,a2⟩:=dV.form (g 7).1;rw[aQ]at aU;simp only[show u 1=_ from g 1,aP,aQ];refine aF ?_;exact iA 46 _ rfl _ _ (by simp only[List.map_toArray,List.map_cons,List.map_nil];rfl) (aV.out _ _ _ _ _ _) ⟨_,rfl,az,_,_,rfl,a1,a2,aT,aU⟩
  all_goals
   refine aF ?_;go_simp;exact⟨_,rfl,az,rfl⟩
 intro u w' m g;obtain⟨b,c,aR,F,G,aa,ab⟩:=g 8 (by omega);simp only[z1,z2,z3,z4,ar,Act.put,z5,z6,z7,z8,z9,Nat.reduceAdd,Nat.zero_add];clear g;simp only[aR];have ac:=af (aL.out.fr m (fun x=>x));have aX:=af (F2.out.trans m);have aA:=af aa;have aC:=af ab;clear aa ab;obtain⟨a8,bf,bh,rfl,_⟩:=F.cl;obtain⟨a9,bg,bi,rfl,_⟩:=G.cl;have ap:=af F;have av:=af G;clear m aR F G aL F2 aM aN aG c5 O;refine ai rfl 46 (.tmp 2) _ rfl g2 _ rfl rfl _ _ ac.out (by rw[E.out];exact bL) (by rw[E.out];rfl) (ay.out _ _ rfl rfl) ?_;intro al aO aH;have aW:=af aO;have aY:Hid (Fr ag w al):=aX.out.aw aH (fun i be e=>by have bd:i=g2:=e;have:=ax.out;omega);have NE:Hid (∀v l,dV w' v l→dV al v l):=fun v l h=>h.cN aH (fun k d=>by
  obtain rfl:k=g2:=d;exact⟨fun x=>by have:=x.one ac.out.ty;exact absurd this (by decide),fun x=>by have:=x.one ac.out.ty;exact absurd this (by decide),fun x=>by have:=x.one ac.out.ty;exact absurd this (by decide)⟩);have aZ:=af (D.out al _ _ (NE.out _ _ ap.out) (NE.out _ _ av.out) aY.out (fun k d=>by rw[←S.out];exact aA.out k d) (fun k d=>by rw[←S.out];exact aC.out k d));clear aO aH;go_wp2;exact bodyPost_ret (results_cell_row (fn:=Tryz.f87) (p:=2) (ty:=46) Tryz.results87 _ al _ 46 _ (0,0) _ rfl aW.out Tryz.underlying46 rfl (by rw[E.out];exact bL)) rfl aZ.out
structure Wi(a W:World)(b:Nat)(l:List UInt8):Prop where
 fr:Fr ag a W
 wr:∃v,Wr W b v l 0∧∀k,v.ownBlock=some k→a.heap.size≤k
 new:a.heap.size≤b
def od(W W':World):Prop:=∀g t cs,aq W g t cs→t≠185→t≠5→aq W' g t cs
theorem od.of{W W':World}(h:Fr ag W W'):od W W':=fun _ _ _ a _ _=>a.fr h (fun x=>x)
theorem od.trans{W W' a:World}(h:od W W')(k:od W' a):od W a:=fun g t cs d b c=>k g t cs (h g t cs d b c) b c
theorem Wi.later{b W W':World}{a:Nat}{l:List UInt8}(h:Wi b W a l)(f:Fr ag W W'):Wi b W' a l:=by
 obtain⟨v,c,d⟩:=h.wr;exact⟨h.fr.trans f,⟨v,c.cN f (fun _ _ x=>x),d⟩,h.new⟩
def uI(b W:World)(a:Nat)(l:List UInt8)(e:Ending)(W':World):Prop:=e= .returned (.tuple #[])∧Wi b W' a l∧od W W'
theorem Wi.step{c W W':World}{a:Nat}{l f:List UInt8}{v j:Value}(h:Wi c W a l)(hw:Wr W a v l 0)(d:∀k,v.ownBlock=some k→c.heap.size≤k)(st:dn W a v W' j (f,0)):Wi c W' a f∧od W W':=by
 refine⟨⟨h.fr.aw st.fr (fun i p e=>?_),⟨j,st.wr,fun k o=>?_⟩,h.new⟩,fun g t cs b m n=>b.fr st.fr (fun e=>?_)⟩
 ·rcases e with e|e;·have:=h.new;omega
  ·have:=d i e;omega
 ·rcases st.eG k o with e|e;·exact d k e
  ·exact Nat.le_trans h.fr.size e
 ·rcases e with e|e;·exact eE b hw.aE m e
  ·exact bM hw.own b (fun x=>n x.symm) e
theorem Wi.number{c W:World}{a:Nat}{l:List UInt8}(h:Wi c W a l)(n:Nat)(f:l.length≤1099511627776)(g:n≤9223372036854775807):
  Calls Tryz.prog 63 #[.pointer (some ⟨a,0,none⟩), .int .i64 (n:Int)] W (uI c W a (l++enc n)):=by
 obtain⟨v,b,d⟩:=h.wr;refine(jU a v l 0 (n:Int) W b f (by omega)).mono ?_;rintro e w'⟨rfl,i,st⟩;rw[jh]at st;exact⟨rfl,h.step b d st⟩
theorem Wi.text{c W:World}{a:Nat}{l:List UInt8}(h:Wi c W a l)(s:ByteArray)(f:l.length≤1099511627776)(g:s.size≤16777216):
  Calls Tryz.prog 65 #[.pointer (some ⟨a,0,none⟩), .string s] W (uI c W a (l++aV (aQ s))):=by
 obtain⟨v,b,d⟩:=h.wr;refine(mD a v l 0 s W b f (by omega)).mono ?_;rintro e w'⟨rfl,i,st⟩;rw[ji _ _ (by omega),xE]at st;exact⟨rfl,h.step b d st⟩
theorem Wi.flag{d W:World}{a:Nat}{l:List UInt8}(h:Wi d W a l)(b:Bool)(i:l.length≤1099511627776):
  Calls Tryz.prog 66 #[.pointer (some ⟨a,0,none⟩), .bool b] W (uI d W a (l++kg b)):=by
 obtain⟨v,c,g⟩:=h.wr;refine(FU a v l 0 b W c i).mono ?_;rintro e w'⟨rfl,j,st⟩;have f:tu (l,0) b=(l++kg b,0):=by unfold tu;rw[if_pos rfl];rfl
 rw[f]at st;exact⟨rfl,h.step c g st⟩
theorem Wi.start{b W:World}(h:Fr ag b W):
  Calls Tryz.prog 61 #[] W (fun e W'=>e= .returned (.pointer (some ⟨W.heap.size,0,none⟩))∧Wi b W' W.heap.size []∧Fr ag W W'):=by
 refine(lX W).mono ?_;rintro e w'⟨rfl,c,a⟩;exact⟨rfl,⟨h.trans a,⟨_,c,fun k d=>by simp[Value.ownBlock]at d⟩,h.size⟩,a⟩
theorem Au(p W:World)(b:Nat)(l:List UInt8)(h:Wi p W b l)(n:l.length≤1099511627776):
  Calls Tryz.prog 67 #[.pointer (some ⟨b,0,none⟩)] W (aH W (.tuple #[.string ⟨l.toArray⟩, .int .i64 0])):=by
 obtain⟨v,d,k⟩:=h.wr;have c:Hid (Calls Tryz.prog 103 #[.pointer (some ⟨b,0,none⟩)] W (uT W l 0)):=nd b v l 0 W d n;clear d k h;go_enter Tryz.func67,Tryz.ntmps67;go_wp2_with fail;refine c.out.mono ?_;rintro e w1⟨_,f⟩;obtain⟨q,rfl,a⟩:=f rfl;obtain⟨g,o,j,rfl,i,_⟩:=aG a.own;have m:=kx w1 _ g o j _ (oX.rd a.own i.out);have F:=af a.ao;clear a f c;go_wp2;go_ret2;exact⟨rfl,F.out⟩
theorem xO(N W:World)(m:Nat)(l:List UInt8)(k:dJ)(h:Wi N W m l)(L:l.length≤1000000000000)(K:dS k=true)(o:k.fV.size≤16777216):
  Calls Tryz.prog 62 #[.agg k.cells.toArray, .pointer (some ⟨m,0,none⟩)] W (uI N W m (l++sf k)):=by
 obtain⟨t,c,n,s⟩:=k;simp only at o;simp only[dS,Bool.and_eq_true,decide_eq_true_eq]at K;obtain⟨⟨⟨⟨t0,t1⟩,i,j⟩,⟨n0,n1⟩,_⟩,_⟩:=K;obtain⟨t,rfl⟩:∃q:Nat,t=(q:Int):=⟨t.toNat,by omega⟩;obtain⟨c,rfl⟩:∃q:Nat,c=(q:Int):=⟨c.toNat,by omega⟩;obtain⟨n,rfl⟩:∃q:Nat,n=(q:Int):=⟨n.toNat,by omega⟩;have x:=af h;have S:=af o;have O:=aU t;have P:=aU c;have Q:=aU n;have R:Hid (l.length≤1000000000000):=L;have w:Hid (l++sf ⟨t,c,n,s⟩=((l++enc t)++enc c++enc n)++aV (aQ s)):=by simp[Hid,sf]
 have U:Hid ((l++enc t).length≤1099511627776):=by simp only[Hid,aS];omega
 have V:Hid ((l++enc t++enc c).length≤1099511627776):=by simp only[Hid,aS];omega
 have X:Hid ((l++enc t++enc c++enc n).length≤1099511627776):=by simp only[Hid,aS];omega
 have f:Hid (t≤1073741824∧c≤2∧n≤999999):=⟨by omega,by omega,by omega⟩;unfold dJ.cells;rw[w.out];clear h o L t0 t1 i j n0 n1 O P Q w;go_enter Tryz.func62,Tryz.ntmps62;go_wp2_with(refine aB rfl 43 (.tmp 0) rfl _ rfl ?_);intro w1 n1;have a:Hid (aq w1 W.heap.size 43 #[.int .i64 (t:Int), .int .i64 (c:Int), .int .i64 (n:Int), .string s]):=n1.aE;have C:=af (x.out.later n1.fr);have y:=af (od.of n1.fr);clear n1 x;generalize W.heap.size=g at*;have i:w1.cell? ⟨g,0,none⟩=some (.int .i64 t):=a.out.cell 0;go_wp2_with fail;refine(C.out.number t (by have:=R.out;omega) (by have:=f.out;omega)).mono ?_;rintro e w2⟨rfl,G,p⟩;have D:=af G;have b:=af (p _ _ _ a.out (by decide) (by decide));have z:=af (y.out.trans p);clear G p i C a y;have j:w2.cell? ⟨g,1,none⟩=some (.int .i64 c):=b.out.cell 1;go_wp2_with fail;refine(D.out.number c U.out (by have:=f.out;omega)).mono ?_;rintro e w3⟨rfl,H,r⟩;have E:=af H;have d:=af (r _ _ _ b.out (by decide) (by decide));have A:=af (z.out.trans r);clear H r j D b z;have Z:w3.cell? ⟨g,2,none⟩=some (.int .i64 n):=d.out.cell 2;go_wp2_with fail;refine(E.out.number n V.out (by have:=f.out;omega)).mono ?_;rintro e aa⟨rfl,I,u⟩;have F:=af I;have v:=af (u _ _ _ d.out (by decide) (by decide));have B:=af (A.out.trans u);clear I u Z E d A;have c3:aa.cell? ⟨g,3,none⟩=some (.string s):=v.out.cell 3;go_wp2_with fail;refine(F.out.text s X.out S.out).mono ?_;rintro e ab⟨rfl,J,M⟩;have Y:=af J;have T:=af (B.out.trans M);clear J M c3 F v B;go_wp2;go_end0;exact⟨rfl,Y.out,T.out⟩
structure ni(c:CV):Prop where
 owner:c.nm.owner.size≤1099511627776
 text:c.nm.text.size≤1099511627776
theorem iB.fit{c:CV}(h:iB c):ni c:=⟨by have:=h.owner;omega,by have:=h.text;omega⟩
def Ju(w:World)(b:Bool)(e:Ending)(w':World):Prop:=aH w (.bool b) e w'
theorem sh(xs:List CV)(n:Nat)(A:Option Addr)(a4:Nat)(S:Nat→Prop)(w:World)(bc:eh w)(aP:CL w S A n xs)(bd:∀c∈xs,ni c)(be:n≤1099511627776):
  Calls Tryz.prog 112 #[.slice A n a4] w (Ju w (gN xs)):=by
 have aZ:=af aP;have bh:=af bc;have a2:=af bd;have a0:=af aP.len;have I:=af be;have m:Hid (∀k,k<xs.length→fp xs k=false→gN xs=false):=fun k X h=>IX X h;have C:Hid ((∀k,k<xs.length→fp xs k=true)→gN xs=true):=IW;obtain⟨R,a⟩:∃R,gN xs=R:=⟨_,rfl⟩;rw[a]at m C⊢;clear aP bd bc be a;go_enter Tryz.func112,Tryz.ntmps112;go_wp2;go_loopw[7](fun i wr=>∃k:Nat,k≤n∧i= .int .i64 (k:Int)∧(∀j,j<k→fp xs j=true)∧Fr ag w wr)(fun i _=>n-(intOf i).toNat);case atStart=>exact⟨0,Nat.zero_le _,rfl,(fun j aS=>by omega),az⟩
 case round=>
  obtain⟨k,X,rfl,ba,hF⟩:=hrel;have aJ:=af hF;have a3:=af ba;clear ba hF;by_cases ap:k<n
  ·have a9:(k:Int)<(n:Int):=by omega
   have bn:(0:Int)≤(k:Int):=by omega
   have t0:decide ((k:Int)<(n:Int))=true:=decide_eq_true a9;obtain⟨L,c,rfl,aQ,o⟩:=(aZ.out.ao aJ.out).at_ ap;have Z:=af o;have bg:=af c.one;have G:Hid (xs[k]? =some c):=aQ;have aO:Hid (ni c):=a2.out c (List.mem_of_getElem? aQ);have aL:Hid (k<xs.length):=by rw[Hid,a0.out];exact ap
   clear o aQ;go_wp2_with(refine aC rfl 119 (.tmp 10) rfl _ rfl c.cells _ ?zN Tryz.underlying119 rfl jQ (aR.go ?hold));case zN=>exact Z.out
   unfold aR;go_wp2_with(refine an rfl 119 rfl bY GV #[.int .i64 0, .string ByteArray.empty, .int .i64 0, .int .i64 0, .string ByteArray.empty, .string ByteArray.empty, .bool false] rfl ?_);intro br bf;have aN:=af bf;clear bf;generalize am:wr.heap.size=g4 at*;have ab:=af am;clear am;have aV:Hid (aq br g4 119 #[.int .i64 0, .string ByteArray.empty, .int .i64 0, .int .i64 0, .string ByteArray.empty, .string ByteArray.empty, .bool false]):=by have h:=aN.out.aE;rw[ab.out]at h;exact h
   go_wp2_with(refine ai rfl 119 (.tmp 4) _ rfl g4 c.cells.toArray rfl rfl _ _ aV.out jQ rfl bg.out ?_);intro U bb a7;have aA:Hid (aq U g4 119 c.cells.toArray):=bb;have aY:Hid (Fr ag wr U):=aN.out.fr.aw a7 (fun i bx e=>by have bu:i=g4:=e;have:=ab.out;omega);clear bb a7 aN aV Z;have Y:Hid (∀w',Fr ag U w'→∀j x,c.nm.cells[j]? =some x→w'.cell? ((⟨g4,0,none⟩:Addr).add j)=some x):=fun w' f j x ax=>by
    rw[Addr.add_mid,Nat.zero_add,(aA.out.fr f (fun x=>x)).cell j,bP,CV.cells,List.getElem?_append_left (List.getElem?_eq_some_iff.1 ax).1];exact ax
   have p:Hid (Fr ag w U):=aJ.out.trans aY.out;have K:Hid (jM c=(du c.nm&&decide (c.value.size≤65536)&&(!c.bI||c.value.toList.isEmpty))):=rfl;have F:Hid (jM c=false→R=false):=fun h=>m.out k aL.out (by
    have e:=G.out;simp only[fp,e,h,Bool.false_and]);obtain⟨ok,T⟩:∃z,du c.nm=z:=⟨_,rfl⟩;obtain⟨V,aG⟩:∃z,decide (65536<c.value.size)=z:=⟨_,rfl⟩;obtain⟨em,hem⟩:∃z,c.value.toList.isEmpty=z:=⟨_,rfl⟩;obtain⟨g,N⟩:∃z,c.bI=z:=⟨_,rfl⟩;have aX:Hid (∀w',Fr ag U w'→Calls Tryz.prog 115 #[.agg c.nm.cells.toArray] w' (fun e l=>∃t:Int,e= .returned (.int .i64 t)∧(t==0)=ok∧Fr ag w' l)):=fun w' f=>by
    rw[←T];exact lV c.nm w' (bh.out.ao (p.out.trans f)) (by have:=aO.out.owner;omega) (by have:=aO.out.text;omega)
   have al:decide (c.value.size≤65536)=!V:=by
    rw[←aG];by_cases h:c.value.size≤65536;·rw[decide_eq_true h,cD (by omega)];rfl
    ·rw[decide_eq_false h,de (by omega)];rfl
   have aj:decide ((65536:Int)<(c.value.size:Int))=V:=by
    rw[←aG];exact decide_eq_decide.2 (by omega)
   rw[T,al,N,hem]at K;have ad:=af aj;have ac:=af aG;have aa:=af hem;have c5:Hid (∀w',Fr ag U w'→w'.cell? {block:=g4,off:=5}=some (.string c.value)):=fun w' f=>(aA.out.fr f (fun x=>x)).cell 5;have a5:Hid (∀w',Fr ag U w'→w'.cell? {block:=g4,off:=6}=some (.bool g)):=fun w' f=>by rw[←N];exact(aA.out.fr f (fun x=>x)).cell 6
   clear T aG hem N al aj;obtain⟨aI,ah⟩:∃z:Bool,(bif ok then(bif V then true else(bif g then(!em)else false))else true)=z:=⟨_,rfl⟩;have E:=af ah;clear ah;go_upto_region 4 with fail;refine At 19 [iS (.pointer (some ⟨g4,0,none⟩)),iS (.agg c.nm.cells.toArray),⟨fun bs _=>∃t:Int,bs= .int .i64 t∧(t==0)=ok,fun _ _ _ _ h=>h⟩,iS (.bool (!ok)),iS (.bool (!ok)),iS ((bif ok then .pointer (some ⟨g4,5,none⟩)else undef)),iS ((bif ok then .string c.value else undef)),iS ((bif ok then .int .i64 (c.value.size:Nat)else undef)),iS ((bif ok then .bool V else undef)),iS ((bif ok then .bool V else .bool true)),iS ((bif ok then .bool V else .bool true)),iS ((bif ok then(bif V then undef else .pointer (some ⟨g4,6,none⟩))else undef)),iS ((bif ok then(bif V then undef else .bool g)else undef)),iS ((bif ok then(bif V then undef else .bool g)else undef)),iS ((bif ok then(bif V then undef else(bif g then .pointer (some ⟨g4,5,none⟩)else undef))else undef)),iS ((bif ok then(bif V then undef else(bif g then .string c.value else undef))else undef)),iS ((bif ok then(bif V then undef else(bif g then .bool (!em)else undef))else undef)),iS ((bif ok then(bif V then undef else(bif g then .bool (!em)else .bool false))else undef)),iS (.bool aI)] ?zO ?_;case zO=>
    refine⟨?yI,?zQ,?zR,?zS,?zT,?zU,?zV,?zW,?zX,?zY,?zA,?zB,?zC,?zD,?zE,?zF,?zG,?zH,?zI,trivial⟩;all_goals intro u w' b a
    all_goals simp only[z1,z2,z3,z4,ar,Act.put,z5,z6,z7,Nat.reduceAdd,Nat.zero_add]
    case zQ=>
     simp only[show u 0=_ from a 0];refine aF ?_;exact au _ _ rfl ⟨g4,0,none⟩ rfl c.nm.cells _ (fun ay v av=>Y.out _ b ay v av) Tryz.underlying106 rfl aT ⟨_,rfl,az,rfl⟩
    case zR=>
     simp only[show u 1=_ from a 1];refine aF ?_;go_simp;refine(aX.out _ b).mono ?_;rintro e bq⟨t,rfl,O,f4⟩;exact⟨_,rfl,f4,t,rfl,O⟩
    case zS=>
     obtain⟨t,aB,O⟩:=a 2;simp only[aB];refine aF ?_;have t1:(t !=0)=!ok:=by rw[bne,O]
     go_simp;exact⟨_,rfl,az,rfl⟩
    case' zT=>simp only[show u 3=_ from a 3]
    case' zU=>
     simp only[show u 4=_ from a 4];cases ok;case false=>exact jL
    case zV=>
     simp only[show u 5=_ from a 5,show u 4=_ from a 4];cases ok;case false=>exact jL
     refine aF ?_;have q:=c5.out _ b;go_simp;exact⟨_,rfl,az,rfl⟩
    case' zW=>
     simp only[show u 6=_ from a 6,show u 4=_ from a 4];cases ok;case false=>exact jL
    case zX=>
     simp only[show u 7=_ from a 7,show u 4=_ from a 4];cases ok;case false=>exact jL
     refine aF ?_;have t1:=ad.out;have t2:=ac.out;go_simp;exact⟨_,rfl,az,rfl⟩
    case' zY=>
     simp only[show u 4=_ from a 4,show u 8=_ from a 8];cases ok
    case' zA=>
     simp only[show u 9=_ from a 9];cases ok
    case' zB=>
     simp only[show u 10=_ from a 10];cases ok;case false=>exact jL
     cases V;case true=>exact jL
    case zC=>
     simp only[show u 11=_ from a 11,show u 10=_ from a 10];cases ok;case false=>exact jL
     cases V;case true=>exact jL
     refine aF ?_;have q:=a5.out _ b;go_simp;exact⟨_,rfl,az,rfl⟩
    case' zD=>
     simp only[show u 12=_ from a 12,show u 10=_ from a 10];cases ok;case false=>exact jL
     cases V;case true=>exact jL
    case' zE=>
     simp only[show u 13=_ from a 13];cases ok;case false=>exact jL
     cases V;case true=>exact jL
     cases g;case false=>exact jL
    case zF=>
     simp only[show u 14=_ from a 14,show u 13=_ from a 13];cases ok;case false=>exact jL
     cases V;case true=>exact jL
     cases g;case false=>exact jL
     refine aF ?_;have q:=c5.out _ b;go_simp;exact⟨_,rfl,az,rfl⟩
    case zG=>
     simp only[show u 15=_ from a 15,show u 13=_ from a 13];cases ok;case false=>exact jL
     cases V;case true=>exact jL
     cases g;case false=>exact jL
     refine aF ?_;have t1:=aa.out;go_simp;exact⟨_,rfl,az,rfl⟩
    case' zH=>
     simp only[show u 13=_ from a 13,show u 16=_ from a 16,show u 10=_ from a 10];cases ok;case false=>exact jL
     cases V;case true=>exact jL
     cases g
    case zI=>
     simp only[show u 10=_ from a 10,show u 17=_ from a 17];cases ok<;>cases V<;>cases g<;>exact aF (by go_simp;exact⟨_,rfl,az,congrArg Value.bool E.out⟩)
    all_goals
     try simp only[cond]
     refine aF ?_;go_simp;exact⟨_,rfl,az,rfl⟩
   intro u w' b a;simp only[z1,z2,z3,z4,ar,Act.put,z5,z6,z7,z8,z9,Nat.reduceAdd,Nat.zero_add,show u 18=_ from a 18 (by omega)];clear a;have p:Hid (Fr ag w w'):=p.out.trans b;have Y:Hid (∀l,Fr ag w' l→∀j x,c.nm.cells[j]? =some x→l.cell? ((⟨g4,0,none⟩:Addr).add j)=some x):=fun l f=>Y.out l (b.trans f);clear b aX c5 a5 ad ac aa aA aY;generalize w'=w3 at*;have r:Hid (jM c=!aI):=by
    rw[Hid,K.out,←E.out];cases ok<;>cases V<;>cases g<;>cases em<;>rfl
   clear K E;cases y:aI;case true=>
    obtain rfl:R=false:=F.out (by rw[r.out,y];rfl);clear y r F;go_wp2;go_ret;exact⟨rfl,p.out⟩
   have D:Hid (jM c=true):=by rw[Hid,r.out,y];rfl
   clear y r F;obtain⟨q,bo⟩:∃q:Nat,k-1=q:=⟨_,rfl⟩;have a1:Hid (0<k→(k:Int)-1=(q:Int)):=fun h=>by omega
   obtain⟨d,H⟩:∃d:CV,Hid (0<k→xs[q]? =some d):=by
    by_cases aD:0<k;·exact⟨_,fun _=>List.getElem?_eq_getElem (show q<xs.length by have:=aL.out;omega)⟩
    ·exact⟨c,fun h=>absurd h aD⟩
   have ae:Hid (0<k→some L=some L∧∀j x,d.nm.cells[j]? =some x→w3.cell? ((L.add (q*7)).add j)=some x):=fun h=>by
    obtain⟨bj,bt,bk,aB,bl⟩:=(aZ.out.ao p.out).at_ (show q<n by omega);cases bk;rw[H.out h]at aB;cases aB;refine⟨rfl,fun j x ax=>bl j x ?_⟩;rw[CV.cells,List.getElem?_append_left (List.getElem?_eq_some_iff.1 ax).1];exact ax
   have bi:Hid (0<k→ni d):=fun h=>a2.out d (List.mem_of_getElem? (H.out h));have aW:Hid (0<k→∀w',Calls Tryz.prog 128 #[.agg d.nm.cells.toArray, .agg c.nm.cells.toArray] w' (aH w' (.int .i64 (bQ d.nm c.nm)))):=fun h w'=>gh d.nm c.nm w' (by have:=(bi.out h).owner;omega) (by have:=aO.out.owner;omega);have J:Hid (fp xs k=!(decide (0<k)&&decide (0≤bQ d.nm c.nm))):=by
    by_cases aD:0<k
    ·obtain⟨aU,rfl⟩:∃aU,k=aU+1:=⟨k-1,by omega⟩;obtain rfl:aU=q:=by omega
     rw[Hid,Cn G.out (H.out aD),D.out,decide_eq_true aD,Bool.true_and,Bool.true_and];by_cases a8:bQ d.nm c.nm<0;·rw[decide_eq_true a8,cD (show¬0≤bQ d.nm c.nm by omega)];rfl
     ·rw[decide_eq_false a8,de (show 0≤bQ d.nm c.nm by omega)];rfl
    ·obtain rfl:k=0:=by omega
     rw[Hid,Co G.out,D.out];rfl
   obtain⟨P,W⟩:∃z:Bool,decide (0<k)=z:=⟨_,rfl⟩;obtain⟨Q,a6⟩:∃z:Bool,decide (0≤bQ d.nm c.nm)=z:=⟨_,rfl⟩;obtain⟨B,M⟩:∃z:Bool,(bif P then Q else false)=z:=⟨_,rfl⟩;have HB:=af M;clear M;rw[W,a6]at J;clear bo;go_upto_region 6 with fail;refine jn 14 [.int .i64 (k:Int), .bool P, .bool P,bif P then .slice (some L) n a4 else undef,bif P then .int .i64 (k:Int)else undef,bif P then .int .i64 (q:Int)else undef,bif P then .pointer (some (L.add (q*7)))else undef,bif P then .pointer (some (L.add (q*7)))else undef,bif P then .agg d.nm.cells.toArray else undef,bif P then .pointer (some ⟨g4,0,none⟩)else undef,bif P then .agg c.nm.cells.toArray else undef,bif P then .int .i64 (bQ d.nm c.nm)else undef,bif P then .bool Q else undef, .bool B] ?zP ?_;case zP=>
    refine⟨?yJ,?zZ,?yA,?yB,?yC,?yD,?yE,?yF,?yG,?yH,?zJ,?zK,?zL,?zM,trivial⟩;all_goals intro u w' b a
    all_goals simp only[z1,z2,z3,z4,ar,Act.put,z5,z6,z7,Nat.reduceAdd,Nat.zero_add]
    case' zZ=>simp only[show u 0=_ from a 0]
    case' yA=>simp only[show u 1=_ from a 1]
    case' yB=>
     simp only[show u 2=_ from a 2];cases P;case false=>exact bV
    case' yC=>
     simp only[show u 2=_ from a 2];cases P;case false=>exact bV
    case yD=>
     simp only[show u 4=_ from a 4,show u 2=_ from a 2];cases P;case false=>exact bV
     refine aF ?_;have X:=of_decide_eq_true W;have bv:(k:Int)-1=(q:Int):=a1.out X;have bm:IntKind.i64.wrap (q:Int)=(q:Int):=IntWalk.i64_in _ (by have:=I.out;omega);go_simp;exact aM
    case yE=>
     simp only[show u 3=_ from a 3,show u 5=_ from a 5,show u 2=_ from a 2];cases P;case false=>exact bV
     refine aF ?_;have X:=of_decide_eq_true W;have bm:(q:Int)<(n:Int):=by have:=a1.out X;omega
     have bw:(0:Int)≤(q:Int):=by omega
     go_simp;exact aM
    case' yF=>
     simp only[show u 6=_ from a 6,show u 2=_ from a 2];cases P;case false=>exact bV
    case yG=>
     simp only[show u 7=_ from a 7,show u 2=_ from a 2];cases P;case false=>exact bV
     refine aF ?_;exact au _ _ rfl (L.add (q*7)) rfl d.nm.cells _ (fun ay v av=>b.ak ((ae.out (of_decide_eq_true W)).2 ay v av) (fun x=>x)) Tryz.underlying106 rfl aT aM
    case' yH=>
     simp only[show u 2=_ from a 2];cases P;case false=>exact bV
    case zJ=>
     simp only[show u 9=_ from a 9,show u 2=_ from a 2];cases P;case false=>exact bV
     refine aF ?_;exact au _ _ rfl ⟨g4,0,none⟩ rfl c.nm.cells _ (fun ay v av=>Y.out _ b ay v av) Tryz.underlying106 rfl aT aM
    case zK=>
     simp only[show u 8=_ from a 8,show u 10=_ from a 10,show u 2=_ from a 2];cases P;case false=>exact bV
     refine aF ?_;go_simp;refine(aW.out (of_decide_eq_true W) _).mono ?_;rintro e bq⟨rfl,f4⟩;exact⟨rfl,f4⟩
    case' zL=>
     simp only[show u 11=_ from a 11,show u 2=_ from a 2];cases P;case false=>exact bV
    case zM=>
     simp only[show u 2=_ from a 2,show u 12=_ from a 12];cases P<;>exact aF (by go_simp;exact⟨by rw[←HB.out];rfl,az⟩)
    all_goals
     try simp only[cond]
     refine aF ?_;go_simp;exact aM
   intro w' b;simp only[z1,z2,z3,z4,ar,Act.put,z5,z6,z7,z8,z9,jX,jY,Nat.reduceAdd,Nat.zero_add];have p:Hid (Fr ag w w'):=p.out.trans b;clear b aW ae W a6 Y;have s:Hid (fp xs k=!B):=by
    rw[Hid,J.out,←HB.out];cases P<;>cases Q<;>rfl
   clear J HB;cases M:B;case true=>
    obtain rfl:R=false:=m.out k aL.out (by rw[s.out,M];rfl);clear M s;go_wp2;go_ret;exact⟨rfl,p.out⟩
   have aK:Hid (fp xs k=true):=by rw[Hid,s.out,M];rfl
   clear M s;have bp:n≤1099511627776:=I.out;go_wp2;go_roundw;case rel=>
    refine⟨k+1,by omega,by go_num,fun j aS=>?_,p.out⟩;by_cases h:j=k;·rw[h];exact aK.out
    ·exact a3.out j (by omega)
   case measure=>have bp:=I.out;simp[intOf];omega
  ·obtain rfl:k=n:=by omega
   have a9:¬(k:Int)<(k:Int):=by omega
   obtain rfl:R=true:=C.out (fun j aS=>a3.out j (by rw[←a0.out];exact aS));go_wp2;go_ret;exact⟨rfl,aJ.out⟩
theorem o6(a:ActV)(cs:List Value)(w:World)(L:eh w)(ae:cF w cs a)(V:a.key.fV.size≤1099511627776)(W:∀c∈a.reads,ni c)(hw:∀c∈a.writes,ni c)(nr:a.reads.length≤1099511627776)(nw:a.writes.length≤1099511627776):
  Calls Tryz.prog 60 #[.agg cs.toArray] w (Ju w (fY a)):=by
 obtain⟨am,an,rfl,S,T⟩:=ae;obtain⟨p,aj,A,rfl,rfl,_,m⟩:=S.cl;obtain⟨r,ak,C,rfl,rfl,_,o⟩:=T.cl;have D:Hid (∀w',Calls Tryz.prog 111 #[.agg a.key.cells.toArray] w' (fun e M=>∃d:Int,e= .returned (.int .i64 d)∧(d==0)=dS a.key∧Fr ag w' M)):=fun w'=>xN a.key w' V;have N:Hid (∀w',Fr ag w w'→Calls Tryz.prog 112 #[.slice p a.reads.length A] w' (aH w' (.bool (gN a.reads)))):=fun w' f=>sh a.reads _ p A _ w' (L.ao f) (m.ao f) W nr;have CW:Hid (∀w',Fr ag w w'→Calls Tryz.prog 112 #[.slice r a.writes.length C] w' (aH w' (.bool (gN a.writes)))):=fun w' f=>sh a.writes _ r C _ w' (L.ao f) (o.ao f) hw nw;have k:Hid (fY a=(dS a.key&&gN a.reads&&gN a.writes)):=rfl;obtain⟨P,I⟩:∃z,dS a.key=z:=⟨_,rfl⟩;obtain⟨Q,J⟩:∃z,gN a.reads=z:=⟨_,rfl⟩;obtain⟨R,K⟩:∃z,gN a.writes=z:=⟨_,rfl⟩;obtain⟨O,H⟩:∃z,fY a=z:=⟨_,rfl⟩;rw[I]at D;rw[J]at N;rw[K]at CW;rw[I,J,K,H]at k;rw[H];generalize a.reads.length=Y at*;generalize a.writes.length=Z at*;obtain⟨⟨t,c,n,s⟩,_,_⟩:=a;simp only[dJ.cells,List.cons_append,List.nil_append]at D⊢;clear L V W hw nr nw S T m o I J K H;go_enter Tryz.func60,Tryz.ntmps60;go_wp2_with(refine aB rfl 46 (.tmp 0) rfl _ rfl ?_);intro w1 n1;have F:=af n1.fr;have y:=af n1.aE;clear n1;generalize w.heap.size=g at*;have E:Hid (∀w',Fr ag w1 w'→∀j x,[Value.int .i64 t, .int .i64 c, .int .i64 n, .string s][j]? =some x→w'.cell? ((⟨g,0,none⟩:Addr).add j)=some x):=fun w' f j x X=>by
  rw[Addr.add_mid,Nat.zero_add,(y.out.fr f (fun x=>x)).cell j];rcases j with _|_|_|_|j<;>simp at X<;>simp[←X]
 have ac:Hid (∀w',Fr ag w1 w'→w'.cell? {block:=g,off:=4}=some (.slice p Y A)):=fun w' f=>(y.out.fr f (fun x=>x)).cell 4;have c5:Hid (∀w',Fr ag w1 w'→w'.cell? {block:=g,off:=5}=some (.slice r Z C)):=fun w' f=>(y.out.fr f (fun x=>x)).cell 5;clear y;obtain⟨B,U⟩:∃z:Bool,(bif P then(bif Q then R else false)else false)=z:=⟨_,rfl⟩;have HB:=af U;clear U;go_upto_region 1 with fail;refine At 15 [iS (.pointer (some ⟨g,0,none⟩)),iS (.agg [Value.int .i64 t, .int .i64 c, .int .i64 n, .string s].toArray),⟨fun al _=>∃d:Int,al= .int .i64 d∧(d==0)=P,fun _ _ _ _ h=>h⟩,iS (.bool P),iS (.bool P),iS ((bif P then .pointer (some ⟨g,4,none⟩)else undef)),iS ((bif P then .slice p Y A else undef)),iS ((bif P then .bool Q else undef)),iS ((bif P then .bool Q else .bool false)),iS ((bif P then .bool Q else .bool false)),iS ((bif P then(bif Q then .pointer (some ⟨g,5,none⟩)else undef)else undef)),iS ((bif P then(bif Q then .slice r Z C else undef)else undef)),iS ((bif P then(bif Q then .bool R else undef)else undef)),iS (.bool B),iS (.bool B)] ?zF ?_;case zF=>
  refine⟨?zP,?zG,?zH,?zI,?zJ,?zK,?zL,?zM,?zN,?zO,?zA,?zB,?zC,?zD,?zE,trivial⟩;all_goals intro u w' i b
  all_goals simp only[z1,z2,z3,z4,ar,Act.put,z5,z6,z7,Nat.reduceAdd,Nat.zero_add]
  case zG=>
   simp only[show u 0=_ from b 0];refine aF ?_;exact au _ _ rfl ⟨g,0,none⟩ rfl [Value.int .i64 t, .int .i64 c, .int .i64 n, .string s] _ (fun ai v ah=>E.out _ i ai v ah) Tryz.underlying43 rfl gH ⟨_,rfl,az,rfl⟩
  case zH=>
   simp only[show u 1=_ from b 1];refine aF ?_;go_simp;refine(D.out _).mono ?_;rintro e aa⟨d,rfl,l,f4⟩;exact⟨_,rfl,f4,d,rfl,l⟩
  case zI=>
   obtain⟨d,ad,l⟩:=b 2;simp only[ad];refine aF ?_;have t1:(d==0)=P:=l;go_simp;exact⟨_,rfl,az,rfl⟩
  case' zJ=>simp only[show u 3=_ from b 3]
  case' zK=>
   simp only[show u 4=_ from b 4];cases P;case false=>exact jL
  case zL=>
   simp only[show u 5=_ from b 5,show u 4=_ from b 4];cases P;case false=>exact jL
   refine aF ?_;have q:=ac.out _ i;go_simp;exact⟨_,rfl,az,rfl⟩
  case zM=>
   simp only[show u 6=_ from b 6,show u 4=_ from b 4];cases P;case false=>exact jL
   refine aF ?_;go_simp;refine(N.out _ (F.out.trans i)).mono ?_;rintro e aa⟨rfl,f4⟩;exact⟨_,rfl,f4,rfl⟩
  case' zN=>
   simp only[show u 4=_ from b 4,show u 7=_ from b 7];cases P
  case' zO=>
   simp only[show u 8=_ from b 8];cases P
  case' zA=>
   simp only[show u 9=_ from b 9];cases P;case false=>exact jL
   cases Q;case false=>exact jL
  case zB=>
   simp only[show u 10=_ from b 10,show u 9=_ from b 9];cases P;case false=>exact jL
   cases Q;case false=>exact jL
   refine aF ?_;have q:=c5.out _ i;go_simp;exact⟨_,rfl,az,rfl⟩
  case zC=>
   simp only[show u 11=_ from b 11,show u 9=_ from b 9];cases P;case false=>exact jL
   cases Q;case false=>exact jL
   refine aF ?_;go_simp;refine(CW.out _ (F.out.trans i)).mono ?_;rintro e aa⟨rfl,f4⟩;exact⟨_,rfl,f4,rfl⟩
  case zD=>
   simp only[show u 9=_ from b 9,show u 12=_ from b 12];cases P<;>cases Q<;>exact aF (by go_simp;exact⟨_,rfl,az,congrArg Value.bool HB.out⟩)
  case' zE=>simp only[show u 13=_ from b 13]
  all_goals
   try simp only[cond]
   refine aF ?_;go_simp;exact⟨_,rfl,az,rfl⟩
 intro u w' i b;simp only[z1,z2,z3,z4,ar,Act.put,z5,z6,z7,z8,z9,Nat.reduceAdd,Nat.zero_add,show u 14=_ from b 14 (by omega)];clear b;have ab:=af (F.out.trans i);have G:Hid (O=B):=by
  rw[Hid,k.out,←HB.out];cases P<;>cases Q<;>cases R<;>rfl
 clear i k HB;go_wp2;go_ret;rw[G.out];exact⟨rfl,ab.out⟩
structure Hk(a:ActV):Prop where
 fV:a.key.fV.size≤1048576
 reads:∀c∈a.reads,iB c
 writes:∀c∈a.writes,iB c
 nr:a.reads.length≤60000
 nw:a.writes.length≤60000
def j4(a:ActV):Value:=if fY a then .tuple #[.string ⟨(cC a).toArray⟩, .int .i64 0]else .tuple #[.string ByteArray.empty, .int .i64 3]
def jr(xs:List CV)(j:Nat):List UInt8:=enc xs.length++(xs.take j).flatMap om
theorem Ee(xs:List CV):jr xs 0=enc xs.length:=by simp[jr]
theorem Hz(xs:List CV):jr xs xs.length=eW xs:=by simp[jr,eW]
theorem Ed{xs:List CV}{j:Nat}{c:CV}(h:xs[j]? =some c):jr xs (j+1)=jr xs j++(aV (cM c.nm)++(kg c.bI++aV (aQ c.value))):=by
 rw[jr,jr,List.take_add_one,h,Option.toList_some,List.flatMap_append,List.flatMap_cons,List.flatMap_nil,List.append_nil,om,List.append_assoc]
theorem J2(xs:List CV)(j:Nat):(jr xs j).length≤(eW xs).length:=by
 have e:eW xs=jr xs j++(xs.drop j).flatMap om:=by
  rw[jr,eW,List.append_assoc,←List.flatMap_append,List.take_append_drop]
 rw[e,aS];omega
theorem zA:∀(xs:List CV),(∀c∈xs,iB c)→(∀c∈xs,jM c=true)→(xs.flatMap om).length≤xs.length*4000000
 |[],_,_=>by simp
 |c::xs,h,e=>by
  have f:=zA xs (fun d a=>h d (by simp[a])) (fun d a=>e d (by simp[a]));have b:=h c (by simp);have a2:=e c (by simp);simp only[jM,Bool.and_eq_true,decide_eq_true_eq]at a2;have a3:=b.owner;have a4:=b.text;have b1:=dW c.nm;have b2:=aU (cM c.nm).length;have b3:=aU (aQ c.value).length;have b4:=aK c.value;simp only[List.flatMap_cons,om,aV,kg,aS,List.length_cons,List.length_nil]at f⊢;omega
def oY(a:ActV)(k:Nat):List UInt8:=if k=0 then sf a.key else if k=1 then sf a.key++eW a.reads else cC a
theorem Hn(a:ActV):oY a 2=cC a:=rfl
theorem JM(a:ActV)(k:Nat):(oY a k).length≤(cC a).length:=by
 unfold oY;split;·simp only[cC,aS];omega
 ·split;·simp only[cC,aS];omega
  ·exact Nat.le_refl _
theorem JO{a:ActV}(h:Hk a)(b:fY a=true):(cC a).length≤1000000000000:=by
 simp only[fY,Bool.and_eq_true]at b;have k:=zA a.reads h.reads (kV b.1.2);have l:=zA a.writes h.writes (kV b.2);have m:=h.nr;have n:=h.nw;have o:=h.fV;have c:=aU a.key.tick.toNat;have d:=aU a.key.cls.toNat;have e:=aU a.key.num.toNat;have f:=aU (aQ a.key.fV).length;have g:=aK a.key.fV;have i:=aU a.reads.length;have j:=aU a.writes.length;simp only[cC,sf,eW,aV,aS];omega
theorem BH(A B:Option Addr)(n m c d:Nat)(w:World):(Instr.index 116 (.agg #[.slice A n c, .slice B m d]) (.int .i64 ((0:Nat):Int))).run Tryz.prog w= .ok (.slice A n c) w:=by kernel_rfl
theorem BJ(A B:Option Addr)(n m c d:Nat)(w:World):(Instr.index 116 (.agg #[.slice A n c, .slice B m d]) (.int .i64 ((1:Nat):Int))).run Tryz.prog w= .ok (.slice B m d) w:=by kernel_rfl
theorem p9(a:ActV)(cs:List Value)(w:World)(aI:eh w)(a9:cF w cs a)(p:Hk a):
    Calls Tryz.prog 18 #[.agg cs.toArray] w (aH w (j4 a)):=by
  have bm:=af aI;have C:=af p;have ar:=af a9;obtain⟨bK,bN,rfl,ac,O⟩:=a9;obtain⟨q,bv,s,rfl,rfl,_,U⟩:=ac.cl;obtain⟨r,bw,t,rfl,rfl,_,V⟩:=O.cl;have az:=af U;have aA:=af V;have G:Hid (∀w',Fr ag w w'→Calls Tryz.prog 60 #[.agg (a.key.cells++[Value.slice q a.reads.length s, .slice r a.writes.length t]).toArray] w' (aH w' (.bool (fY a)))):=fun w' f=>
    o6 a _ w' (aI.ao f) (ar.out.ao f) (by have:=p.fV;omega) (fun c v=>(p.reads c v).fit) (fun c v=>(p.writes c v).fit) (by have:=p.nr;omega) (by have:=p.nw;omega);have d:Hid (fY a=true→(cC a).length≤1000000000000):=JO p;have L:Hid (a.reads.length≤60000∧a.writes.length≤60000):=⟨p.nr,p.nw⟩;clear ac O U V aI p;go_enter Tryz.func18,Tryz.ntmps18;go_wp2_with(refine aB rfl 46 (.tmp 0) rfl _ rfl ?_);intro w1 n1;have am:=af n1.fr;have ae:=af n1.aE;clear n1;generalize w.heap.size=g at*;have al:Hid (∀w',aq w' g 46 (a.key.cells++[Value.slice q a.reads.length s, .slice r a.writes.length t]).toArray→∀j x,a.key.cells[j]? =some x→w'.cell? ((⟨g,0,none⟩:Addr).add j)=some x):=fun w' bt j x D=>by
    rw[Addr.add_mid,Nat.zero_add,bt.cell j,bP,List.getElem?_append_left (List.getElem?_eq_some_iff.1 D).1];exact D
  have F:Hid (∀j x,(a.key.cells++[Value.slice q a.reads.length s, .slice r a.writes.length t])[j]? =some x→w1.cell? ((⟨g,0,none⟩:Addr).add j)=some x):=fun j x D=>by
    rw[Addr.add_mid,Nat.zero_add,ae.out.cell j,bP];exact D
  go_wp2_with(refine aC rfl 46 (.tmp 1) rfl ⟨g,0,none⟩ rfl (a.key.cells++[Value.slice q a.reads.length s, .slice r a.writes.length t]) _ ?zC Tryz.underlying46 rfl bL (aR.go ?zF));case zC=>exact F.out
  unfold aR;go_wp2_with fail;refine(G.out _ am.out).mono ?_;rintro e w2⟨rfl,f2⟩;have ap:=af (am.out.trans f2);have aO:=af (ae.out.fr f2 (fun x=>x));clear f2 G am ae F;cases b:fY a
  · have ax:Hid (j4 a= .tuple #[.string ByteArray.empty, .int .i64 3]):=by rw[Hid,j4,b];rfl
    clear b d;go_wp2;go_ret2;rw[ax.out];exact⟨rfl,ap.out⟩
  have ax:Hid (j4 a= .tuple #[.string ⟨(cC a).toArray⟩, .int .i64 0]):=by rw[Hid,j4,b];rfl
  have bl:=af b;have K:Hid ((cC a).length≤1000000000000):=d.out b;have B:Hid (dS a.key=true∧gN a.reads=true∧gN a.writes=true):=by
    have h:=b;simp only[fY,Bool.and_eq_true]at h;exact⟨h.1.1,h.1.2,h.2⟩
  clear b d;go_wp2_with fail;refine(Wi.start ap.out).mono ?_;rintro e w3⟨rfl,W,f3⟩;have aY:=af W;have ah:=af (aO.out.fr f3 (fun x=>x));generalize w2.heap.size=o at*;clear W f3 ap aO;go_wp2_with(refine aC rfl 43 (.tmp 15) rfl ⟨g,0,none⟩ rfl a.key.cells _ ?zE Tryz.underlying43 rfl gH (aR.go ?zG));case zE=>exact al.out _ ah.out
  unfold aR;go_wp2_with fail;refine(xO w w3 o [] a.key aY.out (by simp) B.out.1 (by have:=C.out.fV;omega)).mono ?_;rintro e aN⟨rfl,X,bc⟩;have aZ:Hid (Wi w aN o (oY a 0)):=X;have aj:=af (bc _ _ _ ah.out (by decide) (by decide));clear X bc aY ah;have bp:aN.cell? {block:=g,off:=4}=some (.slice q a.reads.length s):=aj.out.cell 4;have c5:aN.cell? {block:=g,off:=5}=some (.slice r a.writes.length t):=aj.out.cell 5;go_wp2;clear bp c5;go_loopw[24](fun i wr=>∃k:Nat,k≤2∧i= .int .i64 (k:Int)∧Wi w wr o (oY a k))(fun i _=>2-(intOf i).toNat);case atStart=>exact⟨0,by omega,rfl,aZ.out⟩
  case round=>
    obtain⟨k,bH,rfl,hw⟩:=hrel;have ab:=af hw;clear hw aZ aj;by_cases bu:k<2
    · have t0:decide ((k:Int)<2)=true:=de (by omega);obtain⟨A,n,c,xs,y,R,aL,aM,T,u⟩:∃A n c xs,Hid (∀w,(Instr.index 116 (.agg #[.slice q a.reads.length s, .slice r a.writes.length t]) (.int .i64 (k:Int))).run Tryz.prog w= .ok (.slice A n c) w)∧Hid (CL w (fun _=>True) A n xs)∧Hid (gN xs=true)∧Hid (∀c∈xs,iB c)∧Hid (n≤60000)∧Hid (oY a (k+1)=oY a k++eW xs):=by
        by_cases br:k=0;· subst br;exact⟨q,_,s,a.reads,BH q r _ _ s t,az.out,B.out.2.1,C.out.reads,L.out.1,rfl⟩
        · obtain rfl:k=1:=by omega
          exact⟨r,_,t,a.writes,BJ q r _ _ s t,aA.out,B.out.2.2,C.out.writes,L.out.2,by simp[Hid,oY,cC]⟩
      have H:Hid (∀j,(oY a k++jr xs j).length≤1000000000000):=fun j=>by
        have ac:=J2 xs j;have O:=JM a (k+1);have bD:=K.out;rw[u.out,aS]at O;rw[aS];omega
      have au:Hid ((oY a k).length≤1000000000000):=by have:=H.out 0;simp only[aS]at this;simp only[Hid];omega
      have Q:Hid (xs.length=n):=R.out.len;have aG:=y.out;generalize P:oY a k=acc at*;have bk:=af P;clear P y;go_wp2_with fail;refine(ab.out.number n (by have:=au.out;omega) (by have:=T.out;omega)).mono ?_;rintro e bx⟨rfl,a5,_⟩;have a0:Hid (Wi w bx o (acc++jr xs 0)):=by rw[Hid,Ee,Q.out];exact a5
      clear a5 aG ab;go_wp2;go_loopw[33](fun i wr=>∃j:Nat,j≤n∧i= .int .i64 (j:Int)∧Wi w wr o (acc++jr xs j))(fun i _=>n-(intOf i).toNat);case atStart=>exact⟨0,by omega,rfl,a0.out⟩
      case round=>
        obtain⟨j,bG,rfl,Y⟩:=hrel;have N:=af Y;clear Y a0;by_cases aJ:j<n
        · have ba:(j:Int)<(n:Int):=by omega
          have bs:(0:Int)≤(j:Int):=by omega
          have t1:decide ((j:Int)<(n:Int))=true:=decide_eq_true ba;obtain⟨bB,ch,rfl,v,m⟩:=(R.out.ao N.out.fr).at_ aJ;have I:=af m;have bi:=af ch.one;have Z:Hid (iB ch):=aM.out ch (List.mem_of_getElem? v);have bn:Hid (jM ch=true):=kV aL.out ch (List.mem_of_getElem? v);have l:Hid (acc++jr xs (j+1)=((acc++jr xs j)++aV (cM ch.nm))++kg ch.bI++aV (aQ ch.value)):=by
            rw[Hid,Ed v];simp only[List.append_assoc]
          have av:=af (H.out (j+1));clear m v;go_wp2_with(refine aC rfl 119 (.tmp 35) rfl _ rfl ch.cells _ ?zD Tryz.underlying119 rfl jQ (aR.go ?hold));case zD=>exact I.out
          unfold aR;go_wp2_with(refine an rfl 119 rfl bY GV #[.int .i64 0, .string ByteArray.empty, .int .i64 0, .int .i64 0, .string ByteArray.empty, .string ByteArray.empty, .bool false] rfl ?_);intro bA bf;have aD:=af bf;clear bf;generalize S:wr.heap.size=g8 at*;have J:=af S;clear S;have aU:Hid (aq bA g8 119 #[.int .i64 0, .string ByteArray.empty, .int .i64 0, .int .i64 0, .string ByteArray.empty, .string ByteArray.empty, .bool false]):=by have h:=aD.out.aE;rw[J.out]at h;exact h
          go_wp2_with(refine ai rfl 119 (.tmp 8) _ rfl g8 ch.cells.toArray rfl rfl _ _ aU.out jQ rfl bi.out ?_);intro ad bb a4;have E:Hid (aq ad g8 119 ch.cells.toArray):=bb;have aX:Hid (Fr ag wr ad):=aD.out.fr.aw a4 (fun i bF e=>by have bC:i=g8:=e;have:=J.out;omega);have aF:=af (N.out.later aX.out);clear bb a4 aD aU I N aX;have aW:Hid (∀j x,ch.nm.cells[j]? =some x→ad.cell? ((⟨g8,0,none⟩:Addr).add j)=some x):=fun j x D=>by
            rw[Addr.add_mid,Nat.zero_add,E.out.cell j,bP,CV.cells,List.getElem?_append_left (List.getElem?_eq_some_iff.1 D).1];exact D
          go_wp2_with(refine aC rfl 106 (.tmp 38) rfl ⟨g8,0,none⟩ rfl ch.nm.cells _ ?zA Tryz.underlying106 rfl aT (aR.go ?zB));case zA=>exact aW.out
          unfold aR;have M:Hid (du ch.nm=true∧ch.value.size≤65536):=by
            have h:=bn.out;simp only[jM,Bool.and_eq_true,decide_eq_true_eq]at h;exact h.1
          have ay:Hid ((cM ch.nm).length≤16777216):=by
            have ac:=Z.out.owner;have O:=Z.out.text;have bE:=dW ch.nm;simp only[Hid];omega
          go_wp2_with fail;refine(yl ch.nm ad (bm.out.ao aF.out.fr) (by have:=Z.out.owner;omega) (by have:=Z.out.text;omega) M.out.1).mono ?_;rintro e bM⟨rfl,f6⟩;have a1:=af (aF.out.later f6);have aP:=af (E.out.fr f6 (fun x=>x));clear f6 aF E aW;have z:Hid ((acc++jr xs j).length≤1099511627776∧(acc++jr xs j++aV (cM ch.nm)).length≤1099511627776∧(acc++jr xs j++aV (cM ch.nm)++kg ch.bI).length≤1099511627776):=by
            have h:=av.out;rw[l.out]at h;simp only[aS]at h;simp only[Hid,aS];omega
          go_wp2_with fail
          refine(a1.out.text ⟨(cM ch.nm).toArray⟩ z.out.1 (by have h:=ay.out;have e:(⟨(cM ch.nm).toArray⟩:ByteArray).size=(cM ch.nm).length:=by rw[←aK];rfl
                                                              omega)).mono ?_;rintro e bg⟨rfl,a6,bd⟩;have a2:Hid (Wi w bg o (acc++jr xs j++aV (cM ch.nm))):=a6;have ak:=af (bd _ _ _ aP.out (by decide) (by decide));clear a6 bd a1 aP;have bq:bg.cell? {block:=g8,off:=6}=some (.bool ch.bI):=ak.out.cell 6;go_wp2_with fail;refine(a2.out.flag ch.bI z.out.2.1).mono ?_;rintro e bz⟨rfl,a7,be⟩;have a3:=af a7;have E:=af (be _ _ _ ak.out (by decide) (by decide));clear a7 be a2 ak bq;have c5:bz.cell? {block:=g8,off:=5}=some (.string ch.value):=E.out.cell 5;go_wp2_with fail;refine(a3.out.text ch.value z.out.2.2 (by have:=M.out.2;omega)).mono ?_;rintro e bh⟨rfl,a8,_⟩;have bo:Hid (Wi w bh o (acc++jr xs (j+1))):=by rw[Hid,l.out];exact a8
          clear a8 a3 E c5;have bJ:n≤60000:=T.out;go_wp2;go_roundw;case rel=>exact⟨j+1,by omega,by go_num,bo.out⟩
          case measure=>simp[intOf];omega
        · obtain rfl:j=n:=by omega
          have ba:¬(j:Int)<(j:Int):=by omega
          have aa:Hid (Wi w wr o (oY a (k+1))):=by
            have h:=N.out;rw[←Q.out,Hz]at h;rw[Hid,u.out];exact h
          clear N;go_wp2;go_roundw;case rel=>exact⟨k+1,by omega,by go_num,aa.out⟩
          case measure=>simp[intOf];omega
    · obtain rfl:k=2:=by omega
      have aa:Hid (Wi w wr o (cC a)):=by rw[←Hn];exact ab.out
      clear ab;go_wp2_with fail;refine(Au w wr o (cC a) aa.out (by have:=K.out;omega)).mono ?_;rintro e bh⟨rfl,f9⟩;have bj:=af (aa.out.fr.trans f9);clear f9;go_wp2;go_ret2;rw[ax.out];exact⟨rfl,bj.out⟩
end Go.Proofs.YtphjagkehiklkaaGreatDoor
namespace Go.Proofs.YtphjagkehiklkaaGreatDoor
open Go.RowKit
def eV(s:ByteArray):List UInt8:=s.data.toList
theorem dQ(s:ByteArray):(eV s).length=s.size:=by simp[eV]
structure uS(W w:World)(v:Value)(l:List UInt8):Prop where
 fr:Fr ag W w
 row:∃g cap,v= .slice (some ⟨g,0,none⟩) l.length cap∧W.heap.size≤g∧g<w.heap.size∧l.length≤cap∧cap≤maxLen∧(∀j,j<cap→(w.cell? ⟨g,j,none⟩).isSome=true)∧
  (∀j,j<cap→w.frozen? ⟨g,j,none⟩=false)∧(∀j u,(l.map bN)[j]? =some u→w.cell? ⟨g,j,none⟩=some u)
theorem IF:(Tryz.prog.info? 5).map (fun i=>(i.zero,i.size,i.bytes))=some (some (.int .u8 0),1,1):=by kernel_rfl
theorem uS.gR{W w:World}{base:Nat}{v:Value}{l:List UInt8}(h:w.ownsRow base 5 1 v l.length (l.map bN))(s:W.heap.size≤base)(p:Fr ag W w)(q:l≠[]):uS W w v l:=by
 rcases h.2 with⟨rfl,m⟩|⟨g,cap,cur,rfl,n,a,f,c,o,i⟩
 ·cases l with
  |nil=>exact absurd rfl q
  |cons x r=>simp at m
 ·have e:g<w.heap.size:=by
   rcases Nat.lt_or_ge g w.heap.size with b|b;·exact b
   ·rw[Array.getElem?_eq_none b]at a;cases a
  refine⟨p,g,cap,rfl,by omega,e,f,c,fun j t=>?_,fun j _=>by simp[World.frozen?,a],fun j u hu=>?_⟩
  ·have d:j<cur.size:=by omega
   simp[World.cell?,a,d]
  ·have k:=h.cells (g:=g) rfl j u hu;rw[show(⟨g,0,none⟩:Addr).add j=⟨g,j,none⟩by unfold Addr.add;split<;>simp_all]at k;exact k
end Go.Proofs.YtphjagkehiklkaaGreatDoor
namespace Go.Proofs.YtphjagkehiklkaaGreatDoor
open Go.RowKit
theorem JP(l:List UInt8):∀(s:ByteArray),(l.map (fun b:UInt8=>(b.toNat:Int))).foldl (fun r n=>r.push (UInt8.ofNat n.toNat)) s=⟨(s.data.toList++l).toArray⟩:=by
 induction l with
 |nil=>intro s;simp
 |cons b l a=>
  intro s;simp only[List.map_cons,List.foldl_cons];rw[a];congr 1;have e:UInt8.ofNat (Int.toNat (b.toNat:Int))=b:=by simp
  rw[e];simp[ByteArray.push]
theorem xy{P:Program}(w:World)(src dst e:TypeId)(q:P.underlying src=some (.slice e))(he:P.underlying e=some (.int .u8))(p:P.underlying dst=some .string)
  (S:Nat→Prop)(A:Option Addr)(n c:Nat)(l:List UInt8)(f:Rd w S 1 A n (l.map bN)):(convert src dst (.slice A n c)).run P w= .ok (.string ⟨l.toArray⟩) w:=by
 rw[run_convert_bytes_string w src dst e A n c q he p];have d:l.length=n:=by simpa using f.1
 rcases A with _|a
 ·have:l=[]:=by
   rcases Nat.eq_zero_or_pos n with h|h;·exact List.eq_nil_of_length_eq_zero (d.trans h)
   ·obtain⟨a,e,_⟩:=f.2 h;cases e
  subst this;rfl
 ·have o:∀j v,(l.map bN)[j]? =some v→w.cell? (a.add j)=some v:=by
   intro j v i;rcases Nat.eq_zero_or_pos n with h|h;·have:l=[]:=List.eq_nil_of_length_eq_zero (d.trans h);subst this;simp at i
   ·obtain⟨k,e,_,m⟩:=f.2 h;injection e with e;subst e;exact m j v i
  have g:=run_loadCells_list (P:=P) w a (l.map bN) o;rw[List.length_map,d]at g;rw[run_bytesToString w a n c (l.map (fun b:UInt8=>(b.toNat:Int))) (by rw[g];simp[bN,Function.comp_def])];rw[JP];rfl
abbrev Dw(w:World)(v:Value)(w':World)(a:Value)(l:List UInt8):Prop:=bK 5 1 w v w' a l.length (l.map bN)
theorem yf(s:ByteArray):Lib.strCells s=(eV s).map bN:=rfl
theorem jg(l:List UInt8):∀u∈l.map bN,u.oneCell'=true:=by
 intro u hu;obtain⟨b,_,rfl⟩:=List.mem_map.1 hu;rfl
theorem Ch(n:Nat):bN (iQ n)= .int .u8 ((n%256:Nat):Int):=by
 unfold bN iQ;rw[UInt8.toNat_ofNat']
def nS(s:ByteArray):Value:= .string s
def ej(tag:UInt8)(a:List ByteArray)(k:Nat):List UInt8:=tag::iQ a.length::(a.take k).flatMap fun p=>ey p.size++eV p
theorem tG(tag:UInt8)(a:List ByteArray)(k:Nat)(p:ByteArray)(h:a[k]? =some p):ej tag a (k+1)=ej tag a k++ey p.size++eV p:=by
 unfold ej;rw[List.take_add_one,h];simp[List.flatMap_append]
theorem vi(tag:UInt8)(a:List ByteArray)(k:Nat)(h:a.length≤k):ej tag a k=iK tag (a.map eV):=by
 unfold ej iK;rw[List.take_of_length_le h,List.length_map];congr 2;rw[List.flatMap_map];congr 1
def Joined(w:World)(s:ByteArray)(e:Ending)(w':World):Prop:=e= .returned (.tuple #[.string s, .int .i64 0])∧Fr ag w w'
theorem Es(n:Nat)(h:n<4294967296):[Value.int .u8 ((n:Int)/16777216), .int .u8 ((n:Int)/65536%256), .int .u8 ((n:Int)/256%256), .int .u8 ((n:Int)%256)]=(ey n).map bN:=by
 unfold ey;simp only[List.map_cons,List.map_nil,Ch];rw[show((n/16777216%256:Nat):Int)=(n:Int)/16777216 by omega,show((n/65536%256:Nat):Int)=(n:Int)/65536%256 by omega,show((n/256%256:Nat):Int)=(n:Int)/256%256 by omega,show((n%256:Nat):Int)=(n:Int)%256 by omega]
end Go.Proofs.YtphjagkehiklkaaGreatDoor
namespace Go.Proofs.YtphjagkehiklkaaGreatDoor
open Go.RowKit
theorem DH(tag:UInt8)(a:List ByteArray)(k:Nat)(p:ByteArray)(h:a[k]? =some p):(ej tag a (k+1)).length=(ej tag a k).length+(4+p.size):=by
 rw[tG tag a k p h,aS,aS,dQ];have:(ey p.size).length=4:=rfl;omega
theorem Hf(tag:UInt8)(a:List ByteArray)(A:Option Addr)(n c:Nat)(S:Nat→Prop)(w:World)(R:Rd w S 1 A n (a.map nS))(ar:n≤255)(ac:∀k,(ej tag a k).length≤1099511627776)(ab:∀p∈a,p.size<4294967296):
  Calls Tryz.prog 125 #[bN tag, .slice A n c] w (Joined w ⟨(iK tag (a.map eV)).toArray⟩):=by
 obtain⟨i0,M,g,j,l⟩:=info_parts IF;have aa:=af R;have z:Hid (a.length=n):=by have:=R.1;simpa[Hid]using this
 have I:=af ac;have ah:=af ab;have ai:Hid (iK tag (a.map eV)=ej tag a n):=(vi tag a n (by rw[z.out];exact Nat.le_refl _)).symm;generalize C:(⟨(iK tag (a.map eV)).toArray⟩:ByteArray)=RS at*;have O:=af C;clear C;clear R ac ab;unfold bN;have aq:decide ((255:Int)<(n:Int))=false:=cD (by omega);go_enter Tryz.func125,Tryz.ntmps125;go_wp2;go_loopw[18,6](fun i sz wr=>∃k:Nat,k≤n∧i= .int .i64 k∧sz= .int .i64 ((ej tag a k).length:Nat)∧wr=w)(fun i _ _=>n-(intOf i).toNat);case atStart=>exact⟨0,by omega,rfl,rfl,rfl⟩
 case round=>
  obtain⟨k,s,rfl,rfl,rfl⟩:=hrel;by_cases f:k<n
  ·obtain⟨am,u,rfl,_,hu,b⟩:=aa.out.at_ f;obtain⟨p,t,rfl⟩:∃p,a[k]? =some p∧u=nS p:=by
    rw[List.getElem?_map]at hu;cases h:a[k]? with
    |none=>rw[h]at hu;cases hu
    |some p=>rw[h]at hu;exact⟨p,rfl,(Option.some.inj hu).symm⟩
   have B:=af (DH tag a k p t);have J:=I.out (k+1);rw[B.out]at J;unfold nS at b;clear hu t;have V:(k:Int)<(n:Int):=by omega
   generalize(ej tag a k).length=L at*;go_wp2;go_roundw;case rel=>exact⟨k+1,by omega,by go_num,by rw[B.out];go_num,by first|rfl|trivial⟩
   case measure=>simp[intOf];omega
  ·have D:decide ((k:Int)<(n:Int))=false:=cD (by omega);have E:decide (k<n)=false:=cD (by omega);have J:=I.out k;obtain⟨Z,ad⟩:∃Z,Z=(ej tag a k).length:=⟨_,rfl⟩;rw[←ad]at J⊢;clear ad s f;go_wp2_with(at_make;refine wpList_make_own _ rfl _ _ 61 rfl 0 5 i0 (.int .u8 0) 1 Tryz.underlying61 M g j _ _ _ Z rfl rfl ?zC ?zA ?zB (Nat.zero_le _) ?_);case zC=>rfl
   case zA=>rw[l];omega
   case zB=>unfold maxLen;omega
   intro w1 o G;have X:Hid (Fr ag wr w1):=(Fr.grown G).mono (fun k _ s=>by cases s);have H1:=af o;clear o G;go_wp2_with(at_builtin;refine cP _ rfl _ _ 61 rfl 5 i0 _ 1 1 Tryz.underlying61 M g j l rfl (by omega) _ _ _ rfl H1.out 2 _ _ rfl rfl rfl ?zD ?zE (by omega) ?_);case zD=>simp[Value.oneCell']
   case zE=>omega
   intro v2 w2 d;have Y:Hid (Dw wr (.slice none 0 0) w2 v2 (ej tag a 0)):=by
    have e:(ej tag a 0).map bN=[Value.int .u8 (tag.toNat:Int), .int .u8 (n:Int)]:=by
     show[bN tag,bN (iQ a.length)]=_;rw[Ch,z.out,Nat.mod_eq_of_lt (by omega)];rfl
    have h:=bK.fresh X.out (fun k s=>by simp[Value.ownBlock]at s;omega) d;simp only[Hid,Dw];rw[e];simpa[ej]using h
   clear d H1 X;obtain⟨w,hw⟩:∃x,x=wr:=⟨_,rfl⟩;subst hw;clear D E J;go_wp2;go_loopw[9,39](fun v i wr=>∃k:Nat,k≤n∧i= .int .i64 k∧Dw w (.slice none 0 0) wr v (ej tag a k))(fun _ i _=>n-(intOf i).toNat);case atStart=>exact⟨0,by omega,rfl,Y.out⟩
   case round=>
    obtain⟨k,s,rfl,U⟩:=hrel;have q:=af U;obtain⟨N,n1,zA,rfl,Q,_⟩:=aG U.own;clear U Y;by_cases f:k<n
    ·obtain⟨am,u,rfl,_,hu,r⟩:=aa.out.at_ f;obtain⟨p,t,rfl⟩:∃p,a[k]? =some p∧u=nS p:=by
      rw[List.getElem?_map]at hu;cases h:a[k]? with
      |none=>rw[h]at hu;cases hu
      |some p=>rw[h]at hu;exact⟨p,rfl,(Option.some.inj hu).symm⟩
     have B:=af (tG tag a k p t);have W:p.size<4294967296:=ah.out p (List.mem_of_getElem? t);have aj:=af (I.out k);have m:Hid ((ej tag a k).length+4+p.size≤1099511627776):=by
      have h:=I.out (k+1);rw[B.out,aS,aS,dQ]at h;simp only[Hid];have:(ey p.size).length=4:=rfl;omega
     unfold nS at r;have b:=q.out.ao.ak r (fun x=>x);clear hu t;have V:(k:Int)<(n:Int):=by omega
     go_wp2_with(at_builtin;refine cP _ rfl _ _ 61 rfl 5 i0 _ 1 1 Tryz.underlying61 M g j l rfl (by omega) _ _ _ rfl q.out.own 4 _ _ rfl rfl rfl ?f1 ?f2 (by omega) ?_);case f1=>simp[Value.oneCell']
     case f2=>have:=m.out;omega
     intro v2 w2 d;have y:Hid (Dw w (.slice none 0 0) w2 v2 (ej tag a k++ey p.size)):=by
      have h:=q.out.trans d;rw[Es p.size W]at h;simpa[Hid,Dw,ey]using h
     obtain⟨an,au,zB,rfl,al,_⟩:=aG y.out.own;have K:=y.out.ao.ak r (fun x=>x);clear d b q;go_wp2_with(at_builtin;refine mE _ rfl _ _ 61 9 rfl 5 i0 Tryz.underlying61 Tryz.underlying9 M g j l _ _ _ rfl y.out.own p rfl ?f3 ?_);case f3=>
      have:=m.out;have ap:(ey p.size).length=4:=rfl;rw[aS];omega
     intro v3 w3 F;have ae:Hid (Dw w (.slice none 0 0) w3 v3 (ej tag a (k+1))):=by
      have h:=y.out.trans F;rw[yf]at h;simp only[Hid];rw[B.out];simpa[Dw,dQ,Nat.add_assoc]using h
     clear F y;go_wp2;go_roundw;case rel=>exact⟨k+1,by omega,by go_num,ae.out⟩
     case measure=>simp[intOf];omega
    ·have D:decide ((k:Int)<(n:Int))=false:=cD (by omega);have E:decide (k<n)=false:=cD (by omega);rw[show k=n by omega]at q;have H:Rd wr (oe (.slice N n1 zA)) 1 N n1 ((ej tag a n).map bN):=by
      have h:=q.out.own;have e:n1=(ej tag a n).length:=by have:=Q.out;rw[show k=n by omega]at this;exact this
      rw[←e]at h;exact Rd.gR h
     have T:=xy (P:=Tryz.prog) wr 61 9 5 Tryz.underlying61 Tryz.underlying5 Tryz.underlying9 _ N n1 zA _ H;rw[←ai.out,O.out]at T;clear H;go_wp2;go_ret2;exact⟨rfl,q.out.ao⟩
theorem uS.alloc{W w:World}{v:Value}{l:List UInt8}(h:uS W w v l)(o:Obj):uS W (w.alloc o) v l:=by
 obtain⟨k,g,cap,rfl,a,d,f,c,i,n,m⟩:=h;have b:(w.alloc o).heap[g]? =w.heap[g]? :=Below.heap_alloc w o g d;refine⟨k.alloc _,g,cap,rfl,a,by simp;omega,f,c,fun j e=>?_,fun j e=>?_,fun j u hu=>?_⟩;·have:=i j e;simp only[World.cell?]at this⊢;rw[b];exact this
 ·have:=n j e;simp only[World.frozen?]at this⊢;rw[b];exact this
 ·have:=m j u hu;simp only[World.cell?]at this⊢;rw[b];exact this
theorem jv(n:Nat):bN (iQ n)= .int .u8 ((n%256:Nat):Int):=by
 unfold bN iQ;rw[UInt8.toNat_ofNat']
end Go.Proofs.YtphjagkehiklkaaGreatDoor
namespace Go.Proofs
open Go.Shelf
def Tryz.zR:Go.Shelf.Ren:=⟨fun|125=>150|128=>172|129=>173|n=>n,fun|46=>205|3=>3|51=>140|53=>187|4=>4|5=>5|9=>9|n=>n,fun|n=>n⟩
theorem Tryz.Kv:Go.Proofs.Lays.n125 Tryz.prog Tryz.zR:={
 mixed:=by kernel_rfl
 f125:=Tryz.func150.trans (congrArg some (by kernel_rfl))
 f128:=Tryz.func172.trans (congrArg some (by kernel_rfl))
 f129:=Tryz.func173.trans (congrArg some (by kernel_rfl))
 t3:=Tryz.underlying3
 a3:=Tryz.isAgg3
 z3:=Tryz.sizeOf3
 v3:=Tryz.zeroValue3
 t4:=Tryz.underlying4
 a4:=Tryz.isAgg4
 z4:=Tryz.sizeOf4
 v4:=Tryz.zeroValue4
 t5:=Tryz.underlying5
 a5:=Tryz.isAgg5
 z5:=Tryz.sizeOf5
 v5:=Tryz.zeroValue5
 t9:=Tryz.underlying9
 a9:=Tryz.isAgg9
 z9:=Tryz.sizeOf9
 v9:=Tryz.zeroValue9
 t46:=Tryz.underlying205
 a46:=Tryz.isAgg205
 z46:=Tryz.sizeOf205
 v46:=Tryz.zeroValue205
 t51:=Tryz.underlying140
 a51:=Tryz.isAgg140
 z51:=Tryz.sizeOf140
 v51:=Tryz.zeroValue140
 t53:=Tryz.underlying187
 a53:=Tryz.isAgg187
 z53:=Tryz.sizeOf187
 v53:=Tryz.zeroValue187}
theorem Tryz.bits_Len(x:Int)(w:World)(a:0≤x)(b:x≤18446744073709551615):
  Calls Tryz.prog 150 #[.int .u64 x] w fun e w'=>e= .returned (.int .i64 (Lib.bitLen x.toNat))∧w'=w:=Any.bits_Len Tryz.Kv x w a b
end Go.Proofs
