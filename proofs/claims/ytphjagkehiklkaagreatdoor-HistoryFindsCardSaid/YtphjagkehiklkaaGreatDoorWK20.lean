/- Texts. -/
import Derived.Test.YtphjagkehiklkaaGreatDoorWK19
set_option linter.unusedVariables false
set_option linter.unusedSimpArgs false
set_option maxRecDepth 100000
set_option maxHeartbeats 4000000
namespace Go.Proofs.YtphjagkehiklkaaGreatDoor
open Go.RowKit Go.Shelf
def Ty(w:World)(k:Nat)(t:TypeId):Prop:=∃cs,w.heap[k]? =some (.cells cs t (0,0))
theorem aq.ty{w:World}{g:Nat}{t:TypeId}{cs:Array Value}(h:aq w g t cs):Ty w g t:=⟨cs,h⟩
theorem Ty.one{w:World}{k:Nat}{t b:TypeId}(h:Ty w k t)(a:Ty w k b):t=b:=by
 obtain⟨cs,h⟩:=h;obtain⟨cs',a⟩:=a;rw[h]at a;injection a with a;injection a with _ c
theorem iZ{w:World}{base:Nat}{e:TypeId}{size n:Nat}{v:Value}{xs:List Value}(h:w.ownsRow base e size v n xs){k:Nat}(a:v.ownBlock=some k):Ty w k e:=by
 rcases h.2 with⟨rfl,_⟩|⟨b,cap,cur,rfl,_,c,_⟩;·simp[Value.ownBlock]at a
 ·have:b=k:=by simpa[Value.ownBlock]using a
  subst this;exact⟨cur,c⟩
def fJ(w:World)(T:Nat→Prop):Prop:=∀k,T k→¬Ty w k 177∧¬Ty w k 174∧¬Ty w k 119
theorem fJ.nothing(w:World):fJ w ag:=fun _ h=>h.elim
theorem fJ.of{w:World}{T:Nat→Prop}(h:∀k,T k→∃t,Ty w k t∧t≠177∧t≠174∧t≠119):fJ w T:=fun k e=>by
 obtain⟨t,a,b,c,d⟩:=h k e;exact⟨fun x=>b (a.one x),fun x=>c (a.one x),fun x=>d (a.one x)⟩
theorem fJ.new{w w':World}{T:Nat→Prop}(f:Fr ag w w')(h:∀k,T k→k<w.heap.size)(hF:fJ w T):fJ w' T:=fun k a=>by
 have e:=f.block k (h k a) (fun x=>x);obtain⟨b,c,d⟩:=hF k a;exact⟨fun⟨cs,x⟩=>b ⟨cs,by rw[←e];exact x⟩,fun⟨cs,x⟩=>c ⟨cs,by rw[←e];exact x⟩,fun⟨cs,x⟩=>d ⟨cs,by rw[←e];exact x⟩⟩
theorem cE.cN{w w':World}{T:Nat→Prop}(c:Fr T w w')(b:fJ w T):∀{a:Option Addr}{t:Tr},cE w a t→cE w' a t
 |_, .leaf,h=>h
 |_, .node _ _ _ _,⟨k,i,ra,e,f,g,d⟩=>⟨k,i,ra,e,f.cN c b,g.cN c b,d.fr c (fun x=>(b k x).1 d.ty)⟩
theorem ft.cN{w w':World}{T:Nat→Prop}{s:Nat}{L:List Ent}(h:ft w s L)(c:Fr T w w')(b:fJ w T):ft w' s L:=by
 obtain⟨t,⟨a,d,f⟩,e⟩:=h;exact⟨t,⟨a,d.fr c (fun x=>(b s x).2.1 d.ty),f.cN c b⟩,e⟩
def dO(w:World)(v:Value)(l:List CV):Prop:=w.ownsRow 0 119 7 v l.length (l.flatMap CV.cells)
theorem dO.cN{w w':World}{T:Nat→Prop}{v:Value}{l:List CV}(h:dO w v l)(b:Fr T w w')(a:fJ w T):dO w' v l:=
 aQ h b (fun k c d=>(a k d).2.2 (iZ h c))
theorem dO.ar{w w':World}{v:Value}{l:List CV}(h:dO w v l)(a:Fr ag w w'):dO w' v l:=h.cN a (fJ.nothing w)
theorem dO.nil(w:World):dO w (.slice none 0 0) []:=⟨rfl, .inl ⟨rfl,rfl⟩⟩
theorem dO.cl{w:World}{v:Value}{l:List CV}(h:dO w v l):∃A n c,v= .slice A n c∧n=l.length∧n≤c∧CL w (fun _=>True) A n l:=by
 obtain⟨A,n,c,rfl,a,d⟩:=aU h;refine⟨A,n,c,rfl,a.out,?_,?_⟩
 ·rcases h.2 with⟨e,_⟩|⟨g,cap,cur,e,_,_,b,_⟩;·cases e;exact Nat.le_refl _
  ·cases e;exact b
 ·have e:=a.out;subst e;exact⟨(Rd.ib h).any,rfl⟩
def eN.cells(k:eN):List Value:=[.int .i64 k.tick, .int .i64 k.cls, .int .i64 k.num, .string k.fA]
def df(w:World)(cs:List Value)(a:ActV):Prop:=∃b c,cs=a.key.cells++[b,c]∧dO w b a.reads∧dO w c a.writes
theorem df.cN{w w':World}{T:Nat→Prop}{cs:List Value}{a:ActV}(h:df w cs a)(c:Fr T w w')(b:fJ w T):df w' cs a:=by
 obtain⟨g,i,e,d,f⟩:=h;exact⟨g,i,e,d.cN c b,f.cN c b⟩
theorem df.ar{w w':World}{cs:List Value}{a:ActV}(h:df w cs a)(b:Fr ag w w'):df w' cs a:=h.cN b (fJ.nothing w)
theorem df.len{w:World}{cs:List Value}{a:ActV}(h:df w cs a):cs.length=6:=by
 obtain⟨b,c,rfl,_⟩:=h;rfl
def eB(w:World):List (List Value)→List ActV→Prop
 |[],[]=>True
 |c::cs,a::l=>df w c a∧eB w cs l
 |_,_=>False
theorem eB.cN{w w':World}{T:Nat→Prop}(b:Fr T w w')(a:fJ w T):∀{cs:List (List Value)}{l:List ActV},eB w cs l→eB w' cs l
 |[],[],_=>trivial
 |_::_,_::_,h=>⟨h.1.cN b a,eB.cN b a h.2⟩
 |[],_::_,h=>h.elim
 |_::_,[],h=>h.elim
theorem eB.snoc{w:World}:∀{cs:List (List Value)}{l:List ActV}{c:List Value}{a:ActV},eB w cs l→df w c a→eB w (cs++[c]) (l++[a])
 |[],[],_,_,_,h=>⟨h,trivial⟩
 |_::_,_::_,_,_,h,k=>⟨h.1,eB.snoc h.2 k⟩
 |[],_::_,_,_,h,_=>h.elim
 |_::_,[],_,_,h,_=>h.elim
theorem eB.len{w:World}:∀{cs:List (List Value)}{l:List ActV},eB w cs l→cs.length=l.length
 |[],[],_=>rfl
 |_::_,_::_,h=>by simp[eB.len h.2]
 |[],_::_,h=>h.elim
 |_::_,[],h=>h.elim
theorem eB.at_{w:World}:∀{cs:List (List Value)}{l:List ActV}{k:Nat},eB w cs l→k<l.length→∃c a,cs[k]? =some c∧l[k]? =some a∧df w c a∧∀j x,c[j]? =some x→cs.flatten[k*6+j]? =some x
 |c::cs,a::l,0,h,_=>⟨c,a,rfl,rfl,h.1,fun j x b=>by
   rw[List.flatten_cons,Nat.zero_mul,Nat.zero_add,List.getElem?_append_left (List.getElem?_eq_some_iff.1 b).1];exact b⟩
 |c::cs,a::l,k+1,h,d=>by
  obtain⟨f,e,g,i,m,n⟩:=eB.at_ (k:=k) h.2 (by simpa using d);refine⟨f,e,by simpa using g,by simpa using i,m,fun j x b=>?_⟩;rw[List.flatten_cons,List.getElem?_append_right (by rw[h.1.len];omega),h.1.len,show(k+1)*6+j-6=k*6+j by omega];exact n j x b
 |[],_::_,_,h,_=>h.elim
 |_::_,[],_,h,_=>h.elim
 |[],[],_,_,d=>absurd d (by simp)
theorem eB.take{w:World}:∀{cs:List (List Value)}{l:List ActV}(k:Nat),eB w cs l→eB w (cs.take k) (l.take k)
 |[],[],_,_=>by simp[eB]
 |_::_,_::_,0,_=>by simp[eB]
 |_::_,_::_,k+1,h=>⟨h.1,eB.take k h.2⟩
 |[],_::_,_,h=>h.elim
 |_::_,[],_,h=>h.elim
def ko(w:World)(v:Value)(l:List ActV):Prop:=∃cs,w.ownsRow 0 46 6 v l.length cs.flatten∧eB w cs l
theorem ko.cN{w w':World}{T:Nat→Prop}{v:Value}{l:List ActV}(h:ko w v l)(a:Fr T w w')(d:fJ w T)(e:∀k,v.ownBlock=some k→¬T k):ko w' v l:=by
 obtain⟨cs,b,c⟩:=h;exact⟨cs,aQ b a e,c.cN a d⟩
theorem ko.ar{w w':World}{v:Value}{l:List ActV}(h:ko w v l)(a:Fr ag w w'):ko w' v l:=h.cN a (fJ.nothing w) (fun _ _ x=>x)
theorem ko.nil(w:World):ko w (.slice none 0 0) []:=⟨[],⟨rfl, .inl ⟨rfl,rfl⟩⟩,trivial⟩
theorem fP:(Tryz.prog.info? 43).map (·.size)=some 4:=by kernel_rfl
theorem bZ:(Tryz.prog.info? 46).map (·.size)=some 6:=by kernel_rfl
def sg(w:World)(k:eN)(e:Ending)(w':World):Prop:=∃c:Int,e= .returned (.int .i64 c)∧(c==0)=dM k∧Fr ag w w'
theorem vB(k:eN)(w:World)(v:k.fA.size≤1099511627776):
  Calls Tryz.prog 111 #[.agg k.cells.toArray] w (sg w k):=by
 obtain⟨t,c,n,s⟩:=k;simp only at v;have CV:Hid (∀w',Calls Tryz.prog 151 #[.string s] w' (aJ w' (.bool (dc s)))):=fun w'=>nf s w' v;obtain⟨va,d⟩:∃va,dc s=va:=⟨_,rfl⟩;rw[d]at CV;obtain⟨em,p⟩:∃em,s.toList.isEmpty=em:=⟨_,rfl⟩;have f:Hid (dM ⟨t,c,n,s⟩=(decide (0≤t)&&decide (t≤1073741824)&&(decide (0≤c)&&decide (c≤2))&&(decide (0≤n)&&decide (n≤999999)&&!(c==0&&n==0))&&(if c=0 then em else(!em&&va&&!(c==2&&n !=0))))):=by
  rw[←d,←p];rfl
 have o:s.toList.isEmpty=em:=p;clear p;clear d v;unfold eN.cells;go_enter Tryz.func111,Tryz.ntmps111;go_wp2_with(refine aA rfl 43 (.tmp 0) rfl _ rfl ?_);intro w1 n1;have A:=af n1.fr;have q:=af n1.aH;clear n1;generalize w.heap.size=g at*;have I:w1.cell? ⟨g,0,none⟩=some (.int .i64 t):=q.out.cell 0;have F:w1.cell? ⟨g,1,none⟩=some (.int .i64 c):=q.out.cell 1;have G:w1.cell? ⟨g,2,none⟩=some (.int .i64 n):=q.out.cell 2;have c3:w1.cell? ⟨g,3,none⟩=some (.string s):=q.out.cell 3;clear q;have done:∀k:Int,(k==0)=dM ⟨t,c,n,s⟩→sg w ⟨t,c,n,s⟩ (.returned (.int .i64 k)) w1:=fun k H=>⟨k,rfl,H,A.out⟩;have j:=af done;clear done;by_cases h:t<0
 ·have t1:decide (t<0)=true:=decide_eq_true h;have Z:Hid (((2:Int)==0)=dM ⟨t,c,n,s⟩):=by rw[Hid,f.out,ct (show¬0≤t by omega)];rfl
  clear h f;go_wp2;go_ret;exact j.out _ Z.out
 have D:=af h;have t1:decide (t<0)=false:=ct (by omega);clear h;by_cases h:1073741824<t
 ·have t2:decide (1073741824<t)=true:=decide_eq_true h;have Z:Hid (((2:Int)==0)=dM ⟨t,c,n,s⟩):=by rw[Hid,f.out,ct (show¬t≤1073741824 by omega)];simp
  clear h f;go_wp2;go_ret;exact j.out _ Z.out
 have E:=af h;have t2:decide (1073741824<t)=false:=ct (by omega);clear h;by_cases h:c<0
 ·have t3:decide (c<0)=true:=decide_eq_true h;have Z:Hid (((11:Int)==0)=dM ⟨t,c,n,s⟩):=by rw[Hid,f.out,ct (show¬0≤c by omega)];simp
  clear h f;go_wp2;go_ret;exact j.out _ Z.out
 have y:=af h;have t3:decide (c<0)=false:=ct (by omega);clear h;by_cases h:2<c
 ·have t4:decide (2<c)=true:=decide_eq_true h;have Z:Hid (((11:Int)==0)=dM ⟨t,c,n,s⟩):=by rw[Hid,f.out,ct (show¬c≤2 by omega)];simp
  clear h f;go_wp2;go_ret;exact j.out _ Z.out
 have z:=af h;have t4:decide (2<c)=false:=ct (by omega);clear h;by_cases h:n<0
 ·have t5:decide (n<0)=true:=decide_eq_true h;have Z:Hid (((2:Int)==0)=dM ⟨t,c,n,s⟩):=by rw[Hid,f.out,ct (show¬0≤n by omega)];simp
  clear h f;go_wp2;go_ret;exact j.out _ Z.out
 have B:=af h;have t5:decide (n<0)=false:=ct (by omega);clear h;by_cases h:999999<n
 ·have t6:decide (999999<n)=true:=decide_eq_true h;have Z:Hid (((2:Int)==0)=dM ⟨t,c,n,s⟩):=by rw[Hid,f.out,ct (show¬n≤999999 by omega)];simp
  clear h f;go_wp2;go_ret;exact j.out _ Z.out
 have C:=af h;have t6:decide (999999<n)=false:=ct (by omega);clear h;have b:Hid (dM ⟨t,c,n,s⟩=(!(c==0&&n==0)&&(if c=0 then em else(!em&&va&&!(c==2&&n !=0))))):=by
  rw[Hid,f.out,dh (show 0≤t from Int.not_lt.1 D.out),dh (show t≤1073741824 from Int.not_lt.1 E.out),dh (show 0≤c from Int.not_lt.1 y.out),dh (show c≤2 from Int.not_lt.1 z.out),dh (show 0≤n from Int.not_lt.1 B.out),dh (show n≤999999 from Int.not_lt.1 C.out)];simp
 clear f D E y z B C;by_cases h:c=0
 ·have t7:(c==0)=true:=by rw[beq_iff_eq];exact h
  have r:=af h;clear h;by_cases h:n=0
  ·have t8:(n==0)=true:=by rw[beq_iff_eq];exact h
   have Z:Hid (((2:Int)==0)=dM ⟨t,c,n,s⟩):=by rw[Hid,b.out,t7,t8];rfl
   clear h b r;go_wp2;go_ret;exact j.out _ Z.out
  ·have t8:(n==0)=false:=by rw[beq_eq_false_iff_ne];exact h
   cases a:em
   ·have Z:Hid (((3:Int)==0)=dM ⟨t,c,n,s⟩):=by rw[Hid,b.out,t7,t8,if_pos r.out,a];rfl
    rw[a]at o;clear h b r a;go_wp2;go_ret;exact j.out _ Z.out
   ·have Z:Hid (((0:Int)==0)=dM ⟨t,c,n,s⟩):=by rw[Hid,b.out,t7,t8,if_pos r.out,a];rfl
    rw[a]at o;clear h b r a;go_wp2;go_ret;exact j.out _ Z.out
 ·have t7:(c==0)=false:=by rw[beq_eq_false_iff_ne];exact h
  have l:Hid (dM ⟨t,c,n,s⟩=(!em&&va&&!(c==2&&n !=0))):=by rw[Hid,b.out,t7,if_neg h];simp
  clear h b;cases a:em
  ·rw[a]at o;have m:Hid (dM ⟨t,c,n,s⟩=(va&&!(c==2&&n !=0))):=by rw[Hid,l.out,a];rfl
   clear l a;go_wp2_with fail;refine(CV.out _).mono ?_;rintro e w2⟨rfl,f2⟩;have F:w2.cell? ⟨g,1,none⟩=some (.int .i64 c):=f2.an F (fun x=>x);have G:w2.cell? ⟨g,2,none⟩=some (.int .i64 n):=f2.an G (fun x=>x);have u:=af (A.out.trans f2);clear f2 j CV;cases d:va
   ·have Z:Hid (((12:Int)==0)=dM ⟨t,c,n,s⟩):=by rw[Hid,m.out,d];rfl
    clear m d;go_wp2;go_ret;exact⟨_,rfl,Z.out,u.out⟩
   ·have i:Hid (dM ⟨t,c,n,s⟩=!(c==2&&n !=0)):=by rw[Hid,m.out,d];rfl
    clear m d;cases t8:c==2
    ·have Z:Hid (((0:Int)==0)=dM ⟨t,c,n,s⟩):=by rw[Hid,i.out,t8];rfl
     clear i;go_wp2;go_ret;exact⟨_,rfl,Z.out,u.out⟩
    ·cases t9:n !=0
     ·have Z:Hid (((0:Int)==0)=dM ⟨t,c,n,s⟩):=by rw[Hid,i.out,t8,t9];rfl
      clear i;go_wp2;go_ret;exact⟨_,rfl,Z.out,u.out⟩
     ·have Z:Hid (((3:Int)==0)=dM ⟨t,c,n,s⟩):=by rw[Hid,i.out,t8,t9];rfl
      clear i;go_wp2;go_ret;exact⟨_,rfl,Z.out,u.out⟩
  ·rw[a]at o;have Z:Hid (((12:Int)==0)=dM ⟨t,c,n,s⟩):=by rw[Hid,l.out,a];rfl
   clear l a;go_wp2;go_ret;exact j.out _ Z.out
theorem yU(x y z t:Int):∀(k:Nat)(v:Int),([x,y,z,t])[k]? =some v→v≠0→(∀(j:Nat)(u:Int),j<k→([x,y,z,t])[j]? =some u→u=0)→aV x (aV y (aV z t))=v
 |0,v,a,c,_=>by
  obtain rfl:x=v:=by simpa using a
  simp[aV,c]
 |1,v,a,c,b=>by
  obtain rfl:y=v:=by simpa using a
  have:=b 0 x (by omega) rfl;simp[aV,this,c]
 |2,v,a,c,b=>by
  obtain rfl:z=v:=by simpa using a
  have d:=b 0 x (by omega) rfl;have e:=b 1 y (by omega) rfl;simp[aV,d,e,c]
 |3,v,a,_,b=>by
  obtain rfl:t=v:=by simpa using a
  have d:=b 0 x (by omega) rfl;have e:=b 1 y (by omega) rfl;have f:=b 2 z (by omega) rfl;simp[aV,d,e,f]
 |k+4,v,a,_,_=>by simp at a
theorem xH(x y z t:Int)(a:∀(j:Nat)(u:Int),j<4→([x,y,z,t])[j]? =some u→u=0):aV x (aV y (aV z t))=0:=by
 have b:=a 0 x (by omega) rfl;have c:=a 1 y (by omega) rfl;have d:=a 2 z (by omega) rfl;have e:=a 3 t (by omega) rfl;simp[aV,b,c,d,e]
theorem zf(x y z t:Int)(g:Nat)(w:World)(h:aq w g 3 #[.int .i64 x, .int .i64 y, .int .i64 z, .int .i64 t]):Calls Tryz.prog 132 #[.slice (some ⟨g,0,none⟩) 4 4] w (aY w (.int .i64 (aV x (aV y (aV z t))))):=by
 have HB:=af h;have n:Hid (∀k:Nat,k<4→∃v:Int,([x,y,z,t])[k]? =some v∧w.cell? ⟨g,k,none⟩=some (.int .i64 v)):=fun k f=>by
  match k,f with
  |0,_=>exact⟨x,rfl,h.cell 0⟩
  |1,_=>exact⟨y,rfl,h.cell 1⟩
  |2,_=>exact⟨z,rfl,h.cell 2⟩
  |3,_=>exact⟨t,rfl,h.cell 3⟩
 clear h;have o:Hid (∀(k:Nat)(v:Int),([x,y,z,t])[k]? =some v→v≠0→(∀(j:Nat)(u:Int),j<k→([x,y,z,t])[j]? =some u→u=0)→aV x (aV y (aV z t))=v):=fun k v=>yU x y z t k v;have p:Hid ((∀(j:Nat)(u:Int),j<4→([x,y,z,t])[j]? =some u→u=0)→aV x (aV y (aV z t))=0):=xH x y z t;generalize aV x (aV y (aV z t))=A at*;go_enter Tryz.func132,Tryz.ntmps132;go_wp2;go_loopw[8](fun i wr=>∃k:Nat,k≤4∧(∀j u,j<k→([x,y,z,t])[j]? =some u→u=0)∧i= .int .i64 k∧w=wr)(fun i _=>4-(intOf i).toNat);case atStart=>exact⟨0,by omega,fun j u h=>by omega,rfl,rfl⟩
 case round=>
  obtain⟨k,f,m,rfl,rfl⟩:=hrel;have b:=af m;clear m;by_cases c:k<4
  ·have q:(k:Int)<4:=by omega
   obtain⟨v,l,r⟩:=n.out k c;have d:=af l;clear l;by_cases a:v=0
   ·subst a;go_wp2;go_roundw
    case rel=>exact⟨k+1,by omega,fun j u s hu=>by
      by_cases e:j=k;·subst e;have:=d.out;rw[hu]at this;cases this;rfl
      ·exact b.out j u (by omega) hu,by go_num,trivial⟩
    case measure=>simp[intOf];omega
   ·have t1:=sj a;obtain rfl:A=v:=o.out k v d.out a b.out;go_wp2;go_ret;exact⟨rfl,rfl⟩
  ·obtain rfl:k=4:=by omega
   obtain rfl:A=0:=p.out b.out;go_wp2;go_ret;exact⟨rfl,rfl⟩
theorem od(k m:eN)(w:World)(y:k.fA.size≤1099511627776)(hm:m.fA.size≤1099511627776):Calls Tryz.prog 85 #[.agg k.cells.toArray, .agg m.cells.toArray] w (aJ w (.int .i64 (gD k m))):=by
 have C:Hid (∀w,Calls Tryz.prog 133 #[.int .i64 k.tick, .int .i64 m.tick] w (aY w (.int .i64 (dN k.tick m.tick)))):=fun w=>iu _ _ w;have D:Hid (∀w,Calls Tryz.prog 133 #[.int .i64 k.cls, .int .i64 m.cls] w (aY w (.int .i64 (dN k.cls m.cls)))):=fun w=>iu _ _ w;have E:Hid (∀w,Calls Tryz.prog 133 #[.int .i64 k.num, .int .i64 m.num] w (aY w (.int .i64 (dN k.num m.num)))):=fun w=>iu _ _ w;have F:=af (fun w=>kt k.fA m.fA w y hm);have J:Hid (gD k m=aV (dN k.tick m.tick) (aV (dN k.cls m.cls) (aV (dN k.num m.num) (kq k.fA m.fA)))):=rfl;generalize gD k m=P at*;generalize dN k.tick m.tick=o at*;generalize dN k.cls m.cls=p at*;generalize dN k.num m.num=r at*;generalize kq k.fA m.fA=y3 at*;clear y hm;go_enter Tryz.func85,Tryz.ntmps85;go_wp2_with(refine aA rfl 43 (.tmp 0) rfl k.cells.toArray rfl ?_);intro w1 n1;have t:=af n1;clear n1;generalize j:w.heap.size=g at*;have f:Hid (aq w1 g 43 k.cells.toArray):=by have h:=t.out.aH;rw[j]at h;exact h
 clear j;go_wp2_with(refine aA rfl 43 (.tmp 1) rfl m.cells.toArray rfl ?_);intro w2 A;have s:=af A;clear A;generalize l:w1.heap.size=i at*;have d:Hid (aq w2 i 43 m.cells.toArray):=by have h:=s.out.aH;rw[l]at h;exact h
 clear l;have c:=af (f.out.fr s.out.fr (fun x=>x));have G:=af (t.out.fr.trans s.out.fr);clear t s f;go_upto_region 1 with fail;refine jS 20 [.pointer (some ⟨g,0,none⟩), .int .i64 k.tick, .pointer (some ⟨i,0,none⟩), .int .i64 m.tick, .int .i64 o, .pointer (some ⟨g,1,none⟩), .int .i64 k.cls, .pointer (some ⟨i,1,none⟩), .int .i64 m.cls, .int .i64 p, .pointer (some ⟨g,2,none⟩), .int .i64 k.num, .pointer (some ⟨i,2,none⟩), .int .i64 m.num, .int .i64 r, .pointer (some ⟨g,3,none⟩), .string k.fA, .pointer (some ⟨i,3,none⟩), .string m.fA, .int .i64 y3] ?zG ?_;case zG=>
  refine⟨?zR,?zH,?zS,?zI,?zJ,?zT,?zK,?zU,?zL,?zM,?zN,?zA,?zO,?zB,?zC,?zP,?zD,?zQ,?zE,?zF,trivial⟩;all_goals intro u w' b a
  all_goals simp only[z1,z2,z3,z4,ay,Act.put,z5,z6,z7,Nat.reduceAdd,Nat.zero_add]
  case zH=>
   simp only[show u 0=_ from a 0];refine aG ?_;have q:_=some (Value.int .i64 k.tick):=(c.out.fr b (fun x=>x)).cell 0;go_simp;exact aM
  case zI=>
   simp only[show u 2=_ from a 2];refine aG ?_;have q:_=some (Value.int .i64 m.tick):=(d.out.fr b (fun x=>x)).cell 0;go_simp;exact aM
  case zJ=>
   simp only[show u 1=_ from a 1,show u 3=_ from a 3];refine aG ?_;go_simp;refine(C.out _).mono ?_;rintro e v⟨rfl,rfl⟩;exact aM
  case zK=>
   simp only[show u 5=_ from a 5];refine aG ?_;have q:_=some (Value.int .i64 k.cls):=(c.out.fr b (fun x=>x)).cell 1;go_simp;exact aM
  case zL=>
   simp only[show u 7=_ from a 7];refine aG ?_;have q:_=some (Value.int .i64 m.cls):=(d.out.fr b (fun x=>x)).cell 1;go_simp;exact aM
  case zM=>
   simp only[show u 6=_ from a 6,show u 8=_ from a 8];refine aG ?_;go_simp;refine(D.out _).mono ?_;rintro e v⟨rfl,rfl⟩;exact aM
  case zA=>
   simp only[show u 10=_ from a 10];refine aG ?_;have q:_=some (Value.int .i64 k.num):=(c.out.fr b (fun x=>x)).cell 2;go_simp;exact aM
  case zB=>
   simp only[show u 12=_ from a 12];refine aG ?_;have q:_=some (Value.int .i64 m.num):=(d.out.fr b (fun x=>x)).cell 2;go_simp;exact aM
  case zC=>
   simp only[show u 11=_ from a 11,show u 13=_ from a 13];refine aG ?_;go_simp;refine(E.out _).mono ?_;rintro e v⟨rfl,rfl⟩;exact aM
  case zD=>
   simp only[show u 15=_ from a 15];refine aG ?_;have q:_=some (Value.string k.fA):=(c.out.fr b (fun x=>x)).cell 3;go_simp;exact aM
  case zE=>
   simp only[show u 17=_ from a 17];refine aG ?_;have q:_=some (Value.string m.fA):=(d.out.fr b (fun x=>x)).cell 3;go_simp;exact aM
  case zF=>
   simp only[show u 16=_ from a 16,show u 18=_ from a 18];refine aG ?_;go_simp;refine(F.out _).mono ?_;rintro e v⟨rfl,f4⟩;exact⟨rfl,f4⟩
  all_goals
   refine aG ?_;go_simp;exact aM
 intro w' b;simp only[z1,z2,z3,z4,ay,Act.put,z5,z6,z7,z8,z9,jx,jy,Nat.reduceAdd,Nat.zero_add];have I:=af (G.out.trans b);clear b;obtain⟨i0,M,z,n,N⟩:=info_parts rI;have K:Hid (¬4*i0.size>2^24):=by simp only[Hid];rw[n];omega
 have L:Hid (¬4*i0.size=0):=by simp only[Hid];rw[n];omega
 go_wp2_with fail;have B:Hid (aq (w'.alloc (.cells #[.int .i64 o, .int .i64 p, .int .i64 r, .int .i64 y3] 3)) w'.heap.size 3 #[.int .i64 o, .int .i64 p, .int .i64 r, .int .i64 y3]):=aq.new _ _ _;have H:=af (I.out.trans ((Fr.refl ag w').alloc (.cells #[.int .i64 o, .int .i64 p, .int .i64 r, .int .i64 y3] 3)));refine(zf o p r y3 _ _ B.out).mono ?_;rintro e O⟨rfl,rfl⟩;go_wp2;go_ret;rw[J.out];exact⟨rfl,H.out⟩
theorem lQ(L:List Ent)(a:ActV)(cs:List Value)(m s:Nat)(w:World)(A:df w cs a)(u:ft w s L)(v:eE w)(r:cW m L)(x:∀c∈a.writes,ed c)(hm:m+a.writes.length≤60000):
  Calls Tryz.prog 86 #[.agg cs.toArray, .pointer (some ⟨s,0,none⟩)] w (mF w L a.writes):=by
 obtain⟨D,E,rfl,_,o⟩:=A;obtain⟨h,B,i,rfl,rfl,_,d⟩:=o.cl;have k:Hid (∀w',Fr ag w w'→Calls Tryz.prog 82 #[.pointer (some ⟨s,0,none⟩), .slice h a.writes.length i] w' (mF w' L a.writes)):=fun w' f=>tk L a.writes _ m h i _ s w' (u.ar f) (v.ar f) r (d.ar f) x hm;generalize a.writes.length=n at*;obtain⟨⟨t,c,C,li⟩,_,ws⟩:=a;simp only[eN.cells,List.cons_append,List.nil_append]at k⊢;clear u v r x hm o d;go_enter Tryz.func86,Tryz.ntmps86;go_wp2_with(refine aA rfl 46 (.tmp 0) rfl _ rfl ?_);intro w1 n1;have l:=af n1.fr;have j:=af n1.aH;clear n1;generalize w.heap.size=g at*;have c5:w1.cell? ⟨g,5,none⟩=some (.slice h n i):=j.out.cell 5;go_wp2_with fail;refine(k.out _ l.out).mono ?_;rintro e w2⟨p,q,rfl,f2,b⟩;have y:=af (l.out.trans f2);have z:=af b;clear f2 b c5 j;go_wp2;go_ret2;exact⟨p,q,rfl,y.out,z.out⟩
theorem Dx(w:World)(a:Option Addr)(l c:Nat):(binOp .eql 44 (.slice a l c) (.slice none 0 0)).run Tryz.prog w= .ok (.bool a.isNone) w:=by
 simp only[binOp];simp[run_equal_slice_nil w 44 119 a l c Tryz.underlying44]
def tJ(w:World)(l:List CV)(e:Ending)(w':World):Prop:=∃v,e= .returned v∧bW 119 7 w (.slice none 0 0) w' v l.length (l.flatMap CV.cells)
theorem tJ.ch{w w':World}{l:List CV}{e:Ending}(h:tJ w l e w'):∃v,e= .returned v∧dO w' v l∧Fr ag w w'∧∀k,v.ownBlock=some k→w.heap.size≤k:=by
 obtain⟨v,rfl,a⟩:=h;exact⟨v,rfl,a.own,a.ar,a.new⟩
theorem qJ(xs:List CV)(n:Nat)(A:Option Addr)(c:Nat)(S:Nat→Prop)(w:World)(a:CL w S A n xs)(r:n≤1099511627776):Calls Tryz.prog 135 #[.slice A n c] w (tJ w xs):=by
 obtain⟨i0,f,m,o,p⟩:=info_parts pc;have t:=af a;have v:=af a.len;have x:Hid (∀u∈xs.flatMap CV.cells,u.oneCell'=true):=by
  intro u hu;obtain⟨d,_,B⟩:=List.mem_flatMap.1 hu;have h:=d.one;rw[Array.all_eq_true_iff_forall_mem]at h;exact h u (by simpa using B)
 cases A with
 |none=>
  have l:n=0:=by
   rcases Nat.eq_zero_or_pos n with h|h;·exact h
   ·obtain⟨g,h,_⟩:=a.rd.2 h;cases h
  subst l;have E:xs=[]:=List.eq_nil_of_length_eq_zero a.len;subst E;have D:∀w:World,(binOp .eql 44 (.slice none 0 c) (.slice none 0 0)).run Tryz.prog w= .ok (.bool true) w:=fun w=>Dx w none 0 c;clear a;go_enter Tryz.func135,Tryz.ntmps135;go_wp2;go_ret;exact⟨_,rfl,bW.start ⟨rfl, .inl ⟨rfl,rfl⟩⟩⟩
 |some g=>
  have D:∀w:World,(binOp .eql 44 (.slice (some g) n c) (.slice none 0 0)).run Tryz.prog w= .ok (.bool false) w:=fun w=>Dx w (some g) n c;have i:=af r;clear a r;go_enter Tryz.func135,Tryz.ntmps135;go_wp2_with(refine sc rfl 44 119 rfl i0 Tryz.underlying44 f ?_);intro w1 s;have j:=af s;clear s;generalize e:w.heap.size=g1 at*;have b:=af e;clear e;have z:Hid (w1.ownsRow 0 119 7 (.slice (some ⟨g1,0,none⟩) 0 0) 0 []):=by rw[←b.out];exact j.out.Hu
  go_wp2_with(refine iE _ rfl _ _ 44 rfl 119 i0 di 7 80 Tryz.underlying44 f m o p rfl (by decide) _ _ _ rfl z.out S (some g) n c (xs.flatMap CV.cells) rfl (t.out.ar j.out.fr).rd x.out (by have:=i.out;omega) (by decide) ?_);intro v2 w2 q;have y:Hid (bW 119 7 w (.slice none 0 0) w2 v2 xs.length (xs.flatMap CV.cells)):=by
   have h:=bW.fresh j.out.fr (fun k C=>by simp only[Value.ownBlock,Option.some.injEq]at C;have:=b.out;omega) q;rw[Hid,v.out];exact h
  clear q;go_wp2;go_ret;exact⟨_,rfl,y.out⟩
def ke(B:Nat)(cs:List Value):Prop:=∀v∈cs,∀k,v.ownBlock=some k→B≤k
theorem ke.mono{B a:Nat}{cs:List Value}(h:ke B cs)(b:a≤B):ke a cs:=fun v d k c=>Nat.le_trans b (h v d k c)
theorem df.xA{w w':World}{T:Nat→Prop}{cs:List Value}{a:ActV}{B:Nat}(h:df w cs a)(f:ke B cs)(e:Fr T w w')(d:∀k,T k→k<B):df w' cs a:=by
 obtain⟨g,i,rfl,j,l⟩:=h;refine⟨g,i,rfl,aQ j e (fun k b c=>?_),aQ l e (fun k b c=>?_)⟩;·have:=d k c;have:=f g (by simp) k b;omega
 ·have:=d k c;have:=f i (by simp) k b;omega
def qu(w:World)(a:ActV)(e:Ending)(w':World):Prop:=∃cs,e= .returned (.agg cs.toArray)∧df w' cs a∧Fr ag w w'∧ke w.heap.size cs
theorem wB(t c n:Int)(s:ByteArray)(A B:Option Addr)(x y z u:Nat):Tryz.prog.built 46 [(0, .agg [Value.int .i64 t, .int .i64 c, .int .i64 n, .string s].toArray),(1, .slice A x y),(2, .slice B z u)]=some ([Value.int .i64 t, .int .i64 c, .int .i64 n, .string s]++[Value.slice A x y, .slice B z u]).toArray:=by kernel_rfl
def fH:Value:= .agg #[.int .i64 0, .int .i64 0, .int .i64 0, .string ByteArray.empty, .slice none 0 0, .slice none 0 0]
theorem oc(w:World):(zeroValue 46).run Tryz.prog w= .ok fH w:=by kernel_rfl
theorem ActV.one{w:World}{cs:List Value}{a:ActV}(h:df w cs a):cs.toArray.all (·.oneCell')=true:=by
 obtain⟨f,g,rfl,b,e⟩:=h;obtain⟨A,n,c,rfl,_⟩:=b.cl;obtain⟨B,m,d,rfl,_⟩:=e.cl;simp[eN.cells,Value.oneCell']
theorem dO.form{w:World}{v:Value}{l:List CV}(h:dO w v l):∃A n c,v= .slice A n c∧dO w (.slice A n c) l:=by
 obtain⟨A,n,c,rfl,_⟩:=h.cl;exact⟨A,n,c,rfl,h⟩
theorem sw(a:ActV)(cs:List Value)(w:World)(a3:df w cs a)(nr:a.reads.length≤1099511627776)(nw:a.writes.length≤1099511627776):
  Calls Tryz.prog 87 #[.agg cs.toArray] w (qu w a):=by
 obtain⟨b,c,rfl,t,C⟩:=a3;obtain⟨I,a5,K,rfl,rfl,_,Y⟩:=t.cl;obtain⟨J,a6,L,rfl,rfl,_,Z⟩:=C.cl;have P:Hid (∀w',Fr ag w w'→Calls Tryz.prog 135 #[.slice I a.reads.length K] w' (tJ w' a.reads)):=fun w' f=>qJ a.reads _ I K _ w' (Y.ar f) nr;have Q:Hid (∀w',Fr ag w w'→Calls Tryz.prog 135 #[.slice J a.writes.length L] w' (tJ w' a.writes)):=fun w' f=>qJ a.writes _ J L _ w' (Z.ar f) nw;have N:Hid (∀(A B:Option Addr)(x y z u:Nat),Tryz.prog.built 46 [(0, .agg a.key.cells.toArray),(1, .slice A x y),(2, .slice B z u)]=some (a.key.cells++[Value.slice A x y, .slice B z u]).toArray):=fun A B x y z u=>wB _ _ _ _ A B x y z u;have s:Hid ((Tryz.prog.info? 43).map (·.size)=some a.key.cells.length):=fP;have o:Hid (a.key.cells.length=4):=rfl;have D:Hid (∀(w':World)(b c:Value),dO w' b a.reads→dO w' c a.writes→Fr ag w w'→(∀k,b.ownBlock=some k→w.heap.size≤k)→(∀k,c.ownBlock=some k→w.heap.size≤k)→qu w a (.returned (.agg (a.key.cells++[b,c]).toArray)) w'):=fun w' b c t C f n1 ah=>⟨_,rfl,⟨b,c,rfl,t,C⟩,f,fun v ae k d=>by
  simp only[eN.cells,List.cons_append,List.nil_append,List.mem_cons,List.not_mem_nil,or_false]at ae;rcases ae with rfl|rfl|rfl|rfl|rfl|rfl;·cases d
  ·cases d
  ·cases d
  ·cases d
  ·exact n1 k d
  ·exact ah k d⟩;have E:Hid (∀b c:Value,(a.key.cells++[b,c]).toArray.size=6):=fun b c=>rfl;have av:Hid (∀b c:Value,b.oneCell'=true→c.oneCell'=true→(a.key.cells++[b,c]).toArray.all (·.oneCell')=true):=fun b c t C=>by simp only[eN.cells,List.cons_append,List.nil_append,List.all_toArray,List.all_cons,List.all_nil,t,C];rfl
 generalize qu w a=PP at*;generalize a.reads.length=aj at*;generalize a.writes.length=al at*;generalize a.reads=R at*;generalize a.writes=aC at*;generalize a.key.cells=V at*;clear t C Y Z nr nw;go_enter Tryz.func87,Tryz.ntmps87;go_wp2_with(refine aA rfl 46 (.tmp 0) rfl (V++[Value.slice I aj K, .slice J al L]).toArray rfl ?_);intro w1 n1;have an:=af n1.fr;have aK:=af n1.aH;clear n1;generalize W:w.heap.size=g1 at*;have S:=af W;clear W;go_wp2_with(refine ak rfl 46 rfl fH oc #[.int .i64 0, .int .i64 0, .int .i64 0, .string ByteArray.empty, .slice none 0 0, .slice none 0 0] rfl ?_);intro w2 ah;have ad:=af ah;clear ah;generalize X:w1.heap.size=g2 at*;have T:=af X;clear X;have aL:Hid (aq w2 g2 46 #[.int .i64 0, .int .i64 0, .int .i64 0, .string ByteArray.empty, .slice none 0 0, .slice none 0 0]):=by have h:=ad.out.aH;rw[T.out]at h;exact h
 have F2:=af (an.out.trans ad.out.fr);have n:=af (aK.out.fr ad.out.fr (fun x=>x));have au:Hid (w.heap.size≤g2):=by have:=an.out.size;have:=T.out;simp only[Hid];omega
 have O:Hid (∀w',Fr ag w2 w'→∀j x,V[j]? =some x→w'.cell? ((⟨g1,0,none⟩:Addr).add j)=some x):=fun w' f j x aS=>by
  rw[Addr.add_mid,Nat.zero_add,(n.out.fr f (fun x=>x)).cell j,bR,List.getElem?_append_left (List.getElem?_eq_some_iff.1 aS).1];exact aS
 have aE:Hid (∀w',Fr ag w2 w'→w'.cell? {block:=g1,off:=4}=some (.slice I aj K)):=fun w' f=>by
  rw[(n.out.fr f (fun x=>x)).cell 4,bR,List.getElem?_append_right (by rw[o.out];omega),o.out];rfl
 have c5:Hid (∀w',Fr ag w2 w'→w'.cell? {block:=g1,off:=5}=some (.slice J al L)):=fun w' f=>by
  rw[(n.out.fr f (fun x=>x)).cell 5,bR,List.getElem?_append_right (by rw[o.out];omega),o.out];rfl
 have aM:Hid (∀w',Fr ag w2 w'→Calls Tryz.prog 135 #[.slice I aj K] w' (tJ w' R)):=fun w' f=>P.out w' (F2.out.trans f);have aN:Hid (∀w',Fr ag w2 w'→Calls Tryz.prog 135 #[.slice J al L] w' (tJ w' aC)):=fun w' f=>Q.out w' (F2.out.trans f);have aV:=N;have U:Hid (w.heap.size≤w2.heap.size):=F2.out.size;clear ad aK n P Q N an;go_upto_region 1 with fail;refine yw 9 [iS (.pointer (some ⟨g1,0,none⟩)),iS (.agg V.toArray),iS (.pointer (some ⟨g1,4,none⟩)),iS (.slice I aj K),⟨fun H M=>dO M H R∧∀k,H.ownBlock=some k→w.heap.size≤k,fun _ _ _ f h=>⟨h.1.ar f,h.2⟩⟩,iS (.pointer (some ⟨g1,5,none⟩)),iS (.slice J al L),⟨fun H M=>dO M H aC∧∀k,H.ownBlock=some k→w.heap.size≤k,fun _ _ _ f h=>⟨h.1.ar f,h.2⟩⟩,⟨fun H M=>∃b c,H= .agg (V++[b,c]).toArray∧dO M b R∧dO M c aC∧(∀k,b.ownBlock=some k→w.heap.size≤k)∧(∀k,c.ownBlock=some k→w.heap.size≤k),fun _ _ _ f h=>(by obtain⟨r,v,e,t,C,a0⟩:=h;exact⟨r,v,e,t.ar f,C.ar f,a0⟩)⟩] ?zA ?_;case zA=>
  refine⟨?zH,?zB,?zI,?zC,?zD,?zJ,?zE,?zF,?zG,trivial⟩;all_goals intro u w' m g
  all_goals simp only[z1,z2,z3,z4,ay,Act.put,z5,z6,z7,Nat.reduceAdd,Nat.zero_add]
  case zB=>
   simp only[show u 0=_ from g 0];refine aG ?_;exact az _ _ rfl ⟨g1,0,none⟩ rfl V _ (fun a4 v ae=>O.out _ m a4 v ae) Tryz.underlying43 rfl s.out ⟨_,rfl,aD,rfl⟩
  case zC=>
   simp only[show u 2=_ from g 2];refine aG ?_;have q:=aE.out _ m;go_simp;exact⟨_,rfl,aD,rfl⟩
  case zD=>
   simp only[show u 3=_ from g 3];refine aG ?_;go_simp;refine(aM.out _ m).mono ?_;rintro e a7 he;obtain⟨v,rfl,aI,f4,aJ⟩:=he.ch;exact⟨_,rfl,f4,aI,fun k d=>by have:=aJ k d;have:=m.size;have:=U.out;omega⟩
  case zE=>
   simp only[show u 5=_ from g 5];refine aG ?_;have q:=c5.out _ m;go_simp;exact⟨_,rfl,aD,rfl⟩
  case zF=>
   simp only[show u 6=_ from g 6];refine aG ?_;go_simp;refine(aN.out _ m).mono ?_;rintro e a7 he;obtain⟨v,rfl,aI,f4,aJ⟩:=he.ch;exact⟨_,rfl,f4,aI,fun k d=>by have:=aJ k d;have:=m.size;have:=U.out;omega⟩
  case zG=>
   have aT:=(g 4).2;obtain⟨ba,n4,aE,aP,a1⟩:=dO.form (g 4).1;rw[aP]at aT;have aU:=(g 7).2;obtain⟨bb,bf,bc,aQ,a2⟩:=dO.form (g 7).1;rw[aQ]at aU;simp only[show u 1=_ from g 1,aP,aQ];refine aG ?_;exact iF 46 _ rfl _ _ (by simp only[List.map_toArray,List.map_cons,List.map_nil];rfl) (aV.out _ _ _ _ _ _) ⟨_,rfl,aD,_,_,rfl,a1,a2,aT,aU⟩
  all_goals
   refine aG ?_;go_simp;exact⟨_,rfl,aD,rfl⟩
 intro u w' m g;obtain⟨b,c,aR,F,G,aa,ab⟩:=g 8 (by omega);simp only[z1,z2,z3,z4,ay,Act.put,z5,z6,z7,z8,z9,Nat.reduceAdd,Nat.zero_add];clear g;simp only[aR];have ac:=af (aL.out.fr m (fun x=>x));have aX:=af (F2.out.trans m);have ax:=af aa;have aB:=af ab;clear aa ab;obtain⟨a8,bg,bi,rfl,_⟩:=F.cl;obtain⟨a9,bh,bj,rfl,_⟩:=G.cl;have ao:=af F;have ap:=af G;clear m aR F G aL F2 aM aN aE c5 O;refine ai rfl 46 (.tmp 2) _ rfl g2 _ rfl rfl _ _ ac.out (by rw[E.out];exact bZ) (by rw[E.out];rfl) (av.out _ _ rfl rfl) ?_;intro am aO aF;have aW:=af aO;have aY:Hid (Fr ag w am):=aX.out.aw aF (fun i be e=>by have bd:i=g2:=e;have:=au.out;omega);have NE:Hid (∀v l,dO w' v l→dO am v l):=fun v l h=>h.cN aF (fun k d=>by
  obtain rfl:k=g2:=d;exact⟨fun x=>by have:=x.one ac.out.ty;exact absurd this (by decide),fun x=>by have:=x.one ac.out.ty;exact absurd this (by decide),fun x=>by have:=x.one ac.out.ty;exact absurd this (by decide)⟩);have aZ:=af (D.out am _ _ (NE.out _ _ ao.out) (NE.out _ _ ap.out) aY.out (fun k d=>by rw[←S.out];exact ax.out k d) (fun k d=>by rw[←S.out];exact aB.out k d));clear aO aF;go_wp2;exact bodyPost_ret (results_cell_row (fn:=Tryz.f87) (p:=2) (ty:=46) Tryz.results87 _ am _ 46 _ (0,0) _ rfl aW.out Tryz.underlying46 rfl (by rw[E.out];exact bZ)) rfl aZ.out
theorem oe.ar{w w':World}{x:Nd}(h:oe w x)(g:Fr ag w w'):oe w' x:=by
 obtain⟨a,b,c,d,e,f⟩:=h;exact⟨a,b,c,d,e,f.fr g (fun x=>x)⟩
def Ka(x:Nd):Ent:=(x.nm,x.v)
structure PL(w:World)(A:Option Addr)(n c:Nat)(L:List Nd):Prop where
 rd:Rd w (fun _=>True) 1 A n (L.map JA)
 len:L.length=n
 cap:n≤c
 aP:c≤maxLen
 at_:∀x∈L,oe w x
 own:∀x∈L,x.nm.owner.size≤1099511627776
theorem PL.ar{w w':World}{A:Option Addr}{n c:Nat}{L:List Nd}(h:PL w A n c L)(a:Fr ag w w'):PL w' A n c L:=⟨h.rd.ar a,h.len,h.cap,h.aP,fun x b=>(h.at_ x b).ar a,h.own⟩
theorem PL.tail{w:World}{a:Addr}{n c:Nat}{x:Nd}{L:List Nd}(h:PL w (some a) n c (x::L)):PL w (if c=1 then some a else some (a.add 1)) (n-1) (c-1) L:=by
 have k:=h.len;simp only[List.length_cons]at k;refine⟨⟨by rw[List.length_map];omega,fun l=>?_⟩,by omega,by have:=h.cap;omega,by have:=h.aP;omega,fun y d=>h.at_ y (by simp[d]),fun y d=>h.own y (by simp[d])⟩;have b:¬c=1:=by have:=h.cap;omega
 obtain⟨f,e,_,g⟩:=h.rd.2 (by omega);cases e;rw[if_neg b];refine⟨_,rfl,trivial,fun j u i=>?_⟩;have q:=g (1+j) u (by rw[List.map_cons,Nat.add_comm,List.getElem?_cons_succ];exact i);rw[iq];exact q
def AJ(w:World)(a:Option Addr):Prop:=a=none∨∃g cs,a=some ⟨g,0,none⟩∧aq w g 177 cs
theorem AJ.ar{w w':World}{a:Option Addr}(h:AJ w a)(c:Fr ag w w'):AJ w' a:=by
 rcases h with h|⟨g,cs,h,b⟩;·exact .inl h
 ·exact .inr ⟨g,cs,h,b.fr c (fun x=>x)⟩
theorem Hw{w:World}{base:Nat}{e:TypeId}{size n m c:Nat}{A:Option Addr}{xs:List Value}(h:w.ownsRow base e size (.slice A m c) n xs):c≤maxLen:=by
 rcases h.2 with⟨a,_⟩|⟨g,cap,cur,a,_,_,_,b,_⟩;·cases a;exact Nat.zero_le _
 ·cases a;exact b
theorem PL.of{w:World}{A:Option Addr}{m c n:Nat}{L:List Nd}{M:List Ent}(h:w.ownsRow 0 172 1 (.slice A m c) n (L.map JA))(hm:m=n)(b:m≤c)(a:∀x∈L,oe w x)(he:L.map Ka=M)(d:jA M):PL w A m c L:=by
 subst hm;refine⟨(Rd.ib h).any,?_,b,Hw h,a,fun x e=>d (Ka x) ?_⟩;·have:=h.1;rw[List.length_map]at this;omega
 ·rw[←he];exact List.mem_map_of_mem e
end Go.Proofs.YtphjagkehiklkaaGreatDoor
