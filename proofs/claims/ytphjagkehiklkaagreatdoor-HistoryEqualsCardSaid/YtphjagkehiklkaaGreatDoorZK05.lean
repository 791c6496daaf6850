/- Texts. -/
import Derived.Test.YtphjagkehiklkaaGreatDoorZK04
set_option linter.unusedVariables false
set_option linter.unusedSimpArgs false
set_option maxRecDepth 100000
set_option maxHeartbeats 4000000
namespace Go.Proofs.YtphjagkehiklkaaGreatDoor
open Go.RowKit Go.Shelf
attribute[local go_sem]Oper.semAt_some
theorem Jr{P:Program}{Q:Exit→Act→World→Prop}{a:Act}{w:World}{l:List Oper}(n:Nat)(T:Nat→Prop)(f:List (Value→World→Prop))(ws:List (Nat×(World→Prop)))(b:World→Prop)(B:Nat→Nat→Bool)(z:pJ l.toArray n=true)
  (v:gC l.toArray n B=true)(g:(ik B (ws.map (·.1))&&(ws.map (·.1)).all (fun p=>decide (p<n)))=true)
  (k:dz T w f)(o:jo T w ws)(i:∀w' e,Fr T w w'→Fr ag w' e→b w'→b e)(s:b w.drew)
  (A:iM P l.toArray Q T w (fun u=>ar ((l.take n).map (·.dst)) 0 u a) (cp f) ws b B n 0 (l.take n))
  (q:∀u w',Fr T w w'→(∀j,j<n→cp f j (u j) w')→mr ws b w'→wpList P l.toArray Q (l.drop n) (ar ((l.take n).map (·.dst)) 0 u a) w'):wpAny P .any l.toArray Q l.toArray.size (Array.replicate l.toArray.size false) a w.drew:=by
 have ok:=qN.of z;obtain⟨D,r⟩:=ib ((l.take n).map (·.dst)) 0 a;have d:HeadInv .any l.toArray n (Array.replicate l.toArray.size false):=
  ⟨by simp,fun j F _ c=>(by rw[getD_replicate_false]at c;cases c),fun t _ q=>getD_in (by simpa using q) (getD_replicate_false _ _)⟩;have y:cy (fun j=>!(Array.replicate l.toArray.size false).getD j false) n=n:=by
  have h:∀m,cy (fun j=>!(Array.replicate l.toArray.size false).getD j false) m=m:=by
   intro m;induction m with
   |zero=>rfl
   |succ m C=>rw[cy,C,getD_replicate_false];rfl
  exact h n
 have:=Lr (P:=P) (Q:=Q) (a:=a) ok v g k o i (by simpa using A) (by simpa using q) n _ D w.drew d y (az.drew) (by rw[kW ws b _ (fun x _=>getD_replicate_false _ _)];exact s) (fun j E c=>by rw[getD_replicate_false]at c;cases c);rw[show(l.toArray.toList.take n).map (·.dst)=(l.take n).map (·.dst)by simp,r,show n+(l.toArray.size-n)=l.toArray.size by have:=ok.le;omega]at this;exact this
theorem pZ{r m:Nat}{P:Program}{id:Nat}{Q:Exit→Act→World→Prop}{a:Act}{w:World}{l:List Oper}(n:Nat)(T:Nat→Prop)(d:List (Value→World→Prop))(ws:List (Nat×(World→Prop)))(b:World→Prop)(B:Nat→Nat→Bool)(s:(l.all iD)=true)(hm:P.follows .mixedOrders=true)(t:pJ l.toArray n=true)
  (q:gC l.toArray n B=true)(f:(ik B (ws.map (·.1))&&(ws.map (·.1)).all (fun p=>decide (p<n)))=true)
  (h:dz T w d)(k:jo T w ws)(g:∀w' c,Fr T w w'→Fr ag w' c→b w'→b c)(o:b w.drew)
  (v:iM P l.toArray (fun e a w=>Q e a w∧e= .normal) T w (fun u=>ar ((l.take n).map (·.dst)) 0 u a) (cp d) ws b B n 0 (l.take n))
  (y:∀u w',Fr T w w'→(∀j,j<n→cp d j (u j) w')→mr ws b w'→wpList P l.toArray (fun e a w=>Q e a w∧e= .normal) (l.drop n) (ar ((l.take n).map (·.dst)) 0 u a) w'):(Code.region id l.toArray true).wpIn (Fence.wide.inRound r) m P Q a w:=
 wpIn_region_any hm (jc (fun i z x=>List.all_eq_true.1 s z (List.mem_of_getElem? (by simpa using x))) _ _ _ _ (Jr n T d ws b B t q f h k g o v y))
theorem bS{P:Program}{ops:Array Oper}{rest:List Oper}{m:Oper}{a:Act}{w:World}{Q:Exit→Act→World→Prop}(c:m.guard=none)(ty:TypeId)(x y:Operand)(i:m.op= .store ty x y)
  (g:Nat)(v:Value)(j:a.eval x= .pointer (some ⟨g,0,none⟩))(l:a.eval y=v)(e:v.oneCell'=true)
  (t:TypeId)(b:Value)(d:aq w g t #[b])(f:(P.info? ty).map (·.size)=some 1)
  (h:∀w',aq w' g t #[v]→Fr (fun k=>k=g) w w'→wpList P ops Q rest (a.put m.dst undef) w'):wpList P ops Q (m::rest) a w:=by
 subst l;exact wpList_store_one c ty x y i g j e t b d f (h _ (iO d) ((Fr.refl (fun k=>k=g) w).setRow (fun _=>rfl) _))
theorem cS{w:World}{base:Nat}{e:TypeId}{size n k:Nat}{v:Value}{xs:List Value}(h:w.ownsRow base e size v n xs)(a:v.ownBlock=some k):∃c f,w.heap[k]? =some (.cells c e f):=by
 rcases h.2 with⟨rfl,_⟩|⟨g,b,cur,rfl,_,d,_⟩;·simp[Value.ownBlock]at a
 ·simp[Value.ownBlock]at a;subst a;exact⟨_,_,d⟩
def kU(t:TypeId):Op→Bool
 | .load a _=>t==a
 |_=>false
theorem cj{r n:Nat}{P:Program}{ops:Array Oper}{Q:Exit→Act→World→Prop}{d:Oper}{l:List Oper}{a:Act}{w:World}(f:Op→Bool)(b:f d.op=true)(c:((d::l).all iD)=true)(h:wpList P ops (fun e a w=>Q e a w∧e= .normal) (d::l) a w):wpListIn (Fence.wide.inRound r) n P ops Q (d::l) a w:=
 jy c h
def Sz(w:World)(g:Nat):Prop:=w.heap.size≤g
structure pq{α:Type}(b w3:World)(g2:Nat)(c e:TypeId)(sz:Nat)(a:List α→Nat)(cells:List α→List Value)(pre:List α)(W:World):Prop where
 fr:Fr ag b W
 kn:KN w3 W
 row:∃v,aq W g2 c #[v]∧W.ownsRow 0 e sz v (a pre) (cells pre)∧∀k,v.ownBlock=some k→b.heap.size≤k∧k≠g2
theorem pq.iY{α:Type}{r w3:World}{g2:Nat}{s e:TypeId}{sz B:Nat}{l:List α→Nat}{cells:List α→List Value}(t:g2<B)(x:r.heap.size≤B):OwnFrom B (pq r w3 g2 s e sz l cells):=by
 intro pre X Y row h u o;have b:∀k,k<B→some k≠row:=fun k q e=>by have:=(o k e.symm).1;omega
 have j:Fr (fun k=>some k=row) X Y:=Fr.grown u;obtain⟨v,kf,a,w⟩:=h.row;refine⟨h.fr.aw j (fun i y e=>absurd e (b i (by omega))),h.kn.trans (KN.fr j (fun g cs p e=>?_)),⟨v,kf.fr j (fun e=>b _ t e),aL a j (fun k q e=>?_),w⟩⟩;·obtain⟨_,z,d,m⟩:=o g e.symm;unfold aq at p;rw[p]at d;cases d;simp[Obj.isCells]at m
 ·obtain⟨_,z,d,m⟩:=o k e.symm;obtain⟨c,f,n⟩:=cS a q;rw[n]at d;cases d;simp[Obj.isCells]at m
theorem pq.same{α:Type}{g w3 W X:World}{g2:Nat}{f e:TypeId}{sz:Nat}{b:List α→Nat}{cells:List α→List Value}{pre a:List α}(h:pq g w3 g2 f e sz b cells pre W)(d:Fr ag W X)(i:b a=b pre)(j:cells a=cells pre):pq g w3 g2 f e sz b cells a X:=by
 obtain⟨v,kf,c,k⟩:=h.row;refine⟨h.fr.trans d,h.kn.trans (KN.fr d (fun _ _ _ x=>x)),⟨v,kf.fr d (fun x=>x),?_,k⟩⟩;rw[i,j];exact aL c d (fun _ _ x=>x)
theorem pq.step{α:Type}{m w3 W X s l:World}{g2 B:Nat}{n e:TypeId}{sz:Nat}{d:List α→Nat}{cells:List α→List Value}{pre b:List α}{v v2:Value}
  (u:pq m w3 g2 n e sz d cells pre W)(C:g2<B)(D:m.heap.size≤B)(G:m.heap.size≤g2)(x:n≠177)(he:e≠177)(w:aq W g2 n #[v])
  (j:W.ownsRow 0 e sz v (d pre) (cells pre))(a:∀k,v.ownBlock=some k→m.heap.size≤k∧k≠g2)
  (z:Fr ag W X)(t:bK e sz X v s v2 (d b) (cells b))(f3:Fr (fun k=>k=g2) s l)(b3:aq l g2 n #[v2]):
  KeepsFrom B W l∧KN W l∧pq m w3 g2 n e sz d cells b l:=by
 have s1:m.heap.size≤W.heap.size:=u.fr.size;have s2:W.heap.size≤X.heap.size:=z.size;have I:g2<W.heap.size:=w.lt;have o:∀k,v2.ownBlock=some k→m.heap.size≤k∧k≠g2:=fun k y=>by
  rcases t.eG k y with h|h;·exact a k h
  ·constructor<;>omega
 have F:Fr (fun k=>k=g2∨v.ownBlock=some k) W l:=by
  have A:Fr (fun k=>k=g2∨v.ownBlock=some k) W s:=(z.bO).trans (t.fr.mono (fun i _ h=> .inr h));exact A.trans (f3.mono (fun i _ h=> .inl h))
 have K:KN W l:=KN.fr F (fun g cs p h=>by
  unfold aq at p w;rcases h with rfl|h;·rw[w]at p;cases p;exact x rfl
  ·obtain⟨c,f,q⟩:=cS j h;rw[q]at p;cases p;exact he rfl);refine⟨⟨F.size,fun k J _ q E=>?_⟩,K,?_,u.kn.trans K,?_⟩
 ·refine(F.block k (Array.getElem?_eq_some_iff.1 q).1 ?_).trans q;rintro(rfl|h);·omega
  ·obtain⟨c,f,r⟩:=cS j h;rw[q]at r;cases r;simp[Obj.isCells]at E
 ·refine u.fr.aw F (fun i H h=>?_);rcases h with h|h;·omega
  ·have:=(a i h).1;omega
 ·exact⟨v2,b3,aL t.own f3 (fun k y e=>(o k y).2 e),o⟩
theorem KN.put(W:World)(l:Nat)(f b:Obj)(h:W.heap[l]? =some f)(d:f.isCells=false):KN W (W.putObj l b):=
 KN.fr (Fr.grown (grownBy_putObj' W l b)) (fun g cs a e=>by
  have c:g=l:=by simpa using e
  subst c;unfold aq at a;rw[a]at h;cases h;simp[Obj.isCells]at d)
theorem oI(a:Option Addr)(w:World):Calls Tryz.prog 144 #[.pointer a] w fun r w'=>r= .returned (.func (.func 169) #[] #[.pointer (some ⟨w.heap.size,0,none⟩)])∧Fr ag w w'∧aq w' w.heap.size 25 #[.pointer a]:=by
 go_enter Tryz.func144,Tryz.ntmps144;go_wp2_with(refine aB rfl 25 (.tmp 0) rfl #[.pointer a] rfl ?_);intro w1 n1;have b:=af n1;clear n1;go_wp2;go_ret;exact⟨rfl,b.out.fr,b.out.aE⟩
def Cw(x:Nd):Value:= .pointer (some ⟨x.g,0,none⟩)
theorem Kq:(Tryz.prog.info? 172).map (fun i=>(i.zero,i.size,i.bytes))=some (some (.pointer none),1,8):=by kernel_rfl
theorem BO:(Tryz.prog.info? 219).map (·.size)=some 1:=by kernel_rfl
theorem Ns(w:World):(zeroValue 219).run Tryz.prog w= .ok (.slice none 0 0) w:=by kernel_rfl
end Go.Proofs.YtphjagkehiklkaaGreatDoor
namespace Go.Proofs.YtphjagkehiklkaaGreatDoor
open Go.RowKit Go.Shelf
attribute[local go_sem]Oper.semAt_some
def Ad{w:World}(a:List (pf w)):List Value:=a.map (fun y=>Cw y.1)
def LD(w:World)(t:Tr)(r:Ending)(w':World):Prop:=∃v,∃L:List Nd,r= .returned v∧bK 172 1 w (.slice none 0 0) w' v t.size (L.map Cw)∧L.map (fun x:Nd=>(x.nm,x.v))=t.bJ∧∀x∈L,lW w' x
theorem yL(s:Nat)(t:Tr)(w:World)(H:xP w s t)(O:t.size≤1048576):Calls Tryz.prog 139 #[.pointer (some ⟨s,0,none⟩)] w (fun r w'=>LD w t r w'):=by
  obtain⟨i0,I,hz0',P,Q⟩:=info_parts Kq;have aN:=af (fun w=>oI (some ⟨s,0,none⟩) w);have au:=af O;have ar:=af H;clear H O;refine(callsIn_wide (n:=6)).1 (callsIn_of_wp_marks Tryz.func139 rfl trivial (wpIn_wide.2 ?_) rfl);simp only[Tryz.ntmps139,List.size_toArray,List.length_cons,List.length_nil,Nat.reduceAdd,Nat.reduceSub,Array.replicate_succ,Array.replicate_zero,List.push_toArray,List.append_toArray,List.nil_append,List.cons_append];have B:Hid (Calls Tryz.prog 94 #[.pointer (some ⟨s,0,none⟩)] w (bm w (.int .i64 (t.size:Nat)))):=pj w s t ar.out;go_wp2_with fail;refine B.out.mono ?_;rintro e a9⟨rfl,rfl⟩;have a4:=au.out;clear B;go_wp2_with(at_make;refine wpList_make_own _ rfl _ _ 219 rfl 0 172 i0 (.pointer none) 1 Tryz.underlying219 I hz0' P _ _ _ t.size rfl rfl rfl ?zA ?zB (Nat.zero_le _) ?_);case zA=>rw[Q];omega
  case zB=>unfold maxLen;omega
  intro R ra aD;have Y:Hid (Fr ag w R):=(Fr.grown aD).mono (fun _ _ e=>by cases e);have aB:=af ra;have F:Hid (w.heap.size<R.heap.size):=GJ ra rfl;have ad:Sz w w.heap.size:=Nat.le_refl _;clear ra aD a4;generalize w.heap.size=g0 at*;go_wp2_with(refine an rfl 219 rfl (.slice none 0 0) Ns #[.slice none 0 0] rfl ?_);intro a6 nb;have ap:Hid (Fr ag w a6):=Y.out.trans nb.fr;have aC:=af (aL aB.out nb.fr (fun _ _ x=>x));have al:=af nb.aE;have E:Sz w R.heap.size:=Y.out.size;have NE:Hid (g0<R.heap.size):=F.out;clear nb Y aB F;generalize R.heap.size=g2 at*;go_wp2_with(refine bS rfl 219 (.tmp 3) _ rfl g2 (.slice (some ⟨g0,0,none⟩) 0 t.size) rfl rfl rfl _ _ al.out BO ?_);intro w2 b2 f2;have aj:=af b2;have am:Hid (Fr ag w w2):=ap.out.aw f2 (fun i a2 e=>by have S:i=g2:=e;have:=E;unfold Sz at this;omega);have aA:=af (aL aC.out f2 (fun k g e=>by
    have S:k=g2:=e;simp[Value.ownBlock]at g;have:=NE.out;omega));have aZ:Hid (∀k,(Value.slice (some ⟨g0,0,none⟩) 0 t.size).ownBlock=some k→w.heap.size≤k∧k≠g2):=fun k g=>by
    simp[Value.ownBlock]at g;subst g;exact⟨ad,by have:=NE.out;omega⟩
  clear b2 f2 ap aC al;go_wp2_with fail;refine(aN.out _).mono ?_;rintro r w3⟨rfl,f3,b3⟩;have C:=af (am.out.trans f3);have ak:=af (aj.out.fr f3 (fun x=>x));have aY:=af (aL aA.out f3 (fun _ _ x=>x));have aO:=af b3;have LT:Hid (g2<w3.heap.size):=ak.out.lt;clear f3 b3 am aj aA;generalize w2.heap.size=gs at*;obtain⟨a3,N,M⟩:=ar.out.ao C.out;obtain⟨L,ah⟩:=Ord.of M;have ax:=af ah.bJ;have ay:Hid (L.length=t.size):=by
    have h:=congrArg List.length ax.out;have a0:L.length=t.size:=by simpa[Tr.bW]using h
    exact a0
  have aT:=af ah;have Z:=af N;clear N M ah;go_wp2_with fail;refine(wpIn_wide (n:=6)).1 ?_;refine wpIn_rangeFunc_ownG rfl (by omega) (gf:=169) (lb:=#[.pointer (some ⟨gs,0,none⟩)]) rfl trivial (enters_of Tryz.func169 (by kernel_rfl) rfl)
    (zX 5 gs s a3 t w3 L aT.out aO.out Z.out) (fun h k=>h.trans k) (fun W l o a5 _ U a1 _=>KN.put W l o a5 U a1) (Below.refl _ _) (fun _=>rfl)
    (pq w w3 g2 219 172 1 (fun ai:List (pf w3)=>ai.length) (Ad (w:=w3))) (fun _ _ _=>False) (pq.iY LT.out C.out.size) (fun _ _ _ _ _ h _ _=>h.elim)
    ⟨C.out,KN.refl _,_,ak.out,aY.out,aZ.out⟩ ?zE ?assign ?body ?done ?stop;case assign=>
    intro l x W K G;gi_wp2;exact G
  case body=>
    rintro a8 pre x W T J;have aQ:=af T;have aR:=af J;obtain⟨_,d,⟨v,kf,a,b⟩⟩:=T;obtain⟨u,m1,zA,rfl,H1,aP⟩:=aG a;have m:=af a;have j:=af b;have z:=af kf;have q:=kf.cell 0;simp only[bP,List.getElem?_cons_zero]at q;have aX:=af (x.2.kn d).ko;obtain⟨⟨aF,aJ,aK⟩,V⟩:=x;simp only at aX⊢;clear kf a b J d;gi_wp2_with(refine cj (kU 219) rfl (by kernel_rfl) ?_);go_wp2_with(at_builtin;refine cP _ rfl _ _ 219 rfl 172 i0 (.pointer none) 1 8 Tryz.underlying219 I hz0' P Q rfl (by omega) _ _ _ rfl m.out 1 _ _ rfl rfl rfl ?zC ?zD (by omega) ?_);case zC=>simp[Value.oneCell']
    case zD=>have:=aR.out;have:=ay.out;have:=au.out;omega
    intro v2 aM aH;have aa:=af aH;clear aH;have A:Hid (aq aM g2 219 #[.slice u m1 zA]):=z.out.fr aa.out.fr (fun e=>(j.out _ e).2 rfl);obtain⟨X,m2,zB,rfl,_,_⟩:=aG aa.out.own;go_wp2_with(refine bS rfl 219 (.tmp 3) _ rfl g2 (.slice X m2 zB) rfl rfl rfl _ _ A.out BO ?_);intro y3 b3 f3;refine⟨?_,rfl⟩;have ab:bK 172 1 W (.slice u m1 zA) aM (.slice X m2 zB) ((pre++[(⟨⟨aF,aJ,aK⟩,V⟩:pf w3)]).length) (Ad (pre++[(⟨⟨aF,aJ,aK⟩,V⟩:pf w3)])):=by
      have h:=aa.out;rw[aS,Ad,List.map_append];exact h
    have p:=pq.step (v:= .slice u m1 zA) (v2:= .slice X m2 zB) aQ.out LT.out C.out.size E (by decide) (by decide) z.out m.out j.out az ab f3 b3;exact⟨p.1,p.2.1,p.2.2⟩
  case done=>
    rintro D xs W ae rfl T G;obtain⟨aI,d,⟨v,kf,a,b⟩⟩:=T;obtain⟨u,m1,zA,rfl,H1,aP⟩:=aG a;have ac:Fr (fun k=>some k=some D) W (W.putObj D (.deferred none)):=Fr.grown (grownBy_putObj' W D _);have av:=af G;have aU:Hid (Fr ag w (W.putObj D (.deferred none))):=aI.aw ac (fun i a2 e=>by have S:i=D:=(by simpa using e);have:=C.out.size;have:=ae;omega);have aV:Hid (KN w3 (W.putObj D (.deferred none))):=d.trans (KN.put W D _ _ G rfl);have aW:Hid ((W.putObj D (.deferred none)).ownsRow 0 172 1 (.slice u m1 zA) ((fun ai:List (pf w3)=>ai.length) xs) ((Ad (w:=w3)) xs)):=
      aL a ac (fun k g e=>by
            have S:k=D:=by simpa using e
            subst S;obtain⟨c,f,U⟩:=cS a g;rw[av.out]at U;cases U);have j:Hid (∀k,(Value.slice u m1 zA).ownBlock=some k→w.heap.size≤k):=fun k g=>(b k g).1;have q:=kf.cell 0;simp only[bP,List.getElem?_cons_zero]at q;clear ac aI kf a b ae G d;go_wp2;refine⟨by simp, .inl ⟨_,_,rfl,run_takeDeferred av.out,?_⟩⟩;refine⟨_,results_tmp Tryz.results139 _ _ _,?_⟩;refine⟨_,xs.map (·.1),rfl,⟨?_,aU.out.bO,fun k g=> .inr (j.out k g)⟩,?_,fun x V=>?_⟩;· have h:=aW.out;rw[ay.out]at h;rw[List.map_map];exact h
    · rw[List.map_map];exact ax.out
    · obtain⟨y,_,rfl⟩:=List.mem_map.1 V;exact y.2.kn aV.out
  case stop=>
    rintro D a7 pre W ae _ h;exact h.elim
end Go.Proofs.YtphjagkehiklkaaGreatDoor
namespace Go.Proofs.YtphjagkehiklkaaGreatDoor
open Go.RowKit
structure ij{α:Type}(c:α→α→Int):Prop where
 eq:∀a b,c a b=0→a=b
 refl:∀a,c a a=0
 lY:∀a b,c b a=-c a b
 trans:∀a b d,c a b<0→c b d<0→c a d<0
theorem ij.IN{α:Type}{c:α→α→Int}(h:ij c){a b d:α}(g:c a b≤0)(f:c b d<0):c a d<0:=by
 by_cases e:c a b=0;·rw[h.eq a b e];exact f
 ·exact h.trans a b d (by omega) f
def aX(x y:Int):Int:=if x=0 then y else x
theorem ij.lex{α β:Type}{c:α→α→Int}{d:β→β→Int}(h:ij c)(k:ij d):ij (fun(a b:α×β)=>aX (c a.1 b.1) (d a.2 b.2))where
 eq a b e:=by
  unfold aX at e;split at e;·rename_i g;exact Prod.ext (h.eq _ _ g) (k.eq _ _ e)
  ·contradiction
 refl _:=by simp[aX,h.refl,k.refl]
 lY a b:=by
  have:=h.lY a.1 b.1;have:=k.lY a.2 b.2;unfold aX;split<;>split<;>omega
 trans a b e g l:=by
  have n:=h.lY;by_cases i:c a.1 b.1=0
  ·by_cases f:c b.1 e.1=0
   ·have j:c a.1 e.1=0:=by rw[h.eq _ _ i,h.eq _ _ f];exact h.refl _
    simp only[aX,i,f,j,if_true]at*;exact k.trans _ _ _ g l
   ·simp only[aX,i,f,if_true,if_false]at g l;have j:c a.1 e.1=c b.1 e.1:=by rw[h.eq _ _ i]
    simp only[aX,j,f,if_false];exact l
  ·by_cases f:c b.1 e.1=0
   ·simp only[aX,i,f,if_true,if_false]at g l;have j:c a.1 e.1=c a.1 b.1:=by rw[h.eq _ _ f]
    simp only[aX,j,i,if_false];exact g
   ·simp only[aX,i,f,if_false]at g l;have j:=h.trans _ _ _ g l;have m:c a.1 e.1≠0:=by omega
    simp only[aX,m,if_false];exact j
theorem ij.pull{α β:Type}{c:β→β→Int}(h:ij c)(f:α→β)(d:∀a b,f a=f b→a=b):ij (fun a b=>c (f a) (f b))where
 eq _ _ e:=d _ _ (h.eq _ _ e)
 refl _:=h.refl _
 lY _ _:=h.lY _ _
 trans _ _ _:=h.trans _ _ _
def dU(a b:Int):Int:=if a<b then-1 else if b<a then 1 else 0
theorem fh:ij dU where
 eq a b e:=by unfold dU at e;split at e<;>(try split at e)<;>omega
 refl _:=by unfold dU;simp
 lY a b:=by unfold dU;split<;>split<;>(try split)<;>omega
 trans a b d c f:=by unfold dU at*;split at c<;>(try split at c)<;>split at f<;>(try split at f)<;>(try split)<;>omega
def cmpL{α:Type}(c:α→α→Int):List α→List α→Int
 |[],[]=>0
 |[],_::_=>-1
 |_::_,[]=>1
 |x::xs,y::a=>aX (c x y) (cmpL c xs a)
theorem pC{α:Type}{c:α→α→Int}(h:ij c):ij (cmpL c)where
 eq:=by
  intro a;induction a with
  |nil=>intro b e;cases b<;>simp[cmpL]at e⊢
  |cons x xs l=>
   intro b e;cases b with
   |nil=>simp[cmpL]at e
   |cons y m=>
    simp only[cmpL,aX]at e;split at e;·rename_i f;rw[h.eq _ _ f,l _ e]
    ·contradiction
 refl:=by
  intro a;induction a with
  |nil=>rfl
  |cons x xs l=>simp[cmpL,aX,h.refl,l]
 lY:=by
  intro a;induction a with
  |nil=>intro b;cases b<;>simp[cmpL]
  |cons x xs l=>
   intro b;cases b with
   |nil=>simp[cmpL]
   |cons y m=>
    have:=h.lY x y;have:=l m;simp only[cmpL,aX];split<;>split<;>omega
 trans:=by
  intro a;induction a with
  |nil=>
   intro b d f g;cases d with
   |nil=>cases b<;>simp[cmpL]at f g
   |cons z o=>simp[cmpL]
  |cons x xs l=>
   intro b d f g;cases b with
   |nil=>simp[cmpL]at f
   |cons y m=>
    cases d with
    |nil=>simp[cmpL]at g
    |cons z o=>
     simp only[cmpL]at*;by_cases j:c x y=0
     ·by_cases i:c y z=0
      ·have k:c x z=0:=by rw[h.eq _ _ j,h.eq _ _ i];exact h.refl _
       simp only[aX,j,i,k,if_true]at*;exact l _ _ f g
      ·simp only[aX,j,i,if_true,if_false]at f g;have k:c x z=c y z:=by rw[h.eq _ _ j]
       simp only[aX,k,i,if_false];exact g
     ·by_cases i:c y z=0
      ·simp only[aX,j,i,if_true,if_false]at f g;have k:c x z=c x y:=by rw[h.eq _ _ i]
       simp only[aX,k,j,if_false];exact f
      ·simp only[aX,j,i,if_false]at f g;have k:=h.trans _ _ _ f g;have n:c x z≠0:=by omega
       simp only[aX,n,if_false];exact k
def qA(a b:UInt8):Int:=dU a.toNat b.toNat
theorem vK:ij qA:=fh.pull (fun u:UInt8=>(u.toNat:Int)) (fun a b h=>UInt8.toNat_inj.1 (by have c:(a.toNat:Int)=b.toNat:=h;omega))
def me(a b:ByteArray):Int:=cmpL qA a.toList b.toList
theorem toList_inj{a b:ByteArray}(h:a.toList=b.toList):a=b:=by
 rw[ByteArray.toList_eq,ByteArray.toList_eq]at h;cases a;cases b;simp only[ByteArray.mk.injEq];exact Array.toList_inj.1 h
theorem vI:ij me:=(pC vK).pull ByteArray.toList (fun _ _ h=>toList_inj h)
theorem pA:∀(x y:List UInt8),Op.bytesLess x y=decide (cmpL qA x y<0)
 |[],[]=>by simp[Op.bytesLess,cmpL]
 |_::_,[]=>by simp[Op.bytesLess,cmpL]
 |[],_::_=>by simp[Op.bytesLess,cmpL]
 |a::x,b::y=>by
  rw[Op.bytesLess,pA x y];simp only[cmpL,aX,qA,dU];by_cases c:a<b
  ·have e:(a.toNat:Int)<b.toNat:=by have:=UInt8.lt_iff_toNat_lt.1 c;omega
   simp[c,e]
  ·by_cases d:a=b;·subst d;simp
   ·have f:¬(a.toNat:Int)<b.toNat:=by
     intro h;exact c (UInt8.lt_iff_toNat_lt.2 (by omega))
    have g:(b.toNat:Int)<a.toNat:=by
     have:a.toNat≠b.toNat:=fun h=>d (UInt8.toNat_inj.1 h);omega
    simp[c,d,f,g]
theorem vJ(a b:ByteArray):me a b=if Op.bytesLess a.toList b.toList=true then-1 else if a=b then 0 else 1:=by
 have f:∀(x y:List UInt8),cmpL qA x y=-1∨cmpL qA x y=0∨cmpL qA x y=1:=by
  intro x;induction x with
  |nil=>intro y;cases y<;>simp[cmpL]
  |cons p x g=>
   intro y;cases y with
   |nil=>simp[cmpL]
   |cons q y=>
    have:=g y;simp only[cmpL,aX,qA,dU];split<;>(try split)<;>(try split)<;>omega
 rw[pA];have h:=f a.toList b.toList;unfold me;by_cases e:a=b;·subst e;rw[(pC vK).refl];simp
 ·have i:cmpL qA a.toList b.toList≠0:=fun d=>e (toList_inj ((pC vK).eq _ _ d));simp only[e,if_false];by_cases c:cmpL qA a.toList b.toList<0;·simp[c];omega
  ·simp[c];omega
def mG(b:UInt8):Bool:=48≤b.toNat&&b.toNat≤57
def dC:Nat→List UInt8→List UInt8
 |0,_=>[]
 |_+1,[]=>[]
 |n+1,b::l=>if mG b then b::dC n l else[]
def fi(ds:List UInt8):Nat:=ds.foldl (fun n b=>n*10+(b.toNat-48)) 0
structure Part where
 ord:Nat
 at_:Nat
 e:Nat
def cU(count at_:Nat)(l:List UInt8):Part×Nat:=
 let ds:=dC 7 l
 if count=8 then(⟨0,at_,9⟩,at_)else if l=[]then(⟨0,at_,4⟩,at_)else if ds=[]then(⟨0,at_,6⟩,at_)else if l[0]? =some 48 then(⟨0,at_,3⟩,at_)
 else if 6<ds.length then(⟨0,at_,2⟩,at_)else(⟨fi ds,at_,0⟩,at_+ds.length)
def dx:Nat→Nat→List UInt8→List Part
 |0,at_,_=>[⟨0,at_,9⟩]
 |n+1,at_,l=>
  let p:=(cU (7-n) at_ l).1
  if p.e≠0 then[p]else
   let k:=(dC 7 l).length
   if l.length≤k then[p]else if l[k]? ≠some 46 then[p,⟨0,at_+k,6⟩]else p::dx n (at_+k+1) (l.drop (k+1))
def gJ(s:ByteArray):List Part:=if s.size=0 then[]else dx 8 0 s.toList
def df(s:ByteArray):Bool:=(gJ s).all (fun p=>p.e==0)
def jE(s:ByteArray):List Int:=(gJ s).map (fun p=>(p.ord:Int))
theorem lM:∀(n:Nat)(l:List UInt8),(dC n l).length≤n∧(dC n l).length≤l.length
 |0,l=>by simp[dC]
 |n+1,[]=>by simp[dC]
 |n+1,b::l=>by
  have:=lM n l;rw[dC];split<;>simp<;>omega
theorem oO:∀(n:Nat)(l:List UInt8),dC n l=l.take (dC n l).length
 |0,l=>by simp[dC]
 |n+1,[]=>by simp[dC]
 |n+1,b::l=>by
  rw[dC];split;·rw[List.length_cons,List.take_succ_cons,←oO n l]
  ·simp
theorem tf:∀(n:Nat)(l:List UInt8),∀b∈dC n l,mG b=true
 |0,l=>by simp[dC]
 |n+1,[]=>by simp[dC]
 |n+1,b::l=>by
  intro x a;rw[dC]at a;split at a
  ·rename_i h;rcases List.mem_cons.1 a with rfl|c;·exact h
   ·exact tf n l x c
  ·simp at a
theorem xt:∀(n:Nat)(l:List UInt8)(j:Nat),j≤(dC n l).length→(j<(dC n l).length↔j<n∧∃b,l[j]? =some b∧mG b=true)
 |0,l,j,h=>by simp[dC]
 |n+1,[],j,h=>by simp[dC]
 |n+1,b::l,0,h=>by
  rw[dC];by_cases a:mG b=true;·simp[a]
  ·simp[a]
 |n+1,b::l,j+1,h=>by
  rw[dC]at h⊢;by_cases a:mG b=true;·simp only[a,if_true,List.length_cons]at h⊢;have:=xt n l j (by omega);simp only[List.getElem?_cons_succ];rw[show(j+1<(dC n l).length+1)↔(j<(dC n l).length)by omega,show(j+1<n+1)↔(j<n)by omega];exact this
  ·simp[a]at h
theorem mu(ds:List UInt8)(b:UInt8):fi (ds++[b])=fi ds*10+(b.toNat-48):=by simp[fi]
theorem KL:∀(n:Nat)(ds:List UInt8),ds.length=n→(∀b∈ds,mG b=true)→fi ds<10^n:=by
 intro n;induction n with
 |zero=>
  intro ds h _;rw[List.eq_nil_of_length_eq_zero h];decide
 |succ n e=>
  intro ds h a;obtain⟨init,b,rfl⟩:∃init b,ds=init++[b]:=by
   rcases List.eq_nil_or_concat ds with rfl|⟨i,b,rfl⟩;·simp at h
   ·exact⟨i,b,by simp⟩
  rw[mu];have f:=e init (by simpa using h) (fun x d=>a x (by simp[d]));have c:=a b (by simp);simp only[mG,Bool.and_eq_true,decide_eq_true_eq]at c;rw[Nat.pow_succ];omega
end Go.Proofs.YtphjagkehiklkaaGreatDoor
namespace Go.Proofs.YtphjagkehiklkaaGreatDoor
open Go.RowKit Go.Shelf
attribute[local go_sem]Oper.semAt_some
theorem zQ(b:UInt8)(w:World):Calls Tryz.prog 184 #[.int .u8 b.toNat] w (bm w (.bool (mG b))):=by
 by_cases c:48≤b.toNat
 ·have t1:decide ((48:Int)≤(b.toNat:Int))=true:=de (by omega);by_cases d:b.toNat≤57
  ·have t2:decide ((b.toNat:Int)≤57)=true:=de (by omega);have a:mG b=true:=by simp[mG,c,d]
   rw[a];go_enter Tryz.func184,Tryz.ntmps184;go_wp2;go_ret;exact⟨rfl,rfl⟩
  ·have t2:decide ((b.toNat:Int)≤57)=false:=cD (by omega);have a:mG b=false:=by simp[mG,d]
   rw[a];go_enter Tryz.func184,Tryz.ntmps184;go_wp2;go_ret;exact⟨rfl,rfl⟩
 ·have t1:decide ((48:Int)≤(b.toNat:Int))=false:=cD (by omega);have a:mG b=false:=by simp[mG,c]
  rw[a];go_enter Tryz.func184,Tryz.ntmps184;go_wp2;go_ret;exact⟨rfl,rfl⟩
def bp(p:Part):Array Value:=#[.int .i64 p.ord, .int .i64 p.at_, .int .i64 p.e]
def oL:Array Value:=#[.int .i64 0, .int .i64 0, .int .i64 0]
theorem uQ(w:World):(zeroValue 270).run Tryz.prog w= .ok (.agg oL) w:=by kernel_rfl
theorem dh(p:Part):(bp p).all (·.oneCell')=true:=by simp[bp,Value.oneCell']
theorem cg:(Tryz.prog.info? 270).map (·.size)=some 3:=by kernel_rfl
theorem ft(s:ByteArray):s.toList.length=s.size:=by rw[ByteArray.toList_eq];rfl
theorem Ap{s:ByteArray}{i:Nat}{b:UInt8}(h:s.toList[i]? =some b):∃h:i<s.size,s[i]=b:=by
 obtain⟨a,c⟩:=List.getElem?_eq_some_iff.1 h;have d:i<s.size:=by rw[←ft];exact a
 refine⟨d,?_⟩;rw[←c];simp only[ByteArray.toList_eq];rfl
theorem bU(tmps:Array Value)(w:World)(g:Nat)(cs:Array Value)(v:Value)
  (c:tmps.getD 6 undef= .pointer (some ⟨g,0,none⟩))(d:tmps.getD 7 undef=v)(e:aq w g 270 cs)(f:cs.size=3):
  (results Tryz.f183 tmps).run Tryz.prog w= .ok (.tuple #[.agg cs,v]) w:=by
 have a:tmps[6]?.getD undef= .pointer (some ⟨g,0,none⟩):=by simpa using c
 have b:tmps[7]?.getD undef=v:=by simpa using d
 simp[results,Tryz.results183,a,b,asAddr,run_loadVar_row w g 270 270 cs (0,0) _ e Tryz.underlying270 rfl (by rw[f];exact cg)]
theorem Er(s:ByteArray)(at_ count:Nat)(w:World)(aB:at_≤s.size)(aC:s.size≤1099511627776)(aJ:count≤8):
  Calls Tryz.prog 183 #[.string s, .int .i64 at_, .int .i64 count] w (aH w (.tuple #[.agg (bp (cU count at_ (s.toList.drop at_)).1), .int .i64 ((cU count at_ (s.toList.drop at_)).2:Nat)])):=by
 obtain⟨l,f⟩:∃l,l=s.toList.drop at_:=⟨_,rfl⟩;rw[←f];obtain⟨ds,ah⟩:∃ds,ds=dC 7 l:=⟨_,rfl⟩;have ab:=af ah;have aa:Hid (∀i b,l[i]? =some b→∃h:at_+i<s.size,s[at_+i]=b):=fun i b R=>by
  rw[f,List.getElem?_drop]at R;exact Ap R
 have ak:Hid (∀i,at_+i<s.size→∃b,l[i]? =some b):=fun i I=>by
  rw[f,List.getElem?_drop];exact⟨_,List.getElem?_eq_getElem (by rw[ft];exact I)⟩
 have o:Hid (l.length+at_=s.size∧(l≠[]→∃z,∃h:at_<s.size,l[0]? =some z∧s[at_]=z)):=by
  refine⟨by rw[f,List.length_drop,ft];omega,fun ax=>?_⟩;obtain⟨z,u⟩:∃z,l[0]? =some z:=by
   cases l with
   |nil=>exact absurd rfl ax
   |cons z r=>exact⟨z,rfl⟩
  obtain⟨h,e⟩:=aa.out 0 z u;exact⟨z,h,u,e⟩
 have aq:=af (lM 7 l);have ad:=af (xt 7 l);have ae:=af (oO 7 l);have ac:=af (tf 7 l);rw[←ah]at aq ad ae ac;clear ah f;have aG:=af aB;have az:=af aC;have Z:=af (fun b w=>zQ b w);clear aB aC;go_enter Tryz.func183,Tryz.ntmps183;go_wp2_with(refine an rfl 270 rfl (.agg oL) uQ oL rfl ?_);intro w1 n1;have L:=af n1.fr;have K:=af n1.aE;have M:Sz w w.heap.size:=Nat.le_refl _;clear n1;generalize w.heap.size=g1 at*;go_wp2;go_loopw[8,9](fun i n wr=>∃j:Nat,j≤ds.length∧i= .int .i64 ((at_+j:Nat):Int)∧n= .int .i64 ((fi (ds.take j):Nat):Int)∧w1=wr)(fun i _ _=>at_+8-(intOf i).toNat);case atStart=>exact⟨0,Nat.zero_le _,rfl,rfl,rfl⟩
 case round=>
 obtain⟨j,au,rfl,rfl,rfl⟩:=hrel;have J:=ad.out j au;obtain⟨q,aj⟩:∃q,q=at_+j:=⟨_,rfl⟩;rw[←aj];obtain⟨N,ar⟩:∃N,N=fi (ds.take j):=⟨_,rfl⟩;rw[←ar];have ap:=af ar;clear ar;by_cases T:j<ds.length
 ·obtain⟨aO,b,R,S⟩:=J.1 T;obtain⟨ay,am⟩:=aa.out j b R;have Y:=af T;have F:Hid (q=at_+j):=aj;have HB:=af R;have t0:(q:Int)<(s.size:Int):=by omega
  have aR:q<s.size:=by omega
  have t1:(q:Int)-(at_:Int)≤6:=by omega
  have t2:(0:Int)≤(q:Int):=by omega
  have t3:s[q]=b:=by subst aj;exact am
  have t4:mG b=true:=S;have aK:48≤b.toNat∧b.toNat≤57:=by simpa[mG]using S
  have al:Hid (N*10+(b.toNat-48)=fi (ds.take (j+1))∧N<10000000):=by
   have av:ds[j]? =some b:=by
    rw[ae.out,List.getElem?_take_of_lt T];exact R
   constructor;·rw[List.take_add_one,av,Option.toList_some,mu,←ap.out]
   ·rw[ap.out];refine Nat.lt_of_lt_of_le (KL _ (ds.take j) rfl (fun x aP=>ac.out x (List.mem_of_mem_take aP))) ?_;refine Nat.le_trans (Nat.pow_le_pow_right (by omega) (show(ds.take j).length≤7 by rw[List.length_take];omega)) (by decide)
  obtain⟨d,t⟩:∃d,d=b.toNat-48:=⟨_,rfl⟩;have t5:(b.toNat:Int)-48=(d:Int):=by omega
  have t6:d≤9:=by omega
  have aI:=af t;have nb:=al.out.2;have nq:q≤1099511627776:=by have:=az.out;omega
  have aQ:at_≤q:=by omega
  clear aj am ay R S aK J T aO t au;go_wp2_with fail;refine(Z.out b _).mono ?_;rintro e w'⟨rfl,rfl⟩;rw[t4];go_wp2;go_roundw;case rel=>
   have X:=F.out;have Q:=al.out.1;have aA:=aI.out;exact⟨j+1,Y.out,by go_num,by rw[←Q];go_num,by first|rfl|trivial⟩
  case measure=>
   have X:=F.out;have Q:=Y.out;have aA:=aq.out.1;simp[intOf];omega
 ·obtain rfl:j=ds.length:=by omega
  have F:Hid (q=at_+ds.length):=aj;obtain rfl:N=fi ds:=by rw[ap.out,List.take_length]
  have ao:s.size≤q∨(q<s.size∧ds.length=7)∨(q<s.size∧ds.length≤6∧∃b,(∃h:q<s.size,s[q]=b)∧mG b=false):=by
   by_cases X:q<s.size
   ·right;by_cases Q:ds.length=7;·exact .inl ⟨X,Q⟩
    ·right;have aA:=aq.out.1;refine⟨X,by omega,?_⟩;obtain⟨b,R⟩:=ak.out ds.length (by omega);obtain⟨aT,aM⟩:=aa.out _ _ R;refine⟨b,⟨X,?_⟩,?_⟩;·subst aj;exact aM
     ·cases aN:mG b;·rfl
      ·exact absurd (J.2 ⟨by omega,b,R,aN⟩) T
   ·exact .inl (by omega)
  have W:=af ao;have aS:ds.length≤7:=aq.out.1;have aQ:at_≤q:=by omega
  have nq:q≤1099511627783:=by have:=az.out;have:=aG.out;omega
  clear ao J aj T au ap ad ae ac ak;rcases W.out with X|⟨X,Q⟩|⟨X,Q,b,⟨aL,R⟩,S⟩
  ·clear W;have aD:¬(q:Int)<(s.size:Int):=by omega
   have aF:¬q<s.size:=by omega
   clear X;have p:Hid (cU count at_ l=if count=8 then(⟨0,at_,9⟩,at_)else if l=[]then(⟨0,at_,4⟩,at_)else if ds=[]then(⟨0,at_,6⟩,at_)else if l[0]? =some 48 then(⟨0,at_,3⟩,at_)else if 6<ds.length then(⟨0,at_,2⟩,at_)else(⟨fi ds,at_,0⟩,at_+ds.length)):=by simp only[Hid];rw[ab.out];rfl
   by_cases a:count=8
   ·have c:Hid (cU count at_ l=(⟨0,at_,9⟩,at_)):=by simp only[Hid];rw[p.out,if_pos a]
    have m:((count:Int)==8)=true:=by rw[beq_iff_eq];have:=a;omega
    clear a;go_wp2_with(refine ai rfl 270 (.tmp 6) _ rfl g1 (bp ⟨0,at_,9⟩) rfl rfl _ _ K.out cg rfl (dh _) ?_);intro D g k;have v:=af g;have y:Hid (Fr ag w D):=L.out.aw k (fun i I e=>by have O:i=g1:=e;have:=M;unfold Sz at this;omega);clear g k;go_wp2;refine bodyPost_ret (bU _ _ g1 (bp ⟨0,at_,9⟩) _ rfl rfl v.out rfl) rfl ?_;rw[c.out];exact⟨rfl,y.out⟩
   by_cases f:l=[]
   ·have c:Hid (cU count at_ l=(⟨0,at_,4⟩,at_)):=by simp only[Hid];rw[p.out,if_neg a,if_pos f]
    have m:((count:Int)==8)=false:=by rw[beq_eq_false_iff_ne];have:=a;omega
    have E:((at_:Int)==(s.size:Int))=true:=by rw[beq_iff_eq];have:=o.out.1;have G:l.length=0:=(by simp[f]);omega
    clear a f;go_wp2_with(refine ai rfl 270 (.tmp 6) _ rfl g1 (bp ⟨0,at_,4⟩) rfl rfl _ _ K.out cg rfl (dh _) ?_);intro D g k;have v:=af g;have y:Hid (Fr ag w D):=L.out.aw k (fun i I e=>by have O:i=g1:=e;have:=M;unfold Sz at this;omega);clear g k;go_wp2;refine bodyPost_ret (bU _ _ g1 (bp ⟨0,at_,4⟩) _ rfl rfl v.out rfl) rfl ?_;rw[c.out];exact⟨rfl,y.out⟩
   by_cases t:ds=[]
   ·have c:Hid (cU count at_ l=(⟨0,at_,6⟩,at_)):=by simp only[Hid];rw[p.out,if_neg a,if_neg f,if_pos t]
    have m:((count:Int)==8)=false:=by rw[beq_eq_false_iff_ne];have:=a;omega
    have E:((at_:Int)==(s.size:Int))=false:=by rw[beq_eq_false_iff_ne];have:=o.out.1;have G:l.length≠0:=fun h=>f (List.length_eq_zero_iff.1 h);omega
    have H:((q:Int)==(at_:Int))=true:=by rw[beq_iff_eq];have:=F.out;have G:ds.length=0:=(by simp[t]);omega
    clear a f t;go_wp2_with(refine ai rfl 270 (.tmp 6) _ rfl g1 (bp ⟨0,at_,6⟩) rfl rfl _ _ K.out cg rfl (dh _) ?_);intro D g k;have v:=af g;have y:Hid (Fr ag w D):=L.out.aw k (fun i I e=>by have O:i=g1:=e;have:=M;unfold Sz at this;omega);clear g k;go_wp2;refine bodyPost_ret (bU _ _ g1 (bp ⟨0,at_,6⟩) _ rfl rfl v.out rfl) rfl ?_;rw[c.out];exact⟨rfl,y.out⟩
   by_cases u:l[0]? =some 48
   ·have c:Hid (cU count at_ l=(⟨0,at_,3⟩,at_)):=by simp only[Hid];rw[p.out,if_neg a,if_neg f,if_neg t,if_pos u]
    have m:((count:Int)==8)=false:=by rw[beq_eq_false_iff_ne];have:=a;omega
    have E:((at_:Int)==(s.size:Int))=false:=by rw[beq_eq_false_iff_ne];have:=o.out.1;have G:l.length≠0:=fun h=>f (List.length_eq_zero_iff.1 h);omega
    have H:((q:Int)==(at_:Int))=false:=by rw[beq_eq_false_iff_ne];have:=F.out;have G:ds.length≠0:=fun h=>t (List.length_eq_zero_iff.1 h);omega
    obtain⟨z,A,B,C⟩:=o.out.2 (fun h=>f h);have i1:at_<s.size:=A;have i2:(at_:Int)<(s.size:Int):=by omega
    have i3:(0:Int)≤(at_:Int):=by omega
    have i4:s[at_]=z:=C;have P:((z.toNat:Int)==48)=true:=by
     rw[B]at u;have U:z=48:=Option.some.inj u;subst U;rfl
    clear a f t u;go_wp2_with(refine ai rfl 270 (.tmp 6) _ rfl g1 (bp ⟨0,at_,3⟩) rfl rfl _ _ K.out cg rfl (dh _) ?_);intro D g k;have v:=af g;have y:Hid (Fr ag w D):=L.out.aw k (fun i I e=>by have O:i=g1:=e;have:=M;unfold Sz at this;omega);clear g k;go_wp2;refine bodyPost_ret (bU _ _ g1 (bp ⟨0,at_,3⟩) _ rfl rfl v.out rfl) rfl ?_;rw[c.out];exact⟨rfl,y.out⟩
   by_cases hm:6<ds.length
   ·have c:Hid (cU count at_ l=(⟨0,at_,2⟩,at_)):=by simp only[Hid];rw[p.out,if_neg a,if_neg f,if_neg t,if_neg u,if_pos hm]
    have m:((count:Int)==8)=false:=by rw[beq_eq_false_iff_ne];have:=a;omega
    have E:((at_:Int)==(s.size:Int))=false:=by rw[beq_eq_false_iff_ne];have:=o.out.1;have G:l.length≠0:=fun h=>f (List.length_eq_zero_iff.1 h);omega
    have H:((q:Int)==(at_:Int))=false:=by rw[beq_eq_false_iff_ne];have:=F.out;have G:ds.length≠0:=fun h=>t (List.length_eq_zero_iff.1 h);omega
    obtain⟨z,A,B,C⟩:=o.out.2 (fun h=>f h);have i1:at_<s.size:=A;have i2:(at_:Int)<(s.size:Int):=by omega
    have i3:(0:Int)≤(at_:Int):=by omega
    have i4:s[at_]=z:=C;have P:((z.toNat:Int)==48)=false:=by
     rw[B]at u;rw[beq_eq_false_iff_ne];intro h;apply u;have:z=48:=by
      apply UInt8.toNat_inj.1;have Q:(48:UInt8).toNat=48:=rfl;omega
     rw[this]
    have V:decide (6<(q:Int)-(at_:Int))=true:=de (by have:=F.out;omega);clear a f t u hm;go_wp2_with(refine ai rfl 270 (.tmp 6) _ rfl g1 (bp ⟨0,at_,2⟩) rfl rfl _ _ K.out cg rfl (dh _) ?_);intro D g k;have v:=af g;have y:Hid (Fr ag w D):=L.out.aw k (fun i I e=>by have O:i=g1:=e;have:=M;unfold Sz at this;omega);clear g k;go_wp2;refine bodyPost_ret (bU _ _ g1 (bp ⟨0,at_,2⟩) _ rfl rfl v.out rfl) rfl ?_;rw[c.out];exact⟨rfl,y.out⟩
   have c:Hid (cU count at_ l=(⟨fi ds,at_,0⟩,at_+ds.length)):=by simp only[Hid];rw[p.out,if_neg a,if_neg f,if_neg t,if_neg u,if_neg hm]
   have m:((count:Int)==8)=false:=by rw[beq_eq_false_iff_ne];have:=a;omega
   have E:((at_:Int)==(s.size:Int))=false:=by rw[beq_eq_false_iff_ne];have:=o.out.1;have G:l.length≠0:=fun h=>f (List.length_eq_zero_iff.1 h);omega
   have H:((q:Int)==(at_:Int))=false:=by rw[beq_eq_false_iff_ne];have:=F.out;have G:ds.length≠0:=fun h=>t (List.length_eq_zero_iff.1 h);omega
   obtain⟨z,A,B,C⟩:=o.out.2 (fun h=>f h);have i1:at_<s.size:=A;have i2:(at_:Int)<(s.size:Int):=by omega
   have i3:(0:Int)≤(at_:Int):=by omega
   have i4:s[at_]=z:=C;have P:((z.toNat:Int)==48)=false:=by
    rw[B]at u;rw[beq_eq_false_iff_ne];intro h;apply u;have:z=48:=by
     apply UInt8.toNat_inj.1;have Q:(48:UInt8).toNat=48:=rfl;omega
    rw[this]
   have V:decide (6<(q:Int)-(at_:Int))=false:=cD (by have:=F.out;omega);clear a f t u hm;go_wp2_with(refine ai rfl 270 (.tmp 6) _ rfl g1 (bp ⟨fi ds,at_,0⟩) rfl rfl _ _ K.out cg rfl (dh _) ?_);intro D g k;have v:=af g;have y:Hid (Fr ag w D):=L.out.aw k (fun i I e=>by have O:i=g1:=e;have:=M;unfold Sz at this;omega);clear g k;go_wp2;refine bodyPost_ret (bU _ _ g1 (bp ⟨fi ds,at_,0⟩) _ rfl rfl v.out rfl) rfl ?_;rw[c.out];refine⟨?_,y.out⟩;rw[←F.out];rfl
  ·clear W;have aD:(q:Int)<(s.size:Int):=by omega
   have aF:¬(q:Int)-(at_:Int)≤6:=by have:=F.out;omega
   clear Q;have p:Hid (cU count at_ l=if count=8 then(⟨0,at_,9⟩,at_)else if l=[]then(⟨0,at_,4⟩,at_)else if ds=[]then(⟨0,at_,6⟩,at_)else if l[0]? =some 48 then(⟨0,at_,3⟩,at_)else if 6<ds.length then(⟨0,at_,2⟩,at_)else(⟨fi ds,at_,0⟩,at_+ds.length)):=by simp only[Hid];rw[ab.out];rfl
   by_cases a:count=8
   ·have c:Hid (cU count at_ l=(⟨0,at_,9⟩,at_)):=by simp only[Hid];rw[p.out,if_pos a]
    have m:((count:Int)==8)=true:=by rw[beq_iff_eq];have:=a;omega
    clear a;go_wp2_with(refine ai rfl 270 (.tmp 6) _ rfl g1 (bp ⟨0,at_,9⟩) rfl rfl _ _ K.out cg rfl (dh _) ?_);intro D g k;have v:=af g;have y:Hid (Fr ag w D):=L.out.aw k (fun i I e=>by have O:i=g1:=e;have:=M;unfold Sz at this;omega);clear g k;go_wp2;refine bodyPost_ret (bU _ _ g1 (bp ⟨0,at_,9⟩) _ rfl rfl v.out rfl) rfl ?_;rw[c.out];exact⟨rfl,y.out⟩
   by_cases f:l=[]
   ·have c:Hid (cU count at_ l=(⟨0,at_,4⟩,at_)):=by simp only[Hid];rw[p.out,if_neg a,if_pos f]
    have m:((count:Int)==8)=false:=by rw[beq_eq_false_iff_ne];have:=a;omega
    have E:((at_:Int)==(s.size:Int))=true:=by rw[beq_iff_eq];have:=o.out.1;have G:l.length=0:=(by simp[f]);omega
    clear a f;go_wp2_with(refine ai rfl 270 (.tmp 6) _ rfl g1 (bp ⟨0,at_,4⟩) rfl rfl _ _ K.out cg rfl (dh _) ?_);intro D g k;have v:=af g;have y:Hid (Fr ag w D):=L.out.aw k (fun i I e=>by have O:i=g1:=e;have:=M;unfold Sz at this;omega);clear g k;go_wp2;refine bodyPost_ret (bU _ _ g1 (bp ⟨0,at_,4⟩) _ rfl rfl v.out rfl) rfl ?_;rw[c.out];exact⟨rfl,y.out⟩
   by_cases t:ds=[]
   ·have c:Hid (cU count at_ l=(⟨0,at_,6⟩,at_)):=by simp only[Hid];rw[p.out,if_neg a,if_neg f,if_pos t]
    have m:((count:Int)==8)=false:=by rw[beq_eq_false_iff_ne];have:=a;omega
    have E:((at_:Int)==(s.size:Int))=false:=by rw[beq_eq_false_iff_ne];have:=o.out.1;have G:l.length≠0:=fun h=>f (List.length_eq_zero_iff.1 h);omega
    have H:((q:Int)==(at_:Int))=true:=by rw[beq_iff_eq];have:=F.out;have G:ds.length=0:=(by simp[t]);omega
    clear a f t;go_wp2_with(refine ai rfl 270 (.tmp 6) _ rfl g1 (bp ⟨0,at_,6⟩) rfl rfl _ _ K.out cg rfl (dh _) ?_);intro D g k;have v:=af g;have y:Hid (Fr ag w D):=L.out.aw k (fun i I e=>by have O:i=g1:=e;have:=M;unfold Sz at this;omega);clear g k;go_wp2;refine bodyPost_ret (bU _ _ g1 (bp ⟨0,at_,6⟩) _ rfl rfl v.out rfl) rfl ?_;rw[c.out];exact⟨rfl,y.out⟩
   by_cases u:l[0]? =some 48
   ·have c:Hid (cU count at_ l=(⟨0,at_,3⟩,at_)):=by simp only[Hid];rw[p.out,if_neg a,if_neg f,if_neg t,if_pos u]
    have m:((count:Int)==8)=false:=by rw[beq_eq_false_iff_ne];have:=a;omega
    have E:((at_:Int)==(s.size:Int))=false:=by rw[beq_eq_false_iff_ne];have:=o.out.1;have G:l.length≠0:=fun h=>f (List.length_eq_zero_iff.1 h);omega
    have H:((q:Int)==(at_:Int))=false:=by rw[beq_eq_false_iff_ne];have:=F.out;have G:ds.length≠0:=fun h=>t (List.length_eq_zero_iff.1 h);omega
    obtain⟨z,A,B,C⟩:=o.out.2 (fun h=>f h);have i1:at_<s.size:=A;have i2:(at_:Int)<(s.size:Int):=by omega
    have i3:(0:Int)≤(at_:Int):=by omega
    have i4:s[at_]=z:=C;have P:((z.toNat:Int)==48)=true:=by
     rw[B]at u;have U:z=48:=Option.some.inj u;subst U;rfl
    clear a f t u;go_wp2_with(refine ai rfl 270 (.tmp 6) _ rfl g1 (bp ⟨0,at_,3⟩) rfl rfl _ _ K.out cg rfl (dh _) ?_);intro D g k;have v:=af g;have y:Hid (Fr ag w D):=L.out.aw k (fun i I e=>by have O:i=g1:=e;have:=M;unfold Sz at this;omega);clear g k;go_wp2;refine bodyPost_ret (bU _ _ g1 (bp ⟨0,at_,3⟩) _ rfl rfl v.out rfl) rfl ?_;rw[c.out];exact⟨rfl,y.out⟩
   by_cases hm:6<ds.length
   ·have c:Hid (cU count at_ l=(⟨0,at_,2⟩,at_)):=by simp only[Hid];rw[p.out,if_neg a,if_neg f,if_neg t,if_neg u,if_pos hm]
    have m:((count:Int)==8)=false:=by rw[beq_eq_false_iff_ne];have:=a;omega
    have E:((at_:Int)==(s.size:Int))=false:=by rw[beq_eq_false_iff_ne];have:=o.out.1;have G:l.length≠0:=fun h=>f (List.length_eq_zero_iff.1 h);omega
    have H:((q:Int)==(at_:Int))=false:=by rw[beq_eq_false_iff_ne];have:=F.out;have G:ds.length≠0:=fun h=>t (List.length_eq_zero_iff.1 h);omega
    obtain⟨z,A,B,C⟩:=o.out.2 (fun h=>f h);have i1:at_<s.size:=A;have i2:(at_:Int)<(s.size:Int):=by omega
    have i3:(0:Int)≤(at_:Int):=by omega
    have i4:s[at_]=z:=C;have P:((z.toNat:Int)==48)=false:=by
     rw[B]at u;rw[beq_eq_false_iff_ne];intro h;apply u;have:z=48:=by
      apply UInt8.toNat_inj.1;have Q:(48:UInt8).toNat=48:=rfl;omega
     rw[this]
    have V:decide (6<(q:Int)-(at_:Int))=true:=de (by have:=F.out;omega);clear a f t u hm;go_wp2_with(refine ai rfl 270 (.tmp 6) _ rfl g1 (bp ⟨0,at_,2⟩) rfl rfl _ _ K.out cg rfl (dh _) ?_);intro D g k;have v:=af g;have y:Hid (Fr ag w D):=L.out.aw k (fun i I e=>by have O:i=g1:=e;have:=M;unfold Sz at this;omega);clear g k;go_wp2;refine bodyPost_ret (bU _ _ g1 (bp ⟨0,at_,2⟩) _ rfl rfl v.out rfl) rfl ?_;rw[c.out];exact⟨rfl,y.out⟩
   have c:Hid (cU count at_ l=(⟨fi ds,at_,0⟩,at_+ds.length)):=by simp only[Hid];rw[p.out,if_neg a,if_neg f,if_neg t,if_neg u,if_neg hm]
   have m:((count:Int)==8)=false:=by rw[beq_eq_false_iff_ne];have:=a;omega
   have E:((at_:Int)==(s.size:Int))=false:=by rw[beq_eq_false_iff_ne];have:=o.out.1;have G:l.length≠0:=fun h=>f (List.length_eq_zero_iff.1 h);omega
   have H:((q:Int)==(at_:Int))=false:=by rw[beq_eq_false_iff_ne];have:=F.out;have G:ds.length≠0:=fun h=>t (List.length_eq_zero_iff.1 h);omega
   obtain⟨z,A,B,C⟩:=o.out.2 (fun h=>f h);have i1:at_<s.size:=A;have i2:(at_:Int)<(s.size:Int):=by omega
   have i3:(0:Int)≤(at_:Int):=by omega
   have i4:s[at_]=z:=C;have P:((z.toNat:Int)==48)=false:=by
    rw[B]at u;rw[beq_eq_false_iff_ne];intro h;apply u;have:z=48:=by
     apply UInt8.toNat_inj.1;have Q:(48:UInt8).toNat=48:=rfl;omega
    rw[this]
   have V:decide (6<(q:Int)-(at_:Int))=false:=cD (by have:=F.out;omega);clear a f t u hm;go_wp2_with(refine ai rfl 270 (.tmp 6) _ rfl g1 (bp ⟨fi ds,at_,0⟩) rfl rfl _ _ K.out cg rfl (dh _) ?_);intro D g k;have v:=af g;have y:Hid (Fr ag w D):=L.out.aw k (fun i I e=>by have O:i=g1:=e;have:=M;unfold Sz at this;omega);clear g k;go_wp2;refine bodyPost_ret (bU _ _ g1 (bp ⟨fi ds,at_,0⟩) _ rfl rfl v.out rfl) rfl ?_;rw[c.out];refine⟨?_,y.out⟩;rw[←F.out];rfl
  ·clear W;have aD:(q:Int)<(s.size:Int):=by omega
   have aF:(q:Int)-(at_:Int)≤6:=by have:=F.out;omega
   have aU:(0:Int)≤(q:Int):=by omega
   have aV:s[q]=b:=R;have t4:mG b=false:=S;clear R S Q;have p:Hid (cU count at_ l=if count=8 then(⟨0,at_,9⟩,at_)else if l=[]then(⟨0,at_,4⟩,at_)else if ds=[]then(⟨0,at_,6⟩,at_)else if l[0]? =some 48 then(⟨0,at_,3⟩,at_)else if 6<ds.length then(⟨0,at_,2⟩,at_)else(⟨fi ds,at_,0⟩,at_+ds.length)):=by simp only[Hid];rw[ab.out];rfl
   by_cases a:count=8
   ·have c:Hid (cU count at_ l=(⟨0,at_,9⟩,at_)):=by simp only[Hid];rw[p.out,if_pos a]
    have m:((count:Int)==8)=true:=by rw[beq_iff_eq];have:=a;omega
    clear a;go_wp2_with fail;refine(Z.out b _).mono ?_;rintro e w'⟨rfl,rfl⟩;rw[t4];go_wp2_with(refine ai rfl 270 (.tmp 6) _ rfl g1 (bp ⟨0,at_,9⟩) rfl rfl _ _ K.out cg rfl (dh _) ?_);intro D g k;have v:=af g;have y:Hid (Fr ag w D):=L.out.aw k (fun i I e=>by have O:i=g1:=e;have:=M;unfold Sz at this;omega);clear g k;go_wp2;refine bodyPost_ret (bU _ _ g1 (bp ⟨0,at_,9⟩) _ rfl rfl v.out rfl) rfl ?_;rw[c.out];exact⟨rfl,y.out⟩
   by_cases f:l=[]
   ·have c:Hid (cU count at_ l=(⟨0,at_,4⟩,at_)):=by simp only[Hid];rw[p.out,if_neg a,if_pos f]
    have m:((count:Int)==8)=false:=by rw[beq_eq_false_iff_ne];have:=a;omega
    have E:((at_:Int)==(s.size:Int))=true:=by rw[beq_iff_eq];have:=o.out.1;have G:l.length=0:=(by simp[f]);omega
    clear a f;go_wp2_with fail;refine(Z.out b _).mono ?_;rintro e w'⟨rfl,rfl⟩;rw[t4];go_wp2_with(refine ai rfl 270 (.tmp 6) _ rfl g1 (bp ⟨0,at_,4⟩) rfl rfl _ _ K.out cg rfl (dh _) ?_);intro D g k;have v:=af g;have y:Hid (Fr ag w D):=L.out.aw k (fun i I e=>by have O:i=g1:=e;have:=M;unfold Sz at this;omega);clear g k;go_wp2;refine bodyPost_ret (bU _ _ g1 (bp ⟨0,at_,4⟩) _ rfl rfl v.out rfl) rfl ?_;rw[c.out];exact⟨rfl,y.out⟩
   by_cases t:ds=[]
   ·have c:Hid (cU count at_ l=(⟨0,at_,6⟩,at_)):=by simp only[Hid];rw[p.out,if_neg a,if_neg f,if_pos t]
    have m:((count:Int)==8)=false:=by rw[beq_eq_false_iff_ne];have:=a;omega
    have E:((at_:Int)==(s.size:Int))=false:=by rw[beq_eq_false_iff_ne];have:=o.out.1;have G:l.length≠0:=fun h=>f (List.length_eq_zero_iff.1 h);omega
    have H:((q:Int)==(at_:Int))=true:=by rw[beq_iff_eq];have:=F.out;have G:ds.length=0:=(by simp[t]);omega
    clear a f t;go_wp2_with fail;refine(Z.out b _).mono ?_;rintro e w'⟨rfl,rfl⟩;rw[t4];go_wp2_with(refine ai rfl 270 (.tmp 6) _ rfl g1 (bp ⟨0,at_,6⟩) rfl rfl _ _ K.out cg rfl (dh _) ?_);intro D g k;have v:=af g;have y:Hid (Fr ag w D):=L.out.aw k (fun i I e=>by have O:i=g1:=e;have:=M;unfold Sz at this;omega);clear g k;go_wp2;refine bodyPost_ret (bU _ _ g1 (bp ⟨0,at_,6⟩) _ rfl rfl v.out rfl) rfl ?_;rw[c.out];exact⟨rfl,y.out⟩
   by_cases u:l[0]? =some 48
   ·have c:Hid (cU count at_ l=(⟨0,at_,3⟩,at_)):=by simp only[Hid];rw[p.out,if_neg a,if_neg f,if_neg t,if_pos u]
    have m:((count:Int)==8)=false:=by rw[beq_eq_false_iff_ne];have:=a;omega
    have E:((at_:Int)==(s.size:Int))=false:=by rw[beq_eq_false_iff_ne];have:=o.out.1;have G:l.length≠0:=fun h=>f (List.length_eq_zero_iff.1 h);omega
    have H:((q:Int)==(at_:Int))=false:=by rw[beq_eq_false_iff_ne];have:=F.out;have G:ds.length≠0:=fun h=>t (List.length_eq_zero_iff.1 h);omega
    obtain⟨z,A,B,C⟩:=o.out.2 (fun h=>f h);have i1:at_<s.size:=A;have i2:(at_:Int)<(s.size:Int):=by omega
    have i3:(0:Int)≤(at_:Int):=by omega
    have i4:s[at_]=z:=C;have P:((z.toNat:Int)==48)=true:=by
     rw[B]at u;have U:z=48:=Option.some.inj u;subst U;rfl
    clear a f t u;go_wp2_with fail;refine(Z.out b _).mono ?_;rintro e w'⟨rfl,rfl⟩;rw[t4];go_wp2_with(refine ai rfl 270 (.tmp 6) _ rfl g1 (bp ⟨0,at_,3⟩) rfl rfl _ _ K.out cg rfl (dh _) ?_);intro D g k;have v:=af g;have y:Hid (Fr ag w D):=L.out.aw k (fun i I e=>by have O:i=g1:=e;have:=M;unfold Sz at this;omega);clear g k;go_wp2;refine bodyPost_ret (bU _ _ g1 (bp ⟨0,at_,3⟩) _ rfl rfl v.out rfl) rfl ?_;rw[c.out];exact⟨rfl,y.out⟩
   by_cases hm:6<ds.length
   ·have c:Hid (cU count at_ l=(⟨0,at_,2⟩,at_)):=by simp only[Hid];rw[p.out,if_neg a,if_neg f,if_neg t,if_neg u,if_pos hm]
    have m:((count:Int)==8)=false:=by rw[beq_eq_false_iff_ne];have:=a;omega
    have E:((at_:Int)==(s.size:Int))=false:=by rw[beq_eq_false_iff_ne];have:=o.out.1;have G:l.length≠0:=fun h=>f (List.length_eq_zero_iff.1 h);omega
    have H:((q:Int)==(at_:Int))=false:=by rw[beq_eq_false_iff_ne];have:=F.out;have G:ds.length≠0:=fun h=>t (List.length_eq_zero_iff.1 h);omega
    obtain⟨z,A,B,C⟩:=o.out.2 (fun h=>f h);have i1:at_<s.size:=A;have i2:(at_:Int)<(s.size:Int):=by omega
    have i3:(0:Int)≤(at_:Int):=by omega
    have i4:s[at_]=z:=C;have P:((z.toNat:Int)==48)=false:=by
     rw[B]at u;rw[beq_eq_false_iff_ne];intro h;apply u;have:z=48:=by
      apply UInt8.toNat_inj.1;have Q:(48:UInt8).toNat=48:=rfl;omega
     rw[this]
    have V:decide (6<(q:Int)-(at_:Int))=true:=de (by have:=F.out;omega);clear a f t u hm;go_wp2_with fail;refine(Z.out b _).mono ?_;rintro e w'⟨rfl,rfl⟩;rw[t4];go_wp2_with(refine ai rfl 270 (.tmp 6) _ rfl g1 (bp ⟨0,at_,2⟩) rfl rfl _ _ K.out cg rfl (dh _) ?_);intro D g k;have v:=af g;have y:Hid (Fr ag w D):=L.out.aw k (fun i I e=>by have O:i=g1:=e;have:=M;unfold Sz at this;omega);clear g k;go_wp2;refine bodyPost_ret (bU _ _ g1 (bp ⟨0,at_,2⟩) _ rfl rfl v.out rfl) rfl ?_;rw[c.out];exact⟨rfl,y.out⟩
   have c:Hid (cU count at_ l=(⟨fi ds,at_,0⟩,at_+ds.length)):=by simp only[Hid];rw[p.out,if_neg a,if_neg f,if_neg t,if_neg u,if_neg hm]
   have m:((count:Int)==8)=false:=by rw[beq_eq_false_iff_ne];have:=a;omega
   have E:((at_:Int)==(s.size:Int))=false:=by rw[beq_eq_false_iff_ne];have:=o.out.1;have G:l.length≠0:=fun h=>f (List.length_eq_zero_iff.1 h);omega
   have H:((q:Int)==(at_:Int))=false:=by rw[beq_eq_false_iff_ne];have:=F.out;have G:ds.length≠0:=fun h=>t (List.length_eq_zero_iff.1 h);omega
   obtain⟨z,A,B,C⟩:=o.out.2 (fun h=>f h);have i1:at_<s.size:=A;have i2:(at_:Int)<(s.size:Int):=by omega
   have i3:(0:Int)≤(at_:Int):=by omega
   have i4:s[at_]=z:=C;have P:((z.toNat:Int)==48)=false:=by
    rw[B]at u;rw[beq_eq_false_iff_ne];intro h;apply u;have:z=48:=by
     apply UInt8.toNat_inj.1;have Q:(48:UInt8).toNat=48:=rfl;omega
    rw[this]
   have V:decide (6<(q:Int)-(at_:Int))=false:=cD (by have:=F.out;omega);clear a f t u hm;go_wp2_with fail;refine(Z.out b _).mono ?_;rintro e w'⟨rfl,rfl⟩;rw[t4];go_wp2_with(refine ai rfl 270 (.tmp 6) _ rfl g1 (bp ⟨fi ds,at_,0⟩) rfl rfl _ _ K.out cg rfl (dh _) ?_);intro D g k;have v:=af g;have y:Hid (Fr ag w D):=L.out.aw k (fun i I e=>by have O:i=g1:=e;have:=M;unfold Sz at this;omega);clear g k;go_wp2;refine bodyPost_ret (bU _ _ g1 (bp ⟨fi ds,at_,0⟩) _ rfl rfl v.out rfl) rfl ?_;rw[c.out];refine⟨?_,y.out⟩;rw[←F.out];rfl
end Go.Proofs.YtphjagkehiklkaaGreatDoor
namespace Go.Proofs.YtphjagkehiklkaaGreatDoor
open Go.RowKit Go.Shelf
attribute[local go_sem]Oper.semAt_some
theorem x9{n:Nat}{P:Program}{row:String}{args:Array Value}{w:World}{a:Value→World→Prop}(h:Rows P row args w a):RowsIn Fence.wide n P row args w a:=
 fun c cs _=>let⟨v,w',q,s⟩:=h c cs;⟨v,w',q,stepsIn_wide.2 s⟩
theorem Cm{n:Nat}{P:Program}{q:Oper}{a:Act}{w:World}{K j:Act→World→Prop}{Q Q':Exit→Act→World→Prop}(l:iD q=true)(b:∀a w,K a w→j a w)(g:∀e a w,Q e a w→Q' e a w)(h:q.wp P a w K Q):
  q.wpIn Fence.wide n P a w j Q':=by
 refine⟨fun _ _=>trivial,?_⟩;rw[Oper.semAt_plain _ _ _ (uc l)];unfold Oper.wp at h;generalize(execOp a.eval q).run P w=x at*;have c:(Fence.wide.depth.isSome=true→1≤n):=fun h=>(by cases h);rcases x with⟨x,w'⟩|⟨x,w'⟩
 ·cases x with
  |value v=>exact b _ _ h
  |skip=>exact b _ _ h
  |defer d=>exact b _ _ h
  |enter f args=>
   refine⟨c,callsIn_wide.2 (Calls.mono h fun e i he=>?_)⟩;cases e with
   |returned v=>exact b _ _ he
   |panicked ch=>exact g _ _ _ he
   |outgrown=>obtain⟨k,w3,m⟩:=he;exact⟨k,w3,g _ _ _ m⟩
  |row p args=>exact⟨c,x9 (h.mono fun v i o=>b _ _ o)⟩
  |_=>exact absurd h id
 ·cases x<;>first|exact g _ _ _ h|exact absurd h id
theorem lk{n:Nat}{P:Program}{ops:Array Oper}{Q:Exit→Act→World→Prop}:∀{l:List Oper}{a:Act}{w:World},(l.all iD)=true→wpList P ops (fun e a w=>Q e a w∧e= .normal) l a w→wpListIn Fence.wide n P ops Q l a w
 |[],_,_,_,h=>h.1
 |g::rest,a,w,b,h=>by
  rw[List.all_cons,Bool.and_eq_true]at b;unfold wpList at h;unfold wpListIn;split
  ·rename_i hw;rw[if_pos hw]at h;rcases h with h|⟨_,f,w',c⟩;·exact Cm b.1 (fun a w d=>lk b.2 d) (fun _ _ _ c=>c.1) h
   ·exact absurd c.2 (by simp)
  ·rename_i hw;rw[if_neg hw]at h;exact⟨fun _ _=>trivial,lk b.2 h⟩
theorem pd{n:Nat}{P:Program}{ops:Array Oper}{Q:Exit→Act→World→Prop}{d:Oper}{l:List Oper}{a:Act}{w:World}(f:Op→Bool)(b:f d.op=true)(c:((d::l).all iD)=true)(h:wpList P ops (fun e a w=>Q e a w∧e= .normal) (d::l) a w):wpListIn Fence.wide n P ops Q (d::l) a w:=
 lk c h
theorem Fe(s:ByteArray)(k at_:Nat)(u:k≤8)(t:at_≤s.size)(P:Part)(E:Nat)(a:cU k at_ (s.toList.drop at_)=(P,E)):
  (P.e≠0∧dx (8-k) at_ (s.toList.drop at_)=[P])∨(P.e=0∧k<8∧at_≤E∧E≤s.size∧
   ((E=s.size∧dx (8-k) at_ (s.toList.drop at_)=[P])∨(∃b,∃h:E<s.size,s[E]=b∧b.toNat≠46∧dx (8-k) at_ (s.toList.drop at_)=[P,⟨0,E,6⟩])∨
    (∃b,∃h:E<s.size,s[E]=b∧b.toNat=46∧dx (8-k) at_ (s.toList.drop at_)=P::dx (8-(k+1)) (E+1) (s.toList.drop (E+1))))):=by
 have hlen:(s.toList.drop at_).length=s.size-at_:=by rw[List.length_drop,ft]
 have r:=lM 7 (s.toList.drop at_);have f:∀i b,(s.toList.drop at_)[i]? =some b→∃h:at_+i<s.size,s[at_+i]=b:=fun i b d=>by
  rw[List.getElem?_drop]at d;exact Ap d
 have c:∀i,(s.toList.drop at_).drop i=s.toList.drop (at_+i):=fun i=>by rw[List.drop_drop]
 generalize s.toList.drop at_=l at*;by_cases o:k=8;·subst o;simp only[cU,if_true,Prod.mk.injEq]at a;obtain⟨rfl,rfl⟩:=a;exact .inl ⟨by simp,rfl⟩
 ·have p:8-k=(7-k)+1:=by omega
  rw[p,dx];simp only[show 7-(7-k)=k by omega,a];by_cases he:P.e=0
  ·rw[if_neg (by simp[he])];have j:E=at_+(dC 7 l).length:=by
    simp only[cU]at a;rw[if_neg o]at a;split at a;·simp only[Prod.mk.injEq]at a;rw[←a.1]at he;simp at he
    ·split at a;·simp only[Prod.mk.injEq]at a;rw[←a.1]at he;simp at he
     ·split at a;·simp only[Prod.mk.injEq]at a;rw[←a.1]at he;simp at he
      ·split at a;·simp only[Prod.mk.injEq]at a;rw[←a.1]at he;simp at he
       ·simp only[Prod.mk.injEq]at a;exact a.2.symm
   refine .inr ⟨he,by omega,by omega,by omega,?_⟩;by_cases m:l.length≤(dC 7 l).length;·rw[if_pos m];exact .inl ⟨by omega,rfl⟩
   ·rw[if_neg m];obtain⟨b,d⟩:∃b,l[(dC 7 l).length]? =some b:=⟨_,List.getElem?_eq_getElem (by omega)⟩;obtain⟨q,n⟩:=f _ _ d;rw[d];by_cases g:b=46
    ·rw[if_neg (by simp[g])];refine .inr (.inr ⟨b,by omega,?_,by rw[g];rfl,?_⟩);·subst j;exact n
     ·rw[c,←j,show at_+((dC 7 l).length+1)=E+1 by omega,show 7-k=8-(k+1)by omega]
    ·rw[if_pos (by simpa using g)];refine .inr (.inl ⟨b,by omega,?_,?_,?_⟩);·subst j;exact n
     ·intro h;exact g (UInt8.toNat_inj.1 h)
     ·rw[j]
  ·rw[if_pos he];exact .inl ⟨he,rfl⟩
def KP(A B:World):Prop:=∀g t cs,t=9∨t=270→aq A g t cs→aq B g t cs
theorem KP.refl(A:World):KP A A:=fun _ _ _ _ h=>h
theorem KP.trans{A B C:World}(h:KP A B)(k:KP B C):KP A C:=fun g t cs a b=>k g t cs a (h g t cs a b)
theorem KP.fr{A B:World}{T:Nat→Prop}(h:Fr T A B)(b:∀g t cs,t=9∨t=270→aq A g t cs→¬T g):KP A B:=fun g t cs c a=>a.fr h (b g t cs c a)
theorem KP.below{A B:World}(h:Below A.heap.size A B):KP A B:=fun g _ _ _ a=>(h.block g a.lt).trans a
def Cl:Op→Bool
 | .load t _=>t==9
 |_=>false
theorem so(m B:Nat)(s:ByteArray)(w:World)(aJ:s.size≤1099511627776)(aF:aq w B 9 #[.string s]):
  SeqStopsK Fence.wide m Tryz.prog 182 #[.pointer (some ⟨B,0,none⟩)] (fun p:Part=>#[Value.agg #[.int .i64 p.ord, .int .i64 p.at_, .int .i64 p.e]]) KP (fun aX=>aX=gJ s) (fun pre=>pre<+:gJ s) (gJ s).length w:=by
 intro l J aZ W aH aG _ aI aD;have N:∀k:Nat,(Fence.wide.depth.isSome=true→1≤k):=fun k h=>by cases h
 have aN:=af aG;have ay:=af aI;have ax:=af aJ;have HB:Hid (aq W B 9 #[.string s]):=KP.below aH _ _ _ (.inl rfl) aF;have b0:W.cell? ⟨B,0,none⟩=some (.string s):=HB.out.cell 0;have ad:=af aD;clear aH aG aI aD aJ aF;by_cases C:s.size=0
 ·have o:Hid (gJ s=[]):=by simp only[Hid];rw[gJ,if_pos C]
  have al:s=ByteArray.empty:=by
   cases s with
   |mk d=>
    have aQ:d.size=0:=C;rw[show d=#[]from Array.eq_empty_of_size_eq_zero aQ];rfl
  subst al;clear C;refine callsIn_of_wp Tryz.func182 rfl trivial ?_ rfl;simp only[Tryz.ntmps182,List.size_toArray,List.length_cons,List.length_nil,Nat.reduceAdd,Nat.reduceSub,Array.replicate_succ,Array.replicate_zero,List.push_toArray,List.append_toArray,List.nil_append,List.cons_append];gi_wp2;refine wpIn_loop_once ?_;gi_wp2;go_end0;exact⟨⟨_,rfl⟩, .inl ⟨_,o.out.symm,ad.out⟩⟩
 ·have o:Hid (gJ s=dx 8 0 s.toList):=by simp only[Hid];rw[gJ,if_neg C]
  have aW:s.toList.isEmpty=false:=by
   rw[List.isEmpty_eq_false_iff];intro h;have:=congrArg List.length h;rw[ft]at this;exact C (by simpa using this)
  have ar:=af (fun at_ k w U ah=>Er s at_ k w U ax.out ah);clear C;refine callsIn_of_wp Tryz.func182 rfl trivial ?_ rfl;simp only[Tryz.ntmps182,List.size_toArray,List.length_cons,List.length_nil,Nat.reduceAdd,Nat.reduceSub,Array.replicate_succ,Array.replicate_zero,List.push_toArray,List.append_toArray,List.nil_append,List.cons_append];gi_wp2;gi_loopw[3,4](fun i n wr=>∃(k at_:Nat)(pre:List Part),k≤8∧at_≤s.size∧gJ s=pre++dx (8-k) at_ (s.toList.drop at_)∧pre.length=k∧i= .int .i64 (at_:Nat)∧n= .int .i64 (k:Nat)∧J pre wr∧KP W wr)(fun _ n _=>9-(intOf n).toNat);case atStart=>exact⟨0,0,[],by omega,by omega,by rw[o.out];rfl,rfl,rfl,rfl,ad.out,KP.refl _⟩
  case round=>
   obtain⟨k,at_,pre,X,V,R,Q,rfl,rfl,L,u⟩:=hrel;have F:=af L;have G:=af u;have a:=af R;have ac:=af Q;have aC:wr.cell? ⟨B,0,none⟩=some (.string s):=(u _ _ _ (.inl rfl) HB.out).cell 0;have t:=af (ar.out at_ k wr V X);obtain⟨P,E,v⟩:∃P E,cU k at_ (s.toList.drop at_)=(P,E):=⟨_,_,rfl⟩;have c:=af (Fe s k at_ X V P E v);rw[v]at t;have aY:=af V;have ab:=af X;clear L u R Q v ar b0 ad o V X;gi_wp2_with(refine pd Cl rfl (by kernel_rfl) ?_);go_wp2;gi_wp2_with(refine pd Cl rfl (by kernel_rfl) ?_);go_wp2_with fail;refine t.out.mono ?_;rintro e w1⟨rfl,f1⟩;have Z:=af f1;clear f1 aC t;go_wp2_with(refine an rfl 270 rfl (.agg oL) uQ oL rfl ?_);intro w2 ao;have au:=af (Z.out.trans ao.fr);have ap:=af ao.aE;have aO:Sz wr w1.heap.size:=Z.out.size;clear ao Z;generalize w1.heap.size=g1 at*;go_wp2_with(refine ai rfl 270 (.tmp 5) _ rfl g1 (bp P) rfl rfl _ _ ap.out cg rfl (dh _) ?_);intro w3 b3 f3;have aa:Hid (Fr ag wr w3):=au.out.aw f3 (fun i a2 e=>by have a1:i=g1:=e;have:=aO;unfold Sz at this;omega);have D:=af b3;clear b3 f3 au ap;go_wp2;have az:=af (aN.out pre wr w3 none F.out (Fr.L0 aa.out) (fun r e=>by cases e));have aA:=af (G.out.trans (KP.fr aa.out (fun _ _ _ _ _ x=>x)));have q:pre.length<(gJ s).length:=by
    rw[a.out,aS];have:0<(dx (8-k) at_ (s.toList.drop at_)).length:=by
     rcases c.out with⟨_,h⟩|⟨_,_,_,_,⟨_,h⟩|⟨_,_,_,_,h⟩|⟨_,_,_,_,h⟩⟩<;>(rw[h];simp)
    omega
   obtain⟨fn,tmps,assign,body,Y,M⟩:=ay.out pre P w3 az.out q;have H:=af M;have aU:w3.cell? ⟨g1,0,none⟩=some (.int .i64 P.ord):=D.out.cell 0;have aV:w3.cell? ⟨g1,1,none⟩=some (.int .i64 P.at_):=D.out.cell 1;have aK:w3.cell? ⟨g1,2,none⟩=some (.int .i64 P.e):=D.out.cell 2;clear M q az F G;gi_wp2;refine⟨N _,H.out.mono ?_⟩;clear H Y aU aV aK fn tmps assign body;rintro e A(⟨rfl,hJ4,y⟩|⟨rfl,S⟩)
   ·have z:=af hJ4;have aB:=af (aA.out.trans y);have aL:Hid (aq A g1 270 (bp P)):=y _ _ _ (.inr rfl) D.out;have aC:A.cell? ⟨B,0,none⟩=some (.string s):=(aB.out _ _ _ (.inl rfl) HB.out).cell 0;have aK:A.cell? ⟨g1,2,none⟩=some (.int .i64 P.e):=aL.out.cell 2;clear hJ4 y aA aa D;rcases c.out with⟨he,g⟩|⟨he,O,ak,I,aP⟩
    ·have t1:((P.e:Int)==0)=false:=by rw[beq_eq_false_iff_ne];omega
     have j:=af g;have aR:¬P.e=0:=he;clear c g he;gi_wp2;refine bodyPost_ret (results_none rfl _ _ _) rfl ?_;exact⟨⟨_,rfl⟩, .inl ⟨_,by rw[a.out,j.out],z.out⟩⟩
    ·have t1:((P.e:Int)==0)=true:=by rw[beq_iff_eq];omega
     have aM:Hid (E≤s.size):=I;have av:=af O;have aT:P.e=0:=he;clear he ak I O;rcases aP with⟨he,g⟩|⟨b,U,ah,aj,g⟩|⟨b,U,ah,aj,g⟩
     ·have t2:((E:Int)==(s.size:Int))=true:=by rw[beq_iff_eq];omega
      have j:=af g;clear c g he;gi_wp2;refine bodyPost_ret (results_none rfl _ _ _) rfl ?_;exact⟨⟨_,rfl⟩, .inl ⟨_,by rw[a.out,j.out],z.out⟩⟩
     ·have t2:((E:Int)==(s.size:Int))=false:=by rw[beq_eq_false_iff_ne];omega
      have t3:(E:Int)<(s.size:Int):=by omega
      have t4:(0:Int)≤(E:Int):=by omega
      have t5:((b.toNat:Int)==46)=false:=by rw[beq_eq_false_iff_ne];omega
      have j:=af g;have f:(pre++[P]).length<(gJ s).length:=by rw[a.out,j.out];simp
      obtain⟨fn,tmps,assign,body,Y,M⟩:=ay.out (pre++[P]) ⟨0,E,6⟩ A z.out f;have H:=af M;have am:(Instr.yield l #[.agg #[.int .i64 0, .int .i64 (E:Int), .int .i64 6]]).run Tryz.prog A= .ok (.round l fn tmps assign body) A:=Y;clear c g aj M f Y;gi_wp2;refine⟨N _,H.out.mono ?_⟩;clear H am;rintro e a0(⟨rfl,K,_⟩|⟨rfl,T⟩);·have ae:=af K;clear K;gi_wp2;refine bodyPost_ret (results_none rfl _ _ _) rfl ?_;exact⟨⟨_,rfl⟩, .inl ⟨_,by rw[a.out,j.out];simp,ae.out⟩⟩
      ·have ae:=af T;clear T;gi_wp2;refine bodyPost_ret (results_none rfl _ _ _) rfl ?_;exact⟨⟨_,rfl⟩, .inr ⟨_,by rw[a.out,j.out];simp,ae.out⟩⟩
     ·have t2:((E:Int)==(s.size:Int))=false:=by rw[beq_eq_false_iff_ne];omega
      have t3:(E:Int)<(s.size:Int):=by omega
      have t4:(0:Int)≤(E:Int):=by omega
      have t5:((b.toNat:Int)==46)=true:=by rw[beq_iff_eq];omega
      have t6:E≤1099511627776:=by have:=ax.out;omega
      have t7:k≤8:=ab.out;have j:=af g;have H1:=af U;clear c g aj;gi_wp2;go_roundw;case rel=>
       refine⟨k+1,E+1,pre++[P],by have:=av.out;omega,by have:=H1.out;omega,by rw[a.out,j.out];simp,by rw[aS,ac.out];rfl,by go_num,by go_num,z.out,aB.out⟩
      case measure=>have:=av.out;simp[intOf];omega
   ·have z:=af S;clear S;gi_wp2;refine bodyPost_ret (results_none rfl _ _ _) rfl ?_;refine⟨⟨_,rfl⟩, .inr ⟨_,?_,z.out⟩⟩;rw[a.out];rcases c.out with⟨_,h⟩|⟨_,_,_,_,⟨_,h⟩|⟨_,_,_,_,h⟩|⟨_,_,_,_,h⟩⟩<;>(rw[h];simp)
end Go.Proofs.YtphjagkehiklkaaGreatDoor
namespace Go.Proofs.YtphjagkehiklkaaGreatDoor
open Go.ChangeShapes Go.WideShapes Go.ChangeAt Go.RowKit Go.Deep
def Ew:List Int:=[1779033703,3144134277,1013904242,2773480762,1359893119,2600822924,528734635,1541459225]
def Cb:List Int:=tZ.map (fun n:Nat=>(n:Int))
structure aJ.j5(n:aJ):Prop where
 kind:-9223372036854775808≤n.kind∧n.kind≤9223372036854775807
 number:-9223372036854775808≤n.number∧n.number≤9223372036854775807
 index:-9223372036854775808≤n.index∧n.index≤9223372036854775807
 owner:n.owner.size≤9223372036854775807
 text:n.text.size≤9223372036854775807
structure CV.j5(c:CV):Prop where
 nm:c.nm.j5
 value:c.value.size≤9223372036854775807
theorem EX{H:Type}{enc:TypeId×Value→H}{w:World}{base:Nat}{sp:Nat→Bool}{held:Bool}{fuel:Nat}{l:List Value}{x:DataW H×List MemPlace}
  (h:DataW.trod enc Tryz.prog w base sp held fuel 245 l=some x):∃n:aJ,n.j5∧l=n.cells:=by
 obtain⟨p,q,_,rfl,a,c,b⟩:=DataW.trod_struct Tryz.underlying245 h;rw[Be]at a;match l,a with
 |[r,s,t,x3,u],_=>
  have g0:=b 0 _ rfl;have g1:=b 1 _ rfl;have g2:=b 2 _ rfl;have g3:=b 3 _ rfl;have g4:=b 4 _ rfl;match p,c with
  |[v,y,z,y3,y4],_=>
   simp[sM,sN]at g0 g1 g2 g3 g4;obtain⟨a0,d,rfl,b0⟩:=DataW.trod_int Tryz.underlying3 g0;obtain⟨o,e,rfl,b1⟩:=DataW.trod_string Tryz.underlying9 g1;obtain⟨a2,f,rfl,b2⟩:=DataW.trod_int Tryz.underlying3 g2;obtain⟨a3,g,rfl,b3⟩:=DataW.trod_int Tryz.underlying3 g3;obtain⟨a4,i,rfl,b4⟩:=DataW.trod_string Tryz.underlying9 g4;simp only[List.cons.injEq,and_true]at d e f g i;subst d e f g i;have j:=bounds_i64 b0;have k:=bounds_i64 b2;have m:=bounds_i64 b3;unfold maxLen at b1 b4;exact⟨⟨a0,o,a2,a3,a4⟩,⟨⟨j.1,j.2⟩,⟨k.1,k.2⟩,⟨m.1,m.2⟩,b1,b4⟩,rfl⟩
theorem Ms{H:Type}{enc:TypeId×Value→H}{w:World}{base:Nat}{sp:Nat→Bool}{held:Bool}{fuel:Nat}{l:List Value}{x:DataW H×List MemPlace}
  (h:DataW.trod enc Tryz.prog w base sp held fuel 247 l=some x):∃c:CV,c.j5∧l=c.cells:=by
 obtain⟨k,m,_,rfl,a,d,b⟩:=DataW.trod_struct Tryz.underlying247 h;rw[Gr]at a;match l,a with
 |[o,p,q,x3,r,s,t],_=>
  have g0:=b 0 _ rfl;have g1:=b 1 _ rfl;have g2:=b 2 _ rfl;match k,d with
  |[u,v,y],_=>
   simp[Be,sN,vF]at g0 g1 g2;obtain⟨n,j,i⟩:=EX g0;obtain⟨g,e,rfl,b1⟩:=DataW.trod_string Tryz.underlying9 g1;obtain⟨a2,f,rfl⟩:=DataW.trod_bool Tryz.underlying4 g2;simp only[List.cons.injEq,and_true]at e f;subst e f;unfold maxLen at b1;refine⟨⟨n,g,a2⟩,⟨j,b1⟩,?_⟩;rw[CV.cells,←i];rfl
theorem xb{H:Type}{enc:TypeId×Value→H}{w:World}{fuel:Nat}{a:Option Addr}{len cap:Nat}{x:DataW H×List MemPlace}
  (h:DataW.trod enc Tryz.prog w 0 (fun _=>true) true fuel 55 [.slice a len cap]=some x):
  ∃cs:List CV,CL w (Old w) a len cs∧(∀c∈cs,c.j5)∧len≤cap∧cap≤9223372036854775807:=by
 rcases open_slice Tryz.underlying55 h with⟨b,_⟩|⟨p,F,E,m,n,D,C,b,_,B,hm,g,_,o⟩;·simp only[List.cons.injEq,Value.slice.injEq,and_true]at b;obtain⟨rfl,rfl,rfl⟩:=b;exact⟨[],⟨Rd.none_,rfl⟩,by simp,Nat.le_refl _,Nat.zero_le _⟩
 ·simp only[List.cons.injEq,Value.slice.injEq,and_true]at b;obtain⟨rfl,rfl,rfl⟩:=b;simp only[if_true]at g;rw[Gr]at o;have f:∀i,i<len→∃c:CV,c.j5∧∀j u,c.cells[j]? =some u→w.cell? ((p.add (i*7)).add j)=some u:=by
   intro i z;obtain⟨cs',t,k⟩:=o i (by omega);obtain⟨c,y,e⟩:=Ms k;obtain⟨_,v,d⟩:=World.cells?_some t;refine⟨c,y,fun j u hu=>?_⟩;have A:j<7:=by
    have:=(List.getElem?_eq_some_iff.1 hu).1;simpa[CV.cells,aJ.cells]using this
   rw[d j A,←hu,←e]
  obtain⟨l,q,r,s⟩:=Ae CV.cells 7 CV.j5 (fun c=>c.eK) (by omega) f;exact⟨l,⟨s,q⟩,r,B,by unfold maxLen at hm;exact hm⟩
end Go.Proofs.YtphjagkehiklkaaGreatDoor
