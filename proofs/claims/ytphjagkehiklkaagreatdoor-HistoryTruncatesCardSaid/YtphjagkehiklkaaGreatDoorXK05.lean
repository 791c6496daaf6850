/- Texts. -/
import Derived.Test.YtphjagkehiklkaaGreatDoorXK04
set_option linter.unusedVariables false
set_option linter.unusedSimpArgs false
set_option maxRecDepth 100000
set_option maxHeartbeats 4000000
namespace Go.Proofs.YtphjagkehiklkaaGreatDoor
open Go.RowKit Go.Shelf
attribute[local go_sem]Oper.semAt_some
theorem Hh{P:Program}{Q:Exit→Act→World→Prop}{a:Act}{w:World}{l:List Oper}(n:Nat)(T:Nat→Prop)(f:List (Value→World→Prop))(ws:List (Nat×(World→Prop)))(b:World→Prop)(B:Nat→Nat→Bool)(z:oU l.toArray n=true)
  (v:fN l.toArray n B=true)(g:(gK B (ws.map (·.1))&&(ws.map (·.1)).all (fun p=>decide (p<n)))=true)
  (k:du T w f)(o:iX T w ws)(i:∀w' e,Fr T w w'→Fr ah w' e→b w'→b e)(s:b w.drew)
  (A:ig P l.toArray Q T w (fun u=>ar ((l.take n).map (·.dst)) 0 u a) (cm f) ws b B n 0 (l.take n))
  (q:∀u w',Fr T w w'→(∀j,j<n→cm f j (u j) w')→lQ ws b w'→wpList P l.toArray Q (l.drop n) (ar ((l.take n).map (·.dst)) 0 u a) w'):wpAny P .any l.toArray Q l.toArray.size (Array.replicate l.toArray.size false) a w.drew:=by
 have ok:=qd.of z;obtain⟨D,r⟩:=gH ((l.take n).map (·.dst)) 0 a;have d:HeadInv .any l.toArray n (Array.replicate l.toArray.size false):=
  ⟨by simp,fun j F _ c=>(by rw[getD_replicate_false]at c;cases c),fun t _ q=>getD_in (by simpa using q) (getD_replicate_false _ _)⟩;have y:ct (fun j=>!(Array.replicate l.toArray.size false).getD j false) n=n:=by
  have h:∀m,ct (fun j=>!(Array.replicate l.toArray.size false).getD j false) m=m:=by
   intro m;induction m with
   |zero=>rfl
   |succ m C=>rw[ct,C,getD_replicate_false];rfl
  exact h n
 have:=Jk (P:=P) (Q:=Q) (a:=a) ok v g k o i (by simpa using A) (by simpa using q) n _ D w.drew d y (az.drew) (by rw[kA ws b _ (fun x _=>getD_replicate_false _ _)];exact s) (fun j E c=>by rw[getD_replicate_false]at c;cases c);rw[show(l.toArray.toList.take n).map (·.dst)=(l.take n).map (·.dst)by simp,r,show n+(l.toArray.size-n)=l.toArray.size by have:=ok.le;omega]at this;exact this
theorem pk{r m:Nat}{P:Program}{id:Nat}{Q:Exit→Act→World→Prop}{a:Act}{w:World}{l:List Oper}(n:Nat)(T:Nat→Prop)(d:List (Value→World→Prop))(ws:List (Nat×(World→Prop)))(b:World→Prop)(B:Nat→Nat→Bool)(s:(l.all gT)=true)(hm:P.follows .mixedOrders=true)(t:oU l.toArray n=true)
  (q:fN l.toArray n B=true)(f:(gK B (ws.map (·.1))&&(ws.map (·.1)).all (fun p=>decide (p<n)))=true)
  (h:du T w d)(k:iX T w ws)(g:∀w' c,Fr T w w'→Fr ah w' c→b w'→b c)(o:b w.drew)
  (v:ig P l.toArray (fun e a w=>Q e a w∧e= .normal) T w (fun u=>ar ((l.take n).map (·.dst)) 0 u a) (cm d) ws b B n 0 (l.take n))
  (y:∀u w',Fr T w w'→(∀j,j<n→cm d j (u j) w')→lQ ws b w'→wpList P l.toArray (fun e a w=>Q e a w∧e= .normal) (l.drop n) (ar ((l.take n).map (·.dst)) 0 u a) w'):(Code.region id l.toArray true).wpIn (Fence.wide.inRound r) m P Q a w:=
 wpIn_region_any hm (iH (fun i z x=>List.all_eq_true.1 s z (List.mem_of_getElem? (by simpa using x))) _ _ _ _ (Hh n T d ws b B t q f h k g o v y))
theorem bT{P:Program}{ops:Array Oper}{rest:List Oper}{m:Oper}{a:Act}{w:World}{Q:Exit→Act→World→Prop}(c:m.guard=none)(ty:TypeId)(x y:Operand)(i:m.op= .store ty x y)
  (g:Nat)(v:Value)(j:a.eval x= .pointer (some ⟨g,0,none⟩))(l:a.eval y=v)(e:v.oneCell'=true)
  (t:TypeId)(b:Value)(d:aq w g t #[b])(f:(P.info? ty).map (·.size)=some 1)
  (h:∀w',aq w' g t #[v]→Fr (fun k=>k=g) w w'→wpList P ops Q rest (a.put m.dst undef) w'):wpList P ops Q (m::rest) a w:=by
 subst l;exact wpList_store_one c ty x y i g j e t b d f (h _ (ij d) ((Fr.refl (fun k=>k=g) w).setRow (fun _=>rfl) _))
theorem cO{w:World}{base:Nat}{e:TypeId}{size n k:Nat}{v:Value}{xs:List Value}(h:w.ownsRow base e size v n xs)(a:v.ownBlock=some k):∃c f,w.heap[k]? =some (.cells c e f):=by
 rcases h.2 with⟨rfl,_⟩|⟨g,b,cur,rfl,_,d,_⟩;·simp[Value.ownBlock]at a
 ·simp[Value.ownBlock]at a;subst a;exact⟨_,_,d⟩
def kx(t:TypeId):Op→Bool
 | .load a _=>t==a
 |_=>false
theorem cj{r n:Nat}{P:Program}{ops:Array Oper}{Q:Exit→Act→World→Prop}{d:Oper}{l:List Oper}{a:Act}{w:World}(f:Op→Bool)(b:f d.op=true)(c:((d::l).all gT)=true)(h:wpList P ops (fun e a w=>Q e a w∧e= .normal) (d::l) a w):wpListIn (Fence.wide.inRound r) n P ops Q (d::l) a w:=
 je c h
def Sz(w:World)(g:Nat):Prop:=w.heap.size≤g
structure oG{α:Type}(b w3:World)(g2:Nat)(c e:TypeId)(sz:Nat)(a:List α→Nat)(cells:List α→List Value)(pre:List α)(W:World):Prop where
 fr:Fr ah b W
 kn:KN w3 W
 row:∃v,aq W g2 c #[v]∧W.ownsRow 0 e sz v (a pre) (cells pre)∧∀k,v.ownBlock=some k→b.heap.size≤k∧k≠g2
theorem oG.iC{α:Type}{r w3:World}{g2:Nat}{s e:TypeId}{sz B:Nat}{l:List α→Nat}{cells:List α→List Value}(t:g2<B)(x:r.heap.size≤B):OwnFrom B (oG r w3 g2 s e sz l cells):=by
 intro pre X Y row h u o;have b:∀k,k<B→some k≠row:=fun k q e=>by have:=(o k e.symm).1;omega
 have j:Fr (fun k=>some k=row) X Y:=Fr.grown u;obtain⟨v,jQ,a,w⟩:=h.row;refine⟨h.fr.au j (fun i y e=>absurd e (b i (by omega))),h.kn.trans (KN.fr j (fun g cs p e=>?_)),⟨v,jQ.fr j (fun e=>b _ t e),aJ a j (fun k q e=>?_),w⟩⟩;·obtain⟨_,z,d,m⟩:=o g e.symm;unfold aq at p;rw[p]at d;cases d;simp[Obj.isCells]at m
 ·obtain⟨_,z,d,m⟩:=o k e.symm;obtain⟨c,f,n⟩:=cO a q;rw[n]at d;cases d;simp[Obj.isCells]at m
theorem oG.same{α:Type}{g w3 W X:World}{g2:Nat}{f e:TypeId}{sz:Nat}{b:List α→Nat}{cells:List α→List Value}{pre a:List α}(h:oG g w3 g2 f e sz b cells pre W)(d:Fr ah W X)(i:b a=b pre)(j:cells a=cells pre):oG g w3 g2 f e sz b cells a X:=by
 obtain⟨v,jQ,c,k⟩:=h.row;refine⟨h.fr.trans d,h.kn.trans (KN.fr d (fun _ _ _ x=>x)),⟨v,jQ.fr d (fun x=>x),?_,k⟩⟩;rw[i,j];exact aJ c d (fun _ _ x=>x)
theorem oG.step{α:Type}{m w3 W X s l:World}{g2 B:Nat}{n e:TypeId}{sz:Nat}{d:List α→Nat}{cells:List α→List Value}{pre b:List α}{v v2:Value}
  (u:oG m w3 g2 n e sz d cells pre W)(C:g2<B)(D:m.heap.size≤B)(G:m.heap.size≤g2)(x:n≠177)(he:e≠177)(w:aq W g2 n #[v])
  (j:W.ownsRow 0 e sz v (d pre) (cells pre))(a:∀k,v.ownBlock=some k→m.heap.size≤k∧k≠g2)
  (z:Fr ah W X)(t:bO e sz X v s v2 (d b) (cells b))(f3:Fr (fun k=>k=g2) s l)(b3:aq l g2 n #[v2]):
  KeepsFrom B W l∧KN W l∧oG m w3 g2 n e sz d cells b l:=by
 have s1:m.heap.size≤W.heap.size:=u.fr.size;have s2:W.heap.size≤X.heap.size:=z.size;have I:g2<W.heap.size:=w.lt;have o:∀k,v2.ownBlock=some k→m.heap.size≤k∧k≠g2:=fun k y=>by
  rcases t.eE k y with h|h;·exact a k h
  ·constructor<;>omega
 have F:Fr (fun k=>k=g2∨v.ownBlock=some k) W l:=by
  have A:Fr (fun k=>k=g2∨v.ownBlock=some k) W s:=(z.bJ).trans (t.fr.mono (fun i _ h=> .inr h));exact A.trans (f3.mono (fun i _ h=> .inl h))
 have K:KN W l:=KN.fr F (fun g cs p h=>by
  unfold aq at p w;rcases h with rfl|h;·rw[w]at p;cases p;exact x rfl
  ·obtain⟨c,f,q⟩:=cO j h;rw[q]at p;cases p;exact he rfl);refine⟨⟨F.size,fun k J _ q E=>?_⟩,K,?_,u.kn.trans K,?_⟩
 ·refine(F.block k (Array.getElem?_eq_some_iff.1 q).1 ?_).trans q;rintro(rfl|h);·omega
  ·obtain⟨c,f,r⟩:=cO j h;rw[q]at r;cases r;simp[Obj.isCells]at E
 ·refine u.fr.au F (fun i H h=>?_);rcases h with h|h;·omega
  ·have:=(a i h).1;omega
 ·exact⟨v2,b3,aJ t.own f3 (fun k y e=>(o k y).2 e),o⟩
theorem KN.put(W:World)(l:Nat)(f b:Obj)(h:W.heap[l]? =some f)(d:f.isCells=false):KN W (W.putObj l b):=
 KN.fr (Fr.grown (grownBy_putObj' W l b)) (fun g cs a e=>by
  have c:g=l:=by simpa using e
  subst c;unfold aq at a;rw[a]at h;cases h;simp[Obj.isCells]at d)
theorem nQ(a:Option Addr)(w:World):Calls Tryz.prog 144 #[.pointer a] w fun r w'=>r= .returned (.func (.func 169) #[] #[.pointer (some ⟨w.heap.size,0,none⟩)])∧Fr ah w w'∧aq w' w.heap.size 25 #[.pointer a]:=by
 go_enter Tryz.func144,Tryz.ntmps144;go_wp2_with(refine aB rfl 25 (.tmp 0) rfl #[.pointer a] rfl ?_);intro w1 n1;have b:=af n1;clear n1;go_wp2;go_ret;exact⟨rfl,b.out.fr,b.out.aD⟩
def AS(x:Nd):Value:= .pointer (some ⟨x.g,0,none⟩)
theorem II:(Tryz.prog.info? 172).map (fun i=>(i.zero,i.size,i.bytes))=some (some (.pointer none),1,8):=by kernel_rfl
theorem Ai:(Tryz.prog.info? 219).map (·.size)=some 1:=by kernel_rfl
theorem Ld(w:World):(zeroValue 219).run Tryz.prog w= .ok (.slice none 0 0) w:=by kernel_rfl
end Go.Proofs.YtphjagkehiklkaaGreatDoor
namespace Go.Proofs.YtphjagkehiklkaaGreatDoor
open Go.RowKit Go.Shelf
attribute[local go_sem]Oper.semAt_some
def yN{w:World}(a:List (oz w)):List Value:=a.map (fun y=>AS y.1)
def Ju(w:World)(t:Tr)(r:Ending)(w':World):Prop:=∃v,∃L:List Nd,r= .returned v∧bO 172 1 w (.slice none 0 0) w' v t.size (L.map AS)∧L.map (fun x:Nd=>(x.nm,x.v))=t.bI∧∀x∈L,lB w' x
theorem xw(s:Nat)(t:Tr)(w:World)(H:wA w s t)(O:t.size≤1048576):Calls Tryz.prog 139 #[.pointer (some ⟨s,0,none⟩)] w (fun r w'=>Ju w t r w'):=by
  obtain⟨i0,I,hz0',P,Q⟩:=info_parts II;have aN:=af (fun w=>nQ (some ⟨s,0,none⟩) w);have av:=af O;have ar:=af H;clear H O;refine(callsIn_wide (n:=6)).1 (callsIn_of_wp_marks Tryz.func139 rfl trivial (wpIn_wide.2 ?_) rfl);simp only[Tryz.ntmps139,List.size_toArray,List.length_cons,List.length_nil,Nat.reduceAdd,Nat.reduceSub,Array.replicate_succ,Array.replicate_zero,List.push_toArray,List.append_toArray,List.nil_append,List.cons_append];have B:Hid (Calls Tryz.prog 94 #[.pointer (some ⟨s,0,none⟩)] w (bG w (.int .i64 (t.size:Nat)))):=oD w s t ar.out;go_wp2_with fail;refine B.out.mono ?_;rintro e a9⟨rfl,rfl⟩;have a4:=av.out;clear B;go_wp2_with(at_make;refine wpList_make_own _ rfl _ _ 219 rfl 0 172 i0 (.pointer none) 1 Tryz.underlying219 I hz0' P _ _ _ t.size rfl rfl rfl ?zA ?zB (Nat.zero_le _) ?_);case zA=>rw[Q];omega
  case zB=>unfold maxLen;omega
  intro R ra aE;have Y:Hid (Fr ah w R):=(Fr.grown aE).mono (fun _ _ e=>by cases e);have aB:=af ra;have F:Hid (w.heap.size<R.heap.size):=EJ ra rfl;have ad:Sz w w.heap.size:=Nat.le_refl _;clear ra aE a4;generalize w.heap.size=g0 at*;go_wp2_with(refine an rfl 219 rfl (.slice none 0 0) Ld #[.slice none 0 0] rfl ?_);intro a6 nb;have ap:Hid (Fr ah w a6):=Y.out.trans nb.fr;have aC:=af (aJ aB.out nb.fr (fun _ _ x=>x));have al:=af nb.aD;have E:Sz w R.heap.size:=Y.out.size;have NE:Hid (g0<R.heap.size):=F.out;clear nb Y aB F;generalize R.heap.size=g2 at*;go_wp2_with(refine bT rfl 219 (.tmp 3) _ rfl g2 (.slice (some ⟨g0,0,none⟩) 0 t.size) rfl rfl rfl _ _ al.out Ai ?_);intro w2 b2 f2;have aj:=af b2;have am:Hid (Fr ah w w2):=ap.out.au f2 (fun i a2 e=>by have S:i=g2:=e;have:=E;unfold Sz at this;omega);have aA:=af (aJ aC.out f2 (fun k g e=>by
    have S:k=g2:=e;simp[Value.ownBlock]at g;have:=NE.out;omega));have aZ:Hid (∀k,(Value.slice (some ⟨g0,0,none⟩) 0 t.size).ownBlock=some k→w.heap.size≤k∧k≠g2):=fun k g=>by
    simp[Value.ownBlock]at g;subst g;exact⟨ad,by have:=NE.out;omega⟩
  clear b2 f2 ap aC al;go_wp2_with fail;refine(aN.out _).mono ?_;rintro r w3⟨rfl,f3,b3⟩;have C:=af (am.out.trans f3);have ak:=af (aj.out.fr f3 (fun x=>x));have aY:=af (aJ aA.out f3 (fun _ _ x=>x));have aO:=af b3;have LT:Hid (g2<w3.heap.size):=ak.out.lt;clear f3 b3 am aj aA;generalize w2.heap.size=gs at*;obtain⟨a3,N,M⟩:=ar.out.ao C.out;obtain⟨L,ag⟩:=Ord.of M;have ax:=af ag.bI;have ay:Hid (L.length=t.size):=by
    have h:=congrArg List.length ax.out;have a0:L.length=t.size:=by simpa[Tr.bW]using h
    exact a0
  have aS:=af ag;have Z:=af N;clear N M ag;go_wp2_with fail;refine(wpIn_wide (n:=6)).1 ?_;refine wpIn_rangeFunc_ownG rfl (by omega) (gf:=169) (lb:=#[.pointer (some ⟨gs,0,none⟩)]) rfl trivial (enters_of Tryz.func169 (by kernel_rfl) rfl)
    (yI 5 gs s a3 t w3 L aS.out aO.out Z.out) (fun h k=>h.trans k) (fun W l o a5 _ U a1 _=>KN.put W l o a5 U a1) (Below.refl _ _) (fun _=>rfl)
    (oG w w3 g2 219 172 1 (fun ai:List (oz w3)=>ai.length) (yN (w:=w3))) (fun _ _ _=>False) (oG.iC LT.out C.out.size) (fun _ _ _ _ _ h _ _=>h.elim)
    ⟨C.out,KN.refl _,_,ak.out,aY.out,aZ.out⟩ ?zE ?assign ?body ?done ?stop;case assign=>
    intro l x W K G;gi_wp2;exact G
  case body=>
    rintro a8 pre x W T J;have aQ:=af T;have aR:=af J;obtain⟨_,d,⟨v,jQ,a,b⟩⟩:=T;obtain⟨u,m1,zA,rfl,H1,aP⟩:=aH a;have m:=af a;have j:=af b;have z:=af jQ;have q:=jQ.cell 0;simp only[bQ,List.getElem?_cons_zero]at q;have aX:=af (x.2.kn d).jW;obtain⟨⟨aF,aK,aL⟩,V⟩:=x;simp only at aX⊢;clear jQ a b J d;gi_wp2_with(refine cj (kx 219) rfl (by kernel_rfl) ?_);go_wp2_with(at_builtin;refine cL _ rfl _ _ 219 rfl 172 i0 (.pointer none) 1 8 Tryz.underlying219 I hz0' P Q rfl (by omega) _ _ _ rfl m.out 1 _ _ rfl rfl rfl ?zC ?zD (by omega) ?_);case zC=>simp[Value.oneCell']
    case zD=>have:=aR.out;have:=ay.out;have:=av.out;omega
    intro v2 aM aG;have aa:=af aG;clear aG;have A:Hid (aq aM g2 219 #[.slice u m1 zA]):=z.out.fr aa.out.fr (fun e=>(j.out _ e).2 rfl);obtain⟨X,m2,zB,rfl,_,_⟩:=aH aa.out.own;go_wp2_with(refine bT rfl 219 (.tmp 3) _ rfl g2 (.slice X m2 zB) rfl rfl rfl _ _ A.out Ai ?_);intro y3 b3 f3;refine⟨?_,rfl⟩;have ab:bO 172 1 W (.slice u m1 zA) aM (.slice X m2 zB) ((pre++[(⟨⟨aF,aK,aL⟩,V⟩:oz w3)]).length) (yN (pre++[(⟨⟨aF,aK,aL⟩,V⟩:oz w3)])):=by
      have h:=aa.out;rw[aW,yN,List.map_append];exact h
    have p:=oG.step (v:= .slice u m1 zA) (v2:= .slice X m2 zB) aQ.out LT.out C.out.size E (by decide) (by decide) z.out m.out j.out az ab f3 b3;exact⟨p.1,p.2.1,p.2.2⟩
  case done=>
    rintro D xs W ae rfl T G;obtain⟨aI,d,⟨v,jQ,a,b⟩⟩:=T;obtain⟨u,m1,zA,rfl,H1,aP⟩:=aH a;have ac:Fr (fun k=>some k=some D) W (W.putObj D (.deferred none)):=Fr.grown (grownBy_putObj' W D _);have aw:=af G;have aT:Hid (Fr ah w (W.putObj D (.deferred none))):=aI.au ac (fun i a2 e=>by have S:i=D:=(by simpa using e);have:=C.out.size;have:=ae;omega);have aU:Hid (KN w3 (W.putObj D (.deferred none))):=d.trans (KN.put W D _ _ G rfl);have aV:Hid ((W.putObj D (.deferred none)).ownsRow 0 172 1 (.slice u m1 zA) ((fun ai:List (oz w3)=>ai.length) xs) ((yN (w:=w3)) xs)):=
      aJ a ac (fun k g e=>by
            have S:k=D:=by simpa using e
            subst S;obtain⟨c,f,U⟩:=cO a g;rw[aw.out]at U;cases U);have j:Hid (∀k,(Value.slice u m1 zA).ownBlock=some k→w.heap.size≤k):=fun k g=>(b k g).1;have q:=jQ.cell 0;simp only[bQ,List.getElem?_cons_zero]at q;clear ac aI jQ a b ae G d;go_wp2;refine⟨by simp, .inl ⟨_,_,rfl,run_takeDeferred aw.out,?_⟩⟩;refine⟨_,results_tmp Tryz.results139 _ _ _,?_⟩;refine⟨_,xs.map (·.1),rfl,⟨?_,aT.out.bJ,fun k g=> .inr (j.out k g)⟩,?_,fun x V=>?_⟩;· have h:=aV.out;rw[ay.out]at h;rw[List.map_map];exact h
    · rw[List.map_map];exact ax.out
    · obtain⟨y,_,rfl⟩:=List.mem_map.1 V;exact y.2.kn aU.out
  case stop=>
    rintro D a7 pre W ae _ h;exact h.elim
end Go.Proofs.YtphjagkehiklkaaGreatDoor
namespace Go.Proofs.YtphjagkehiklkaaGreatDoor
open Go.RowKit
structure gJ{α:Type}(c:α→α→Int):Prop where
 eq:∀a b,c a b=0→a=b
 refl:∀a,c a a=0
 kH:∀a b,c b a=-c a b
 trans:∀a b d,c a b<0→c b d<0→c a d<0
theorem gJ.Gu{α:Type}{c:α→α→Int}(h:gJ c){a b d:α}(g:c a b≤0)(f:c b d<0):c a d<0:=by
 by_cases e:c a b=0;·rw[h.eq a b e];exact f
 ·exact h.trans a b d (by omega) f
def aV(x y:Int):Int:=if x=0 then y else x
theorem gJ.lex{α β:Type}{c:α→α→Int}{d:β→β→Int}(h:gJ c)(k:gJ d):gJ (fun(a b:α×β)=>aV (c a.1 b.1) (d a.2 b.2))where
 eq a b e:=by
  unfold aV at e;split at e;·rename_i g;exact Prod.ext (h.eq _ _ g) (k.eq _ _ e)
  ·contradiction
 refl _:=by simp[aV,h.refl,k.refl]
 kH a b:=by
  have:=h.kH a.1 b.1;have:=k.kH a.2 b.2;unfold aV;split<;>split<;>omega
 trans a b e g l:=by
  have n:=h.kH;by_cases i:c a.1 b.1=0
  ·by_cases f:c b.1 e.1=0
   ·have j:c a.1 e.1=0:=by rw[h.eq _ _ i,h.eq _ _ f];exact h.refl _
    simp only[aV,i,f,j,if_true]at*;exact k.trans _ _ _ g l
   ·simp only[aV,i,f,if_true,if_false]at g l;have j:c a.1 e.1=c b.1 e.1:=by rw[h.eq _ _ i]
    simp only[aV,j,f,if_false];exact l
  ·by_cases f:c b.1 e.1=0
   ·simp only[aV,i,f,if_true,if_false]at g l;have j:c a.1 e.1=c a.1 b.1:=by rw[h.eq _ _ f]
    simp only[aV,j,i,if_false];exact g
   ·simp only[aV,i,f,if_false]at g l;have j:=h.trans _ _ _ g l;have m:c a.1 e.1≠0:=by omega
    simp only[aV,m,if_false];exact j
theorem gJ.pull{α β:Type}{c:β→β→Int}(h:gJ c)(f:α→β)(d:∀a b,f a=f b→a=b):gJ (fun a b=>c (f a) (f b))where
 eq _ _ e:=d _ _ (h.eq _ _ e)
 refl _:=h.refl _
 kH _ _:=h.kH _ _
 trans _ _ _:=h.trans _ _ _
def dR(a b:Int):Int:=if a<b then-1 else if b<a then 1 else 0
theorem eX:gJ dR where
 eq a b e:=by unfold dR at e;split at e<;>(try split at e)<;>omega
 refl _:=by unfold dR;simp
 kH a b:=by unfold dR;split<;>split<;>(try split)<;>omega
 trans a b d c f:=by unfold dR at*;split at c<;>(try split at c)<;>split at f<;>(try split at f)<;>(try split)<;>omega
def cmpL{α:Type}(c:α→α→Int):List α→List α→Int
 |[],[]=>0
 |[],_::_=>-1
 |_::_,[]=>1
 |x::xs,y::a=>aV (c x y) (cmpL c xs a)
theorem oN{α:Type}{c:α→α→Int}(h:gJ c):gJ (cmpL c)where
 eq:=by
  intro a;induction a with
  |nil=>intro b e;cases b<;>simp[cmpL]at e⊢
  |cons x xs l=>
   intro b e;cases b with
   |nil=>simp[cmpL]at e
   |cons y m=>
    simp only[cmpL,aV]at e;split at e;·rename_i f;rw[h.eq _ _ f,l _ e]
    ·contradiction
 refl:=by
  intro a;induction a with
  |nil=>rfl
  |cons x xs l=>simp[cmpL,aV,h.refl,l]
 kH:=by
  intro a;induction a with
  |nil=>intro b;cases b<;>simp[cmpL]
  |cons x xs l=>
   intro b;cases b with
   |nil=>simp[cmpL]
   |cons y m=>
    have:=h.kH x y;have:=l m;simp only[cmpL,aV];split<;>split<;>omega
 trans:=by
  intro a;induction a with
  |nil=>
   intro b d f g;cases d with
   |nil=>cases b<;>simp[cmpL]at f g
   |cons z o=>simp[cmpL]
  |cons x xs l=>
   intro b d f g;cases b with
   |nil=>simp[cmpL]at f
   |cons y m=>
    cases d with
    |nil=>simp[cmpL]at g
    |cons z o=>
     simp only[cmpL]at*;by_cases j:c x y=0
     ·by_cases i:c y z=0
      ·have k:c x z=0:=by rw[h.eq _ _ j,h.eq _ _ i];exact h.refl _
       simp only[aV,j,i,k,if_true]at*;exact l _ _ f g
      ·simp only[aV,j,i,if_true,if_false]at f g;have k:c x z=c y z:=by rw[h.eq _ _ j]
       simp only[aV,k,i,if_false];exact g
     ·by_cases i:c y z=0
      ·simp only[aV,j,i,if_true,if_false]at f g;have k:c x z=c x y:=by rw[h.eq _ _ i]
       simp only[aV,k,j,if_false];exact f
      ·simp only[aV,j,i,if_false]at f g;have k:=h.trans _ _ _ f g;have n:c x z≠0:=by omega
       simp only[aV,n,if_false];exact k
def pS(a b:UInt8):Int:=dR a.toNat b.toNat
theorem uF:gJ pS:=eX.pull (fun u:UInt8=>(u.toNat:Int)) (fun a b h=>UInt8.toNat_inj.1 (by have c:(a.toNat:Int)=b.toNat:=h;omega))
def lG(a b:ByteArray):Int:=cmpL pS a.toList b.toList
theorem toList_inj{a b:ByteArray}(h:a.toList=b.toList):a=b:=by
 rw[ByteArray.toList_eq,ByteArray.toList_eq]at h;cases a;cases b;simp only[ByteArray.mk.injEq];exact Array.toList_inj.1 h
theorem uD:gJ lG:=(oN uF).pull ByteArray.toList (fun _ _ h=>toList_inj h)
theorem oM:∀(x y:List UInt8),Op.bytesLess x y=decide (cmpL pS x y<0)
 |[],[]=>by simp[Op.bytesLess,cmpL]
 |_::_,[]=>by simp[Op.bytesLess,cmpL]
 |[],_::_=>by simp[Op.bytesLess,cmpL]
 |a::x,b::y=>by
  rw[Op.bytesLess,oM x y];simp only[cmpL,aV,pS,dR];by_cases c:a<b
  ·have e:(a.toNat:Int)<b.toNat:=by have:=UInt8.lt_iff_toNat_lt.1 c;omega
   simp[c,e]
  ·by_cases d:a=b;·subst d;simp
   ·have f:¬(a.toNat:Int)<b.toNat:=by
     intro h;exact c (UInt8.lt_iff_toNat_lt.2 (by omega))
    have g:(b.toNat:Int)<a.toNat:=by
     have:a.toNat≠b.toNat:=fun h=>d (UInt8.toNat_inj.1 h);omega
    simp[c,d,f,g]
theorem uE(a b:ByteArray):lG a b=if Op.bytesLess a.toList b.toList=true then-1 else if a=b then 0 else 1:=by
 have f:∀(x y:List UInt8),cmpL pS x y=-1∨cmpL pS x y=0∨cmpL pS x y=1:=by
  intro x;induction x with
  |nil=>intro y;cases y<;>simp[cmpL]
  |cons p x g=>
   intro y;cases y with
   |nil=>simp[cmpL]
   |cons q y=>
    have:=g y;simp only[cmpL,aV,pS,dR];split<;>(try split)<;>(try split)<;>omega
 rw[oM];have h:=f a.toList b.toList;unfold lG;by_cases e:a=b;·subst e;rw[(oN uF).refl];simp
 ·have i:cmpL pS a.toList b.toList≠0:=fun d=>e (toList_inj ((oN uF).eq _ _ d));simp only[e,if_false];by_cases c:cmpL pS a.toList b.toList<0;·simp[c];omega
  ·simp[c];omega
def me(b:UInt8):Bool:=48≤b.toNat&&b.toNat≤57
def dy:Nat→List UInt8→List UInt8
 |0,_=>[]
 |_+1,[]=>[]
 |n+1,b::l=>if me b then b::dy n l else[]
def eY(ds:List UInt8):Nat:=ds.foldl (fun n b=>n*10+(b.toNat-48)) 0
structure Part where
 ord:Nat
 at_:Nat
 e:Nat
def cQ(count at_:Nat)(l:List UInt8):Part×Nat:=
 let ds:=dy 7 l
 if count=8 then(⟨0,at_,9⟩,at_)else if l=[]then(⟨0,at_,4⟩,at_)else if ds=[]then(⟨0,at_,6⟩,at_)else if l[0]? =some 48 then(⟨0,at_,3⟩,at_)
 else if 6<ds.length then(⟨0,at_,2⟩,at_)else(⟨eY ds,at_,0⟩,at_+ds.length)
def dq:Nat→Nat→List UInt8→List Part
 |0,at_,_=>[⟨0,at_,9⟩]
 |n+1,at_,l=>
  let p:=(cQ (7-n) at_ l).1
  if p.e≠0 then[p]else
   let k:=(dy 7 l).length
   if l.length≤k then[p]else if l[k]? ≠some 46 then[p,⟨0,at_+k,6⟩]else p::dq n (at_+k+1) (l.drop (k+1))
def fS(s:ByteArray):List Part:=if s.size=0 then[]else dq 8 0 s.toList
def db(s:ByteArray):Bool:=(fS s).all (fun p=>p.e==0)
def jk(s:ByteArray):List Int:=(fS s).map (fun p=>(p.ord:Int))
theorem kY:∀(n:Nat)(l:List UInt8),(dy n l).length≤n∧(dy n l).length≤l.length
 |0,l=>by simp[dy]
 |n+1,[]=>by simp[dy]
 |n+1,b::l=>by
  have:=kY n l;rw[dy];split<;>simp<;>omega
theorem nZ:∀(n:Nat)(l:List UInt8),dy n l=l.take (dy n l).length
 |0,l=>by simp[dy]
 |n+1,[]=>by simp[dy]
 |n+1,b::l=>by
  rw[dy];split;·rw[List.length_cons,List.take_succ_cons,←nZ n l]
  ·simp
theorem so:∀(n:Nat)(l:List UInt8),∀b∈dy n l,me b=true
 |0,l=>by simp[dy]
 |n+1,[]=>by simp[dy]
 |n+1,b::l=>by
  intro x a;rw[dy]at a;split at a
  ·rename_i h;rcases List.mem_cons.1 a with rfl|c;·exact h
   ·exact so n l x c
  ·simp at a
theorem vI:∀(n:Nat)(l:List UInt8)(j:Nat),j≤(dy n l).length→(j<(dy n l).length↔j<n∧∃b,l[j]? =some b∧me b=true)
 |0,l,j,h=>by simp[dy]
 |n+1,[],j,h=>by simp[dy]
 |n+1,b::l,0,h=>by
  rw[dy];by_cases a:me b=true;·simp[a]
  ·simp[a]
 |n+1,b::l,j+1,h=>by
  rw[dy]at h⊢;by_cases a:me b=true;·simp only[a,if_true,List.length_cons]at h⊢;have:=vI n l j (by omega);simp only[List.getElem?_cons_succ];rw[show(j+1<(dy n l).length+1)↔(j<(dy n l).length)by omega,show(j+1<n+1)↔(j<n)by omega];exact this
  ·simp[a]at h
theorem lR(ds:List UInt8)(b:UInt8):eY (ds++[b])=eY ds*10+(b.toNat-48):=by simp[eY]
theorem IV:∀(n:Nat)(ds:List UInt8),ds.length=n→(∀b∈ds,me b=true)→eY ds<10^n:=by
 intro n;induction n with
 |zero=>
  intro ds h _;rw[List.eq_nil_of_length_eq_zero h];decide
 |succ n e=>
  intro ds h a;obtain⟨init,b,rfl⟩:∃init b,ds=init++[b]:=by
   rcases List.eq_nil_or_concat ds with rfl|⟨i,b,rfl⟩;·simp at h
   ·exact⟨i,b,by simp⟩
  rw[lR];have f:=e init (by simpa using h) (fun x d=>a x (by simp[d]));have c:=a b (by simp);simp only[me,Bool.and_eq_true,decide_eq_true_eq]at c;rw[Nat.pow_succ];omega
end Go.Proofs.YtphjagkehiklkaaGreatDoor
namespace Go.Proofs.YtphjagkehiklkaaGreatDoor
open Go.RowKit Go.Shelf
attribute[local go_sem]Oper.semAt_some
theorem yE(b:UInt8)(w:World):Calls Tryz.prog 184 #[.int .u8 b.toNat] w (bG w (.bool (me b))):=by
 by_cases c:48≤b.toNat
 ·have t1:decide ((48:Int)≤(b.toNat:Int))=true:=cT (by omega);by_cases d:b.toNat≤57
  ·have t2:decide ((b.toNat:Int)≤57)=true:=cT (by omega);have a:me b=true:=by simp[me,c,d]
   rw[a];go_enter Tryz.func184,Tryz.ntmps184;go_wp2;go_ret;exact⟨rfl,rfl⟩
  ·have t2:decide ((b.toNat:Int)≤57)=false:=bZ (by omega);have a:me b=false:=by simp[me,d]
   rw[a];go_enter Tryz.func184,Tryz.ntmps184;go_wp2;go_ret;exact⟨rfl,rfl⟩
 ·have t1:decide ((48:Int)≤(b.toNat:Int))=false:=bZ (by omega);have a:me b=false:=by simp[me,c]
  rw[a];go_enter Tryz.func184,Tryz.ntmps184;go_wp2;go_ret;exact⟨rfl,rfl⟩
def aY(p:Part):Array Value:=#[.int .i64 p.ord, .int .i64 p.at_, .int .i64 p.e]
def nV:Array Value:=#[.int .i64 0, .int .i64 0, .int .i64 0]
theorem pM(w:World):(zeroValue 270).run Tryz.prog w= .ok (.agg nV) w:=by kernel_rfl
theorem dc(p:Part):(aY p).all (·.oneCell')=true:=by simp[aY,Value.oneCell']
theorem cg:(Tryz.prog.info? 270).map (·.size)=some 3:=by kernel_rfl
theorem fm(s:ByteArray):s.toList.length=s.size:=by rw[ByteArray.toList_eq];rfl
theorem yY{s:ByteArray}{i:Nat}{b:UInt8}(h:s.toList[i]? =some b):∃h:i<s.size,s[i]=b:=by
 obtain⟨a,c⟩:=List.getElem?_eq_some_iff.1 h;have d:i<s.size:=by rw[←fm];exact a
 refine⟨d,?_⟩;rw[←c];simp only[ByteArray.toList_eq];rfl
theorem bV(tmps:Array Value)(w:World)(g:Nat)(cs:Array Value)(v:Value)
  (c:tmps.getD 6 undef= .pointer (some ⟨g,0,none⟩))(d:tmps.getD 7 undef=v)(e:aq w g 270 cs)(f:cs.size=3):
  (results Tryz.f183 tmps).run Tryz.prog w= .ok (.tuple #[.agg cs,v]) w:=by
 have a:tmps[6]?.getD undef= .pointer (some ⟨g,0,none⟩):=by simpa using c
 have b:tmps[7]?.getD undef=v:=by simpa using d
 simp[results,Tryz.results183,a,b,asAddr,run_loadVar_row w g 270 270 cs (0,0) _ e Tryz.underlying270 rfl (by rw[f];exact cg)]
theorem Cz(s:ByteArray)(at_ count:Nat)(w:World)(aB:at_≤s.size)(aC:s.size≤1099511627776)(aI:count≤8):
  Calls Tryz.prog 183 #[.string s, .int .i64 at_, .int .i64 count] w (aK w (.tuple #[.agg (aY (cQ count at_ (s.toList.drop at_)).1), .int .i64 ((cQ count at_ (s.toList.drop at_)).2:Nat)])):=by
 obtain⟨l,f⟩:∃l,l=s.toList.drop at_:=⟨_,rfl⟩;rw[←f];obtain⟨ds,ag⟩:∃ds,ds=dy 7 l:=⟨_,rfl⟩;have ab:=af ag;have aa:Hid (∀i b,l[i]? =some b→∃h:at_+i<s.size,s[at_+i]=b):=fun i b R=>by
  rw[f,List.getElem?_drop]at R;exact yY R
 have aj:Hid (∀i,at_+i<s.size→∃b,l[i]? =some b):=fun i I=>by
  rw[f,List.getElem?_drop];exact⟨_,List.getElem?_eq_getElem (by rw[fm];exact I)⟩
 have o:Hid (l.length+at_=s.size∧(l≠[]→∃z,∃h:at_<s.size,l[0]? =some z∧s[at_]=z)):=by
  refine⟨by rw[f,List.length_drop,fm];omega,fun ax=>?_⟩;obtain⟨z,u⟩:∃z,l[0]? =some z:=by
   cases l with
   |nil=>exact absurd rfl ax
   |cons z r=>exact⟨z,rfl⟩
  obtain⟨h,e⟩:=aa.out 0 z u;exact⟨z,h,u,e⟩
 have aq:=af (kY 7 l);have ad:=af (vI 7 l);have ae:=af (nZ 7 l);have ac:=af (so 7 l);rw[←ag]at aq ad ae ac;clear ag f;have aG:=af aB;have az:=af aC;have Z:=af (fun b w=>yE b w);clear aB aC;go_enter Tryz.func183,Tryz.ntmps183;go_wp2_with(refine an rfl 270 rfl (.agg nV) pM nV rfl ?_);intro w1 n1;have L:=af n1.fr;have K:=af n1.aD;have M:Sz w w.heap.size:=Nat.le_refl _;clear n1;generalize w.heap.size=g1 at*;go_wp2;go_loopw[8,9](fun i n wr=>∃j:Nat,j≤ds.length∧i= .int .i64 ((at_+j:Nat):Int)∧n= .int .i64 ((eY (ds.take j):Nat):Int)∧w1=wr)(fun i _ _=>at_+8-(intOf i).toNat);case atStart=>exact⟨0,Nat.zero_le _,rfl,rfl,rfl⟩
 case round=>
 obtain⟨j,av,rfl,rfl,rfl⟩:=hrel;have J:=ad.out j av;obtain⟨q,ai⟩:∃q,q=at_+j:=⟨_,rfl⟩;rw[←ai];obtain⟨N,ar⟩:∃N,N=eY (ds.take j):=⟨_,rfl⟩;rw[←ar];have ap:=af ar;clear ar;by_cases T:j<ds.length
 ·obtain⟨aO,b,R,S⟩:=J.1 T;obtain⟨ay,am⟩:=aa.out j b R;have Y:=af T;have F:Hid (q=at_+j):=ai;have HB:=af R;have t0:(q:Int)<(s.size:Int):=by omega
  have aR:q<s.size:=by omega
  have t1:(q:Int)-(at_:Int)≤6:=by omega
  have t2:(0:Int)≤(q:Int):=by omega
  have t3:s[q]=b:=by subst ai;exact am
  have t4:me b=true:=S;have aJ:48≤b.toNat∧b.toNat≤57:=by simpa[me]using S
  have al:Hid (N*10+(b.toNat-48)=eY (ds.take (j+1))∧N<10000000):=by
   have aw:ds[j]? =some b:=by
    rw[ae.out,List.getElem?_take_of_lt T];exact R
   constructor;·rw[List.take_add_one,aw,Option.toList_some,lR,←ap.out]
   ·rw[ap.out];refine Nat.lt_of_lt_of_le (IV _ (ds.take j) rfl (fun x aP=>ac.out x (List.mem_of_mem_take aP))) ?_;refine Nat.le_trans (Nat.pow_le_pow_right (by omega) (show(ds.take j).length≤7 by rw[List.length_take];omega)) (by decide)
  obtain⟨d,t⟩:∃d,d=b.toNat-48:=⟨_,rfl⟩;have t5:(b.toNat:Int)-48=(d:Int):=by omega
  have t6:d≤9:=by omega
  have aH:=af t;have nb:=al.out.2;have nq:q≤1099511627776:=by have:=az.out;omega
  have aQ:at_≤q:=by omega
  clear ai am ay R S aJ J T aO t av;go_wp2_with fail;refine(Z.out b _).mono ?_;rintro e w'⟨rfl,rfl⟩;rw[t4];go_wp2;go_roundw;case rel=>
   have X:=F.out;have Q:=al.out.1;have aA:=aH.out;exact⟨j+1,Y.out,by go_num,by rw[←Q];go_num,by first|rfl|trivial⟩
  case measure=>
   have X:=F.out;have Q:=Y.out;have aA:=aq.out.1;simp[intOf];omega
 ·obtain rfl:j=ds.length:=by omega
  have F:Hid (q=at_+ds.length):=ai;obtain rfl:N=eY ds:=by rw[ap.out,List.take_length]
  have ao:s.size≤q∨(q<s.size∧ds.length=7)∨(q<s.size∧ds.length≤6∧∃b,(∃h:q<s.size,s[q]=b)∧me b=false):=by
   by_cases X:q<s.size
   ·right;by_cases Q:ds.length=7;·exact .inl ⟨X,Q⟩
    ·right;have aA:=aq.out.1;refine⟨X,by omega,?_⟩;obtain⟨b,R⟩:=aj.out ds.length (by omega);obtain⟨aT,aM⟩:=aa.out _ _ R;refine⟨b,⟨X,?_⟩,?_⟩;·subst ai;exact aM
     ·cases aN:me b;·rfl
      ·exact absurd (J.2 ⟨by omega,b,R,aN⟩) T
   ·exact .inl (by omega)
  have W:=af ao;have aS:ds.length≤7:=aq.out.1;have aQ:at_≤q:=by omega
  have nq:q≤1099511627783:=by have:=az.out;have:=aG.out;omega
  clear ao J ai T av ap ad ae ac aj;rcases W.out with X|⟨X,Q⟩|⟨X,Q,b,⟨aL,R⟩,S⟩
  ·clear W;have aE:¬(q:Int)<(s.size:Int):=by omega
   have aF:¬q<s.size:=by omega
   clear X;have p:Hid (cQ count at_ l=if count=8 then(⟨0,at_,9⟩,at_)else if l=[]then(⟨0,at_,4⟩,at_)else if ds=[]then(⟨0,at_,6⟩,at_)else if l[0]? =some 48 then(⟨0,at_,3⟩,at_)else if 6<ds.length then(⟨0,at_,2⟩,at_)else(⟨eY ds,at_,0⟩,at_+ds.length)):=by simp only[Hid];rw[ab.out];rfl
   by_cases a:count=8
   ·have c:Hid (cQ count at_ l=(⟨0,at_,9⟩,at_)):=by simp only[Hid];rw[p.out,if_pos a]
    have m:((count:Int)==8)=true:=by rw[beq_iff_eq];have:=a;omega
    clear a;go_wp2_with(refine ak rfl 270 (.tmp 6) _ rfl g1 (aY ⟨0,at_,9⟩) rfl rfl _ _ K.out cg rfl (dc _) ?_);intro D g k;have v:=af g;have y:Hid (Fr ah w D):=L.out.au k (fun i I e=>by have O:i=g1:=e;have:=M;unfold Sz at this;omega);clear g k;go_wp2;refine bodyPost_ret (bV _ _ g1 (aY ⟨0,at_,9⟩) _ rfl rfl v.out rfl) rfl ?_;rw[c.out];exact⟨rfl,y.out⟩
   by_cases f:l=[]
   ·have c:Hid (cQ count at_ l=(⟨0,at_,4⟩,at_)):=by simp only[Hid];rw[p.out,if_neg a,if_pos f]
    have m:((count:Int)==8)=false:=by rw[beq_eq_false_iff_ne];have:=a;omega
    have E:((at_:Int)==(s.size:Int))=true:=by rw[beq_iff_eq];have:=o.out.1;have G:l.length=0:=(by simp[f]);omega
    clear a f;go_wp2_with(refine ak rfl 270 (.tmp 6) _ rfl g1 (aY ⟨0,at_,4⟩) rfl rfl _ _ K.out cg rfl (dc _) ?_);intro D g k;have v:=af g;have y:Hid (Fr ah w D):=L.out.au k (fun i I e=>by have O:i=g1:=e;have:=M;unfold Sz at this;omega);clear g k;go_wp2;refine bodyPost_ret (bV _ _ g1 (aY ⟨0,at_,4⟩) _ rfl rfl v.out rfl) rfl ?_;rw[c.out];exact⟨rfl,y.out⟩
   by_cases t:ds=[]
   ·have c:Hid (cQ count at_ l=(⟨0,at_,6⟩,at_)):=by simp only[Hid];rw[p.out,if_neg a,if_neg f,if_pos t]
    have m:((count:Int)==8)=false:=by rw[beq_eq_false_iff_ne];have:=a;omega
    have E:((at_:Int)==(s.size:Int))=false:=by rw[beq_eq_false_iff_ne];have:=o.out.1;have G:l.length≠0:=fun h=>f (List.length_eq_zero_iff.1 h);omega
    have H:((q:Int)==(at_:Int))=true:=by rw[beq_iff_eq];have:=F.out;have G:ds.length=0:=(by simp[t]);omega
    clear a f t;go_wp2_with(refine ak rfl 270 (.tmp 6) _ rfl g1 (aY ⟨0,at_,6⟩) rfl rfl _ _ K.out cg rfl (dc _) ?_);intro D g k;have v:=af g;have y:Hid (Fr ah w D):=L.out.au k (fun i I e=>by have O:i=g1:=e;have:=M;unfold Sz at this;omega);clear g k;go_wp2;refine bodyPost_ret (bV _ _ g1 (aY ⟨0,at_,6⟩) _ rfl rfl v.out rfl) rfl ?_;rw[c.out];exact⟨rfl,y.out⟩
   by_cases u:l[0]? =some 48
   ·have c:Hid (cQ count at_ l=(⟨0,at_,3⟩,at_)):=by simp only[Hid];rw[p.out,if_neg a,if_neg f,if_neg t,if_pos u]
    have m:((count:Int)==8)=false:=by rw[beq_eq_false_iff_ne];have:=a;omega
    have E:((at_:Int)==(s.size:Int))=false:=by rw[beq_eq_false_iff_ne];have:=o.out.1;have G:l.length≠0:=fun h=>f (List.length_eq_zero_iff.1 h);omega
    have H:((q:Int)==(at_:Int))=false:=by rw[beq_eq_false_iff_ne];have:=F.out;have G:ds.length≠0:=fun h=>t (List.length_eq_zero_iff.1 h);omega
    obtain⟨z,A,B,C⟩:=o.out.2 (fun h=>f h);have i1:at_<s.size:=A;have i2:(at_:Int)<(s.size:Int):=by omega
    have i3:(0:Int)≤(at_:Int):=by omega
    have i4:s[at_]=z:=C;have P:((z.toNat:Int)==48)=true:=by
     rw[B]at u;have U:z=48:=Option.some.inj u;subst U;rfl
    clear a f t u;go_wp2_with(refine ak rfl 270 (.tmp 6) _ rfl g1 (aY ⟨0,at_,3⟩) rfl rfl _ _ K.out cg rfl (dc _) ?_);intro D g k;have v:=af g;have y:Hid (Fr ah w D):=L.out.au k (fun i I e=>by have O:i=g1:=e;have:=M;unfold Sz at this;omega);clear g k;go_wp2;refine bodyPost_ret (bV _ _ g1 (aY ⟨0,at_,3⟩) _ rfl rfl v.out rfl) rfl ?_;rw[c.out];exact⟨rfl,y.out⟩
   by_cases hm:6<ds.length
   ·have c:Hid (cQ count at_ l=(⟨0,at_,2⟩,at_)):=by simp only[Hid];rw[p.out,if_neg a,if_neg f,if_neg t,if_neg u,if_pos hm]
    have m:((count:Int)==8)=false:=by rw[beq_eq_false_iff_ne];have:=a;omega
    have E:((at_:Int)==(s.size:Int))=false:=by rw[beq_eq_false_iff_ne];have:=o.out.1;have G:l.length≠0:=fun h=>f (List.length_eq_zero_iff.1 h);omega
    have H:((q:Int)==(at_:Int))=false:=by rw[beq_eq_false_iff_ne];have:=F.out;have G:ds.length≠0:=fun h=>t (List.length_eq_zero_iff.1 h);omega
    obtain⟨z,A,B,C⟩:=o.out.2 (fun h=>f h);have i1:at_<s.size:=A;have i2:(at_:Int)<(s.size:Int):=by omega
    have i3:(0:Int)≤(at_:Int):=by omega
    have i4:s[at_]=z:=C;have P:((z.toNat:Int)==48)=false:=by
     rw[B]at u;rw[beq_eq_false_iff_ne];intro h;apply u;have:z=48:=by
      apply UInt8.toNat_inj.1;have Q:(48:UInt8).toNat=48:=rfl;omega
     rw[this]
    have V:decide (6<(q:Int)-(at_:Int))=true:=cT (by have:=F.out;omega);clear a f t u hm;go_wp2_with(refine ak rfl 270 (.tmp 6) _ rfl g1 (aY ⟨0,at_,2⟩) rfl rfl _ _ K.out cg rfl (dc _) ?_);intro D g k;have v:=af g;have y:Hid (Fr ah w D):=L.out.au k (fun i I e=>by have O:i=g1:=e;have:=M;unfold Sz at this;omega);clear g k;go_wp2;refine bodyPost_ret (bV _ _ g1 (aY ⟨0,at_,2⟩) _ rfl rfl v.out rfl) rfl ?_;rw[c.out];exact⟨rfl,y.out⟩
   have c:Hid (cQ count at_ l=(⟨eY ds,at_,0⟩,at_+ds.length)):=by simp only[Hid];rw[p.out,if_neg a,if_neg f,if_neg t,if_neg u,if_neg hm]
   have m:((count:Int)==8)=false:=by rw[beq_eq_false_iff_ne];have:=a;omega
   have E:((at_:Int)==(s.size:Int))=false:=by rw[beq_eq_false_iff_ne];have:=o.out.1;have G:l.length≠0:=fun h=>f (List.length_eq_zero_iff.1 h);omega
   have H:((q:Int)==(at_:Int))=false:=by rw[beq_eq_false_iff_ne];have:=F.out;have G:ds.length≠0:=fun h=>t (List.length_eq_zero_iff.1 h);omega
   obtain⟨z,A,B,C⟩:=o.out.2 (fun h=>f h);have i1:at_<s.size:=A;have i2:(at_:Int)<(s.size:Int):=by omega
   have i3:(0:Int)≤(at_:Int):=by omega
   have i4:s[at_]=z:=C;have P:((z.toNat:Int)==48)=false:=by
    rw[B]at u;rw[beq_eq_false_iff_ne];intro h;apply u;have:z=48:=by
     apply UInt8.toNat_inj.1;have Q:(48:UInt8).toNat=48:=rfl;omega
    rw[this]
   have V:decide (6<(q:Int)-(at_:Int))=false:=bZ (by have:=F.out;omega);clear a f t u hm;go_wp2_with(refine ak rfl 270 (.tmp 6) _ rfl g1 (aY ⟨eY ds,at_,0⟩) rfl rfl _ _ K.out cg rfl (dc _) ?_);intro D g k;have v:=af g;have y:Hid (Fr ah w D):=L.out.au k (fun i I e=>by have O:i=g1:=e;have:=M;unfold Sz at this;omega);clear g k;go_wp2;refine bodyPost_ret (bV _ _ g1 (aY ⟨eY ds,at_,0⟩) _ rfl rfl v.out rfl) rfl ?_;rw[c.out];refine⟨?_,y.out⟩;rw[←F.out];rfl
  ·clear W;have aE:(q:Int)<(s.size:Int):=by omega
   have aF:¬(q:Int)-(at_:Int)≤6:=by have:=F.out;omega
   clear Q;have p:Hid (cQ count at_ l=if count=8 then(⟨0,at_,9⟩,at_)else if l=[]then(⟨0,at_,4⟩,at_)else if ds=[]then(⟨0,at_,6⟩,at_)else if l[0]? =some 48 then(⟨0,at_,3⟩,at_)else if 6<ds.length then(⟨0,at_,2⟩,at_)else(⟨eY ds,at_,0⟩,at_+ds.length)):=by simp only[Hid];rw[ab.out];rfl
   by_cases a:count=8
   ·have c:Hid (cQ count at_ l=(⟨0,at_,9⟩,at_)):=by simp only[Hid];rw[p.out,if_pos a]
    have m:((count:Int)==8)=true:=by rw[beq_iff_eq];have:=a;omega
    clear a;go_wp2_with(refine ak rfl 270 (.tmp 6) _ rfl g1 (aY ⟨0,at_,9⟩) rfl rfl _ _ K.out cg rfl (dc _) ?_);intro D g k;have v:=af g;have y:Hid (Fr ah w D):=L.out.au k (fun i I e=>by have O:i=g1:=e;have:=M;unfold Sz at this;omega);clear g k;go_wp2;refine bodyPost_ret (bV _ _ g1 (aY ⟨0,at_,9⟩) _ rfl rfl v.out rfl) rfl ?_;rw[c.out];exact⟨rfl,y.out⟩
   by_cases f:l=[]
   ·have c:Hid (cQ count at_ l=(⟨0,at_,4⟩,at_)):=by simp only[Hid];rw[p.out,if_neg a,if_pos f]
    have m:((count:Int)==8)=false:=by rw[beq_eq_false_iff_ne];have:=a;omega
    have E:((at_:Int)==(s.size:Int))=true:=by rw[beq_iff_eq];have:=o.out.1;have G:l.length=0:=(by simp[f]);omega
    clear a f;go_wp2_with(refine ak rfl 270 (.tmp 6) _ rfl g1 (aY ⟨0,at_,4⟩) rfl rfl _ _ K.out cg rfl (dc _) ?_);intro D g k;have v:=af g;have y:Hid (Fr ah w D):=L.out.au k (fun i I e=>by have O:i=g1:=e;have:=M;unfold Sz at this;omega);clear g k;go_wp2;refine bodyPost_ret (bV _ _ g1 (aY ⟨0,at_,4⟩) _ rfl rfl v.out rfl) rfl ?_;rw[c.out];exact⟨rfl,y.out⟩
   by_cases t:ds=[]
   ·have c:Hid (cQ count at_ l=(⟨0,at_,6⟩,at_)):=by simp only[Hid];rw[p.out,if_neg a,if_neg f,if_pos t]
    have m:((count:Int)==8)=false:=by rw[beq_eq_false_iff_ne];have:=a;omega
    have E:((at_:Int)==(s.size:Int))=false:=by rw[beq_eq_false_iff_ne];have:=o.out.1;have G:l.length≠0:=fun h=>f (List.length_eq_zero_iff.1 h);omega
    have H:((q:Int)==(at_:Int))=true:=by rw[beq_iff_eq];have:=F.out;have G:ds.length=0:=(by simp[t]);omega
    clear a f t;go_wp2_with(refine ak rfl 270 (.tmp 6) _ rfl g1 (aY ⟨0,at_,6⟩) rfl rfl _ _ K.out cg rfl (dc _) ?_);intro D g k;have v:=af g;have y:Hid (Fr ah w D):=L.out.au k (fun i I e=>by have O:i=g1:=e;have:=M;unfold Sz at this;omega);clear g k;go_wp2;refine bodyPost_ret (bV _ _ g1 (aY ⟨0,at_,6⟩) _ rfl rfl v.out rfl) rfl ?_;rw[c.out];exact⟨rfl,y.out⟩
   by_cases u:l[0]? =some 48
   ·have c:Hid (cQ count at_ l=(⟨0,at_,3⟩,at_)):=by simp only[Hid];rw[p.out,if_neg a,if_neg f,if_neg t,if_pos u]
    have m:((count:Int)==8)=false:=by rw[beq_eq_false_iff_ne];have:=a;omega
    have E:((at_:Int)==(s.size:Int))=false:=by rw[beq_eq_false_iff_ne];have:=o.out.1;have G:l.length≠0:=fun h=>f (List.length_eq_zero_iff.1 h);omega
    have H:((q:Int)==(at_:Int))=false:=by rw[beq_eq_false_iff_ne];have:=F.out;have G:ds.length≠0:=fun h=>t (List.length_eq_zero_iff.1 h);omega
    obtain⟨z,A,B,C⟩:=o.out.2 (fun h=>f h);have i1:at_<s.size:=A;have i2:(at_:Int)<(s.size:Int):=by omega
    have i3:(0:Int)≤(at_:Int):=by omega
    have i4:s[at_]=z:=C;have P:((z.toNat:Int)==48)=true:=by
     rw[B]at u;have U:z=48:=Option.some.inj u;subst U;rfl
    clear a f t u;go_wp2_with(refine ak rfl 270 (.tmp 6) _ rfl g1 (aY ⟨0,at_,3⟩) rfl rfl _ _ K.out cg rfl (dc _) ?_);intro D g k;have v:=af g;have y:Hid (Fr ah w D):=L.out.au k (fun i I e=>by have O:i=g1:=e;have:=M;unfold Sz at this;omega);clear g k;go_wp2;refine bodyPost_ret (bV _ _ g1 (aY ⟨0,at_,3⟩) _ rfl rfl v.out rfl) rfl ?_;rw[c.out];exact⟨rfl,y.out⟩
   by_cases hm:6<ds.length
   ·have c:Hid (cQ count at_ l=(⟨0,at_,2⟩,at_)):=by simp only[Hid];rw[p.out,if_neg a,if_neg f,if_neg t,if_neg u,if_pos hm]
    have m:((count:Int)==8)=false:=by rw[beq_eq_false_iff_ne];have:=a;omega
    have E:((at_:Int)==(s.size:Int))=false:=by rw[beq_eq_false_iff_ne];have:=o.out.1;have G:l.length≠0:=fun h=>f (List.length_eq_zero_iff.1 h);omega
    have H:((q:Int)==(at_:Int))=false:=by rw[beq_eq_false_iff_ne];have:=F.out;have G:ds.length≠0:=fun h=>t (List.length_eq_zero_iff.1 h);omega
    obtain⟨z,A,B,C⟩:=o.out.2 (fun h=>f h);have i1:at_<s.size:=A;have i2:(at_:Int)<(s.size:Int):=by omega
    have i3:(0:Int)≤(at_:Int):=by omega
    have i4:s[at_]=z:=C;have P:((z.toNat:Int)==48)=false:=by
     rw[B]at u;rw[beq_eq_false_iff_ne];intro h;apply u;have:z=48:=by
      apply UInt8.toNat_inj.1;have Q:(48:UInt8).toNat=48:=rfl;omega
     rw[this]
    have V:decide (6<(q:Int)-(at_:Int))=true:=cT (by have:=F.out;omega);clear a f t u hm;go_wp2_with(refine ak rfl 270 (.tmp 6) _ rfl g1 (aY ⟨0,at_,2⟩) rfl rfl _ _ K.out cg rfl (dc _) ?_);intro D g k;have v:=af g;have y:Hid (Fr ah w D):=L.out.au k (fun i I e=>by have O:i=g1:=e;have:=M;unfold Sz at this;omega);clear g k;go_wp2;refine bodyPost_ret (bV _ _ g1 (aY ⟨0,at_,2⟩) _ rfl rfl v.out rfl) rfl ?_;rw[c.out];exact⟨rfl,y.out⟩
   have c:Hid (cQ count at_ l=(⟨eY ds,at_,0⟩,at_+ds.length)):=by simp only[Hid];rw[p.out,if_neg a,if_neg f,if_neg t,if_neg u,if_neg hm]
   have m:((count:Int)==8)=false:=by rw[beq_eq_false_iff_ne];have:=a;omega
   have E:((at_:Int)==(s.size:Int))=false:=by rw[beq_eq_false_iff_ne];have:=o.out.1;have G:l.length≠0:=fun h=>f (List.length_eq_zero_iff.1 h);omega
   have H:((q:Int)==(at_:Int))=false:=by rw[beq_eq_false_iff_ne];have:=F.out;have G:ds.length≠0:=fun h=>t (List.length_eq_zero_iff.1 h);omega
   obtain⟨z,A,B,C⟩:=o.out.2 (fun h=>f h);have i1:at_<s.size:=A;have i2:(at_:Int)<(s.size:Int):=by omega
   have i3:(0:Int)≤(at_:Int):=by omega
   have i4:s[at_]=z:=C;have P:((z.toNat:Int)==48)=false:=by
    rw[B]at u;rw[beq_eq_false_iff_ne];intro h;apply u;have:z=48:=by
     apply UInt8.toNat_inj.1;have Q:(48:UInt8).toNat=48:=rfl;omega
    rw[this]
   have V:decide (6<(q:Int)-(at_:Int))=false:=bZ (by have:=F.out;omega);clear a f t u hm;go_wp2_with(refine ak rfl 270 (.tmp 6) _ rfl g1 (aY ⟨eY ds,at_,0⟩) rfl rfl _ _ K.out cg rfl (dc _) ?_);intro D g k;have v:=af g;have y:Hid (Fr ah w D):=L.out.au k (fun i I e=>by have O:i=g1:=e;have:=M;unfold Sz at this;omega);clear g k;go_wp2;refine bodyPost_ret (bV _ _ g1 (aY ⟨eY ds,at_,0⟩) _ rfl rfl v.out rfl) rfl ?_;rw[c.out];refine⟨?_,y.out⟩;rw[←F.out];rfl
  ·clear W;have aE:(q:Int)<(s.size:Int):=by omega
   have aF:(q:Int)-(at_:Int)≤6:=by have:=F.out;omega
   have aU:(0:Int)≤(q:Int):=by omega
   have aV:s[q]=b:=R;have t4:me b=false:=S;clear R S Q;have p:Hid (cQ count at_ l=if count=8 then(⟨0,at_,9⟩,at_)else if l=[]then(⟨0,at_,4⟩,at_)else if ds=[]then(⟨0,at_,6⟩,at_)else if l[0]? =some 48 then(⟨0,at_,3⟩,at_)else if 6<ds.length then(⟨0,at_,2⟩,at_)else(⟨eY ds,at_,0⟩,at_+ds.length)):=by simp only[Hid];rw[ab.out];rfl
   by_cases a:count=8
   ·have c:Hid (cQ count at_ l=(⟨0,at_,9⟩,at_)):=by simp only[Hid];rw[p.out,if_pos a]
    have m:((count:Int)==8)=true:=by rw[beq_iff_eq];have:=a;omega
    clear a;go_wp2_with fail;refine(Z.out b _).mono ?_;rintro e w'⟨rfl,rfl⟩;rw[t4];go_wp2_with(refine ak rfl 270 (.tmp 6) _ rfl g1 (aY ⟨0,at_,9⟩) rfl rfl _ _ K.out cg rfl (dc _) ?_);intro D g k;have v:=af g;have y:Hid (Fr ah w D):=L.out.au k (fun i I e=>by have O:i=g1:=e;have:=M;unfold Sz at this;omega);clear g k;go_wp2;refine bodyPost_ret (bV _ _ g1 (aY ⟨0,at_,9⟩) _ rfl rfl v.out rfl) rfl ?_;rw[c.out];exact⟨rfl,y.out⟩
   by_cases f:l=[]
   ·have c:Hid (cQ count at_ l=(⟨0,at_,4⟩,at_)):=by simp only[Hid];rw[p.out,if_neg a,if_pos f]
    have m:((count:Int)==8)=false:=by rw[beq_eq_false_iff_ne];have:=a;omega
    have E:((at_:Int)==(s.size:Int))=true:=by rw[beq_iff_eq];have:=o.out.1;have G:l.length=0:=(by simp[f]);omega
    clear a f;go_wp2_with fail;refine(Z.out b _).mono ?_;rintro e w'⟨rfl,rfl⟩;rw[t4];go_wp2_with(refine ak rfl 270 (.tmp 6) _ rfl g1 (aY ⟨0,at_,4⟩) rfl rfl _ _ K.out cg rfl (dc _) ?_);intro D g k;have v:=af g;have y:Hid (Fr ah w D):=L.out.au k (fun i I e=>by have O:i=g1:=e;have:=M;unfold Sz at this;omega);clear g k;go_wp2;refine bodyPost_ret (bV _ _ g1 (aY ⟨0,at_,4⟩) _ rfl rfl v.out rfl) rfl ?_;rw[c.out];exact⟨rfl,y.out⟩
   by_cases t:ds=[]
   ·have c:Hid (cQ count at_ l=(⟨0,at_,6⟩,at_)):=by simp only[Hid];rw[p.out,if_neg a,if_neg f,if_pos t]
    have m:((count:Int)==8)=false:=by rw[beq_eq_false_iff_ne];have:=a;omega
    have E:((at_:Int)==(s.size:Int))=false:=by rw[beq_eq_false_iff_ne];have:=o.out.1;have G:l.length≠0:=fun h=>f (List.length_eq_zero_iff.1 h);omega
    have H:((q:Int)==(at_:Int))=true:=by rw[beq_iff_eq];have:=F.out;have G:ds.length=0:=(by simp[t]);omega
    clear a f t;go_wp2_with fail;refine(Z.out b _).mono ?_;rintro e w'⟨rfl,rfl⟩;rw[t4];go_wp2_with(refine ak rfl 270 (.tmp 6) _ rfl g1 (aY ⟨0,at_,6⟩) rfl rfl _ _ K.out cg rfl (dc _) ?_);intro D g k;have v:=af g;have y:Hid (Fr ah w D):=L.out.au k (fun i I e=>by have O:i=g1:=e;have:=M;unfold Sz at this;omega);clear g k;go_wp2;refine bodyPost_ret (bV _ _ g1 (aY ⟨0,at_,6⟩) _ rfl rfl v.out rfl) rfl ?_;rw[c.out];exact⟨rfl,y.out⟩
   by_cases u:l[0]? =some 48
   ·have c:Hid (cQ count at_ l=(⟨0,at_,3⟩,at_)):=by simp only[Hid];rw[p.out,if_neg a,if_neg f,if_neg t,if_pos u]
    have m:((count:Int)==8)=false:=by rw[beq_eq_false_iff_ne];have:=a;omega
    have E:((at_:Int)==(s.size:Int))=false:=by rw[beq_eq_false_iff_ne];have:=o.out.1;have G:l.length≠0:=fun h=>f (List.length_eq_zero_iff.1 h);omega
    have H:((q:Int)==(at_:Int))=false:=by rw[beq_eq_false_iff_ne];have:=F.out;have G:ds.length≠0:=fun h=>t (List.length_eq_zero_iff.1 h);omega
    obtain⟨z,A,B,C⟩:=o.out.2 (fun h=>f h);have i1:at_<s.size:=A;have i2:(at_:Int)<(s.size:Int):=by omega
    have i3:(0:Int)≤(at_:Int):=by omega
    have i4:s[at_]=z:=C;have P:((z.toNat:Int)==48)=true:=by
     rw[B]at u;have U:z=48:=Option.some.inj u;subst U;rfl
    clear a f t u;go_wp2_with fail;refine(Z.out b _).mono ?_;rintro e w'⟨rfl,rfl⟩;rw[t4];go_wp2_with(refine ak rfl 270 (.tmp 6) _ rfl g1 (aY ⟨0,at_,3⟩) rfl rfl _ _ K.out cg rfl (dc _) ?_);intro D g k;have v:=af g;have y:Hid (Fr ah w D):=L.out.au k (fun i I e=>by have O:i=g1:=e;have:=M;unfold Sz at this;omega);clear g k;go_wp2;refine bodyPost_ret (bV _ _ g1 (aY ⟨0,at_,3⟩) _ rfl rfl v.out rfl) rfl ?_;rw[c.out];exact⟨rfl,y.out⟩
   by_cases hm:6<ds.length
   ·have c:Hid (cQ count at_ l=(⟨0,at_,2⟩,at_)):=by simp only[Hid];rw[p.out,if_neg a,if_neg f,if_neg t,if_neg u,if_pos hm]
    have m:((count:Int)==8)=false:=by rw[beq_eq_false_iff_ne];have:=a;omega
    have E:((at_:Int)==(s.size:Int))=false:=by rw[beq_eq_false_iff_ne];have:=o.out.1;have G:l.length≠0:=fun h=>f (List.length_eq_zero_iff.1 h);omega
    have H:((q:Int)==(at_:Int))=false:=by rw[beq_eq_false_iff_ne];have:=F.out;have G:ds.length≠0:=fun h=>t (List.length_eq_zero_iff.1 h);omega
    obtain⟨z,A,B,C⟩:=o.out.2 (fun h=>f h);have i1:at_<s.size:=A;have i2:(at_:Int)<(s.size:Int):=by omega
    have i3:(0:Int)≤(at_:Int):=by omega
    have i4:s[at_]=z:=C;have P:((z.toNat:Int)==48)=false:=by
     rw[B]at u;rw[beq_eq_false_iff_ne];intro h;apply u;have:z=48:=by
      apply UInt8.toNat_inj.1;have Q:(48:UInt8).toNat=48:=rfl;omega
     rw[this]
    have V:decide (6<(q:Int)-(at_:Int))=true:=cT (by have:=F.out;omega);clear a f t u hm;go_wp2_with fail;refine(Z.out b _).mono ?_;rintro e w'⟨rfl,rfl⟩;rw[t4];go_wp2_with(refine ak rfl 270 (.tmp 6) _ rfl g1 (aY ⟨0,at_,2⟩) rfl rfl _ _ K.out cg rfl (dc _) ?_);intro D g k;have v:=af g;have y:Hid (Fr ah w D):=L.out.au k (fun i I e=>by have O:i=g1:=e;have:=M;unfold Sz at this;omega);clear g k;go_wp2;refine bodyPost_ret (bV _ _ g1 (aY ⟨0,at_,2⟩) _ rfl rfl v.out rfl) rfl ?_;rw[c.out];exact⟨rfl,y.out⟩
   have c:Hid (cQ count at_ l=(⟨eY ds,at_,0⟩,at_+ds.length)):=by simp only[Hid];rw[p.out,if_neg a,if_neg f,if_neg t,if_neg u,if_neg hm]
   have m:((count:Int)==8)=false:=by rw[beq_eq_false_iff_ne];have:=a;omega
   have E:((at_:Int)==(s.size:Int))=false:=by rw[beq_eq_false_iff_ne];have:=o.out.1;have G:l.length≠0:=fun h=>f (List.length_eq_zero_iff.1 h);omega
   have H:((q:Int)==(at_:Int))=false:=by rw[beq_eq_false_iff_ne];have:=F.out;have G:ds.length≠0:=fun h=>t (List.length_eq_zero_iff.1 h);omega
   obtain⟨z,A,B,C⟩:=o.out.2 (fun h=>f h);have i1:at_<s.size:=A;have i2:(at_:Int)<(s.size:Int):=by omega
   have i3:(0:Int)≤(at_:Int):=by omega
   have i4:s[at_]=z:=C;have P:((z.toNat:Int)==48)=false:=by
    rw[B]at u;rw[beq_eq_false_iff_ne];intro h;apply u;have:z=48:=by
     apply UInt8.toNat_inj.1;have Q:(48:UInt8).toNat=48:=rfl;omega
    rw[this]
   have V:decide (6<(q:Int)-(at_:Int))=false:=bZ (by have:=F.out;omega);clear a f t u hm;go_wp2_with fail;refine(Z.out b _).mono ?_;rintro e w'⟨rfl,rfl⟩;rw[t4];go_wp2_with(refine ak rfl 270 (.tmp 6) _ rfl g1 (aY ⟨eY ds,at_,0⟩) rfl rfl _ _ K.out cg rfl (dc _) ?_);intro D g k;have v:=af g;have y:Hid (Fr ah w D):=L.out.au k (fun i I e=>by have O:i=g1:=e;have:=M;unfold Sz at this;omega);clear g k;go_wp2;refine bodyPost_ret (bV _ _ g1 (aY ⟨eY ds,at_,0⟩) _ rfl rfl v.out rfl) rfl ?_;rw[c.out];refine⟨?_,y.out⟩;rw[←F.out];rfl
end Go.Proofs.YtphjagkehiklkaaGreatDoor
namespace Go.Proofs.YtphjagkehiklkaaGreatDoor
open Go.RowKit Go.Shelf
attribute[local go_sem]Oper.semAt_some
theorem wM{n:Nat}{P:Program}{row:String}{args:Array Value}{w:World}{a:Value→World→Prop}(h:Rows P row args w a):RowsIn Fence.wide n P row args w a:=
 fun c cs _=>let⟨v,w',q,s⟩:=h c cs;⟨v,w',q,stepsIn_wide.2 s⟩
theorem AE{n:Nat}{P:Program}{q:Oper}{a:Act}{w:World}{K j:Act→World→Prop}{Q Q':Exit→Act→World→Prop}(l:gT q=true)(b:∀a w,K a w→j a w)(g:∀e a w,Q e a w→Q' e a w)(h:q.wp P a w K Q):
  q.wpIn Fence.wide n P a w j Q':=by
 refine⟨fun _ _=>trivial,?_⟩;rw[Oper.semAt_plain _ _ _ (tc l)];unfold Oper.wp at h;generalize(execOp a.eval q).run P w=x at*;have c:(Fence.wide.depth.isSome=true→1≤n):=fun h=>(by cases h);rcases x with⟨x,w'⟩|⟨x,w'⟩
 ·cases x with
  |value v=>exact b _ _ h
  |skip=>exact b _ _ h
  |defer d=>exact b _ _ h
  |enter f args=>
   refine⟨c,callsIn_wide.2 (Calls.mono h fun e i he=>?_)⟩;cases e with
   |returned v=>exact b _ _ he
   |panicked ch=>exact g _ _ _ he
   |outgrown=>obtain⟨k,w3,m⟩:=he;exact⟨k,w3,g _ _ _ m⟩
  |row p args=>exact⟨c,wM (h.mono fun v i o=>b _ _ o)⟩
  |_=>exact absurd h id
 ·cases x<;>first|exact g _ _ _ h|exact absurd h id
theorem kG{n:Nat}{P:Program}{ops:Array Oper}{Q:Exit→Act→World→Prop}:∀{l:List Oper}{a:Act}{w:World},(l.all gT)=true→wpList P ops (fun e a w=>Q e a w∧e= .normal) l a w→wpListIn Fence.wide n P ops Q l a w
 |[],_,_,_,h=>h.1
 |g::rest,a,w,b,h=>by
  rw[List.all_cons,Bool.and_eq_true]at b;unfold wpList at h;unfold wpListIn;split
  ·rename_i hw;rw[if_pos hw]at h;rcases h with h|⟨_,f,w',c⟩;·exact AE b.1 (fun a w d=>kG b.2 d) (fun _ _ _ c=>c.1) h
   ·exact absurd c.2 (by simp)
  ·rename_i hw;rw[if_neg hw]at h;exact⟨fun _ _=>trivial,kG b.2 h⟩
theorem ov{n:Nat}{P:Program}{ops:Array Oper}{Q:Exit→Act→World→Prop}{d:Oper}{l:List Oper}{a:Act}{w:World}(f:Op→Bool)(b:f d.op=true)(c:((d::l).all gT)=true)(h:wpList P ops (fun e a w=>Q e a w∧e= .normal) (d::l) a w):wpListIn Fence.wide n P ops Q (d::l) a w:=
 kG c h
theorem DG(s:ByteArray)(k at_:Nat)(u:k≤8)(t:at_≤s.size)(P:Part)(E:Nat)(a:cQ k at_ (s.toList.drop at_)=(P,E)):
  (P.e≠0∧dq (8-k) at_ (s.toList.drop at_)=[P])∨(P.e=0∧k<8∧at_≤E∧E≤s.size∧
   ((E=s.size∧dq (8-k) at_ (s.toList.drop at_)=[P])∨(∃b,∃h:E<s.size,s[E]=b∧b.toNat≠46∧dq (8-k) at_ (s.toList.drop at_)=[P,⟨0,E,6⟩])∨
    (∃b,∃h:E<s.size,s[E]=b∧b.toNat=46∧dq (8-k) at_ (s.toList.drop at_)=P::dq (8-(k+1)) (E+1) (s.toList.drop (E+1))))):=by
 have hlen:(s.toList.drop at_).length=s.size-at_:=by rw[List.length_drop,fm]
 have r:=kY 7 (s.toList.drop at_);have f:∀i b,(s.toList.drop at_)[i]? =some b→∃h:at_+i<s.size,s[at_+i]=b:=fun i b d=>by
  rw[List.getElem?_drop]at d;exact yY d
 have c:∀i,(s.toList.drop at_).drop i=s.toList.drop (at_+i):=fun i=>by rw[List.drop_drop]
 generalize s.toList.drop at_=l at*;by_cases o:k=8;·subst o;simp only[cQ,if_true,Prod.mk.injEq]at a;obtain⟨rfl,rfl⟩:=a;exact .inl ⟨by simp,rfl⟩
 ·have p:8-k=(7-k)+1:=by omega
  rw[p,dq];simp only[show 7-(7-k)=k by omega,a];by_cases he:P.e=0
  ·rw[if_neg (by simp[he])];have j:E=at_+(dy 7 l).length:=by
    simp only[cQ]at a;rw[if_neg o]at a;split at a;·simp only[Prod.mk.injEq]at a;rw[←a.1]at he;simp at he
    ·split at a;·simp only[Prod.mk.injEq]at a;rw[←a.1]at he;simp at he
     ·split at a;·simp only[Prod.mk.injEq]at a;rw[←a.1]at he;simp at he
      ·split at a;·simp only[Prod.mk.injEq]at a;rw[←a.1]at he;simp at he
       ·simp only[Prod.mk.injEq]at a;exact a.2.symm
   refine .inr ⟨he,by omega,by omega,by omega,?_⟩;by_cases m:l.length≤(dy 7 l).length;·rw[if_pos m];exact .inl ⟨by omega,rfl⟩
   ·rw[if_neg m];obtain⟨b,d⟩:∃b,l[(dy 7 l).length]? =some b:=⟨_,List.getElem?_eq_getElem (by omega)⟩;obtain⟨q,n⟩:=f _ _ d;rw[d];by_cases g:b=46
    ·rw[if_neg (by simp[g])];refine .inr (.inr ⟨b,by omega,?_,by rw[g];rfl,?_⟩);·subst j;exact n
     ·rw[c,←j,show at_+((dy 7 l).length+1)=E+1 by omega,show 7-k=8-(k+1)by omega]
    ·rw[if_pos (by simpa using g)];refine .inr (.inl ⟨b,by omega,?_,?_,?_⟩);·subst j;exact n
     ·intro h;exact g (UInt8.toNat_inj.1 h)
     ·rw[j]
  ·rw[if_pos he];exact .inl ⟨he,rfl⟩
def KP(A B:World):Prop:=∀g t cs,t=9∨t=270→aq A g t cs→aq B g t cs
theorem KP.refl(A:World):KP A A:=fun _ _ _ _ h=>h
theorem KP.trans{A B C:World}(h:KP A B)(k:KP B C):KP A C:=fun g t cs a b=>k g t cs a (h g t cs a b)
theorem KP.fr{A B:World}{T:Nat→Prop}(h:Fr T A B)(b:∀g t cs,t=9∨t=270→aq A g t cs→¬T g):KP A B:=fun g t cs c a=>a.fr h (b g t cs c a)
theorem KP.below{A B:World}(h:Below A.heap.size A B):KP A B:=fun g _ _ _ a=>(h.block g a.lt).trans a
def AB:Op→Bool
 | .load t _=>t==9
 |_=>false
theorem rB(m B:Nat)(s:ByteArray)(w:World)(aJ:s.size≤1099511627776)(aF:aq w B 9 #[.string s]):
  SeqStopsK Fence.wide m Tryz.prog 182 #[.pointer (some ⟨B,0,none⟩)] (fun p:Part=>#[Value.agg #[.int .i64 p.ord, .int .i64 p.at_, .int .i64 p.e]]) KP (fun aX=>aX=fS s) (fun pre=>pre<+:fS s) (fS s).length w:=by
 intro l J a0 W aH aG _ aI aE;have N:∀k:Nat,(Fence.wide.depth.isSome=true→1≤k):=fun k h=>by cases h
 have aN:=af aG;have ay:=af aI;have ax:=af aJ;have HB:Hid (aq W B 9 #[.string s]):=KP.below aH _ _ _ (.inl rfl) aF;have b0:W.cell? ⟨B,0,none⟩=some (.string s):=HB.out.cell 0;have ad:=af aE;clear aH aG aI aE aJ aF;by_cases C:s.size=0
 ·have o:Hid (fS s=[]):=by simp only[Hid];rw[fS,if_pos C]
  have al:s=ByteArray.empty:=by
   cases s with
   |mk d=>
    have aQ:d.size=0:=C;rw[show d=#[]from Array.eq_empty_of_size_eq_zero aQ];rfl
  subst al;clear C;refine callsIn_of_wp Tryz.func182 rfl trivial ?_ rfl;simp only[Tryz.ntmps182,List.size_toArray,List.length_cons,List.length_nil,Nat.reduceAdd,Nat.reduceSub,Array.replicate_succ,Array.replicate_zero,List.push_toArray,List.append_toArray,List.nil_append,List.cons_append];gi_wp2;refine wpIn_loop_once ?_;gi_wp2;go_end0;exact⟨⟨_,rfl⟩, .inl ⟨_,o.out.symm,ad.out⟩⟩
 ·have o:Hid (fS s=dq 8 0 s.toList):=by simp only[Hid];rw[fS,if_neg C]
  have aV:s.toList.isEmpty=false:=by
   rw[List.isEmpty_eq_false_iff];intro h;have:=congrArg List.length h;rw[fm]at this;exact C (by simpa using this)
  have ar:=af (fun at_ k w U ag=>Cz s at_ k w U ax.out ag);clear C;refine callsIn_of_wp Tryz.func182 rfl trivial ?_ rfl;simp only[Tryz.ntmps182,List.size_toArray,List.length_cons,List.length_nil,Nat.reduceAdd,Nat.reduceSub,Array.replicate_succ,Array.replicate_zero,List.push_toArray,List.append_toArray,List.nil_append,List.cons_append];gi_wp2;gi_loopw[3,4](fun i n wr=>∃(k at_:Nat)(pre:List Part),k≤8∧at_≤s.size∧fS s=pre++dq (8-k) at_ (s.toList.drop at_)∧pre.length=k∧i= .int .i64 (at_:Nat)∧n= .int .i64 (k:Nat)∧J pre wr∧KP W wr)(fun _ n _=>9-(intOf n).toNat);case atStart=>exact⟨0,0,[],by omega,by omega,by rw[o.out];rfl,rfl,rfl,rfl,ad.out,KP.refl _⟩
  case round=>
   obtain⟨k,at_,pre,X,V,R,Q,rfl,rfl,L,u⟩:=hrel;have F:=af L;have G:=af u;have a:=af R;have ac:=af Q;have aC:wr.cell? ⟨B,0,none⟩=some (.string s):=(u _ _ _ (.inl rfl) HB.out).cell 0;have t:=af (ar.out at_ k wr V X);obtain⟨P,E,v⟩:∃P E,cQ k at_ (s.toList.drop at_)=(P,E):=⟨_,_,rfl⟩;have c:=af (DG s k at_ X V P E v);rw[v]at t;have aZ:=af V;have ab:=af X;clear L u R Q v ar b0 ad o V X;gi_wp2_with(refine ov AB rfl (by kernel_rfl) ?_);go_wp2;gi_wp2_with(refine ov AB rfl (by kernel_rfl) ?_);go_wp2_with fail;refine t.out.mono ?_;rintro e w1⟨rfl,f1⟩;have Z:=af f1;clear f1 aC t;go_wp2_with(refine an rfl 270 rfl (.agg nV) pM nV rfl ?_);intro w2 ao;have av:=af (Z.out.trans ao.fr);have ap:=af ao.aD;have aO:Sz wr w1.heap.size:=Z.out.size;clear ao Z;generalize w1.heap.size=g1 at*;go_wp2_with(refine ak rfl 270 (.tmp 5) _ rfl g1 (aY P) rfl rfl _ _ ap.out cg rfl (dc _) ?_);intro w3 b3 f3;have aa:Hid (Fr ah wr w3):=av.out.au f3 (fun i a3 e=>by have a2:i=g1:=e;have:=aO;unfold Sz at this;omega);have D:=af b3;clear b3 f3 av ap;go_wp2;have az:=af (aN.out pre wr w3 none F.out (Fr.JI aa.out) (fun r e=>by cases e));have aA:=af (G.out.trans (KP.fr aa.out (fun _ _ _ _ _ x=>x)));have q:pre.length<(fS s).length:=by
    rw[a.out,aW];have:0<(dq (8-k) at_ (s.toList.drop at_)).length:=by
     rcases c.out with⟨_,h⟩|⟨_,_,_,_,⟨_,h⟩|⟨_,_,_,_,h⟩|⟨_,_,_,_,h⟩⟩<;>(rw[h];simp)
    omega
   obtain⟨fn,tmps,assign,body,Y,M⟩:=ay.out pre P w3 az.out q;have H:=af M;have aT:w3.cell? ⟨g1,0,none⟩=some (.int .i64 P.ord):=D.out.cell 0;have aU:w3.cell? ⟨g1,1,none⟩=some (.int .i64 P.at_):=D.out.cell 1;have aK:w3.cell? ⟨g1,2,none⟩=some (.int .i64 P.e):=D.out.cell 2;clear M q az F G;gi_wp2;refine⟨N _,H.out.mono ?_⟩;clear H Y aT aU aK fn tmps assign body;rintro e A(⟨rfl,hJ4,y⟩|⟨rfl,S⟩)
   ·have z:=af hJ4;have aB:=af (aA.out.trans y);have aL:Hid (aq A g1 270 (aY P)):=y _ _ _ (.inr rfl) D.out;have aC:A.cell? ⟨B,0,none⟩=some (.string s):=(aB.out _ _ _ (.inl rfl) HB.out).cell 0;have aK:A.cell? ⟨g1,2,none⟩=some (.int .i64 P.e):=aL.out.cell 2;clear hJ4 y aA aa D;rcases c.out with⟨he,g⟩|⟨he,O,aj,I,aP⟩
    ·have t1:((P.e:Int)==0)=false:=by rw[beq_eq_false_iff_ne];omega
     have j:=af g;have aR:¬P.e=0:=he;clear c g he;gi_wp2;refine bodyPost_ret (results_none rfl _ _ _) rfl ?_;exact⟨⟨_,rfl⟩, .inl ⟨_,by rw[a.out,j.out],z.out⟩⟩
    ·have t1:((P.e:Int)==0)=true:=by rw[beq_iff_eq];omega
     have aM:Hid (E≤s.size):=I;have aw:=af O;have aS:P.e=0:=he;clear he aj I O;rcases aP with⟨he,g⟩|⟨b,U,ag,ai,g⟩|⟨b,U,ag,ai,g⟩
     ·have t2:((E:Int)==(s.size:Int))=true:=by rw[beq_iff_eq];omega
      have j:=af g;clear c g he;gi_wp2;refine bodyPost_ret (results_none rfl _ _ _) rfl ?_;exact⟨⟨_,rfl⟩, .inl ⟨_,by rw[a.out,j.out],z.out⟩⟩
     ·have t2:((E:Int)==(s.size:Int))=false:=by rw[beq_eq_false_iff_ne];omega
      have t3:(E:Int)<(s.size:Int):=by omega
      have t4:(0:Int)≤(E:Int):=by omega
      have t5:((b.toNat:Int)==46)=false:=by rw[beq_eq_false_iff_ne];omega
      have j:=af g;have f:(pre++[P]).length<(fS s).length:=by rw[a.out,j.out];simp
      obtain⟨fn,tmps,assign,body,Y,M⟩:=ay.out (pre++[P]) ⟨0,E,6⟩ A z.out f;have H:=af M;have am:(Instr.yield l #[.agg #[.int .i64 0, .int .i64 (E:Int), .int .i64 6]]).run Tryz.prog A= .ok (.round l fn tmps assign body) A:=Y;clear c g ai M f Y;gi_wp2;refine⟨N _,H.out.mono ?_⟩;clear H am;rintro e a1(⟨rfl,K,_⟩|⟨rfl,T⟩);·have ae:=af K;clear K;gi_wp2;refine bodyPost_ret (results_none rfl _ _ _) rfl ?_;exact⟨⟨_,rfl⟩, .inl ⟨_,by rw[a.out,j.out];simp,ae.out⟩⟩
      ·have ae:=af T;clear T;gi_wp2;refine bodyPost_ret (results_none rfl _ _ _) rfl ?_;exact⟨⟨_,rfl⟩, .inr ⟨_,by rw[a.out,j.out];simp,ae.out⟩⟩
     ·have t2:((E:Int)==(s.size:Int))=false:=by rw[beq_eq_false_iff_ne];omega
      have t3:(E:Int)<(s.size:Int):=by omega
      have t4:(0:Int)≤(E:Int):=by omega
      have t5:((b.toNat:Int)==46)=true:=by rw[beq_iff_eq];omega
      have t6:E≤1099511627776:=by have:=ax.out;omega
      have t7:k≤8:=ab.out;have j:=af g;have H1:=af U;clear c g ai;gi_wp2;go_roundw;case rel=>
       refine⟨k+1,E+1,pre++[P],by have:=aw.out;omega,by have:=H1.out;omega,by rw[a.out,j.out];simp,by rw[aW,ac.out];rfl,by go_num,by go_num,z.out,aB.out⟩
      case measure=>have:=aw.out;simp[intOf];omega
   ·have z:=af S;clear S;gi_wp2;refine bodyPost_ret (results_none rfl _ _ _) rfl ?_;refine⟨⟨_,rfl⟩, .inr ⟨_,?_,z.out⟩⟩;rw[a.out];rcases c.out with⟨_,h⟩|⟨_,_,_,_,⟨_,h⟩|⟨_,_,_,_,h⟩|⟨_,_,_,_,h⟩⟩<;>(rw[h];simp)
end Go.Proofs.YtphjagkehiklkaaGreatDoor
namespace Go.Proofs.YtphjagkehiklkaaGreatDoor
open Go.RowKit
def Es(ops:Array Oper)(n:Nat)(kill:Nat→Nat→Bool)(i j:Nat):Bool:=(List.range n).all fun k=>!kill k j||k==i||Region.waitsFor .any ops k i
def EO(ops:Array Oper)(n:Nat)(wr:Nat→Bool)(i:Nat):Bool:=(List.range n).all fun k=>!wr k||k==i||Region.waitsFor .any ops k i
def sy(kill:Nat→Bool)(u:Nat→Value)(w' a:World):Nat→List Fact→Prop
 |_,[]=>True
 |j,f::r=>(kill j=false→f.p (u j) w'→f.p (u j) a)∧sy kill u w' a (j+1) r
theorem sy.at_{kill:Nat→Bool}{u:Nat→Value}{w' a:World}:∀{V:List Fact}{k:Nat},sy kill u w' a k V→∀j,kill (k+j)=false→(V.getD j lD).p (u (k+j)) w'→(V.getD j lD).p (u (k+j)) a
 |[],_,_,_,_,_=>trivial
 |_::_,_,h,0,b,c=>h.1 b c
 |_::r,k,h,j+1,b,c=>by
  have e:k+(j+1)=k+1+j:=by omega
  rw[e]at b c⊢;exact sy.at_ (V:=r) h.2 j b c
def Hs(b:Bool)(T:Nat→Prop)(w:World)(S:World→Prop)(a:Act)(d:Option Tmp)(w':World)(p:Value→World→Prop)(e:Act)(c:World):Prop:=
 ∃v,e=a.put d v∧(match b with|true=>Fr T w c∧S c|false=>Fr ah w' c)∧p v c
def ri(P:Program)(ops:Array Oper)(Q:Exit→Act→World→Prop)(n:Nat)(T:Nat→Prop)(wr:Nat→Bool)(kill:Nat→Nat→Bool)(w:World)(F:(Nat→Value)→Act)(V:List Fact):Nat→List Oper→Prop
 |_,[]=>True
 |i,b::r=>(∀u w',Fr T w w'→(∀j,(_:Region.waitsFor .any ops i j=true:=by kernel_rfl)→(_:Es ops n kill i j=true:=by kernel_rfl)→(V.getD j lD).p (u j) w')→((_:EO ops n wr i=true:=by kernel_rfl)→Fr ah w w')→
   mX P ops Q b (F u) w' (Hs (wr i) T w (fun a=>sy (fun j=>kill i j||j==i||Region.waitsFor .any ops j i) u w' a 0 V) (F u) b.dst w' (V.getD i lD).p))∧ri P ops Q n T wr kill w F V (i+1) r
theorem ri.at_{P:Program}{ops:Array Oper}{Q:Exit→Act→World→Prop}{n:Nat}{T:Nat→Prop}{wr:Nat→Bool}{kill:Nat→Nat→Bool}{w:World}{F:(Nat→Value)→Act}{V:List Fact}:
  ∀{l:List Oper}{k:Nat},ri P ops Q n T wr kill w F V k l→∀i d,l[i]? =some d→∀u w',Fr T w w'→(∀j,Region.waitsFor .any ops (k+i) j=true→Es ops n kill (k+i) j=true→(V.getD j lD).p (u j) w')→(EO ops n wr (k+i)=true→Fr ah w w')→
   mX P ops Q d (F u) w' (Hs (wr (k+i)) T w (fun b=>sy (fun j=>kill (k+i) j||j==(k+i)||Region.waitsFor .any ops j (k+i)) u w' b 0 V) (F u) d.dst w' (V.getD (k+i) lD).p)
 |[],_,_,_,_,h=>by simp at h
 |c::r,k,h,0,d,a=>by
  have:c=d:=by simpa using a
  subst this;exact h.1
 |c::r,k,h,i+1,d,a=>by
  have:=ri.at_ h.2 i d (by simpa using a);rw[show k+1+i=k+(i+1)by omega]at this;exact this
theorem mT{b:Bool}{p:Prop}(a:b=true:=by kernel_rfl):b=false→p:=fun h=>by rw[a]at h;cases h
structure Lf(w:World)(n:Nat)(T:Nat→Prop)(wr:Nat→Bool)(kill:Nat→Nat→Bool)(V:List Fact)(d:Nat→Bool)(u:Nat→Value)(w':World):Prop where
 fr:Fr T w w'
 quiet:(∀k,k<n→d k=true→wr k=false)→Fr ah w w'
 facts:∀j,j<n→d j=true→(∀k,k<n→d k=true→kill k j=false)→(V.getD j lD).p (u j) w'
theorem Ef{P:Program}{id:Nat}{Q:Exit→Act→World→Prop}{a:Act}{w:World}{l:List Oper}(n:Nat)(T:Nat→Prop)(wr:Nat→Bool)(kill:Nat→Nat→Bool)(V:List Fact)
  (aa:ri P l.toArray Q n T wr kill w (fun u=>ar ((l.take n).map (·.dst)) 0 u a) V 0 (l.take n))
  (N:∀u w',Fr T w w'→(∀j,j<n→(_:((List.range n).all fun k=>!kill k j)=true:=by kernel_rfl)→(V.getD j lD).p (u j) w')→wpList P l.toArray Q (l.drop n) (ar ((l.take n).map (·.dst)) 0 u a) w')
  (hm:P.follows .mixedOrders=true:=by kernel_rfl)(Z:r7 l.toArray n=true:=by kernel_rfl):(Code.region id l.toArray true).wp P Q a w:=by
 have ok:=rM.of Z;obtain⟨ae,O⟩:=gH ((l.take n).map (·.dst)) 0 a;refine wp_region_any hm ?_;have H:HeadInv .any l.toArray n (Array.replicate l.toArray.size false):=
  ⟨by simp,fun j ah _ U=>(by rw[getD_replicate_false]at U;cases U),fun t _ N=>getD_in (by simpa using N) (getD_replicate_false _ _)⟩;have X:ct (fun j=>!(Array.replicate l.toArray.size false).getD j false) n=n:=by
  have h:∀m,ct (fun j=>!(Array.replicate l.toArray.size false).getD j false) m=m:=by
   intro m;induction m with
   |zero=>rfl
   |succ m ad=>rw[ct,ad,getD_replicate_false];rfl
  exact h n
 have:=yD (P:=P) (Q:=Q) (a:=a) ok (Lf w n T wr kill V) ?_ ?_ n _ ae w.drew H X ⟨az.drew,fun _=>az.drew,fun j _ h=>(by rw[getD_replicate_false]at h;cases h)⟩;·rw[show(l.toArray.toList.take n).map (·.dst)=(l.take n).map (·.dst)by simp,O,show n+(l.toArray.size-n)=l.toArray.size by have:=ok.le;omega]at this;exact this
 ·intro i o A ab d u w' r c s y;have M:(l.take n)[i]? =some o:=by rw[List.getElem?_take,if_pos A];simpa using ab
  have F:=aa.at_ i o M u w' y.fr (fun j g S=>by
   rw[Nat.zero_add]at g S;refine y.facts j (s j g).2 (s j g).1 (fun k q f=>?_);have h:=List.all_eq_true.1 S k (List.mem_range.2 q);simp only[Bool.or_eq_true,Bool.not_eq_true',beq_iff_eq]at h;rcases h with(h|h)|h;·exact h
   ·subst h;rw[r]at f;cases f
   ·have:=c k i f h;rw[r]at this;cases this) (fun G=>by
   rw[Nat.zero_add]at G;refine y.quiet (fun k q f=>?_);have h:=List.all_eq_true.1 G k (List.mem_range.2 q);simp only[Bool.or_eq_true,Bool.not_eq_true',beq_iff_eq]at h;rcases h with(h|h)|h;·exact h
   ·subst h;rw[r]at f;cases f
   ·have:=c k i f h;rw[r]at this;cases this);rw[Nat.zero_add]at F;have E:(l.toArray.toList.take n).map (·.dst)=(l.take n).map (·.dst):=by simp
  rw[E];refine fK ?_ F;rintro ag af⟨v,rfl,b,W⟩;refine⟨v,rfl,?_⟩;have J:∀j,j≠i→dN u i v j=u j:=fun j g=>by simp[dN,g]
  have z:dN u i v i=v:=by simp[dN]
  have setne:∀j,j≠i→gI d i j=d j:=fun j g=>by simp[gI,g]
  have x:gI d i i=true:=by simp[gI]
  have I:∀j,j<n→j≠i→gI d i j=true→(∀k,k<n→gI d i k=true→kill k j=false)→(V.getD j lD).p (u j) w':=fun j g L f q=>
   y.facts j g (by rw[←setne j L];exact f) (fun k B K=>q k B (by
    by_cases e:k=i;·rw[e];exact x
    ·rw[setne k e];exact K));cases D:wr i
  ·rw[D]at b;refine⟨y.fr.trans (Fr.bJ b),fun C=>(y.quiet (fun k q f=>C k q (by by_cases e:k=i<;>simp[gI,e,f]))).trans b,fun j g f q=>?_⟩;by_cases e:j=i;·subst e;rw[z];exact W
   ·rw[J j e];exact(V.getD j lD).st _ _ _ b (I j g e f q)
  ·rw[D]at b;obtain⟨Y,ac⟩:=b;refine⟨Y,fun C=>(by have:=C i A x;rw[D]at this;cases this),fun j g f q=>?_⟩;by_cases e:j=i;·subst e;rw[z];exact W
   ·rw[J j e];have:=ac.at_ j (by
     simp only[Nat.zero_add];rw[q i A x,Bool.false_or,Bool.or_eq_false_iff];refine⟨iK e,?_⟩;cases R:Region.waitsFor .any l.toArray j i;·rfl
     ·have:=c j i (by rw[←setne j e];exact f) R;rw[r]at this;cases this);rw[Nat.zero_add]at this;exact this (I j g e f q)
 ·intro d u w' f y;have:=N u w' y.fr (fun j g q=>y.facts j g (f j g) (fun k B _=>by
   have h:=List.all_eq_true.1 q k (List.mem_range.2 B);simpa using h));simpa using this
end Go.Proofs.YtphjagkehiklkaaGreatDoor
