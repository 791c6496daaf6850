/- Texts. -/
import Derived.LoopIn
import Derived.LoopNIn
import Derived.RangeFuncBound
import Derived.RangeFuncNested
import Derived.Shelf.RegionOpen
import Derived.Test.YtphjagkehiklkaaGreatDoorUK05
set_option linter.unusedVariables false
set_option linter.unusedSimpArgs false
namespace Go.Proofs.YtphjagkehiklkaaGreatDoor
open Go.RowKit Go.Shelf
attribute[local go_sem]Oper.semAt_some
theorem RoundIn.iZ{F:Fence}(a:F.depth=none){m b:Nat}{P:Program}{l:Nat}{f:FuncId}{tmps:Array Value}{assign body:Code}{w:World}{e:Ending→World→Prop}
  (h:RoundIn F m P l f tmps assign body w e):RoundIn F b P l f tmps assign body w e:=⟨h.1,fun c cs _=>h.2 c cs (fun d h=>by rw[a]at h;cases h)⟩
theorem YieldAt.iZ{F:Fence}(b:F.depth=none){m:Nat}(d:Nat){P:Program}{l:Nat}{args:Array Value}{W:World}{e:Ending→World→Prop}(h:YieldAt F m P l args W e):YieldAt F d P l args W e:=by
 obtain⟨fn,tmps,assign,body,c,a⟩:=h;exact⟨fn,tmps,assign,body,c,RoundIn.iZ b a⟩
def Tr.aW:Tr→List (aD×ByteArray)
 | .leaf=>[]
 | .node l nm v r=>l.aW++(nm,v)::r.aW
theorem Tr.bU:∀t:Tr,t.aW.length=t.size
 | .leaf=>rfl
 | .node l nm v r=>by
  simp only[Tr.aW,Tr.size,List.length_append,List.length_cons,l.bU,r.bU];omega
def KN(A B:World):Prop:=∀g cs,ak A g 177 cs→ak B g 177 cs
theorem KN.refl(A:World):KN A A:=fun _ _ h=>h
theorem KN.trans{A B C:World}(h:KN A B)(k:KN B C):KN A C:=fun g cs a=>k g cs (h g cs a)
theorem KN.fr{A B:World}{T:Nat→Prop}(h:Fr T A B)(b:∀g cs,ak A g 177 cs→¬T g):KN A B:=fun g cs a=>a.fr h (b g cs a)
theorem KN.below{A B:World}(h:Below A.heap.size A B):KN A B:=fun g _ a=>(h.block g a.lt).trans a
theorem bO.kn{w w':World}:∀{a:Option Addr}{t:Tr},bO w a t→KN w w'→bO w' a t
 |_, .leaf,h,_=>h
 |_, .node _ _ _ _,⟨g,i,j,e,c,d,f⟩,b=>⟨g,i,j,e,c.kn b,d.kn b,b g _ f⟩
structure Nd where
 g:Nat
 nm:aD
 v:ByteArray
def mN(w:World)(x:Nd):Prop:=∃a b c d e,ak w x.g 177 ([a,b]++x.nm.cells++[Value.string x.v,c,d,e]).toArray
theorem mN.kn{w w':World}{x:Nd}(h:mN w x)(k:KN w w'):mN w' x:=by
 obtain⟨a,b,c,d,e,f⟩:=h;exact⟨a,b,c,d,e,k _ _ f⟩
theorem mN.kr{w:World}{x:Nd}(h:mN w x):Mid w x.g x.nm x.v:=by
 obtain⟨a,b,c,d,e,f⟩:=h;exact Mid.of f
abbrev Ek(w:World):={x:Nd//mN w x}
def Io{w:World}(x:Ek w):aD×ByteArray:=(x.1.nm,x.1.v)
theorem jL{n:Nat}{P:Program}{ops:Array Oper}{Q:Exit→Act→World→Prop}{a:Act}{w:World}{rest:List Oper}{b:Oper}(hw:Region.wanted b (yielded ops a.tmps)=false)
  (h:wpListIn Fence.wide n P ops Q rest (a.put b.dst undef) w):wpListIn Fence.wide n P ops Q (b::rest) a w:=by
 rw[wpListIn,if_neg (by rw[hw];simp)];exact⟨fun _ _=>trivial,h⟩
inductive Ord(w:World):Option Addr→Tr→List (Ek w)→Prop where
 |leaf:Ord w none .leaf []
 |node{l r:Tr}{nm:aD}{v:ByteArray}{g:Nat}{a b:Option Addr}{L h:List (Ek w)}(d:Ord w a l L)(e:Ord w b r h)
   (c:ak w g 177 (qD a b (.node l nm v r)).toArray)(x:Ek w)(f:x.1=⟨g,nm,v⟩):Ord w (some ⟨g,0,none⟩) (.node l nm v r) (L++x::h)
theorem Ord.of{w:World}:∀{a:Option Addr}{t:Tr},bO w a t→∃L,Ord w a t L
 |_, .leaf,h=>by
  obtain rfl:_=none:=h;exact⟨[], .leaf⟩
 |_, .node l nm v r,⟨g,j,k,e,c,d,b⟩=>by
  subst e;obtain⟨L,f⟩:=Ord.of c;obtain⟨m,i⟩:=Ord.of d;exact⟨_, .node f i b ⟨⟨g,nm,v⟩,_,_,_,_,_,b⟩ rfl⟩
theorem Ord.aW{w:World}{a:Option Addr}{t:Tr}{L:List (Ek w)}(h:Ord w a t L):L.map Io=t.aW:=by
 induction h with
 |leaf=>rfl
 |node _ _ _ x d b c=>
  rw[List.map_append,List.map_cons,b,c,Tr.aW];simp only[Io,d]
end Go.Proofs.YtphjagkehiklkaaGreatDoor
namespace Go.Proofs.YtphjagkehiklkaaGreatDoor
open Go.RowKit Go.Shelf
attribute[local go_sem]Oper.semAt_some
theorem Ec{P:Program}{Q:Exit→Act→World→Prop}{a:Act}{w:World}{l:List Oper}(n:Nat)(T:Nat→Prop)(f:List (Value→World→Prop))(ws:List (Nat×(World→Prop)))(b:World→Prop)(B:Nat→Nat→Bool)(z:ny l.toArray n=true)
  (v:eI l.toArray n B=true)(g:(fB B (ws.map (·.1))&&(ws.map (·.1)).all (fun p=>decide (p<n)))=true)
  (k:cO T w f)(o:gR T w ws)(i:∀w' e,Fr T w w'→Fr af w' e→b w'→b e)(s:b w.drew)
  (A:fZ P l.toArray Q T w (fun u=>an ((l.take n).map (·.dst)) 0 u a) (bI f) ws b B n 0 (l.take n))
  (q:∀u w',Fr T w w'→(∀j,j<n→bI f j (u j) w')→kq ws b w'→wpList P l.toArray Q (l.drop n) (an ((l.take n).map (·.dst)) 0 u a) w'):wpAny P .any l.toArray Q l.toArray.size (Array.replicate l.toArray.size false) a w.drew:=by
 have ok:=oO.of z;obtain⟨D,r⟩:=fw ((l.take n).map (·.dst)) 0 a;have d:HeadInv .any l.toArray n (Array.replicate l.toArray.size false):=
  ⟨by simp,fun j F _ c=>(by rw[getD_replicate_false]at c;cases c),fun t _ q=>getD_in (by simpa using q) (getD_replicate_false _ _)⟩;have y:bK (fun j=>!(Array.replicate l.toArray.size false).getD j false) n=n:=by
  have h:∀m,bK (fun j=>!(Array.replicate l.toArray.size false).getD j false) m=m:=by
   intro m;induction m with
   |zero=>rfl
   |succ m C=>rw[bK,C,getD_replicate_false];rfl
  exact h n
 have:=Gb (P:=P) (Q:=Q) (a:=a) ok v g k o i (by simpa using A) (by simpa using q) n _ D w.drew d y ((Fr.refl _ _).drew) (by rw[jC ws b _ (fun x _=>getD_replicate_false _ _)];exact s) (fun j E c=>by rw[getD_replicate_false]at c;cases c);rw[show(l.toArray.toList.take n).map (·.dst)=(l.take n).map (·.dst)by simp,r,show n+(l.toArray.size-n)=l.toArray.size by have:=ok.le;omega]at this;exact this
theorem nP{r m:Nat}{P:Program}{id:Nat}{Q:Exit→Act→World→Prop}{a:Act}{w:World}{l:List Oper}(n:Nat)(T:Nat→Prop)(d:List (Value→World→Prop))(ws:List (Nat×(World→Prop)))(b:World→Prop)(B:Nat→Nat→Bool)(s:(l.all fN)=true)(hm:P.follows .mixedOrders=true)(t:ny l.toArray n=true)
  (q:eI l.toArray n B=true)(f:(fB B (ws.map (·.1))&&(ws.map (·.1)).all (fun p=>decide (p<n)))=true)
  (h:cO T w d)(k:gR T w ws)(g:∀w' c,Fr T w w'→Fr af w' c→b w'→b c)(o:b w.drew)
  (v:fZ P l.toArray (fun e a w=>Q e a w∧e= .normal) T w (fun u=>an ((l.take n).map (·.dst)) 0 u a) (bI d) ws b B n 0 (l.take n))
  (y:∀u w',Fr T w w'→(∀j,j<n→bI d j (u j) w')→kq ws b w'→wpList P l.toArray (fun e a w=>Q e a w∧e= .normal) (l.drop n) (an ((l.take n).map (·.dst)) 0 u a) w'):(Code.region id l.toArray true).wpIn (Fence.wide.inRound r) m P Q a w:=
 wpIn_region_any hm (gJ (fun i z x=>List.all_eq_true.1 s z (List.mem_of_getElem? (by simpa using x))) _ _ _ _ (Ec n T d ws b B t q f h k g o v y))
theorem bE{P:Program}{ops:Array Oper}{rest:List Oper}{m:Oper}{a:Act}{w:World}{Q:Exit→Act→World→Prop}(c:m.guard=none)(ty:TypeId)(x y:Operand)(i:m.op= .store ty x y)
  (g:Nat)(v:Value)(j:a.eval x= .pointer (some ⟨g,0,none⟩))(l:a.eval y=v)(e:v.oneCell'=true)
  (t:TypeId)(b:Value)(d:ak w g t #[b])(f:(P.info? ty).map (·.size)=some 1)
  (h:∀w',ak w' g t #[v]→Fr (fun k=>k=g) w w'→wpList P ops Q rest (a.put m.dst undef) w'):wpList P ops Q (m::rest) a w:=by
 subst l;exact wpList_store_one c ty x y i g j e t b d f (h _ (gd d) ((Fr.refl (fun k=>k=g) w).setRow (fun _=>rfl) _))
theorem cu{w:World}{base:Nat}{e:TypeId}{size n k:Nat}{v:Value}{xs:List Value}(h:w.ownsRow base e size v n xs)(a:v.ownBlock=some k):∃c f,w.heap[k]? =some (.cells c e f):=by
 rcases h.2 with⟨rfl,_⟩|⟨g,b,cur,rfl,_,d,_⟩;·simp[Value.ownBlock]at a
 ·simp[Value.ownBlock]at a;subst a;exact⟨_,_,d⟩
def ku(t:TypeId):Op→Bool
 | .load a _=>t==a
 |_=>false
theorem bN{r n:Nat}{P:Program}{ops:Array Oper}{Q:Exit→Act→World→Prop}{d:Oper}{l:List Oper}{a:Act}{w:World}(f:Op→Bool)(b:f d.op=true)(c:((d::l).all fN)=true)(h:wpList P ops (fun e a w=>Q e a w∧e= .normal) (d::l) a w):wpListIn (Fence.wide.inRound r) n P ops Q (d::l) a w:=
 gX c h
def Sz(w:World)(g:Nat):Prop:=w.heap.size≤g
structure q9{α:Type}(b d:World)(g2:Nat)(c e:TypeId)(sz:Nat)(a:List α→Nat)(cells:List α→List Value)(pre:List α)(W:World):Prop where
 fr:Fr af b W
 kn:KN d W
 row:∃v,ak W g2 c #[v]∧W.ownsRow 0 e sz v (a pre) (cells pre)∧∀k,v.ownBlock=some k→b.heap.size≤k∧k≠g2
theorem q9.gT{α:Type}{r x:World}{g2:Nat}{s e:TypeId}{sz B:Nat}{l:List α→Nat}{cells:List α→List Value}(t:g2<B)(y:r.heap.size≤B):OwnFrom B (q9 r x g2 s e sz l cells):=by
 intro pre X Y row h u o;have b:∀k,k<B→some k≠row:=fun k q e=>by have:=(o k e.symm).1;omega
 have j:Fr (fun k=>some k=row) X Y:=Fr.grown u;obtain⟨v,lK,a,w⟩:=h.row;refine⟨h.fr.ao j (fun i z e=>absurd e (b i (by omega))),h.kn.trans (KN.fr j (fun g cs p e=>?_)),⟨v,lK.fr j (fun e=>b _ t e),aK a j (fun k q e=>?_),w⟩⟩;·obtain⟨_,A,d,m⟩:=o g e.symm;unfold ak at p;rw[p]at d;cases d;simp[Obj.isCells]at m
 ·obtain⟨_,A,d,m⟩:=o k e.symm;obtain⟨c,f,n⟩:=cu a q;rw[n]at d;cases d;simp[Obj.isCells]at m
theorem q9.same{α:Type}{g i W X:World}{g2:Nat}{f e:TypeId}{sz:Nat}{b:List α→Nat}{cells:List α→List Value}{pre a:List α}(h:q9 g i g2 f e sz b cells pre W)(d:Fr af W X)(j:b a=b pre)(k:cells a=cells pre):q9 g i g2 f e sz b cells a X:=by
 obtain⟨v,lK,c,l⟩:=h.row;refine⟨h.fr.trans d,h.kn.trans (KN.fr d (fun _ _ _ x=>x)),⟨v,lK.fr d (fun x=>x),?_,l⟩⟩;rw[j,k];exact aK c d (fun _ _ x=>x)
theorem q9.step{α:Type}{m A W X s l:World}{g2 B:Nat}{n e:TypeId}{sz:Nat}{d:List α→Nat}{cells:List α→List Value}{pre b:List α}{v v2:Value}
  (u:q9 m A g2 n e sz d cells pre W)(D:g2<B)(E:m.heap.size≤B)(H:m.heap.size≤g2)(x:n≠177)(he:e≠177)(w:ak W g2 n #[v])
  (j:W.ownsRow 0 e sz v (d pre) (cells pre))(a:∀k,v.ownBlock=some k→m.heap.size≤k∧k≠g2)
  (z:Fr af W X)(t:bF e sz X v s v2 (d b) (cells b))(f3:Fr (fun k=>k=g2) s l)(b3:ak l g2 n #[v2]):
  KeepsFrom B W l∧KN W l∧q9 m A g2 n e sz d cells b l:=by
 have s1:m.heap.size≤W.heap.size:=u.fr.size;have s2:W.heap.size≤X.heap.size:=z.size;have J:g2<W.heap.size:=w.lt;have o:∀k,v2.ownBlock=some k→m.heap.size≤k∧k≠g2:=fun k y=>by
  rcases t.dD k y with h|h;·exact a k h
  ·constructor<;>omega
 have F:Fr (fun k=>k=g2∨v.ownBlock=some k) W l:=by
  have C:Fr (fun k=>k=g2∨v.ownBlock=some k) W s:=(z.bA).trans (t.fr.mono (fun i _ h=> .inr h));exact C.trans (f3.mono (fun i _ h=> .inl h))
 have K:KN W l:=KN.fr F (fun g cs p h=>by
  unfold ak at p w;rcases h with rfl|h;·rw[w]at p;cases p;exact x rfl
  ·obtain⟨c,f,q⟩:=cu j h;rw[q]at p;cases p;exact he rfl);refine⟨⟨F.size,fun k L _ q G=>?_⟩,K,?_,u.kn.trans K,?_⟩
 ·refine(F.block k (Array.getElem?_eq_some_iff.1 q).1 ?_).trans q;rintro(rfl|h);·omega
  ·obtain⟨c,f,r⟩:=cu j h;rw[q]at r;cases r;simp[Obj.isCells]at G
 ·refine u.fr.ao F (fun i I h=>?_);rcases h with h|h;·omega
  ·have:=(a i h).1;omega
 ·exact⟨v2,b3,aK t.own f3 (fun k y e=>(o k y).2 e),o⟩
theorem KN.put(W:World)(l:Nat)(f b:Obj)(h:W.heap[l]? =some f)(d:f.isCells=false):KN W (W.putObj l b):=
 KN.fr (Fr.grown (grownBy_putObj' W l b)) (fun g cs a e=>by
  have c:g=l:=by simpa using e
  subst c;unfold ak at a;rw[a]at h;cases h;simp[Obj.isCells]at d)
theorem pb(a:Option Addr)(w:World):Calls Tryz.prog 144 #[.pointer a] w fun r w'=>r= .returned (.func (.func 169) #[] #[.pointer (some ⟨w.heap.size,0,none⟩)])∧Fr af w w'∧ak w' w.heap.size 25 #[.pointer a]:=by
 go_enter Tryz.func144,Tryz.ntmps144;go_wp2_with(refine au rfl 25 (.tmp 0) rfl #[.pointer a] rfl ?_);intro w1 n1;have b:=Lib.hid n1;clear n1;go_wp2;go_ret;exact⟨rfl,b.out.fr,b.out.az⟩
def Hm(x:Nd):Value:= .pointer (some ⟨x.g,0,none⟩)
end Go.Proofs.YtphjagkehiklkaaGreatDoor
namespace Go.Proofs.YtphjagkehiklkaaGreatDoor
open Go.RowKit
structure gz{α:Type}(c:α→α→Int):Prop where
 eq:∀a b,c a b=0→a=b
 refl:∀a,c a a=0
 kN:∀a b,c b a=-c a b
 trans:∀a b d,c a b<0→c b d<0→c a d<0
def aN(x y:Int):Int:=if x=0 then y else x
theorem gz.lex{α β:Type}{c:α→α→Int}{d:β→β→Int}(h:gz c)(k:gz d):gz (fun(a b:α×β)=>aN (c a.1 b.1) (d a.2 b.2))where
 eq a b e:=by
  unfold aN at e;split at e;·rename_i g;exact Prod.ext (h.eq _ _ g) (k.eq _ _ e)
  ·contradiction
 refl _:=by simp[aN,h.refl,k.refl]
 kN a b:=by
  have:=h.kN a.1 b.1;have:=k.kN a.2 b.2;unfold aN;split<;>split<;>omega
 trans a b e g l:=by
  have n:=h.kN;by_cases i:c a.1 b.1=0
  ·by_cases f:c b.1 e.1=0
   ·have j:c a.1 e.1=0:=by rw[h.eq _ _ i,h.eq _ _ f];exact h.refl _
    simp only[aN,i,f,j,if_true]at*;exact k.trans _ _ _ g l
   ·simp only[aN,i,f,if_true,if_false]at g l;have j:c a.1 e.1=c b.1 e.1:=by rw[h.eq _ _ i]
    simp only[aN,j,f,if_false];exact l
  ·by_cases f:c b.1 e.1=0
   ·simp only[aN,i,f,if_true,if_false]at g l;have j:c a.1 e.1=c a.1 b.1:=by rw[h.eq _ _ f]
    simp only[aN,j,i,if_false];exact g
   ·simp only[aN,i,f,if_false]at g l;have j:=h.trans _ _ _ g l;have m:c a.1 e.1≠0:=by omega
    simp only[aN,m,if_false];exact j
theorem gz.pull{α β:Type}{c:β→β→Int}(h:gz c)(f:α→β)(d:∀a b,f a=f b→a=b):gz (fun a b=>c (f a) (f b))where
 eq _ _ e:=d _ _ (h.eq _ _ e)
 refl _:=h.refl _
 kN _ _:=h.kN _ _
 trans _ _ _:=h.trans _ _ _
def df(a b:Int):Int:=if a<b then-1 else if b<a then 1 else 0
theorem dW:gz df where
 eq a b e:=by unfold df at e;split at e<;>(try split at e)<;>omega
 refl _:=by unfold df;simp
 kN a b:=by unfold df;split<;>split<;>(try split)<;>omega
 trans a b d c f:=by unfold df at*;split at c<;>(try split at c)<;>split at f<;>(try split at f)<;>(try split)<;>omega
def cmpL{α:Type}(c:α→α→Int):List α→List α→Int
 |[],[]=>0
 |[],_::_=>-1
 |_::_,[]=>1
 |x::xs,y::a=>aN (c x y) (cmpL c xs a)
theorem ng{α:Type}{c:α→α→Int}(h:gz c):gz (cmpL c)where
 eq:=by
  intro a;induction a with
  |nil=>intro b e;cases b<;>simp[cmpL]at e⊢
  |cons x xs l=>
   intro b e;cases b with
   |nil=>simp[cmpL]at e
   |cons y m=>
    simp only[cmpL,aN]at e;split at e;·rename_i f;rw[h.eq _ _ f,l _ e]
    ·contradiction
 refl:=by
  intro a;induction a with
  |nil=>rfl
  |cons x xs l=>simp[cmpL,aN,h.refl,l]
 kN:=by
  intro a;induction a with
  |nil=>intro b;cases b<;>simp[cmpL]
  |cons x xs l=>
   intro b;cases b with
   |nil=>simp[cmpL]
   |cons y m=>
    have:=h.kN x y;have:=l m;simp only[cmpL,aN];split<;>split<;>omega
 trans:=by
  intro a;induction a with
  |nil=>
   intro b d f g;cases d with
   |nil=>cases b<;>simp[cmpL]at f g
   |cons z o=>simp[cmpL]
  |cons x xs l=>
   intro b d f g;cases b with
   |nil=>simp[cmpL]at f
   |cons y m=>
    cases d with
    |nil=>simp[cmpL]at g
    |cons z o=>
     simp only[cmpL]at*;by_cases j:c x y=0
     ·by_cases i:c y z=0
      ·have k:c x z=0:=by rw[h.eq _ _ j,h.eq _ _ i];exact h.refl _
       simp only[aN,j,i,k,if_true]at*;exact l _ _ f g
      ·simp only[aN,j,i,if_true,if_false]at f g;have k:c x z=c y z:=by rw[h.eq _ _ j]
       simp only[aN,k,i,if_false];exact g
     ·by_cases i:c y z=0
      ·simp only[aN,j,i,if_true,if_false]at f g;have k:c x z=c x y:=by rw[h.eq _ _ i]
       simp only[aN,k,j,if_false];exact f
      ·simp only[aN,j,i,if_false]at f g;have k:=h.trans _ _ _ f g;have n:c x z≠0:=by omega
       simp only[aN,n,if_false];exact k
def oB(a b:UInt8):Int:=df a.toNat b.toNat
theorem sP:gz oB:=dW.pull (fun u:UInt8=>(u.toNat:Int)) (fun a b h=>UInt8.toNat_inj.1 (by have c:(a.toNat:Int)=b.toNat:=h;omega))
def kh(a b:ByteArray):Int:=cmpL oB a.toList b.toList
theorem toList_inj{a b:ByteArray}(h:a.toList=b.toList):a=b:=by
 rw[ByteArray.toList_eq,ByteArray.toList_eq]at h;cases a;cases b;simp only[ByteArray.mk.injEq];exact Array.toList_inj.1 h
theorem sM:gz kh:=(ng sP).pull ByteArray.toList (fun _ _ h=>toList_inj h)
theorem mZ:∀(x y:List UInt8),Op.bytesLess x y=decide (cmpL oB x y<0)
 |[],[]=>by simp[Op.bytesLess,cmpL]
 |_::_,[]=>by simp[Op.bytesLess,cmpL]
 |[],_::_=>by simp[Op.bytesLess,cmpL]
 |a::x,b::y=>by
  rw[Op.bytesLess,mZ x y];simp only[cmpL,aN,oB,df];by_cases c:a<b
  ·have e:(a.toNat:Int)<b.toNat:=by have:=UInt8.lt_iff_toNat_lt.1 c;omega
   simp[c,e]
  ·by_cases d:a=b;·subst d;simp
   ·have f:¬(a.toNat:Int)<b.toNat:=by
     intro h;exact c (UInt8.lt_iff_toNat_lt.2 (by omega))
    have g:(b.toNat:Int)<a.toNat:=by
     have:a.toNat≠b.toNat:=fun h=>d (UInt8.toNat_inj.1 h);omega
    simp[c,d,f,g]
theorem sN(a b:ByteArray):kh a b=if Op.bytesLess a.toList b.toList=true then-1 else if a=b then 0 else 1:=by
 have f:∀(x y:List UInt8),cmpL oB x y=-1∨cmpL oB x y=0∨cmpL oB x y=1:=by
  intro x;induction x with
  |nil=>intro y;cases y<;>simp[cmpL]
  |cons p x g=>
   intro y;cases y with
   |nil=>simp[cmpL]
   |cons q y=>
    have:=g y;simp only[cmpL,aN,oB,df];split<;>(try split)<;>(try split)<;>omega
 rw[mZ];have h:=f a.toList b.toList;unfold kh;by_cases e:a=b;·subst e;rw[(ng sP).refl];simp
 ·have i:cmpL oB a.toList b.toList≠0:=fun d=>e (toList_inj ((ng sP).eq _ _ d));simp only[e,if_false];by_cases c:cmpL oB a.toList b.toList<0;·simp[c];omega
  ·simp[c];omega
def kH(b:UInt8):Bool:=48≤b.toNat&&b.toNat≤57
def cR:Nat→List UInt8→List UInt8
 |0,_=>[]
 |_+1,[]=>[]
 |n+1,b::l=>if kH b then b::cR n l else[]
def dX(ds:List UInt8):Nat:=ds.foldl (fun n b=>n*10+(b.toNat-48)) 0
structure Part where
 ord:Nat
 at_:Nat
 e:Nat
def ca(count at_:Nat)(l:List UInt8):Part×Nat:=
 let ds:=cR 7 l
 if count=8 then(⟨0,at_,9⟩,at_)else if l=[]then(⟨0,at_,4⟩,at_)else if ds=[]then(⟨0,at_,6⟩,at_)else if l[0]? =some 48 then(⟨0,at_,3⟩,at_)
 else if 6<ds.length then(⟨0,at_,2⟩,at_)else(⟨dX ds,at_,0⟩,at_+ds.length)
def cM:Nat→Nat→List UInt8→List Part
 |0,at_,_=>[⟨0,at_,9⟩]
 |n+1,at_,l=>
  let p:=(ca (7-n) at_ l).1
  if p.e≠0 then[p]else
   let k:=(cR 7 l).length
   if l.length≤k then[p]else if l[k]? ≠some 46 then[p,⟨0,at_+k,6⟩]else p::cM n (at_+k+1) (l.drop (k+1))
def eS(s:ByteArray):List Part:=if s.size=0 then[]else cM 8 0 s.toList
def cC(s:ByteArray):Bool:=(eS s).all (fun p=>p.e==0)
def im(s:ByteArray):List Int:=(eS s).map (fun p=>(p.ord:Int))
theorem jZ:∀(n:Nat)(l:List UInt8),(cR n l).length≤n∧(cR n l).length≤l.length
 |0,l=>by simp[cR]
 |n+1,[]=>by simp[cR]
 |n+1,b::l=>by
  have:=jZ n l;rw[cR];split<;>simp<;>omega
theorem mD:∀(n:Nat)(l:List UInt8),cR n l=l.take (cR n l).length
 |0,l=>by simp[cR]
 |n+1,[]=>by simp[cR]
 |n+1,b::l=>by
  rw[cR];split;·rw[List.length_cons,List.take_succ_cons,←mD n l]
  ·simp
theorem qI:∀(n:Nat)(l:List UInt8),∀b∈cR n l,kH b=true
 |0,l=>by simp[cR]
 |n+1,[]=>by simp[cR]
 |n+1,b::l=>by
  intro x a;rw[cR]at a;split at a
  ·rename_i h;rcases List.mem_cons.1 a with rfl|c;·exact h
   ·exact qI n l x c
  ·simp at a
theorem tQ:∀(n:Nat)(l:List UInt8)(j:Nat),j≤(cR n l).length→(j<(cR n l).length↔j<n∧∃b,l[j]? =some b∧kH b=true)
 |0,l,j,h=>by simp[cR]
 |n+1,[],j,h=>by simp[cR]
 |n+1,b::l,0,h=>by
  rw[cR];by_cases a:kH b=true;·simp[a]
  ·simp[a]
 |n+1,b::l,j+1,h=>by
  rw[cR]at h⊢;by_cases a:kH b=true;·simp only[a,if_true,List.length_cons]at h⊢;have:=tQ n l j (by omega);simp only[List.getElem?_cons_succ];rw[show(j+1<(cR n l).length+1)↔(j<(cR n l).length)by omega,show(j+1<n+1)↔(j<n)by omega];exact this
  ·simp[a]at h
theorem kt(ds:List UInt8)(b:UInt8):dX (ds++[b])=dX ds*10+(b.toNat-48):=by simp[dX]
theorem Fl:∀(n:Nat)(ds:List UInt8),ds.length=n→(∀b∈ds,kH b=true)→dX ds<10^n:=by
 intro n;induction n with
 |zero=>
  intro ds h _;rw[List.eq_nil_of_length_eq_zero h];decide
 |succ n e=>
  intro ds h a;obtain⟨init,b,rfl⟩:∃init b,ds=init++[b]:=by
   rcases List.eq_nil_or_concat ds with rfl|⟨i,b,rfl⟩;·simp at h
   ·exact⟨i,b,by simp⟩
  rw[kt];have f:=e init (by simpa using h) (fun x d=>a x (by simp[d]));have c:=a b (by simp);simp only[kH,Bool.and_eq_true,decide_eq_true_eq]at c;rw[Nat.pow_succ];omega
end Go.Proofs.YtphjagkehiklkaaGreatDoor
