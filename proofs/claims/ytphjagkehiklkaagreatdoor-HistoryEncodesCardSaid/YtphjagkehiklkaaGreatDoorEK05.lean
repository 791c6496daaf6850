/- Texts. -/
import Derived.Test.YtphjagkehiklkaaGreatDoorEK04
set_option linter.unusedVariables false
set_option linter.unusedSimpArgs false
set_option maxRecDepth 100000
set_option maxHeartbeats 4000000
namespace Go.Proofs.YtphjagkehiklkaaGreatDoor
open Proofs.Tryz Go.RowKit Go.Shelf
attribute[local go_sem]Oper.semAt_some
theorem I5{P:Program}{Q:Exit->Act->World->Prop}{a:Act}{w:World}{l:List Oper}(n:Nat)(T:Nat->Prop)(f:List (Value->World->Prop))(ws:List (Nat×(World->Prop)))(b:World->Prop)(B:Nat->Nat->Bool)(z:pA l.toArray n=true)
  (v:fY l.toArray n B=true)(g:(gW B (ws.map (·.1))&&(ws.map (·.1)).all (λp=>decide (p<n)))=true)
  (k:dB T w f)(o:jv T w ws)(i:∀w' e,Fr T w w'->Fr Nothing w' e->b w'->b e)(s:b w.drew)
  (A:iL P l.toArray Q T w (λu=>ar ((l.take n).map (·.dst)) 0 u a) (cF f) ws b B n 0 (l.take n))
  (q:∀u w',Fr T w w'->(∀j,j<n->cF f j (u j) w')->mA ws b w'->wpList P l.toArray Q (l.drop n) (ar ((l.take n).map (·.dst)) 0 u a) w'):wpAny P .any l.toArray Q l.toArray.size (Array.replicate l.toArray.size false) a w.drew:=by
 have ok:=qI.of z;obtain⟨D,r⟩:=gT ((l.take n).map (·.dst)) 0 a;have d:HeadInv .any l.toArray n (Array.replicate l.toArray.size false):=
  ⟨by simp,λj F _ c=>(by rw[getD_replicate_false]at c;cases c),λt _ q=>getD_in (by simpa using q) (getD_replicate_false _ _)⟩;have y:cI (λj=>!(Array.replicate l.toArray.size false).getD j false) n=n:=by
  have h:∀m,cI (λj=>!(Array.replicate l.toArray.size false).getD j false) m=m:=by
   intro m;induction m with
   |zero=>rfl
   |succ m C=>rw[cI,C,getD_replicate_false];rfl
  exact h n
 have:=KM (P:=P) (Q:=Q) (a:=a) ok v g k o i (by simpa using A) (by simpa using q) n _ D w.drew d y (aA.drew) (by rw[lx ws b _ (λx _=>getD_replicate_false _ _)];exact s) (λj E c=>by rw[getD_replicate_false]at c;cases c);rw[show(l.toArray.toList.take n).map (·.dst)=(l.take n).map (·.dst)by simp,r,show n+(l.toArray.size-n)=l.toArray.size by have:=ok.le;omega]at this;exact this
theorem pV{r m:Nat}{P:Program}{id:Nat}{Q:Exit->Act->World->Prop}{a:Act}{w:World}{l:List Oper}(n:Nat)(T:Nat->Prop)(d:List (Value->World->Prop))(ws:List (Nat×(World->Prop)))(b:World->Prop)(B:Nat->Nat->Bool)(s:(l.all iA)=true)(hm:P.follows .mixedOrders=true)(t:pA l.toArray n=true)
  (q:fY l.toArray n B=true)(f:(gW B (ws.map (·.1))&&(ws.map (·.1)).all (λp=>decide (p<n)))=true)
  (h:dB T w d)(k:jv T w ws)(g:∀w' c,Fr T w w'->Fr Nothing w' c->b w'->b c)(o:b w.drew)
  (v:iL P l.toArray (λe a w=>Q e a w/\e= .normal) T w (λu=>ar ((l.take n).map (·.dst)) 0 u a) (cF d) ws b B n 0 (l.take n))
  (y:∀u w',Fr T w w'->(∀j,j<n->cF d j (u j) w')->mA ws b w'->wpList P l.toArray (λe a w=>Q e a w/\e= .normal) (l.drop n) (ar ((l.take n).map (·.dst)) 0 u a) w'):(Code.region id l.toArray true).wpIn (Fence.wide.inRound r) m P Q a w:=
 wpIn_region_any hm (jf (λi z x=>List.all_eq_true.1 s z (List.mem_of_getElem? (by simpa using x))) _ _ _ _ (I5 n T d ws b B t q f h k g o v y))
theorem bW{P:Program}{ops:Array Oper}{rest:List Oper}{m:Oper}{a:Act}{w:World}{Q:Exit->Act->World->Prop}(c:m.guard=none)(ty:TypeId)(x y:Operand)(i:m.op= .store ty x y)
  (g:Nat)(v:Value)(j:a.eval x= .pointer (some ⟨g,0,none⟩))(l:a.eval y=v)(e:v.oneCell'=true)
  (t:TypeId)(b:Value)(d:aq w g t #[b])(f:(P.info? ty).map (·.size)=some 1)
  (h:∀w',aq w' g t #[v]->Fr (λk=>k=g) w w'->wpList P ops Q rest (a.put m.dst undef) w'):wpList P ops Q (m::rest) a w:=by
 subst l;exact wpList_store_one c ty x y i g j e t b d f (h _ (iM d) ((Fr.refl (λk=>k=g) w).setRow (λ_=>rfl) _))
theorem cT{w:World}{base:Nat}{e:TypeId}{size n k:Nat}{v:Value}{xs:List Value}(h:w.ownsRow base e size v n xs)(a:v.ownBlock=some k):∃c f,w.heap[k]? =some (.cells c e f):=by
 rcases h.2 with⟨rfl,_⟩|⟨g,b,cur,rfl,_,d,_⟩;·simp[Value.ownBlock]at a
 ·simp[Value.ownBlock]at a;subst a;exact⟨_,_,d⟩
def ln(t:TypeId):Op->Bool
 | .load a _=>t==a
 |_=>false
theorem cD{r n:Nat}{P:Program}{ops:Array Oper}{Q:Exit->Act->World->Prop}{d:Oper}{l:List Oper}{a:Act}{w:World}(f:Op->Bool)(b:f d.op=true)(c:((d::l).all iA)=true)(h:wpList P ops (λe a w=>Q e a w/\e= .normal) (d::l) a w):wpListIn (Fence.wide.inRound r) n P ops Q (d::l) a w:=
 jD c h
def Sz(w:World)(g:Nat):Prop:=w.heap.size<=g
structure o6{α:Type}(a w3:World)(g2:Nat)(b e:TypeId)(sz:Nat)(jF:List α->Nat)(cells:List α->List Value)(pre:List α)(W:World):Prop where
 fr:Fr Nothing a W
 kn:KN w3 W
 row:∃v,aq W g2 b #[v]/\W.ownsRow 0 e sz v (jF pre) (cells pre)/\∀k,v.ownBlock=some k->a.heap.size<=k/\k≠g2
theorem o6.jb{α:Type}{q w3:World}{g2:Nat}{r e:TypeId}{sz B:Nat}{jF:List α->Nat}{cells:List α->List Value}(s:g2<B)(w:q.heap.size<=B):OwnFrom B (o6 q w3 g2 r e sz jF cells):=by
 intro pre X Y row h t n;have b:∀k,k<B->some k≠row:=λk p e=>by have:=(n k e.symm).1;omega
 have j:Fr (λk=>some k=row) X Y:=Fr.grown t;obtain⟨v,ku,a,u⟩:=h.row;refine⟨h.fr.aw j (λi x e=>absurd e (b i (by omega))),h.kn.trans (KN.fr j (λg cs o e=>?_)),⟨v,ku.fr j (λe=>b _ s e),aP a j (λk p e=>?_),u⟩⟩;·obtain⟨_,y,d,l⟩:=n g e.symm;unfold aq at o;rw[o]at d;cases d;simp[Obj.isCells]at l
 ·obtain⟨_,y,d,l⟩:=n k e.symm;obtain⟨c,f,m⟩:=cT a p;rw[m]at d;cases d;simp[Obj.isCells]at l
theorem o6.same{α:Type}{f w3 W X:World}{g2:Nat}{d e:TypeId}{sz:Nat}{jF:List α->Nat}{cells:List α->List Value}{pre a:List α}(h:o6 f w3 g2 d e sz jF cells pre W)(c:Fr Nothing W X)(g:jF a=jF pre)(i:cells a=cells pre):o6 f w3 g2 d e sz jF cells a X:=by
 obtain⟨v,ku,b,j⟩:=h.row;refine⟨h.fr.trans c,h.kn.trans (KN.fr c (λ_ _ _ x=>x)),⟨v,ku.fr c id,?_,j⟩⟩;rw[g,i];exact aP b c (λ_ _ x=>x)
theorem o6.step{α:Type}{l w3 W X r j:World}{g2 B:Nat}{m e:TypeId}{sz:Nat}{jF:List α->Nat}{cells:List α->List Value}{pre b:List α}{v v2:Value}
  (t:o6 l w3 g2 m e sz jF cells pre W)(A:g2<B)(C:l.heap.size<=B)(E:l.heap.size<=g2)(w:m≠177)(he:e≠177)(u:aq W g2 m #[v])
  (d:W.ownsRow 0 e sz v (jF pre) (cells pre))(a:∀k,v.ownBlock=some k->l.heap.size<=k/\k≠g2)
  (y:Fr Nothing W X)(s:bT e sz X v r v2 (jF b) (cells b))(f3:Fr (λk=>k=g2) r j)(b3:aq j g2 m #[v2]):
  KeepsFrom B W j/\KN W j/\o6 l w3 g2 m e sz jF cells b j:=by
 have s1:l.heap.size<=W.heap.size:=t.fr.size;have s2:W.heap.size<=X.heap.size:=y.size;have H:g2<W.heap.size:=u.lt;have n:∀k,v2.ownBlock=some k->l.heap.size<=k/\k≠g2:=λk x=>by
  rcases s.eL k x with h|h;·exact a k h
  ·constructor<;>omega
 have F:Fr (λk=>k=g2\/v.ownBlock=some k) W j:=by
  have z:Fr (λk=>k=g2\/v.ownBlock=some k) W r:=(y.bR).trans (s.fr.mono (λi _ h=> .inr h));exact z.trans (f3.mono (λi _ h=> .inl h))
 have K:KN W j:=KN.fr F (λg cs o h=>by
  unfold aq at o u;rcases h with rfl|h;·rw[u]at o;cases o;exact w rfl
  ·obtain⟨c,f,p⟩:=cT d h;rw[p]at o;cases o;exact he rfl);refine⟨⟨F.size,λk I _ p D=>?_⟩,K,?_,t.kn.trans K,?_⟩
 ·refine(F.block k (Array.getElem?_eq_some_iff.1 p).1 ?_).trans p;rintro(rfl|h);·omega
  ·obtain⟨c,f,q⟩:=cT d h;rw[p]at q;cases q;simp[Obj.isCells]at D
 ·refine t.fr.aw F (λi G h=>?_);rcases h with h|h;·omega
  ·have:=(a i h).1;omega
 ·exact⟨v2,b3,aP s.own f3 (λk x e=>(n k x).2 e),n⟩
theorem KN.put(W:World)(l:Nat)(f b:Obj)(h:W.heap[l]? =some f)(d:f.isCells=false):KN W (W.putObj l b):=
 KN.fr (Fr.grown (grownBy_putObj' W l b)) (λg cs a e=>by
  have c:g=l:=by simpa using e
  subst c;unfold aq at a;rw[a]at h;cases h;simp[Obj.isCells]at d)
theorem oC(a:Option Addr)(w:World):Calls prog 144 #[.pointer a] w λr w'=>r= .returned (.func (.func 169) #[] #[.pointer (some ⟨w.heap.size,0,none⟩)])/\Fr Nothing w w'/\aq w' w.heap.size 25 #[.pointer a]:=by
 go_enter func144,ntmps144;go_wp2_with(refine aD rfl 25 (.tmp 0) rfl #[.pointer a] rfl ?_);intro w1 n1;have b:=af n1;clear n1;go_wp2;go_ret;exact⟨rfl,b.out.fr,b.out.aF⟩
def Ch(x:Nd):Value:= .pointer (some ⟨x.g,0,none⟩)
theorem JU:(prog.info? 172).map (λi=>(i.zero,i.size,i.bytes))=some (some (.pointer none),1,8):=by kernel_rfl
theorem Bq:(prog.info? 219).map (·.size)=some 1:=by kernel_rfl
theorem Nh(w:World):(zeroValue 219).run prog w= .ok (.slice none 0 0) w:=by kernel_rfl
end Go.Proofs.YtphjagkehiklkaaGreatDoor
namespace Go.Proofs.YtphjagkehiklkaaGreatDoor
open Proofs.Tryz Go.RowKit Go.Shelf
attribute[local go_sem]Oper.semAt_some
def zR{w:World}(a:List (oW w)):List Value:=a.map (λy=>Ch y.1)
def K7(w:World)(t:Tr)(r:Ending)(w':World):Prop:=∃v,∃L:List Nd,r= .returned v/\bT 172 1 w (.slice none 0 0) w' v t.size (L.map Ch)/\L.map (λx:Nd=>(x.nm,x.v))=t.bM/\∀x∈L,mi w' x
theorem yu(s:Nat)(t:Tr)(w:World)(H:xo w s t)(O:t.size<=1048576):Calls prog 139 #[.pointer (some ⟨s,0,none⟩)] w (λr w'=>K7 w t r w'):=by
  obtain⟨i0,I,hz0',P,Q⟩:=info_parts JU;have aL:=af (λw=>oC (some ⟨s,0,none⟩) w);have ar:=af O;have ap:=af H;clear H O;refine(callsIn_wide (n:=6)).1 (callsIn_of_wp_marks func139 rfl trivial (wpIn_wide.2 ?_) rfl);simp only[ntmps139,List.size_toArray,List.length_cons,List.length_nil,Nat.reduceAdd,Nat.reduceSub,Array.replicate_succ,Array.replicate_zero,List.push_toArray,List.append_toArray,List.nil_append,List.cons_append];have B:Hid (Calls prog 94 #[.pointer (some ⟨s,0,none⟩)] w (bJ w (.int .i64 (t.size:Nat)))):=oZ w s t ap.out;go_wp2_with fail;refine B.out.mono ?_;rintro e a8⟨rfl,rfl⟩;have a2:=ar.out;clear B;go_wp2_with(at_make;refine wpList_make_own _ rfl _ _ 219 rfl 0 172 i0 (.pointer none) 1 underlying219 I hz0' P _ _ _ t.size rfl rfl rfl ?zA ?zB (Nat.zero_le _) ?_);case zA=>rw[Q];omega
  case zB=>unfold maxLen;omega
  intro R ra aC;have Y:Hid (Fr Nothing w R):=(Fr.grown aC).mono (λ_ _ e=>by cases e);have az:=af ra;have F:Hid (w.heap.size<R.heap.size):=Gs ra rfl;have ad:Sz w w.heap.size:=Nat.le_refl _;clear ra aC a2;generalize w.heap.size=g0 at*;go_wp2_with(refine an rfl 219 rfl (.slice none 0 0) Nh #[.slice none 0 0] rfl ?_);intro a5 nb;have am:Hid (Fr Nothing w a5):=Y.out.trans nb.fr;have aB:=af (aP az.out nb.fr (λ_ _ x=>x));have ak:=af nb.aF;have E:Sz w R.heap.size:=Y.out.size;have NE:Hid (g0<R.heap.size):=F.out;clear nb Y az F;generalize R.heap.size=g2 at*;go_wp2_with(refine bW rfl 219 (.tmp 3) _ rfl g2 (.slice (some ⟨g0,0,none⟩) 0 t.size) rfl rfl rfl _ _ ak.out Bq ?_);intro w2 b2 f2;have ai:=af b2;have al:Hid (Fr Nothing w w2):=am.out.aw f2 (λi a1 e=>by have S:i=g2:=e;have:=E;unfold Sz at this;omega);have ay:=af (aP aB.out f2 (λk g e=>by
    have S:k=g2:=e;simp[Value.ownBlock]at g;have:=NE.out;omega));have aY:Hid (∀k,(Value.slice (some ⟨g0,0,none⟩) 0 t.size).ownBlock=some k->w.heap.size<=k/\k≠g2):=λk g=>by
    simp[Value.ownBlock]at g;subst g;exact⟨ad,by have:=NE.out;omega⟩
  clear b2 f2 am aB ak;go_wp2_with fail;refine(aL.out _).mono ?_;rintro r w3⟨rfl,f3,b3⟩;have C:=af (al.out.trans f3);have aj:=af (ai.out.fr f3 id);have aX:=af (aP ay.out f3 (λ_ _ x=>x));have aM:=af b3;have LT:Hid (g2<w3.heap.size):=aj.out.lt;clear f3 b3 al ai ay;generalize w2.heap.size=gs at*;obtain⟨a3,N,M⟩:=ap.out.ao C.out;obtain⟨L,ag⟩:=Ord.of M;have av:=af ag.bM;have ax:Hid (L.length=t.size):=by
    have h:=congrArg List.length av.out;have aZ:L.length=t.size:=by simpa[Tr.cj]using h
    exact aZ
  have aR:=af ag;have Z:=af N;clear N M ag;go_wp2_with fail;refine(wpIn_wide (n:=6)).1 ?_;refine wpIn_rangeFunc_ownG rfl (by omega) (gf:=169) (lb:=#[.pointer (some ⟨gs,0,none⟩)]) rfl trivial (enters_of func169 (by kernel_rfl) rfl)
    (zM 5 gs s a3 t w3 L aR.out aM.out Z.out) (λh k=>h.trans k) (λW l o a4 _ U a0 _=>KN.put W l o a4 U a0) (Below.refl _ _) (λ_=>rfl)
    (o6 w w3 g2 219 172 1 (λah:List (oW w3)=>ah.length) (zR (w:=w3))) (λ_ _ _=>False) (o6.jb LT.out C.out.size) (λ_ _ _ _ _ h _ _=>h.elim)
    ⟨C.out,KN.refl _,_,aj.out,aX.out,aY.out⟩ ?zE ?assign ?body ?done ?stop;case assign=>
    intro l x W K G;gi_wp2;exact G
  case body=>
    rintro a7 pre x W T J;have aO:=af T;have aQ:=af J;obtain⟨_,d,⟨v,ku,a,b⟩⟩:=T;obtain⟨u,m1,zA,rfl,H1,aN⟩:=aK a;have m:=af a;have j:=af b;have z:=af ku;have q:=ku.cell 0;simp only[bP,List.getElem?_cons_zero]at q;have aW:=af (x.2.kn d).kF;obtain⟨⟨aD,aH,aI⟩,V⟩:=x;simp only at aW⊢;clear ku a b J d;gi_wp2_with(refine cD (ln 219) rfl (by kernel_rfl) ?_);go_wp2_with(at_builtin;refine cQ _ rfl _ _ 219 rfl 172 i0 (.pointer none) 1 8 underlying219 I hz0' P Q rfl (by omega) _ _ _ rfl m.out 1 _ _ rfl rfl rfl ?zC ?zD (by omega) ?_);case zC=>simp[Value.oneCell']
    case zD=>have:=aQ.out;have:=ax.out;have:=ar.out;omega
    intro v2 aJ aE;have aa:=af aE;clear aE;have A:Hid (aq aJ g2 219 #[.slice u m1 zA]):=z.out.fr aa.out.fr (λe=>(j.out _ e).2 rfl);obtain⟨X,m2,zB,rfl,_,_⟩:=aK aa.out.own;go_wp2_with(refine bW rfl 219 (.tmp 3) _ rfl g2 (.slice X m2 zB) rfl rfl rfl _ _ A.out Bq ?_);intro y3 b3 f3;refine⟨?_,rfl⟩;have ab:bT 172 1 W (.slice u m1 zA) aJ (.slice X m2 zB) ((pre++[(⟨⟨aD,aH,aI⟩,V⟩:oW w3)]).length) (zR (pre++[(⟨⟨aD,aH,aI⟩,V⟩:oW w3)])):=by
      have h:=aa.out;rw[aT,zR,List.map_append];exact h
    have p:=o6.step (v:= .slice u m1 zA) (v2:= .slice X m2 zB) aO.out LT.out C.out.size E (by decide) (by decide) z.out m.out j.out aA ab f3 b3;exact⟨p.1,p.2.1,p.2.2⟩
  case done=>
    rintro D xs W ae rfl T G;obtain⟨aG,d,⟨v,ku,a,b⟩⟩:=T;obtain⟨u,m1,zA,rfl,H1,aN⟩:=aK a;have ac:Fr (λk=>some k=some D) W (W.putObj D (.deferred none)):=Fr.grown (grownBy_putObj' W D _);have au:=af G;have aS:Hid (Fr Nothing w (W.putObj D (.deferred none))):=aG.aw ac (λi a1 e=>by have S:i=D:=(by simpa using e);have:=C.out.size;have:=ae;omega);have aU:Hid (KN w3 (W.putObj D (.deferred none))):=d.trans (KN.put W D _ _ G rfl);have aV:Hid ((W.putObj D (.deferred none)).ownsRow 0 172 1 (.slice u m1 zA) ((λah:List (oW w3)=>ah.length) xs) ((zR (w:=w3)) xs)):=
      aP a ac (λk g e=>by
            have S:k=D:=by simpa using e
            subst S;obtain⟨c,f,U⟩:=cT a g;rw[au.out]at U;cases U);have j:Hid (∀k,(Value.slice u m1 zA).ownBlock=some k->w.heap.size<=k):=λk g=>(b k g).1;have q:=ku.cell 0;simp only[bP,List.getElem?_cons_zero]at q;clear ac aG ku a b ae G d;go_wp2;refine⟨by simp, .inl ⟨_,_,rfl,run_takeDeferred au.out,?_⟩⟩;refine⟨_,results_tmp results139 _ _ _,?_⟩;refine⟨_,xs.map (·.1),rfl,⟨?_,aS.out.bR,λk g=> .inr (j.out k g)⟩,?_,λx V=>?_⟩;· have h:=aV.out;rw[ax.out]at h;rw[List.map_map];exact h
    · rw[List.map_map];exact av.out
    · obtain⟨y,_,rfl⟩:=List.mem_map.1 V;exact y.2.kn aU.out
  case stop=>
    rintro D a6 pre W ae _ h;exact h.elim
end Go.Proofs.YtphjagkehiklkaaGreatDoor
namespace Go.Proofs.YtphjagkehiklkaaGreatDoor
open Proofs.Tryz Go.RowKit
structure gV{α:Type}(c:α->α->Int):Prop where
 eq:∀a b,c a b=0->a=b
 refl:∀a,c a a=0
 lG:∀a b,c b a=-c a b
 trans:∀a b d,c a b<0->c b d<0->c a d<0
theorem gV.Iu{α:Type}{c:α->α->Int}(h:gV c){a b d:α}(g:c a b<=0)(f:c b d<0):c a d<0:=by
 by_cases e:c a b=0;·rw[h.eq a b e];exact f
 ·exact h.trans a b d (by omega) f
def bh(x y:Int):Int:=if x=0 then y else x
theorem gV.lex{α β:Type}{c:α->α->Int}{d:β->β->Int}(h:gV c)(k:gV d):gV (λ(a b:α×β)=>bh (c a.1 b.1) (d a.2 b.2))where
 eq a b e:=by
  unfold bh at e;split at e;·rename_i g;exact Prod.ext (h.eq _ _ g) (k.eq _ _ e)
  ·contradiction
 refl _:=by simp[bh,h.refl,k.refl]
 lG a b:=by
  have:=h.lG a.1 b.1;have:=k.lG a.2 b.2;unfold bh;split<;>split<;>omega
 trans a b e g l:=by
  have n:=h.lG;by_cases i:c a.1 b.1=0
  ·by_cases f:c b.1 e.1=0
   ·have j:c a.1 e.1=0:=by rw[h.eq _ _ i,h.eq _ _ f];exact h.refl _
    simp only[bh,i,f,j,if_true]at*;exact k.trans _ _ _ g l
   ·simp only[bh,i,f,if_true,if_false]at g l;have j:c a.1 e.1=c b.1 e.1:=by rw[h.eq _ _ i]
    simp only[bh,j,f,if_false];exact l
  ·by_cases f:c b.1 e.1=0
   ·simp only[bh,i,f,if_true,if_false]at g l;have j:c a.1 e.1=c a.1 b.1:=by rw[h.eq _ _ f]
    simp only[bh,j,i,if_false];exact g
   ·simp only[bh,i,f,if_false]at g l;have j:=h.trans _ _ _ g l;have m:c a.1 e.1≠0:=by omega
    simp only[bh,m,if_false];exact j
theorem gV.pull{α β:Type}{c:β->β->Int}(h:gV c)(f:α->β)(d:∀a b,f a=f b->a=b):gV (λa b=>c (f a) (f b))where
 eq _ _ e:=d _ _ (h.eq _ _ e)
 refl _:=h.refl _
 lG _ _:=h.lG _ _
 trans _ _ _:=h.trans _ _ _
def ec(a b:Int):Int:=if a<b then-1 else if b<a then 1 else 0
theorem fm:gV ec where
 eq a b e:=by unfold ec at e;split at e<;>(try split at e)<;>omega
 refl _:=by unfold ec;simp
 lG a b:=by unfold ec;split<;>split<;>(try split)<;>omega
 trans a b d c f:=by unfold ec at*;split at c<;>(try split at c)<;>split at f<;>(try split at f)<;>(try split)<;>omega
def cmpL{α:Type}(c:α->α->Int):List α->List α->Int
 |[],[]=>0
 |[],_::_=>-1
 |_::_,[]=>1
 |x::xs,y::a=>bh (c x y) (cmpL c xs a)
theorem pg{α:Type}{c:α->α->Int}(h:gV c):gV (cmpL c)where
 eq:=by
  intro a;induction a with
  |nil=>intro b e;cases b<;>simp[cmpL]at e⊢
  |cons x xs l=>
   intro b e;cases b with
   |nil=>simp[cmpL]at e
   |cons y m=>
    simp only[cmpL,bh]at e;split at e;·rename_i f;rw[h.eq _ _ f,l _ e]
    ·contradiction
 refl:=by
  intro a;induction a with
  |nil=>rfl
  |cons x xs l=>simp[cmpL,bh,h.refl,l]
 lG:=by
  intro a;induction a with
  |nil=>intro b;cases b<;>simp[cmpL]
  |cons x xs l=>
   intro b;cases b with
   |nil=>simp[cmpL]
   |cons y m=>
    have:=h.lG x y;have:=l m;simp only[cmpL,bh];split<;>split<;>omega
 trans:=by
  intro a;induction a with
  |nil=>
   intro b d f g;cases d with
   |nil=>cases b<;>simp[cmpL]at f g
   |cons z o=>simp[cmpL]
  |cons x xs l=>
   intro b d f g;cases b with
   |nil=>simp[cmpL]at f
   |cons y m=>
    cases d with
    |nil=>simp[cmpL]at g
    |cons z o=>
     simp only[cmpL]at*;by_cases j:c x y=0
     ·by_cases i:c y z=0
      ·have k:c x z=0:=by rw[h.eq _ _ j,h.eq _ _ i];exact h.refl _
       simp only[bh,j,i,k,if_true]at*;exact l _ _ f g
      ·simp only[bh,j,i,if_true,if_false]at f g;have k:c x z=c y z:=by rw[h.eq _ _ j]
       simp only[bh,k,i,if_false];exact g
     ·by_cases i:c y z=0
      ·simp only[bh,j,i,if_true,if_false]at f g;have k:c x z=c x y:=by rw[h.eq _ _ i]
       simp only[bh,k,j,if_false];exact f
      ·simp only[bh,j,i,if_false]at f g;have k:=h.trans _ _ _ f g;have n:c x z≠0:=by omega
       simp only[bh,n,if_false];exact k
def qu(a b:UInt8):Int:=ec a.toNat b.toNat
theorem vC:gV qu:=fm.pull (λu:UInt8=>(u.toNat:Int)) (λa b h=>UInt8.toNat_inj.1 (by have c:(a.toNat:Int)=b.toNat:=h;omega))
def mq(a b:ByteArray):Int:=cmpL qu a.toList b.toList
theorem toList_inj{a b:ByteArray}(h:a.toList=b.toList):a=b:=by
 rw[ByteArray.toList_eq,ByteArray.toList_eq]at h;cases a;cases b;simp only[ByteArray.mk.injEq];exact Array.toList_inj.1 h
theorem vA:gV mq:=(pg vC).pull ByteArray.toList (λ_ _ h=>toList_inj h)
theorem pe:∀(x y:List UInt8),Op.bytesLess x y=decide (cmpL qu x y<0)
 |[],[]=>by simp[Op.bytesLess,cmpL]
 |_::_,[]=>by simp[Op.bytesLess,cmpL]
 |[],_::_=>by simp[Op.bytesLess,cmpL]
 |a::x,b::y=>by
  rw[Op.bytesLess,pe x y];simp only[cmpL,bh,qu,ec];by_cases c:a<b
  ·have e:(a.toNat:Int)<b.toNat:=by have:=UInt8.lt_iff_toNat_lt.1 c;omega
   simp[c,e]
  ·by_cases d:a=b;·subst d;simp
   ·have f:¬(a.toNat:Int)<b.toNat:=by
     intro h;exact c (UInt8.lt_iff_toNat_lt.2 (by omega))
    have g:(b.toNat:Int)<a.toNat:=by
     have:a.toNat≠b.toNat:=λh=>d (UInt8.toNat_inj.1 h);omega
    simp[c,d,f,g]
theorem vB(a b:ByteArray):mq a b=if Op.bytesLess a.toList b.toList=true then-1 else if a=b then 0 else 1:=by
 have f:∀(x y:List UInt8),cmpL qu x y=-1\/cmpL qu x y=0\/cmpL qu x y=1:=by
  intro x;induction x with
  |nil=>intro y;cases y<;>simp[cmpL]
  |cons p x g=>
   intro y;cases y with
   |nil=>simp[cmpL]
   |cons q y=>
    have:=g y;simp only[cmpL,bh,qu,ec];split<;>(try split)<;>(try split)<;>omega
 rw[pe];have h:=f a.toList b.toList;unfold mq;by_cases e:a=b;·subst e;rw[(pg vC).refl];simp
 ·have i:cmpL qu a.toList b.toList≠0:=λd=>e (toList_inj ((pg vC).eq _ _ d));simp only[e,if_false];by_cases c:cmpL qu a.toList b.toList<0;·simp[c];omega
  ·simp[c];omega
def mK(b:UInt8):Bool:=48<=b.toNat&&b.toNat<=57
def dF:Nat->List UInt8->List UInt8
 |0,_=>[]
 |_+1,[]=>[]
 |n+1,b::l=>if mK b then b::dF n l else[]
def fo(ds:List UInt8):Nat:=ds.foldl (λn b=>n*10+(b.toNat-48)) 0
structure Part where
 ord:Nat
 at_:Nat
 e:Nat
def cW(count at_:Nat)(l:List UInt8):Part×Nat:=
 let ds:=dF 7 l
 if count=8 then(⟨0,at_,9⟩,at_)else if l=[]then(⟨0,at_,4⟩,at_)else if ds=[]then(⟨0,at_,6⟩,at_)else if l[0]? =some 48 then(⟨0,at_,3⟩,at_)
 else if 6<ds.length then(⟨0,at_,2⟩,at_)else(⟨fo ds,at_,0⟩,at_+ds.length)
def dz:Nat->Nat->List UInt8->List Part
 |0,at_,_=>[⟨0,at_,9⟩]
 |n+1,at_,l=>
  let p:=(cW (7-n) at_ l).1
  if p.e≠0 then[p]else
   let k:=(dF 7 l).length
   if l.length<=k then[p]else if l[k]? ≠some 46 then[p,⟨0,at_+k,6⟩]else p::dz n (at_+k+1) (l.drop (k+1))
def gC(s:ByteArray):List Part:=if s.size=0 then[]else dz 8 0 s.toList
def dj(s:ByteArray):Bool:=(gC s).all (λp=>p.e==0)
def jK(s:ByteArray):List Int:=(gC s).map (λp=>(p.ord:Int))
theorem lT:∀(n:Nat)(l:List UInt8),(dF n l).length<=n/\(dF n l).length<=l.length
 |0,l=>by simp[dF]
 |n+1,[]=>by simp[dF]
 |n+1,b::l=>by
  have:=lT n l;rw[dF];split<;>simp<;>omega
theorem oH:∀(n:Nat)(l:List UInt8),dF n l=l.take (dF n l).length
 |0,l=>by simp[dF]
 |n+1,[]=>by simp[dF]
 |n+1,b::l=>by
  rw[dF];split;·rw[List.length_cons,List.take_succ_cons,<-oH n l]
  ·simp
theorem td:∀(n:Nat)(l:List UInt8),∀b∈dF n l,mK b=true
 |0,l=>by simp[dF]
 |n+1,[]=>by simp[dF]
 |n+1,b::l=>by
  intro x a;rw[dF]at a;split at a
  ·rename_i h;rcases List.mem_cons.1 a with rfl|c;·exact h
   ·exact td n l x c
  ·simp at a
theorem wT:∀(n:Nat)(l:List UInt8)(j:Nat),j<=(dF n l).length->(j<(dF n l).length↔j<n/\∃b,l[j]? =some b/\mK b=true)
 |0,l,j,h=>by simp[dF]
 |n+1,[],j,h=>by simp[dF]
 |n+1,b::l,0,h=>by
  rw[dF];by_cases a:mK b=true;·simp[a]
  ·simp[a]
 |n+1,b::l,j+1,h=>by
  rw[dF]at h⊢;by_cases a:mK b=true;·simp only[a,if_true,List.length_cons]at h⊢;have:=wT n l j (by omega);simp only[List.getElem?_cons_succ];rw[show(j+1<(dF n l).length+1)↔(j<(dF n l).length)by omega,show(j+1<n+1)↔(j<n)by omega];exact this
  ·simp[a]at h
theorem mC(ds:List UInt8)(b:UInt8):fo (ds++[b])=fo ds*10+(b.toNat-48):=by simp[fo]
theorem Kg:∀(n:Nat)(ds:List UInt8),ds.length=n->(∀b∈ds,mK b=true)->fo ds<10^n:=by
 intro n;induction n with
 |zero=>
  intro ds h _;rw[List.eq_nil_of_length_eq_zero h];decide
 |succ n e=>
  intro ds h a;obtain⟨init,b,rfl⟩:∃init b,ds=init++[b]:=by
   rcases List.eq_nil_or_concat ds with rfl|⟨i,b,rfl⟩;·simp at h
   ·exact⟨i,b,by simp⟩
  rw[mC];have f:=e init (by simpa using h) (λx d=>a x (by simp[d]));have c:=a b (by simp);simp only[mK,Bool.and_eq_true,decide_eq_true_eq]at c;rw[Nat.pow_succ];omega
end Go.Proofs.YtphjagkehiklkaaGreatDoor
namespace Go.Proofs.YtphjagkehiklkaaGreatDoor
open Proofs.Tryz Go.RowKit Go.Shelf
attribute[local go_sem]Oper.semAt_some
theorem zG(b:UInt8)(w:World):Calls prog 184 #[.int .u8 b.toNat] w (bJ w (.bool (mK b))):=by
 by_cases c:48<=b.toNat
 ·have t1:decide ((48:Int)<=(b.toNat:Int))=true:=cX (by omega);by_cases d:b.toNat<=57
  ·have t2:decide ((b.toNat:Int)<=57)=true:=cX (by omega);have a:mK b=true:=by simp[mK,c,d]
   rw[a];go_enter func184,ntmps184;go_wp2;go_ret;exact⟨rfl,rfl⟩
  ·have t2:decide ((b.toNat:Int)<=57)=false:=ct (by omega);have a:mK b=false:=by simp[mK,d]
   rw[a];go_enter func184,ntmps184;go_wp2;go_ret;exact⟨rfl,rfl⟩
 ·have t1:decide ((48:Int)<=(b.toNat:Int))=false:=ct (by omega);have a:mK b=false:=by simp[mK,c]
  rw[a];go_enter func184,ntmps184;go_wp2;go_ret;exact⟨rfl,rfl⟩
def bN(p:Part):Array Value:=#[.int .i64 p.ord, .int .i64 p.at_, .int .i64 p.e]
def oF:Array Value:=#[.int .i64 0, .int .i64 0, .int .i64 0]
theorem uN(w:World):(zeroValue 270).run prog w= .ok (.agg oF) w:=by kernel_rfl
theorem dk(p:Part):(bN p).all (·.oneCell')=true:=by simp[bN,Value.oneCell']
theorem cy:(prog.info? 270).map (·.size)=some 3:=by kernel_rfl
theorem fF(s:ByteArray):s.toList.length=s.size:=by rw[ByteArray.toList_eq];rfl
theorem Ab{s:ByteArray}{i:Nat}{b:UInt8}(h:s.toList[i]? =some b):∃h:i<s.size,s[i]=b:=by
 obtain⟨a,c⟩:=List.getElem?_eq_some_iff.1 h;have d:i<s.size:=by rw[<-fF];exact a
 refine⟨d,?_⟩;rw[<-c];simp only[ByteArray.toList_eq];rfl
theorem bX(tmps:Array Value)(w:World)(g:Nat)(cs:Array Value)(v:Value)
  (c:tmps.getD 6 undef= .pointer (some ⟨g,0,none⟩))(d:tmps.getD 7 undef=v)(e:aq w g 270 cs)(f:cs.size=3):
  (results Tryz.f183 tmps).run prog w= .ok (.tuple #[.agg cs,v]) w:=by
 have a:tmps[6]?.getD undef= .pointer (some ⟨g,0,none⟩):=by simpa using c
 have b:tmps[7]?.getD undef=v:=by simpa using d
 simp[results,results183,a,b,asAddr,run_loadVar_row w g 270 270 cs (0,0) _ e underlying270 rfl (by rw[f];exact cy)]
theorem Em(s:ByteArray)(at_ count:Nat)(w:World)(az:at_<=s.size)(aA:s.size<=1099511627776)(aG:count<=8):
  Calls prog 183 #[.string s, .int .i64 at_, .int .i64 count] w (aM w (.tuple #[.agg (bN (cW count at_ (s.toList.drop at_)).1), .int .i64 ((cW count at_ (s.toList.drop at_)).2:Nat)])):=by
 obtain⟨l,f⟩:∃l,l=s.toList.drop at_:=⟨_,rfl⟩;rw[<-f];obtain⟨ds,ag⟩:∃ds,ds=dF 7 l:=⟨_,rfl⟩;have ab:=af ag;have aa:Hid (∀i b,l[i]? =some b->∃h:at_+i<s.size,s[at_+i]=b):=λi b R=>by
  rw[f,List.getElem?_drop]at R;exact Ab R
 have aj:Hid (∀i,at_+i<s.size->∃b,l[i]? =some b):=λi I=>by
  rw[f,List.getElem?_drop];exact⟨_,List.getElem?_eq_getElem (by rw[fF];exact I)⟩
 have o:Hid (l.length+at_=s.size/\(l≠[]->∃z,∃h:at_<s.size,l[0]? =some z/\s[at_]=z)):=by
  refine⟨by rw[f,List.length_drop,fF];omega,λau=>?_⟩;obtain⟨z,u⟩:∃z,l[0]? =some z:=by
   cases l with
   |nil=>exact absurd rfl au
   |cons z r=>exact⟨z,rfl⟩
  obtain⟨h,e⟩:=aa.out 0 z u;exact⟨z,h,u,e⟩
 have ap:=af (lT 7 l);have ad:=af (wT 7 l);have ae:=af (oH 7 l);have ac:=af (td 7 l);rw[<-ag]at ap ad ae ac;clear ag f;have aD:=af az;have ax:=af aA;have Z:=af (λb w=>zG b w);clear az aA;go_enter func183,ntmps183;go_wp2_with(refine an rfl 270 rfl (.agg oF) uN oF rfl ?_);intro w1 n1;have L:=af n1.fr;have K:=af n1.aF;have M:Sz w w.heap.size:=Nat.le_refl _;clear n1;generalize w.heap.size=g1 at*;go_wp2;go_loopw[8,9](λi n wr=>∃j:Nat,j<=ds.length/\i= .int .i64 ((at_+j:Nat):Int)/\n= .int .i64 ((fo (ds.take j):Nat):Int)/\w1=wr)(λi _ _=>at_+8-(intOf i).toNat);case atStart=>exact⟨0,Nat.zero_le _,rfl,rfl,rfl⟩
 case round=>
 obtain⟨j,aq,rfl,rfl,rfl⟩:=hrel;have J:=ad.out j aq;obtain⟨q,ah⟩:∃q,q=at_+j:=⟨_,rfl⟩;rw[<-ah];obtain⟨N,hN⟩:∃N,N=fo (ds.take j):=⟨_,rfl⟩;rw[<-hN];have ao:=af hN;clear hN;by_cases T:j<ds.length
 ·obtain⟨aL,b,R,S⟩:=J.1 T;obtain⟨av,al⟩:=aa.out j b R;have Y:=af T;have F:Hid (q=at_+j):=ah;have HB:=af R;have t0:(q:Int)<(s.size:Int):=by omega
  have aP:q<s.size:=by omega
  have t1:(q:Int)-(at_:Int)<=6:=by omega
  have t2:(0:Int)<=(q:Int):=by omega
  have t3:s[q]=b:=by subst ah;exact al
  have t4:mK b=true:=S;have aH:48<=b.toNat/\b.toNat<=57:=by simpa[mK]using S
  have ak:Hid (N*10+(b.toNat-48)=fo (ds.take (j+1))/\N<10000000):=by
   have ar:ds[j]? =some b:=by
    rw[ae.out,List.getElem?_take_of_lt T];exact R
   constructor;·rw[List.take_add_one,ar,Option.toList_some,mC,<-ao.out]
   ·rw[ao.out];refine Nat.lt_of_lt_of_le (Kg _ (ds.take j) rfl (λx aN=>ac.out x (List.mem_of_mem_take aN))) ?_;refine Nat.le_trans (Nat.pow_le_pow_right (by omega) (show(ds.take j).length<=7 by rw[List.length_take];omega)) (by decide)
  obtain⟨d,t⟩:∃d,d=b.toNat-48:=⟨_,rfl⟩;have t5:(b.toNat:Int)-48=(d:Int):=by omega
  have t6:d<=9:=by omega
  have aE:=af t;have nb:=ak.out.2;have nq:q<=1099511627776:=by have:=ax.out;omega
  have aO:at_<=q:=by omega
  clear ah al av R S aH J T aL t aq;go_wp2_with fail;refine(Z.out b _).mono ?_;rintro e w'⟨rfl,rfl⟩;rw[t4];go_wp2;go_roundw;case rel=>
   have X:=F.out;have Q:=ak.out.1;have ay:=aE.out;exact⟨j+1,Y.out,by go_num,by rw[<-Q];go_num,by first|rfl|trivial⟩
  case measure=>
   have X:=F.out;have Q:=Y.out;have ay:=ap.out.1;simp[intOf];omega
 ·obtain rfl:j=ds.length:=by omega
  have F:Hid (q=at_+ds.length):=ah;obtain rfl:N=fo ds:=by rw[ao.out,List.take_length]
  have am:s.size<=q\/(q<s.size/\ds.length=7)\/(q<s.size/\ds.length<=6/\∃b,(∃h:q<s.size,s[q]=b)/\mK b=false):=by
   by_cases X:q<s.size
   ·right;by_cases Q:ds.length=7;·exact .inl ⟨X,Q⟩
    ·right;have ay:=ap.out.1;refine⟨X,by omega,?_⟩;obtain⟨b,R⟩:=aj.out ds.length (by omega);obtain⟨aR,aJ⟩:=aa.out _ _ R;refine⟨b,⟨X,?_⟩,?_⟩;·subst ah;exact aJ
     ·cases aK:mK b;·rfl
      ·exact absurd (J.2 ⟨by omega,b,R,aK⟩) T
   ·exact .inl (by omega)
  have W:=af am;have aQ:ds.length<=7:=ap.out.1;have aO:at_<=q:=by omega
  have nq:q<=1099511627783:=by have:=ax.out;have:=aD.out;omega
  clear am J ah T aq ao ad ae ac aj;rcases W.out with X|⟨X,Q⟩|⟨X,Q,b,⟨aI,R⟩,S⟩
  ·clear W;have aB:¬(q:Int)<(s.size:Int):=by omega
   have aC:¬q<s.size:=by omega
   clear X;have p:Hid (cW count at_ l=if count=8 then(⟨0,at_,9⟩,at_)else if l=[]then(⟨0,at_,4⟩,at_)else if ds=[]then(⟨0,at_,6⟩,at_)else if l[0]? =some 48 then(⟨0,at_,3⟩,at_)else if 6<ds.length then(⟨0,at_,2⟩,at_)else(⟨fo ds,at_,0⟩,at_+ds.length)):=by simp only[Hid];rw[ab.out];rfl
   by_cases a:count=8
   ·have c:Hid (cW count at_ l=(⟨0,at_,9⟩,at_)):=by simp only[Hid];rw[p.out,if_pos a]
    have m:((count:Int)==8)=true:=by rw[beq_iff_eq];have:=a;omega
    clear a;go_wp2_with(refine ai rfl 270 (.tmp 6) _ rfl g1 (bN ⟨0,at_,9⟩) rfl rfl _ _ K.out cy rfl (dk _) ?_);intro D g k;have v:=af g;have y:Hid (Fr Nothing w D):=L.out.aw k (λi I e=>by have O:i=g1:=e;have:=M;unfold Sz at this;omega);clear g k;go_wp2;refine bodyPost_ret (bX _ _ g1 (bN ⟨0,at_,9⟩) _ rfl rfl v.out rfl) rfl ?_;rw[c.out];exact⟨rfl,y.out⟩
   by_cases f:l=[]
   ·have c:Hid (cW count at_ l=(⟨0,at_,4⟩,at_)):=by simp only[Hid];rw[p.out,if_neg a,if_pos f]
    have m:((count:Int)==8)=false:=by rw[beq_eq_false_iff_ne];have:=a;omega
    have E:((at_:Int)==(s.size:Int))=true:=by rw[beq_iff_eq];have:=o.out.1;have G:l.length=0:=(by simp[f]);omega
    clear a f;go_wp2_with(refine ai rfl 270 (.tmp 6) _ rfl g1 (bN ⟨0,at_,4⟩) rfl rfl _ _ K.out cy rfl (dk _) ?_);intro D g k;have v:=af g;have y:Hid (Fr Nothing w D):=L.out.aw k (λi I e=>by have O:i=g1:=e;have:=M;unfold Sz at this;omega);clear g k;go_wp2;refine bodyPost_ret (bX _ _ g1 (bN ⟨0,at_,4⟩) _ rfl rfl v.out rfl) rfl ?_;rw[c.out];exact⟨rfl,y.out⟩
   by_cases t:ds=[]
   ·have c:Hid (cW count at_ l=(⟨0,at_,6⟩,at_)):=by simp only[Hid];rw[p.out,if_neg a,if_neg f,if_pos t]
    have m:((count:Int)==8)=false:=by rw[beq_eq_false_iff_ne];have:=a;omega
    have E:((at_:Int)==(s.size:Int))=false:=by rw[beq_eq_false_iff_ne];have:=o.out.1;have G:l.length≠0:=λh=>f (List.length_eq_zero_iff.1 h);omega
    have H:((q:Int)==(at_:Int))=true:=by rw[beq_iff_eq];have:=F.out;have G:ds.length=0:=(by simp[t]);omega
    clear a f t;go_wp2_with(refine ai rfl 270 (.tmp 6) _ rfl g1 (bN ⟨0,at_,6⟩) rfl rfl _ _ K.out cy rfl (dk _) ?_);intro D g k;have v:=af g;have y:Hid (Fr Nothing w D):=L.out.aw k (λi I e=>by have O:i=g1:=e;have:=M;unfold Sz at this;omega);clear g k;go_wp2;refine bodyPost_ret (bX _ _ g1 (bN ⟨0,at_,6⟩) _ rfl rfl v.out rfl) rfl ?_;rw[c.out];exact⟨rfl,y.out⟩
   by_cases u:l[0]? =some 48
   ·have c:Hid (cW count at_ l=(⟨0,at_,3⟩,at_)):=by simp only[Hid];rw[p.out,if_neg a,if_neg f,if_neg t,if_pos u]
    have m:((count:Int)==8)=false:=by rw[beq_eq_false_iff_ne];have:=a;omega
    have E:((at_:Int)==(s.size:Int))=false:=by rw[beq_eq_false_iff_ne];have:=o.out.1;have G:l.length≠0:=λh=>f (List.length_eq_zero_iff.1 h);omega
    have H:((q:Int)==(at_:Int))=false:=by rw[beq_eq_false_iff_ne];have:=F.out;have G:ds.length≠0:=λh=>t (List.length_eq_zero_iff.1 h);omega
    obtain⟨z,A,B,C⟩:=o.out.2 (λh=>f h);have i1:at_<s.size:=A;have i2:(at_:Int)<(s.size:Int):=by omega
    have i3:(0:Int)<=(at_:Int):=by omega
    have i4:s[at_]=z:=C;have P:((z.toNat:Int)==48)=true:=by
     rw[B]at u;have U:z=48:=Option.some.inj u;subst U;rfl
    clear a f t u;go_wp2_with(refine ai rfl 270 (.tmp 6) _ rfl g1 (bN ⟨0,at_,3⟩) rfl rfl _ _ K.out cy rfl (dk _) ?_);intro D g k;have v:=af g;have y:Hid (Fr Nothing w D):=L.out.aw k (λi I e=>by have O:i=g1:=e;have:=M;unfold Sz at this;omega);clear g k;go_wp2;refine bodyPost_ret (bX _ _ g1 (bN ⟨0,at_,3⟩) _ rfl rfl v.out rfl) rfl ?_;rw[c.out];exact⟨rfl,y.out⟩
   by_cases hm:6<ds.length
   ·have c:Hid (cW count at_ l=(⟨0,at_,2⟩,at_)):=by simp only[Hid];rw[p.out,if_neg a,if_neg f,if_neg t,if_neg u,if_pos hm]
    have m:((count:Int)==8)=false:=by rw[beq_eq_false_iff_ne];have:=a;omega
    have E:((at_:Int)==(s.size:Int))=false:=by rw[beq_eq_false_iff_ne];have:=o.out.1;have G:l.length≠0:=λh=>f (List.length_eq_zero_iff.1 h);omega
    have H:((q:Int)==(at_:Int))=false:=by rw[beq_eq_false_iff_ne];have:=F.out;have G:ds.length≠0:=λh=>t (List.length_eq_zero_iff.1 h);omega
    obtain⟨z,A,B,C⟩:=o.out.2 (λh=>f h);have i1:at_<s.size:=A;have i2:(at_:Int)<(s.size:Int):=by omega
    have i3:(0:Int)<=(at_:Int):=by omega
    have i4:s[at_]=z:=C;have P:((z.toNat:Int)==48)=false:=by
     rw[B]at u;rw[beq_eq_false_iff_ne];intro h;apply u;have:z=48:=by
      apply UInt8.toNat_inj.1;have Q:(48:UInt8).toNat=48:=rfl;omega
     rw[this]
    have V:decide (6<(q:Int)-(at_:Int))=true:=cX (by have:=F.out;omega);clear a f t u hm;go_wp2_with(refine ai rfl 270 (.tmp 6) _ rfl g1 (bN ⟨0,at_,2⟩) rfl rfl _ _ K.out cy rfl (dk _) ?_);intro D g k;have v:=af g;have y:Hid (Fr Nothing w D):=L.out.aw k (λi I e=>by have O:i=g1:=e;have:=M;unfold Sz at this;omega);clear g k;go_wp2;refine bodyPost_ret (bX _ _ g1 (bN ⟨0,at_,2⟩) _ rfl rfl v.out rfl) rfl ?_;rw[c.out];exact⟨rfl,y.out⟩
   have c:Hid (cW count at_ l=(⟨fo ds,at_,0⟩,at_+ds.length)):=by simp only[Hid];rw[p.out,if_neg a,if_neg f,if_neg t,if_neg u,if_neg hm]
   have m:((count:Int)==8)=false:=by rw[beq_eq_false_iff_ne];have:=a;omega
   have E:((at_:Int)==(s.size:Int))=false:=by rw[beq_eq_false_iff_ne];have:=o.out.1;have G:l.length≠0:=λh=>f (List.length_eq_zero_iff.1 h);omega
   have H:((q:Int)==(at_:Int))=false:=by rw[beq_eq_false_iff_ne];have:=F.out;have G:ds.length≠0:=λh=>t (List.length_eq_zero_iff.1 h);omega
   obtain⟨z,A,B,C⟩:=o.out.2 (λh=>f h);have i1:at_<s.size:=A;have i2:(at_:Int)<(s.size:Int):=by omega
   have i3:(0:Int)<=(at_:Int):=by omega
   have i4:s[at_]=z:=C;have P:((z.toNat:Int)==48)=false:=by
    rw[B]at u;rw[beq_eq_false_iff_ne];intro h;apply u;have:z=48:=by
     apply UInt8.toNat_inj.1;have Q:(48:UInt8).toNat=48:=rfl;omega
    rw[this]
   have V:decide (6<(q:Int)-(at_:Int))=false:=ct (by have:=F.out;omega);clear a f t u hm;go_wp2_with(refine ai rfl 270 (.tmp 6) _ rfl g1 (bN ⟨fo ds,at_,0⟩) rfl rfl _ _ K.out cy rfl (dk _) ?_);intro D g k;have v:=af g;have y:Hid (Fr Nothing w D):=L.out.aw k (λi I e=>by have O:i=g1:=e;have:=M;unfold Sz at this;omega);clear g k;go_wp2;refine bodyPost_ret (bX _ _ g1 (bN ⟨fo ds,at_,0⟩) _ rfl rfl v.out rfl) rfl ?_;rw[c.out];refine⟨?_,y.out⟩;rw[<-F.out];rfl
  ·clear W;have aB:(q:Int)<(s.size:Int):=by omega
   have aC:¬(q:Int)-(at_:Int)<=6:=by have:=F.out;omega
   clear Q;have p:Hid (cW count at_ l=if count=8 then(⟨0,at_,9⟩,at_)else if l=[]then(⟨0,at_,4⟩,at_)else if ds=[]then(⟨0,at_,6⟩,at_)else if l[0]? =some 48 then(⟨0,at_,3⟩,at_)else if 6<ds.length then(⟨0,at_,2⟩,at_)else(⟨fo ds,at_,0⟩,at_+ds.length)):=by simp only[Hid];rw[ab.out];rfl
   by_cases a:count=8
   ·have c:Hid (cW count at_ l=(⟨0,at_,9⟩,at_)):=by simp only[Hid];rw[p.out,if_pos a]
    have m:((count:Int)==8)=true:=by rw[beq_iff_eq];have:=a;omega
    clear a;go_wp2_with(refine ai rfl 270 (.tmp 6) _ rfl g1 (bN ⟨0,at_,9⟩) rfl rfl _ _ K.out cy rfl (dk _) ?_);intro D g k;have v:=af g;have y:Hid (Fr Nothing w D):=L.out.aw k (λi I e=>by have O:i=g1:=e;have:=M;unfold Sz at this;omega);clear g k;go_wp2;refine bodyPost_ret (bX _ _ g1 (bN ⟨0,at_,9⟩) _ rfl rfl v.out rfl) rfl ?_;rw[c.out];exact⟨rfl,y.out⟩
   by_cases f:l=[]
   ·have c:Hid (cW count at_ l=(⟨0,at_,4⟩,at_)):=by simp only[Hid];rw[p.out,if_neg a,if_pos f]
    have m:((count:Int)==8)=false:=by rw[beq_eq_false_iff_ne];have:=a;omega
    have E:((at_:Int)==(s.size:Int))=true:=by rw[beq_iff_eq];have:=o.out.1;have G:l.length=0:=(by simp[f]);omega
    clear a f;go_wp2_with(refine ai rfl 270 (.tmp 6) _ rfl g1 (bN ⟨0,at_,4⟩) rfl rfl _ _ K.out cy rfl (dk _) ?_);intro D g k;have v:=af g;have y:Hid (Fr Nothing w D):=L.out.aw k (λi I e=>by have O:i=g1:=e;have:=M;unfold Sz at this;omega);clear g k;go_wp2;refine bodyPost_ret (bX _ _ g1 (bN ⟨0,at_,4⟩) _ rfl rfl v.out rfl) rfl ?_;rw[c.out];exact⟨rfl,y.out⟩
   by_cases t:ds=[]
   ·have c:Hid (cW count at_ l=(⟨0,at_,6⟩,at_)):=by simp only[Hid];rw[p.out,if_neg a,if_neg f,if_pos t]
    have m:((count:Int)==8)=false:=by rw[beq_eq_false_iff_ne];have:=a;omega
    have E:((at_:Int)==(s.size:Int))=false:=by rw[beq_eq_false_iff_ne];have:=o.out.1;have G:l.length≠0:=λh=>f (List.length_eq_zero_iff.1 h);omega
    have H:((q:Int)==(at_:Int))=true:=by rw[beq_iff_eq];have:=F.out;have G:ds.length=0:=(by simp[t]);omega
    clear a f t;go_wp2_with(refine ai rfl 270 (.tmp 6) _ rfl g1 (bN ⟨0,at_,6⟩) rfl rfl _ _ K.out cy rfl (dk _) ?_);intro D g k;have v:=af g;have y:Hid (Fr Nothing w D):=L.out.aw k (λi I e=>by have O:i=g1:=e;have:=M;unfold Sz at this;omega);clear g k;go_wp2;refine bodyPost_ret (bX _ _ g1 (bN ⟨0,at_,6⟩) _ rfl rfl v.out rfl) rfl ?_;rw[c.out];exact⟨rfl,y.out⟩
   by_cases u:l[0]? =some 48
   ·have c:Hid (cW count at_ l=(⟨0,at_,3⟩,at_)):=by simp only[Hid];rw[p.out,if_neg a,if_neg f,if_neg t,if_pos u]
    have m:((count:Int)==8)=false:=by rw[beq_eq_false_iff_ne];have:=a;omega
    have E:((at_:Int)==(s.size:Int))=false:=by rw[beq_eq_false_iff_ne];have:=o.out.1;have G:l.length≠0:=λh=>f (List.length_eq_zero_iff.1 h);omega
    have H:((q:Int)==(at_:Int))=false:=by rw[beq_eq_false_iff_ne];have:=F.out;have G:ds.length≠0:=λh=>t (List.length_eq_zero_iff.1 h);omega
    obtain⟨z,A,B,C⟩:=o.out.2 (λh=>f h);have i1:at_<s.size:=A;have i2:(at_:Int)<(s.size:Int):=by omega
    have i3:(0:Int)<=(at_:Int):=by omega
    have i4:s[at_]=z:=C;have P:((z.toNat:Int)==48)=true:=by
     rw[B]at u;have U:z=48:=Option.some.inj u;subst U;rfl
    clear a f t u;go_wp2_with(refine ai rfl 270 (.tmp 6) _ rfl g1 (bN ⟨0,at_,3⟩) rfl rfl _ _ K.out cy rfl (dk _) ?_);intro D g k;have v:=af g;have y:Hid (Fr Nothing w D):=L.out.aw k (λi I e=>by have O:i=g1:=e;have:=M;unfold Sz at this;omega);clear g k;go_wp2;refine bodyPost_ret (bX _ _ g1 (bN ⟨0,at_,3⟩) _ rfl rfl v.out rfl) rfl ?_;rw[c.out];exact⟨rfl,y.out⟩
   by_cases hm:6<ds.length
   ·have c:Hid (cW count at_ l=(⟨0,at_,2⟩,at_)):=by simp only[Hid];rw[p.out,if_neg a,if_neg f,if_neg t,if_neg u,if_pos hm]
    have m:((count:Int)==8)=false:=by rw[beq_eq_false_iff_ne];have:=a;omega
    have E:((at_:Int)==(s.size:Int))=false:=by rw[beq_eq_false_iff_ne];have:=o.out.1;have G:l.length≠0:=λh=>f (List.length_eq_zero_iff.1 h);omega
    have H:((q:Int)==(at_:Int))=false:=by rw[beq_eq_false_iff_ne];have:=F.out;have G:ds.length≠0:=λh=>t (List.length_eq_zero_iff.1 h);omega
    obtain⟨z,A,B,C⟩:=o.out.2 (λh=>f h);have i1:at_<s.size:=A;have i2:(at_:Int)<(s.size:Int):=by omega
    have i3:(0:Int)<=(at_:Int):=by omega
    have i4:s[at_]=z:=C;have P:((z.toNat:Int)==48)=false:=by
     rw[B]at u;rw[beq_eq_false_iff_ne];intro h;apply u;have:z=48:=by
      apply UInt8.toNat_inj.1;have Q:(48:UInt8).toNat=48:=rfl;omega
     rw[this]
    have V:decide (6<(q:Int)-(at_:Int))=true:=cX (by have:=F.out;omega);clear a f t u hm;go_wp2_with(refine ai rfl 270 (.tmp 6) _ rfl g1 (bN ⟨0,at_,2⟩) rfl rfl _ _ K.out cy rfl (dk _) ?_);intro D g k;have v:=af g;have y:Hid (Fr Nothing w D):=L.out.aw k (λi I e=>by have O:i=g1:=e;have:=M;unfold Sz at this;omega);clear g k;go_wp2;refine bodyPost_ret (bX _ _ g1 (bN ⟨0,at_,2⟩) _ rfl rfl v.out rfl) rfl ?_;rw[c.out];exact⟨rfl,y.out⟩
   have c:Hid (cW count at_ l=(⟨fo ds,at_,0⟩,at_+ds.length)):=by simp only[Hid];rw[p.out,if_neg a,if_neg f,if_neg t,if_neg u,if_neg hm]
   have m:((count:Int)==8)=false:=by rw[beq_eq_false_iff_ne];have:=a;omega
   have E:((at_:Int)==(s.size:Int))=false:=by rw[beq_eq_false_iff_ne];have:=o.out.1;have G:l.length≠0:=λh=>f (List.length_eq_zero_iff.1 h);omega
   have H:((q:Int)==(at_:Int))=false:=by rw[beq_eq_false_iff_ne];have:=F.out;have G:ds.length≠0:=λh=>t (List.length_eq_zero_iff.1 h);omega
   obtain⟨z,A,B,C⟩:=o.out.2 (λh=>f h);have i1:at_<s.size:=A;have i2:(at_:Int)<(s.size:Int):=by omega
   have i3:(0:Int)<=(at_:Int):=by omega
   have i4:s[at_]=z:=C;have P:((z.toNat:Int)==48)=false:=by
    rw[B]at u;rw[beq_eq_false_iff_ne];intro h;apply u;have:z=48:=by
     apply UInt8.toNat_inj.1;have Q:(48:UInt8).toNat=48:=rfl;omega
    rw[this]
   have V:decide (6<(q:Int)-(at_:Int))=false:=ct (by have:=F.out;omega);clear a f t u hm;go_wp2_with(refine ai rfl 270 (.tmp 6) _ rfl g1 (bN ⟨fo ds,at_,0⟩) rfl rfl _ _ K.out cy rfl (dk _) ?_);intro D g k;have v:=af g;have y:Hid (Fr Nothing w D):=L.out.aw k (λi I e=>by have O:i=g1:=e;have:=M;unfold Sz at this;omega);clear g k;go_wp2;refine bodyPost_ret (bX _ _ g1 (bN ⟨fo ds,at_,0⟩) _ rfl rfl v.out rfl) rfl ?_;rw[c.out];refine⟨?_,y.out⟩;rw[<-F.out];rfl
  ·clear W;have aB:(q:Int)<(s.size:Int):=by omega
   have aC:(q:Int)-(at_:Int)<=6:=by have:=F.out;omega
   have aS:(0:Int)<=(q:Int):=by omega
   have aT:s[q]=b:=R;have t4:mK b=false:=S;clear R S Q;have p:Hid (cW count at_ l=if count=8 then(⟨0,at_,9⟩,at_)else if l=[]then(⟨0,at_,4⟩,at_)else if ds=[]then(⟨0,at_,6⟩,at_)else if l[0]? =some 48 then(⟨0,at_,3⟩,at_)else if 6<ds.length then(⟨0,at_,2⟩,at_)else(⟨fo ds,at_,0⟩,at_+ds.length)):=by simp only[Hid];rw[ab.out];rfl
   by_cases a:count=8
   ·have c:Hid (cW count at_ l=(⟨0,at_,9⟩,at_)):=by simp only[Hid];rw[p.out,if_pos a]
    have m:((count:Int)==8)=true:=by rw[beq_iff_eq];have:=a;omega
    clear a;go_wp2_with fail;refine(Z.out b _).mono ?_;rintro e w'⟨rfl,rfl⟩;rw[t4];go_wp2_with(refine ai rfl 270 (.tmp 6) _ rfl g1 (bN ⟨0,at_,9⟩) rfl rfl _ _ K.out cy rfl (dk _) ?_);intro D g k;have v:=af g;have y:Hid (Fr Nothing w D):=L.out.aw k (λi I e=>by have O:i=g1:=e;have:=M;unfold Sz at this;omega);clear g k;go_wp2;refine bodyPost_ret (bX _ _ g1 (bN ⟨0,at_,9⟩) _ rfl rfl v.out rfl) rfl ?_;rw[c.out];exact⟨rfl,y.out⟩
   by_cases f:l=[]
   ·have c:Hid (cW count at_ l=(⟨0,at_,4⟩,at_)):=by simp only[Hid];rw[p.out,if_neg a,if_pos f]
    have m:((count:Int)==8)=false:=by rw[beq_eq_false_iff_ne];have:=a;omega
    have E:((at_:Int)==(s.size:Int))=true:=by rw[beq_iff_eq];have:=o.out.1;have G:l.length=0:=(by simp[f]);omega
    clear a f;go_wp2_with fail;refine(Z.out b _).mono ?_;rintro e w'⟨rfl,rfl⟩;rw[t4];go_wp2_with(refine ai rfl 270 (.tmp 6) _ rfl g1 (bN ⟨0,at_,4⟩) rfl rfl _ _ K.out cy rfl (dk _) ?_);intro D g k;have v:=af g;have y:Hid (Fr Nothing w D):=L.out.aw k (λi I e=>by have O:i=g1:=e;have:=M;unfold Sz at this;omega);clear g k;go_wp2;refine bodyPost_ret (bX _ _ g1 (bN ⟨0,at_,4⟩) _ rfl rfl v.out rfl) rfl ?_;rw[c.out];exact⟨rfl,y.out⟩
   by_cases t:ds=[]
   ·have c:Hid (cW count at_ l=(⟨0,at_,6⟩,at_)):=by simp only[Hid];rw[p.out,if_neg a,if_neg f,if_pos t]
    have m:((count:Int)==8)=false:=by rw[beq_eq_false_iff_ne];have:=a;omega
    have E:((at_:Int)==(s.size:Int))=false:=by rw[beq_eq_false_iff_ne];have:=o.out.1;have G:l.length≠0:=λh=>f (List.length_eq_zero_iff.1 h);omega
    have H:((q:Int)==(at_:Int))=true:=by rw[beq_iff_eq];have:=F.out;have G:ds.length=0:=(by simp[t]);omega
    clear a f t;go_wp2_with fail;refine(Z.out b _).mono ?_;rintro e w'⟨rfl,rfl⟩;rw[t4];go_wp2_with(refine ai rfl 270 (.tmp 6) _ rfl g1 (bN ⟨0,at_,6⟩) rfl rfl _ _ K.out cy rfl (dk _) ?_);intro D g k;have v:=af g;have y:Hid (Fr Nothing w D):=L.out.aw k (λi I e=>by have O:i=g1:=e;have:=M;unfold Sz at this;omega);clear g k;go_wp2;refine bodyPost_ret (bX _ _ g1 (bN ⟨0,at_,6⟩) _ rfl rfl v.out rfl) rfl ?_;rw[c.out];exact⟨rfl,y.out⟩
   by_cases u:l[0]? =some 48
   ·have c:Hid (cW count at_ l=(⟨0,at_,3⟩,at_)):=by simp only[Hid];rw[p.out,if_neg a,if_neg f,if_neg t,if_pos u]
    have m:((count:Int)==8)=false:=by rw[beq_eq_false_iff_ne];have:=a;omega
    have E:((at_:Int)==(s.size:Int))=false:=by rw[beq_eq_false_iff_ne];have:=o.out.1;have G:l.length≠0:=λh=>f (List.length_eq_zero_iff.1 h);omega
    have H:((q:Int)==(at_:Int))=false:=by rw[beq_eq_false_iff_ne];have:=F.out;have G:ds.length≠0:=λh=>t (List.length_eq_zero_iff.1 h);omega
    obtain⟨z,A,B,C⟩:=o.out.2 (λh=>f h);have i1:at_<s.size:=A;have i2:(at_:Int)<(s.size:Int):=by omega
    have i3:(0:Int)<=(at_:Int):=by omega
    have i4:s[at_]=z:=C;have P:((z.toNat:Int)==48)=true:=by
     rw[B]at u;have U:z=48:=Option.some.inj u;subst U;rfl
    clear a f t u;go_wp2_with fail;refine(Z.out b _).mono ?_;rintro e w'⟨rfl,rfl⟩;rw[t4];go_wp2_with(refine ai rfl 270 (.tmp 6) _ rfl g1 (bN ⟨0,at_,3⟩) rfl rfl _ _ K.out cy rfl (dk _) ?_);intro D g k;have v:=af g;have y:Hid (Fr Nothing w D):=L.out.aw k (λi I e=>by have O:i=g1:=e;have:=M;unfold Sz at this;omega);clear g k;go_wp2;refine bodyPost_ret (bX _ _ g1 (bN ⟨0,at_,3⟩) _ rfl rfl v.out rfl) rfl ?_;rw[c.out];exact⟨rfl,y.out⟩
   by_cases hm:6<ds.length
   ·have c:Hid (cW count at_ l=(⟨0,at_,2⟩,at_)):=by simp only[Hid];rw[p.out,if_neg a,if_neg f,if_neg t,if_neg u,if_pos hm]
    have m:((count:Int)==8)=false:=by rw[beq_eq_false_iff_ne];have:=a;omega
    have E:((at_:Int)==(s.size:Int))=false:=by rw[beq_eq_false_iff_ne];have:=o.out.1;have G:l.length≠0:=λh=>f (List.length_eq_zero_iff.1 h);omega
    have H:((q:Int)==(at_:Int))=false:=by rw[beq_eq_false_iff_ne];have:=F.out;have G:ds.length≠0:=λh=>t (List.length_eq_zero_iff.1 h);omega
    obtain⟨z,A,B,C⟩:=o.out.2 (λh=>f h);have i1:at_<s.size:=A;have i2:(at_:Int)<(s.size:Int):=by omega
    have i3:(0:Int)<=(at_:Int):=by omega
    have i4:s[at_]=z:=C;have P:((z.toNat:Int)==48)=false:=by
     rw[B]at u;rw[beq_eq_false_iff_ne];intro h;apply u;have:z=48:=by
      apply UInt8.toNat_inj.1;have Q:(48:UInt8).toNat=48:=rfl;omega
     rw[this]
    have V:decide (6<(q:Int)-(at_:Int))=true:=cX (by have:=F.out;omega);clear a f t u hm;go_wp2_with fail;refine(Z.out b _).mono ?_;rintro e w'⟨rfl,rfl⟩;rw[t4];go_wp2_with(refine ai rfl 270 (.tmp 6) _ rfl g1 (bN ⟨0,at_,2⟩) rfl rfl _ _ K.out cy rfl (dk _) ?_);intro D g k;have v:=af g;have y:Hid (Fr Nothing w D):=L.out.aw k (λi I e=>by have O:i=g1:=e;have:=M;unfold Sz at this;omega);clear g k;go_wp2;refine bodyPost_ret (bX _ _ g1 (bN ⟨0,at_,2⟩) _ rfl rfl v.out rfl) rfl ?_;rw[c.out];exact⟨rfl,y.out⟩
   have c:Hid (cW count at_ l=(⟨fo ds,at_,0⟩,at_+ds.length)):=by simp only[Hid];rw[p.out,if_neg a,if_neg f,if_neg t,if_neg u,if_neg hm]
   have m:((count:Int)==8)=false:=by rw[beq_eq_false_iff_ne];have:=a;omega
   have E:((at_:Int)==(s.size:Int))=false:=by rw[beq_eq_false_iff_ne];have:=o.out.1;have G:l.length≠0:=λh=>f (List.length_eq_zero_iff.1 h);omega
   have H:((q:Int)==(at_:Int))=false:=by rw[beq_eq_false_iff_ne];have:=F.out;have G:ds.length≠0:=λh=>t (List.length_eq_zero_iff.1 h);omega
   obtain⟨z,A,B,C⟩:=o.out.2 (λh=>f h);have i1:at_<s.size:=A;have i2:(at_:Int)<(s.size:Int):=by omega
   have i3:(0:Int)<=(at_:Int):=by omega
   have i4:s[at_]=z:=C;have P:((z.toNat:Int)==48)=false:=by
    rw[B]at u;rw[beq_eq_false_iff_ne];intro h;apply u;have:z=48:=by
     apply UInt8.toNat_inj.1;have Q:(48:UInt8).toNat=48:=rfl;omega
    rw[this]
   have V:decide (6<(q:Int)-(at_:Int))=false:=ct (by have:=F.out;omega);clear a f t u hm;go_wp2_with fail;refine(Z.out b _).mono ?_;rintro e w'⟨rfl,rfl⟩;rw[t4];go_wp2_with(refine ai rfl 270 (.tmp 6) _ rfl g1 (bN ⟨fo ds,at_,0⟩) rfl rfl _ _ K.out cy rfl (dk _) ?_);intro D g k;have v:=af g;have y:Hid (Fr Nothing w D):=L.out.aw k (λi I e=>by have O:i=g1:=e;have:=M;unfold Sz at this;omega);clear g k;go_wp2;refine bodyPost_ret (bX _ _ g1 (bN ⟨fo ds,at_,0⟩) _ rfl rfl v.out rfl) rfl ?_;rw[c.out];refine⟨?_,y.out⟩;rw[<-F.out];rfl
end Go.Proofs.YtphjagkehiklkaaGreatDoor
namespace Go.Proofs.YtphjagkehiklkaaGreatDoor
open Proofs.Tryz Go.RowKit Go.Shelf
attribute[local go_sem]Oper.semAt_some
theorem xB{n:Nat}{P:Program}{row:String}{args:Array Value}{w:World}{a:Value->World->Prop}(h:Rows P row args w a):RowsIn Fence.wide n P row args w a:=
 λc cs _=>let⟨v,w',q,s⟩:=h c cs;⟨v,w',q,stepsIn_wide.2 s⟩
theorem BU{n:Nat}{P:Program}{q:Oper}{a:Act}{w:World}{K j:Act->World->Prop}{Q Q':Exit->Act->World->Prop}(l:iA q=true)(b:∀a w,K a w->j a w)(g:∀e a w,Q e a w->Q' e a w)(h:q.wp P a w K Q):
  q.wpIn Fence.wide n P a w j Q':=by
 refine⟨λ_ _=>trivial,?_⟩;rw[Oper.semAt_plain _ _ _ (uc l)];unfold Oper.wp at h;generalize(execOp a.eval q).run P w=x at*;have c:(Fence.wide.depth.isSome=true->1<=n):=λh=>(by cases h);rcases x with⟨x,w'⟩|⟨x,w'⟩
 ·cases x with
  |value v=>exact b _ _ h
  |skip=>exact b _ _ h
  |defer d=>exact b _ _ h
  |enter f args=>
   refine⟨c,callsIn_wide.2 (Calls.mono h λe i he=>?_)⟩;cases e with
   |returned v=>exact b _ _ he
   |panicked ch=>exact g _ _ _ he
   |outgrown=>obtain⟨k,w3,m⟩:=he;exact⟨k,w3,g _ _ _ m⟩
  |row p args=>exact⟨c,xB (h.mono λv i o=>b _ _ o)⟩
  |_=>exact absurd h id
 ·cases x<;>first|exact g _ _ _ h|exact absurd h id
theorem lD{n:Nat}{P:Program}{ops:Array Oper}{Q:Exit->Act->World->Prop}:∀{l:List Oper}{a:Act}{w:World},(l.all iA)=true->wpList P ops (λe a w=>Q e a w/\e= .normal) l a w->wpListIn Fence.wide n P ops Q l a w
 |[],_,_,_,h=>h.1
 |g::rest,a,w,b,h=>by
  rw[List.all_cons,Bool.and_eq_true]at b;unfold wpList at h;unfold wpListIn;split
  ·rename_i hw;rw[if_pos hw]at h;rcases h with h|⟨_,f,w',c⟩;·exact BU b.1 (λa w d=>lD b.2 d) (λ_ _ _ c=>c.1) h
   ·exact absurd c.2 (by simp)
  ·rename_i hw;rw[if_neg hw]at h;exact⟨λ_ _=>trivial,lD b.2 h⟩
theorem oU{n:Nat}{P:Program}{ops:Array Oper}{Q:Exit->Act->World->Prop}{d:Oper}{l:List Oper}{a:Act}{w:World}(f:Op->Bool)(b:f d.op=true)(c:((d::l).all iA)=true)(h:wpList P ops (λe a w=>Q e a w/\e= .normal) (d::l) a w):wpListIn Fence.wide n P ops Q (d::l) a w:=
 lD c h
theorem EV(s:ByteArray)(k at_:Nat)(u:k<=8)(t:at_<=s.size)(P:Part)(E:Nat)(a:cW k at_ (s.toList.drop at_)=(P,E)):
  (P.e≠0/\dz (8-k) at_ (s.toList.drop at_)=[P])\/(P.e=0/\k<8/\at_<=E/\E<=s.size/\
   ((E=s.size/\dz (8-k) at_ (s.toList.drop at_)=[P])\/(∃b,∃h:E<s.size,s[E]=b/\b.toNat≠46/\dz (8-k) at_ (s.toList.drop at_)=[P,⟨0,E,6⟩])\/
    (∃b,∃h:E<s.size,s[E]=b/\b.toNat=46/\dz (8-k) at_ (s.toList.drop at_)=P::dz (8-(k+1)) (E+1) (s.toList.drop (E+1))))):=by
 have hlen:(s.toList.drop at_).length=s.size-at_:=by rw[List.length_drop,fF]
 have r:=lT 7 (s.toList.drop at_);have f:∀i b,(s.toList.drop at_)[i]? =some b->∃h:at_+i<s.size,s[at_+i]=b:=λi b d=>by
  rw[List.getElem?_drop]at d;exact Ab d
 have c:∀i,(s.toList.drop at_).drop i=s.toList.drop (at_+i):=λi=>by rw[List.drop_drop]
 generalize s.toList.drop at_=l at*;by_cases o:k=8;·subst o;simp only[cW,if_true,Prod.mk.injEq]at a;obtain⟨rfl,rfl⟩:=a;exact .inl ⟨by simp,rfl⟩
 ·have p:8-k=(7-k)+1:=by omega
  rw[p,dz];simp only[show 7-(7-k)=k by omega,a];by_cases he:P.e=0
  ·rw[if_neg (by simp[he])];have j:E=at_+(dF 7 l).length:=by
    simp only[cW]at a;rw[if_neg o]at a;split at a;·simp only[Prod.mk.injEq]at a;rw[<-a.1]at he;simp at he
    ·split at a;·simp only[Prod.mk.injEq]at a;rw[<-a.1]at he;simp at he
     ·split at a;·simp only[Prod.mk.injEq]at a;rw[<-a.1]at he;simp at he
      ·split at a;·simp only[Prod.mk.injEq]at a;rw[<-a.1]at he;simp at he
       ·simp only[Prod.mk.injEq]at a;exact a.2.symm
   refine .inr ⟨he,by omega,by omega,by omega,?_⟩;by_cases m:l.length<=(dF 7 l).length;·rw[if_pos m];exact .inl ⟨by omega,rfl⟩
   ·rw[if_neg m];obtain⟨b,d⟩:∃b,l[(dF 7 l).length]? =some b:=⟨_,List.getElem?_eq_getElem (by omega)⟩;obtain⟨q,n⟩:=f _ _ d;rw[d];by_cases g:b=46
    ·rw[if_neg (by simp[g])];refine .inr (.inr ⟨b,by omega,?_,by rw[g];rfl,?_⟩);·subst j;exact n
     ·rw[c,<-j,show at_+((dF 7 l).length+1)=E+1 by omega,show 7-k=8-(k+1)by omega]
    ·rw[if_pos (by simpa using g)];refine .inr (.inl ⟨b,by omega,?_,?_,?_⟩);·subst j;exact n
     ·intro h;exact g (UInt8.toNat_inj.1 h)
     ·rw[j]
  ·rw[if_pos he];exact .inl ⟨he,rfl⟩
def KP(A B:World):Prop:=∀g t cs,t=9\/t=270->aq A g t cs->aq B g t cs
theorem KP.refl(A:World):KP A A:=λ_ _ _ _ h=>h
theorem KP.trans{A B C:World}(h:KP A B)(k:KP B C):KP A C:=λg t cs a b=>k g t cs a (h g t cs a b)
theorem KP.fr{A B:World}{T:Nat->Prop}(h:Fr T A B)(hT:∀g t cs,t=9\/t=270->aq A g t cs->¬T g):KP A B:=λg t cs b a=>a.fr h (hT g t cs b a)
theorem KP.below{A B:World}(h:Below A.heap.size A B):KP A B:=λg _ _ _ a=>(h.block g a.lt).trans a
def BQ:Op->Bool
 | .load t _=>t==9
 |_=>false
theorem r8(m B:Nat)(s:ByteArray)(w:World)(aI:s.size<=1099511627776)(aD:aq w B 9 #[.string s]):
  SeqStopsK Fence.wide m prog 182 #[.pointer (some ⟨B,0,none⟩)] (λp:Part=>#[Value.agg #[.int .i64 p.ord, .int .i64 p.at_, .int .i64 p.e]]) KP (λaW=>aW=gC s) (λpre=>pre<+:gC s) (gC s).length w:=by
 intro l J aY W aG aE _ aH aC;have N:∀k:Nat,(Fence.wide.depth.isSome=true->1<=k):=λk h=>by cases h
 have aM:=af aE;have ax:=af aH;have av:=af aI;have HB:Hid (aq W B 9 #[.string s]):=KP.below aG _ _ _ (.inl rfl) aD;have b0:W.cell? ⟨B,0,none⟩=some (.string s):=HB.out.cell 0;have ad:=af aC;clear aG aE aH aC aI aD;by_cases C:s.size=0
 ·have o:Hid (gC s=[]):=by simp only[Hid];rw[gC,if_pos C]
  have ak:s=ByteArray.empty:=by
   cases s with
   |mk d=>
    have aP:d.size=0:=C;rw[show d=#[]from Array.eq_empty_of_size_eq_zero aP];rfl
  subst ak;clear C;refine callsIn_of_wp func182 rfl trivial ?_ rfl;simp only[ntmps182,List.size_toArray,List.length_cons,List.length_nil,Nat.reduceAdd,Nat.reduceSub,Array.replicate_succ,Array.replicate_zero,List.push_toArray,List.append_toArray,List.nil_append,List.cons_append];gi_wp2;refine wpIn_loop_once ?_;gi_wp2;go_end0;exact⟨⟨_,rfl⟩, .inl ⟨_,o.out.symm,ad.out⟩⟩
 ·have o:Hid (gC s=dz 8 0 s.toList):=by simp only[Hid];rw[gC,if_neg C]
  have aV:s.toList.isEmpty=false:=by
   rw[List.isEmpty_eq_false_iff];intro h;have:=congrArg List.length h;rw[fF]at this;exact C (by simpa using this)
  have ap:=af (λat_ k w U ag=>Em s at_ k w U av.out ag);clear C;refine callsIn_of_wp func182 rfl trivial ?_ rfl;simp only[ntmps182,List.size_toArray,List.length_cons,List.length_nil,Nat.reduceAdd,Nat.reduceSub,Array.replicate_succ,Array.replicate_zero,List.push_toArray,List.append_toArray,List.nil_append,List.cons_append];gi_wp2;gi_loopw[3,4](λi n wr=>∃(k at_:Nat)(pre:List Part),k<=8/\at_<=s.size/\gC s=pre++dz (8-k) at_ (s.toList.drop at_)/\pre.length=k/\i= .int .i64 (at_:Nat)/\n= .int .i64 (k:Nat)/\J pre wr/\KP W wr)(λ_ n _=>9-(intOf n).toNat);case atStart=>exact⟨0,0,[],by omega,by omega,by rw[o.out];rfl,rfl,rfl,rfl,ad.out,KP.refl _⟩
  case round=>
   obtain⟨k,at_,pre,X,V,R,Q,rfl,rfl,L,u⟩:=hrel;have F:=af L;have G:=af u;have a:=af R;have ac:=af Q;have aB:wr.cell? ⟨B,0,none⟩=some (.string s):=(u _ _ _ (.inl rfl) HB.out).cell 0;have t:=af (ap.out at_ k wr V X);obtain⟨P,E,v⟩:∃P E,cW k at_ (s.toList.drop at_)=(P,E):=⟨_,_,rfl⟩;have c:=af (EV s k at_ X V P E v);rw[v]at t;have aX:=af V;have ab:=af X;clear L u R Q v ap b0 ad o V X;gi_wp2_with(refine oU BQ rfl (by kernel_rfl) ?_);go_wp2;gi_wp2_with(refine oU BQ rfl (by kernel_rfl) ?_);go_wp2_with fail;refine t.out.mono ?_;rintro e w1⟨rfl,f1⟩;have Z:=af f1;clear f1 aB t;go_wp2_with(refine an rfl 270 rfl (.agg oF) uN oF rfl ?_);intro w2 am;have ar:=af (Z.out.trans am.fr);have ao:=af am.aF;have aN:Sz wr w1.heap.size:=Z.out.size;clear am Z;generalize w1.heap.size=g1 at*;go_wp2_with(refine ai rfl 270 (.tmp 5) _ rfl g1 (bN P) rfl rfl _ _ ao.out cy rfl (dk _) ?_);intro w3 b3 f3;have aa:Hid (Fr Nothing wr w3):=ar.out.aw f3 (λi a1 e=>by have a0:i=g1:=e;have:=aN;unfold Sz at this;omega);have D:=af b3;clear b3 f3 ar ao;go_wp2;have ay:=af (aM.out pre wr w3 none F.out (Fr.Lw aa.out) (λr e=>by cases e));have az:=af (G.out.trans (KP.fr aa.out (λ_ _ _ _ _ x=>x)));have q:pre.length<(gC s).length:=by
    rw[a.out,aT];have:0<(dz (8-k) at_ (s.toList.drop at_)).length:=by
     rcases c.out with⟨_,h⟩|⟨_,_,_,_,⟨_,h⟩|⟨_,_,_,_,h⟩|⟨_,_,_,_,h⟩⟩<;>(rw[h];simp)
    omega
   obtain⟨fn,tmps,assign,body,Y,M⟩:=ax.out pre P w3 ay.out q;have H:=af M;have aS:w3.cell? ⟨g1,0,none⟩=some (.int .i64 P.ord):=D.out.cell 0;have aU:w3.cell? ⟨g1,1,none⟩=some (.int .i64 P.at_):=D.out.cell 1;have aJ:w3.cell? ⟨g1,2,none⟩=some (.int .i64 P.e):=D.out.cell 2;clear M q ay F G;gi_wp2;refine⟨N _,H.out.mono ?_⟩;clear H Y aS aU aJ fn tmps assign body;rintro e A(⟨rfl,hJ4,y⟩|⟨rfl,S⟩)
   ·have z:=af hJ4;have aA:=af (az.out.trans y);have aK:Hid (aq A g1 270 (bN P)):=y _ _ _ (.inr rfl) D.out;have aB:A.cell? ⟨B,0,none⟩=some (.string s):=(aA.out _ _ _ (.inl rfl) HB.out).cell 0;have aJ:A.cell? ⟨g1,2,none⟩=some (.int .i64 P.e):=aK.out.cell 2;clear hJ4 y az aa D;rcases c.out with⟨he,g⟩|⟨he,O,aj,I,aO⟩
    ·have t1:((P.e:Int)==0)=false:=by rw[beq_eq_false_iff_ne];omega
     have j:=af g;have aQ:¬P.e=0:=he;clear c g he;gi_wp2;refine bodyPost_ret (results_none rfl _ _ _) rfl ?_;exact⟨⟨_,rfl⟩, .inl ⟨_,by rw[a.out,j.out],z.out⟩⟩
    ·have t1:((P.e:Int)==0)=true:=by rw[beq_iff_eq];omega
     have aL:Hid (E<=s.size):=I;have au:=af O;have aR:P.e=0:=he;clear he aj I O;rcases aO with⟨he,g⟩|⟨b,U,ag,ah,g⟩|⟨b,U,ag,ah,g⟩
     ·have t2:((E:Int)==(s.size:Int))=true:=by rw[beq_iff_eq];omega
      have j:=af g;clear c g he;gi_wp2;refine bodyPost_ret (results_none rfl _ _ _) rfl ?_;exact⟨⟨_,rfl⟩, .inl ⟨_,by rw[a.out,j.out],z.out⟩⟩
     ·have t2:((E:Int)==(s.size:Int))=false:=by rw[beq_eq_false_iff_ne];omega
      have t3:(E:Int)<(s.size:Int):=by omega
      have t4:(0:Int)<=(E:Int):=by omega
      have t5:((b.toNat:Int)==46)=false:=by rw[beq_eq_false_iff_ne];omega
      have j:=af g;have f:(pre++[P]).length<(gC s).length:=by rw[a.out,j.out];simp
      obtain⟨fn,tmps,assign,body,Y,M⟩:=ax.out (pre++[P]) ⟨0,E,6⟩ A z.out f;have H:=af M;have al:(Instr.yield l #[.agg #[.int .i64 0, .int .i64 (E:Int), .int .i64 6]]).run prog A= .ok (.round l fn tmps assign body) A:=Y;clear c g ah M f Y;gi_wp2;refine⟨N _,H.out.mono ?_⟩;clear H al;rintro e aZ(⟨rfl,K,_⟩|⟨rfl,T⟩);·have ae:=af K;clear K;gi_wp2;refine bodyPost_ret (results_none rfl _ _ _) rfl ?_;exact⟨⟨_,rfl⟩, .inl ⟨_,by rw[a.out,j.out];simp,ae.out⟩⟩
      ·have ae:=af T;clear T;gi_wp2;refine bodyPost_ret (results_none rfl _ _ _) rfl ?_;exact⟨⟨_,rfl⟩, .inr ⟨_,by rw[a.out,j.out];simp,ae.out⟩⟩
     ·have t2:((E:Int)==(s.size:Int))=false:=by rw[beq_eq_false_iff_ne];omega
      have t3:(E:Int)<(s.size:Int):=by omega
      have t4:(0:Int)<=(E:Int):=by omega
      have t5:((b.toNat:Int)==46)=true:=by rw[beq_iff_eq];omega
      have t6:E<=1099511627776:=by have:=av.out;omega
      have t7:k<=8:=ab.out;have j:=af g;have H1:=af U;clear c g ah;gi_wp2;go_roundw;case rel=>
       refine⟨k+1,E+1,pre++[P],by have:=au.out;omega,by have:=H1.out;omega,by rw[a.out,j.out];simp,by rw[aT,ac.out];rfl,by go_num,by go_num,z.out,aA.out⟩
      case measure=>have:=au.out;simp[intOf];omega
   ·have z:=af S;clear S;gi_wp2;refine bodyPost_ret (results_none rfl _ _ _) rfl ?_;refine⟨⟨_,rfl⟩, .inr ⟨_,?_,z.out⟩⟩;rw[a.out];rcases c.out with⟨_,h⟩|⟨_,_,_,_,⟨_,h⟩|⟨_,_,_,_,h⟩|⟨_,_,_,_,h⟩⟩<;>(rw[h];simp)
end Go.Proofs.YtphjagkehiklkaaGreatDoor
