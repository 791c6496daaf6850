/- Texts. -/
import Derived.Deep.RegionHeld3
import Derived.LaidMore
import Derived.Lib.ConvBytes
import Derived.Lib.ItoaNum
import Derived.ProofKit
import Derived.Shelf.Small.Bits
import Derived.StillTailTactics
import Derived.Stop.LaidErr
import Derived.Test.YtphjagkehiklkaaGreatDoorCards
import Derived.Test.YtphjagkehiklkaaGreatDoorWK09
set_option linter.unusedVariables false
set_option linter.unusedSimpArgs false
set_option maxRecDepth 100000
set_option maxHeartbeats 4000000
namespace Go.Proofs.YtphjagkehiklkaaGreatDoor
open Go.RowKit Go.Shelf
attribute[local go_sem]Oper.semAt_some
structure ox{α:Type}(b w3:World)(g2:Nat)(c e:TypeId)(sz:Nat)(a:List α→Nat)(cells:List α→List Value)(pre:List α)(W:World):Prop where
 fr:Fr ag b W
 kn:KP w3 W
 row:∃v,aq W g2 c #[v]∧W.ownsRow 0 e sz v (a pre) (cells pre)∧∀k,v.ownBlock=some k→b.heap.size≤k∧k≠g2
theorem ox.iV{α:Type}{r w3:World}{g2:Nat}{s e:TypeId}{sz B:Nat}{l:List α→Nat}{cells:List α→List Value}(u:g2<B)(y:r.heap.size≤B):OwnFrom B (ox r w3 g2 s e sz l cells):=by
 intro pre X Y row h w o;have b:∀k,k<B→some k≠row:=fun k q e=>by have:=(o k e.symm).1;omega
 have j:Fr (fun k=>some k=row) X Y:=Fr.grown w;obtain⟨v,gg,a,x⟩:=h.row;refine⟨h.fr.aw j (fun i z e=>absurd e (b i (by omega))),h.kn.trans (KP.fr j (fun g t cs _ p e=>?_)),⟨v,gg.fr j (fun e=>b _ u e),aQ a j (fun k q e=>?_),x⟩⟩;·obtain⟨_,A,d,m⟩:=o g e.symm;unfold aq at p;rw[p]at d;cases d;simp[Obj.isCells]at m
 ·obtain⟨_,A,d,m⟩:=o k e.symm;obtain⟨c,f,n⟩:=cX a q;rw[n]at d;cases d;simp[Obj.isCells]at m
theorem ox.same{α:Type}{g w3 W X:World}{g2:Nat}{f e:TypeId}{sz:Nat}{b:List α→Nat}{cells:List α→List Value}{pre a:List α}(h:ox g w3 g2 f e sz b cells pre W)(d:Fr ag W X)(i:b a=b pre)(j:cells a=cells pre):ox g w3 g2 f e sz b cells a X:=by
 obtain⟨v,gg,c,k⟩:=h.row;refine⟨h.fr.trans d,h.kn.trans (KP.fr d (fun _ _ _ _ _ x=>x)),⟨v,gg.fr d (fun x=>x),?_,k⟩⟩;rw[i,j];exact aQ c d (fun _ _ x=>x)
theorem ox.step{α:Type}{m w3 W X u l:World}{g2 B:Nat}{n e:TypeId}{sz:Nat}{d:List α→Nat}{cells:List α→List Value}{pre b:List α}{v v2:Value}
  (x:ox m w3 g2 n e sz d cells pre W)(E:g2<B)(G:m.heap.size≤B)(I:m.heap.size≤g2)(o:n≠9∧n≠270)(he:e≠9∧e≠270)(y:aq W g2 n #[v])
  (j:W.ownsRow 0 e sz v (d pre) (cells pre))(a:∀k,v.ownBlock=some k→m.heap.size≤k∧k≠g2)
  (A:Fr ag W X)(w:bW e sz X v u v2 (d b) (cells b))(f3:Fr (fun k=>k=g2) u l)(b3:aq l g2 n #[v2]):
  KeepsFrom B W l∧KP W l∧ox m w3 g2 n e sz d cells b l:=by
 have s1:m.heap.size≤W.heap.size:=x.fr.size;have s2:W.heap.size≤X.heap.size:=A.size;have L:g2<W.heap.size:=y.lt;have p:∀k,v2.ownBlock=some k→m.heap.size≤k∧k≠g2:=fun k z=>by
  rcases w.ew k z with h|h;·exact a k h
  ·constructor<;>omega
 have F:Fr (fun k=>k=g2∨v.ownBlock=some k) W l:=by
  have D:Fr (fun k=>k=g2∨v.ownBlock=some k) W u:=(A.bP).trans (w.fr.mono (fun i _ h=> .inr h));exact D.trans (f3.mono (fun i _ h=> .inl h))
 have K:KP W l:=KP.fr F (fun g t cs C q h=>by
  unfold aq at q y;rcases h with rfl|h;·rw[y]at q;cases q;exact C.elim o.1 o.2
  ·obtain⟨c,f,r⟩:=cX j h;rw[r]at q;cases q;exact C.elim he.1 he.2);refine⟨⟨F.size,fun k M _ r H=>?_⟩,K,?_,x.kn.trans K,?_⟩
 ·refine(F.block k (Array.getElem?_eq_some_iff.1 r).1 ?_).trans r;rintro(rfl|h);·omega
  ·obtain⟨c,f,s⟩:=cX j h;rw[r]at s;cases s;simp[Obj.isCells]at H
 ·refine x.fr.aw F (fun i J h=>?_);rcases h with h|h;·omega
  ·have:=(a i h).1;omega
 ·exact⟨v2,b3,aQ w.own f3 (fun k z e=>(p k z).2 e),p⟩
theorem DX(w:World):(zeroValue 251).run Tryz.prog w= .ok (.slice none 0 0) w:=by kernel_rfl
theorem pA:(Tryz.prog.info? 251).map (·.size)=some 1:=by kernel_rfl
theorem rI:(Tryz.prog.info? 3).map (fun i=>(i.zero,i.size,i.bytes))=some (some (.int .i64 0),1,8):=by kernel_rfl
theorem vQ(tmps:Array Value)(w:World)(g2:Nat)(v:Value)(b:tmps.getD 2 undef= .pointer (some ⟨g2,0,none⟩))(b2:aq w g2 251 #[v]):
  (results Tryz.f166 tmps).run Tryz.prog w= .ok v w:=by
 have a:tmps[2]?.getD undef= .pointer (some ⟨g2,0,none⟩):=by simpa using b
 simp[results,Tryz.results166,a,asAddr,ep w g2 _ _ _ b2 pA (Tryz.isAgg251 w)]
def Kf(p:Part):Value:= .int .i64 (p.ord:Int)
def Ch(a:List Part):List Value:=a.map Kf
structure qE(a w3:World)(g2 g3:Nat)(pre:List Part)(W:World):Prop where
 row:ox a w3 g3 251 3 1 List.length Ch pre W
 res:∃v,aq W g2 251 #[v]
 ew:∀v,aq W g3 251 #[v]→v.ownBlock≠some g2
theorem qE.later{b w3 A B:World}{g2 g3:Nat}{pre:List Part}(h:qE b w3 g2 g3 pre A)(f:Fr ag A B)(c:g3<A.heap.size):qE b w3 g2 g3 pre B:=
 ⟨h.row.same f rfl rfl,by obtain⟨v,d⟩:=h.res;exact⟨v,d.fr f (fun x=>x)⟩,fun v a=>h.ew v (by
  have e:=f.block g3 c (fun x=>x);unfold aq at a⊢;rw[←e];exact a)⟩
theorem qE.iV{g w3:World}{g2 g3 N:Nat}(i:g3<N)(j:g.heap.size≤N):OwnFrom N (qE g w3 g2 g3):=by
 intro pre A B row h d f;obtain⟨k,_,c⟩:=mM d f;refine⟨ox.iV i j pre A B row h.row d f,by obtain⟨v,b⟩:=h.res;exact⟨v,c _ _ _ b⟩,fun v b=>h.ew v ?_⟩;obtain⟨l,a,_⟩:=h.row.row;have e:=c _ _ _ a;unfold aq at b e a⊢;rw[e]at b;cases b;exact a
def Hr:Op→Bool
 | .load t _=>t==251
 |_=>false
def Hs:Op→Bool
 | .store t _ _=>t==251
 |_=>false
def JU(w:World)(s:ByteArray)(r:Ending)(w':World):Prop:=∃v,r= .returned v∧bW 3 1 w (.slice none 0 0) w' v (ji s).length ((ji s).map (Value.int .i64))
theorem pE(s:ByteArray)(w:World)(aS:s.size≤1099511627776)(P:dc s=true):Calls Tryz.prog 166 #[.string s] w (JU w s):=by
 obtain⟨i0,aC,ad,aI,aJ⟩:=info_parts rI;have a1:=af aS;have a2:=af P;clear aS P;refine(callsIn_wide (n:=6)).1 (callsIn_of_wp_marks Tryz.func166 rfl trivial (wpIn_wide.2 ?_) rfl);simp only[Tryz.ntmps166,List.size_toArray,List.length_cons,List.length_nil,Nat.reduceAdd,Nat.reduceSub,Array.replicate_succ,Array.replicate_zero,List.push_toArray,List.append_toArray,List.nil_append,List.cons_append];go_wp2_with(refine ak rfl 251 rfl (.slice none 0 0) DX #[.slice none 0 0] rfl ?_);intro aj M;have T:=af M.fr;have p:=af M.aH;have a5:Sz w w.heap.size:=Nat.le_refl _;clear M;generalize w.heap.size=g2 at*;go_wp2_with(refine ak rfl 251 rfl (.slice none 0 0) DX #[.slice none 0 0] rfl ?_);intro w2 nb;have G:=af (T.out.trans nb.fr);have R:=af (p.out.fr nb.fr (fun x=>x));have F:=af nb.aH;have aN:Sz w aj.heap.size:=T.out.size;have av:Hid (g2<aj.heap.size):=p.out.lt;clear nb p T;generalize aj.heap.size=g3 at*;have aL:Hid (qE w w2 g2 g3 [] w2):=⟨⟨G.out,KP.refl _,_,F.out,⟨rfl, .inl ⟨rfl,rfl⟩⟩,fun k L=>by simp[Value.ownBlock]at L⟩,⟨_,R.out⟩,fun v m=>by
  have h:=F.out;unfold aq at h m;rw[h]at m;cases m;simp[Value.ownBlock]⟩;have ae:Hid (g3<w2.heap.size):=F.out.lt;clear F R G;go_wp2_with fail;refine(uL s _).mono ?_;rintro r w3⟨rfl,f3,b3⟩;have ao:Hid (qE w w2 g2 g3 [] w3):=aL.out.later f3 ae.out;have aX:=af b3;have S:Hid (w2.heap.size≤w3.heap.size):=f3.size;clear f3 b3 aL;generalize w2.heap.size=gs at*;go_wp2_with fail;refine(wpIn_wide (n:=6)).1 ?_;refine wpIn_rangeFunc_ownH rfl (by omega) (gf:=182) (lb:=#[.pointer (some ⟨gs,0,none⟩)]) rfl trivial (enters_of Tryz.func182 (by kernel_rfl) rfl)
  (rf 5 gs s w3 a1.out aX.out) (fun h k=>h.trans k) (fun W l o bd _ ho Z _=>KP.put W l o bd ho Z) (Below.refl _ _) (fun _=>rfl)
  (qE w w2 g2 g3) (fun _ pre _=>∃x∈pre,x.e≠0) (qE.iV (Nat.lt_of_lt_of_le ae.out S.out) ao.out.row.fr.size) (fun _ _ _ _ _ h _ _=>h) ao.out
  (fun x ay W=>∃g,ay=({tmps:=#[.string s,undef, .pointer (some ⟨g2,0,none⟩), .pointer (some ⟨g3,0,none⟩), .pointer (some ⟨g,0,none⟩), .string s, .func (.func 182) #[] #[.pointer (some ⟨gs,0,none⟩)], .agg #[.int .i64 x.ord, .int .i64 x.at_, .int .i64 x.e],undef,undef,undef,undef,undef,undef,undef,undef,undef],defers:=[]}:Act)∧aq W g 270 (bF x))
  (fun x ay _ A B row h a8 ba=>by
   obtain⟨g,e,m⟩:=h;exact⟨g,e,(mM a8 ba).2.2 _ _ _ m⟩)
  ?assign ?body ?done ?stop;case assign=>
  intro l pre x W K j O;have a0:=af O;have N:=af j;clear O j;gi_wp2_with(refine cD zI rfl (by kernel_rfl) ?_);go_wp2_with(refine ak rfl 270 rfl (.agg nO) tj nO rfl ?_);intro aj M;have T:=af M.fr;have aW:=af M.aH;have a4:Sz W W.heap.size:=Nat.le_refl _;clear M;generalize W.heap.size=g at*;go_wp2_with(refine ai rfl 270 (.tmp 4) _ rfl g (bF x) rfl rfl _ _ aW.out cm rfl (dd x) ?_);intro bf bb a6;have G:Fr ag W bf:=T.out.aw a6 (fun i aR e=>by have J:i=g:=e;have:=a4;unfold Sz at this;omega);refine⟨?_,rfl⟩;refine a0.out _ _ ⟨G.size,fun k o _ ho _=>(G.block k (Array.getElem?_eq_some_iff.1 ho).1 (fun x=>x)).trans ho⟩ (KP.fr G (fun _ _ _ _ _ x=>x)) (N.out.later G (by obtain⟨v,m,_,_⟩:=N.out.row.row;exact m.lt)) ⟨g,rfl,bb⟩
 case body=>
  rintro bk pre x ay W a9 aE j⟨g,rfl,C⟩aa;have N:=af j;have bg:=af C;have bl:W.cell? ⟨g,0,none⟩=some (.int .i64 x.ord):=C.cell 0;have bm:W.cell? ⟨g,2,none⟩=some (.int .i64 x.e):=C.cell 2;obtain⟨v2,z⟩:=j.res;obtain⟨v,b3,b,a⟩:=j.row.row;obtain⟨E,m1,I,rfl,H1,aY⟩:=aU b;have ah:=af (j.ew _ b3);have d:=af b;have u:=af a;have p:=af z;have F:=af b3;have c3:W.cell? ⟨g3,0,none⟩=some (.slice E m1 I):=b3.cell 0;have ap:Hid (pre.length<9):=Nat.lt_of_lt_of_le aa (uI s);clear j C aa a9 aE z b3 b a;by_cases aG:x.e=0
  ·have aK:((x.e:Int)==0)=true:=by rw[beq_iff_eq];omega
   gi_wp2_with(refine cD Hr rfl (by kernel_rfl) ?_);go_wp2_with(at_builtin;refine da _ rfl _ _ 251 rfl 3 i0 (.int .i64 0) 1 8 Tryz.underlying251 aC ad aI aJ rfl (by omega) _ _ _ rfl d.out 1 _ _ rfl rfl rfl ?zA ?zB (by omega) ?_);case zA=>simp[Value.oneCell']
   case zB=>have:=ap.out;omega
   intro be aV aP;have X:=af aP;clear aP;have an:Hid (aq aV g3 251 #[.slice E m1 I]):=F.out.fr X.out.fr (fun e=>(u.out _ e).2 rfl);obtain⟨al,m2,aA,rfl,_,_⟩:=aU X.out.own;go_wp2_with(refine bY rfl 251 (.tmp 3) _ rfl g3 (.slice al m2 aA) rfl rfl rfl _ _ an.out pA ?_);intro y3 H f3;refine⟨?_,rfl⟩;have au:bW 3 1 W (.slice E m1 I) aV (.slice al m2 aA) ((pre++[x]).length) (Ch (pre++[x])):=by
    have h:=X.out;rw[bh,Ch,List.map_append];exact h
   have y:=ox.step (v:= .slice E m1 I) (v2:= .slice al m2 aA) N.out.row ae.out (Nat.le_trans aN (Nat.le_of_lt ae.out)) aN (by decide) (by decide) F.out d.out u.out aD au f3 H;have am:aq y3 g2 251 #[v2]:=(p.out.fr X.out.fr ah.out).fr f3 (fun e=>by have J:g2=g3:=e;have:=av.out;omega);have V:KeepsFrom w3.heap.size W y3:=⟨y.1.size,fun q o ac ho Z=>y.1.same q o (Nat.le_trans S.out ac) ho Z⟩;refine⟨V,y.2.1,⟨y.2.2,⟨_,am⟩,fun v P e=>?_⟩⟩;unfold aq at P H;rw[H]at P;cases P;rcases X.out.ew _ e with h|h;·exact ah.out h
   ·have:=p.out.lt;omega
  ·have aK:((x.e:Int)==0)=false:=by rw[beq_eq_false_iff_ne];omega
   have a3:=af aG;gi_wp2_with(refine cD Hs rfl (by kernel_rfl) ?_);go_wp2_with(refine bY rfl 251 (.tmp 2) _ rfl g2 (.slice none 0 0) rfl rfl rfl _ _ p.out pA ?_);intro Q az Y;refine⟨?_,rfl⟩;gi_wp2;refine⟨⟨Y.size,fun q o bj ho Z=>(Y.block q (Array.getElem?_eq_some_iff.1 ho).1 (fun ac=>?_)).trans ho⟩,x,by simp,a3.out⟩;have e:q=g2:=ac;subst e;have m:=p.out;unfold aq at m;rw[m]at ho;cases ho;simp[Obj.isCells]at Z
 case done=>
  rintro D xs W aB rfl j O;obtain⟨v2,z⟩:=j.res;obtain⟨v,b3,b,a⟩:=j.row.row;obtain⟨E,m1,I,rfl,H1,aY⟩:=aU b;have ar:=af O;have aZ:=af aB;have N:=af j;have ah:=af (j.ew _ b3);have d:=af b;have u:=af a;have p:=af z;have c3:W.cell? ⟨g3,0,none⟩=some (.slice E m1 I):=b3.cell 0;clear j aB O z b3 b a;go_wp2_with(refine bY rfl 251 (.tmp 2) _ rfl g2 (.slice E m1 I) rfl rfl rfl _ _ p.out pA ?_);intro Q az Y;have aM:=af az;have V:=af Y;have U:Hid (Q.heap[D]? =some (.deferred (some []))):=by
   refine(V.out.block D (Array.getElem?_eq_some_iff.1 ar.out).1 (fun ac=>?_)).trans ar.out;have a7:=ar.out;have e:D=g2:=ac;subst e;have aF:=p.out;unfold aq at aF;rw[a7]at aF;cases aF
  clear az Y c3;go_wp2;refine⟨by simp, .inl ⟨_,_,rfl,run_takeDeferred U.out,?_⟩⟩;have ax:Fr (fun k=>some k=some D) Q (Q.putObj D (.deferred none)):=Fr.grown (grownBy_putObj' Q D _);have aT:∀g,(∃c t f,Q.heap[g]? =some (.cells c t f))→¬(some g=some D):=fun g⟨c,t,f,m⟩e=>by
   have J:g=D:=by simpa using e
   subst J;rw[U.out]at m;cases m
  refine⟨_,vQ _ _ g2 _ rfl (aM.out.fr ax (aT g2 ⟨_,_,_,aM.out⟩)),⟨_,rfl,⟨?_,?_,fun k L=> .inr (u.out k L).1⟩⟩⟩
  ·have aO:=aQ d.out V.out (fun k L e=>by have J:k=g2:=e;subst J;exact ah.out L);have z:=aQ aO ax (fun k L e=>by
    obtain⟨c,f,ho⟩:=cX aO L;exact aT k ⟨_,_,_,ho⟩ e);rw[ji,List.length_map,List.map_map];exact z
  ·refine((N.out.row.fr.aw V.out (fun i aR e=>?_)).aw ax (fun i aR e=>?_)).bP;·have J:i=g2:=e;have z:=a5;unfold Sz at z;omega
   ·have J:i=D:=by simpa using e
    have:=aZ.out;have:=ao.out.row.fr.size;omega
 case stop=>
  rintro D bi pre W aB ab⟨x,bc,aG⟩O;have h:=a2.out;rw[dc,List.all_eq_true]at h;have:=h x (ab.subset bc);simp only[beq_iff_eq]at this;exact absurd this aG
end Go.Proofs.YtphjagkehiklkaaGreatDoor
namespace Go.Proofs.YtphjagkehiklkaaGreatDoor
open Go.RowKit Go.Shelf
theorem GP(a b:Int):Dv a b=dN a b:=rfl
theorem zh(a b:ByteArray)(w:World):Calls Tryz.prog 161 #[.string a, .string b] w (aY w (.int .i64 (ld a b))):=by
 have c:=af (fun a w=>Bx a w);have d:=af (tX a b);have key:∀r,ld a b=r→Calls Tryz.prog 161 #[.string a, .string b] w (aY w (.int .i64 r))→Calls Tryz.prog 161 #[.string a, .string b] w (aY w (.int .i64 (ld a b))):=fun r h k=>by rw[h];exact k
 by_cases f:Op.bytesLess a.toList b.toList=true;·refine key (-1) (by rw[d.out,if_pos f]) ?_;clear key d;go_enter Tryz.func161,Tryz.ntmps161;go_wp2_with fail;refine(c.out a _).mono ?_;rintro e w'⟨rfl,rfl⟩;go_wp2_with fail;refine(c.out b _).mono ?_;rintro e w'⟨rfl,rfl⟩;go_wp2;go_ret;exact⟨rfl,rfl⟩
 ·have i:Op.bytesLess a.toList b.toList=false:=by simpa using f
  by_cases e:a=b
  ·subst e;refine key 0 (by rw[d.out,if_neg f,if_pos rfl]) ?_;clear key d;have g:(a.toList==a.toList)=true:=by simp
   go_enter Tryz.func161,Tryz.ntmps161;go_wp2_with fail;refine(c.out a _).mono ?_;rintro e w'⟨rfl,rfl⟩;go_wp2_with fail;refine(c.out a _).mono ?_;rintro e w'⟨rfl,rfl⟩;go_wp2;go_ret;exact⟨rfl,rfl⟩
  ·refine key 1 (by rw[d.out,if_neg f,if_neg e]) ?_;have g:(a.toList==b.toList)=false:=by rw[beq_eq_false_iff_ne];exact fun h=>e (toList_inj h)
   clear key d e;go_enter Tryz.func161,Tryz.ntmps161;go_wp2_with fail;refine(c.out a _).mono ?_;rintro e w'⟨rfl,rfl⟩;go_wp2_with fail;refine(c.out b _).mono ?_;rintro e w'⟨rfl,rfl⟩;go_wp2;go_ret;exact⟨rfl,rfl⟩
theorem EY(a:ByteArray)(w:World):Calls Tryz.prog 180 #[.string a] w (aY w (.bool false)):=by
 go_enter Tryz.func180,Tryz.ntmps180;go_wp2;go_ret;exact⟨rfl,rfl⟩
theorem Bb(a b:ByteArray)(w:World):Calls Tryz.prog 167 #[.string a, .string b] w (aY w (.int .i64 (ld a b))):=by
 have c:=af (fun a w=>EY a w);have d:=af (tX a b);have key:∀r,ld a b=r→Calls Tryz.prog 167 #[.string a, .string b] w (aY w (.int .i64 r))→Calls Tryz.prog 167 #[.string a, .string b] w (aY w (.int .i64 (ld a b))):=fun r h k=>by rw[h];exact k
 by_cases f:Op.bytesLess a.toList b.toList=true;·refine key (-1) (by rw[d.out,if_pos f]) ?_;clear key d;go_enter Tryz.func167,Tryz.ntmps167;go_wp2_with fail;refine(c.out a _).mono ?_;rintro e w'⟨rfl,rfl⟩;go_wp2_with fail;refine(c.out b _).mono ?_;rintro e w'⟨rfl,rfl⟩;go_wp2;go_ret;exact⟨rfl,rfl⟩
 ·have i:Op.bytesLess a.toList b.toList=false:=by simpa using f
  by_cases e:a=b
  ·subst e;refine key 0 (by rw[d.out,if_neg f,if_pos rfl]) ?_;clear key d;have g:(a.toList==a.toList)=true:=by simp
   go_enter Tryz.func167,Tryz.ntmps167;go_wp2_with fail;refine(c.out a _).mono ?_;rintro e w'⟨rfl,rfl⟩;go_wp2_with fail;refine(c.out a _).mono ?_;rintro e w'⟨rfl,rfl⟩;go_wp2;go_ret;exact⟨rfl,rfl⟩
  ·refine key 1 (by rw[d.out,if_neg f,if_neg e]) ?_;have g:(a.toList==b.toList)=false:=by rw[beq_eq_false_iff_ne];exact fun h=>e (toList_inj h)
   clear key d e;go_enter Tryz.func167,Tryz.ntmps167;go_wp2_with fail;refine(c.out a _).mono ?_;rintro e w'⟨rfl,rfl⟩;go_wp2_with fail;refine(c.out b _).mono ?_;rintro e w'⟨rfl,rfl⟩;go_wp2;go_ret;exact⟨rfl,rfl⟩
theorem GA{x:Int}(h:x=0):(x==0)=true:=by subst h;rfl
theorem sj{x:Int}(h:x≠0):(x==0)=false:=by rw[beq_eq_false_iff_ne];exact h
theorem yT(x y z:Int):∀(k:Nat)(v:Int),([x,y,z])[k]? =some v→v≠0→(∀(j:Nat)(u:Int),j<k→([x,y,z])[j]? =some u→u=0)→aV x (aV y z)=v
 |0,v,a,c,b=>by
  obtain rfl:x=v:=by simpa using a
  simp[aV,c]
 |1,v,a,c,b=>by
  obtain rfl:y=v:=by simpa using a
  have:=b 0 x (by omega) rfl;simp[aV,this,c]
 |2,v,a,c,b=>by
  obtain rfl:z=v:=by simpa using a
  have d:=b 0 x (by omega) rfl;have e:=b 1 y (by omega) rfl;simp[aV,d,e]
 |k+3,v,a,_,_=>by simp at a
theorem xG(x y z:Int)(a:∀(j:Nat)(u:Int),j<3→([x,y,z])[j]? =some u→u=0):aV x (aV y z)=0:=by
 have b:=a 0 x (by omega) rfl;have c:=a 1 y (by omega) rfl;have d:=a 2 z (by omega) rfl;simp[aV,b,c,d]
theorem Rd.any{w:World}{S:Nat→Prop}{size n:Nat}{A:Option Addr}{xs:List Value}(h:Rd w S size A n xs):Rd w (fun _=>True) size A n xs:=
 ⟨h.1,fun c=>by obtain⟨a,e,_,b⟩:=h.2 c;exact⟨a,e,trivial,b⟩⟩
theorem Bc(x y z:Int)(g:Nat)(w:World)(h:aq w g 3 #[.int .i64 x, .int .i64 y, .int .i64 z]):Calls Tryz.prog 132 #[.slice (some ⟨g,0,none⟩) 3 3] w (aY w (.int .i64 (aV x (aV y z)))):=by
 have HB:=af h;have n:Hid (∀k:Nat,k<3→∃v:Int,([x,y,z])[k]? =some v∧w.cell? ⟨g,k,none⟩=some (.int .i64 v)):=fun k f=>by
  match k,f with
  |0,_=>exact⟨x,rfl,h.cell 0⟩
  |1,_=>exact⟨y,rfl,h.cell 1⟩
  |2,_=>exact⟨z,rfl,h.cell 2⟩
 clear h;have o:Hid (∀(k:Nat)(v:Int),([x,y,z])[k]? =some v→v≠0→(∀(j:Nat)(u:Int),j<k→([x,y,z])[j]? =some u→u=0)→aV x (aV y z)=v):=fun k v=>yT x y z k v;have p:Hid ((∀(j:Nat)(u:Int),j<3→([x,y,z])[j]? =some u→u=0)→aV x (aV y z)=0):=xG x y z;generalize aV x (aV y z)=t at*;go_enter Tryz.func132,Tryz.ntmps132;go_wp2;go_loopw[8](fun i wr=>∃k:Nat,k≤3∧(∀j u,j<k→([x,y,z])[j]? =some u→u=0)∧i= .int .i64 k∧w=wr)(fun i _=>3-(intOf i).toNat);case atStart=>exact⟨0,by omega,fun j u h=>by omega,rfl,rfl⟩
 case round=>
  obtain⟨k,f,m,rfl,rfl⟩:=hrel;have b:=af m;clear m;by_cases c:k<3
  ·have q:(k:Int)<3:=by omega
   obtain⟨v,l,r⟩:=n.out k c;have d:=af l;clear l;by_cases a:v=0
   ·subst a;go_wp2;go_roundw
    case rel=>exact⟨k+1,by omega,fun j u s hu=>by
      by_cases e:j=k;·subst e;have:=d.out;rw[hu]at this;cases this;rfl
      ·exact b.out j u (by omega) hu,by go_num,trivial⟩
    case measure=>simp[intOf];omega
   ·have t1:=sj a;obtain rfl:t=v:=o.out k v d.out a b.out;go_wp2;go_ret;exact⟨rfl,rfl⟩
  ·obtain rfl:k=3:=by omega
   obtain rfl:t=0:=p.out b.out;go_wp2;go_ret;exact⟨rfl,rfl⟩
theorem ph{α:Type}{c:α→α→Int}(h:ik c):∀(p a b:List α),cmpL c (p++a) (p++b)=cmpL c a b
 |[],_,_=>rfl
 |x::p,a,b=>by
  rw[List.cons_append,List.cons_append,cmpL,h.refl,aV,if_pos rfl];exact ph h p a b
theorem vm(xs r:List Int)(A B:Option Addr)(n m c d:Nat)(w:World)(D:Rd w (fun _=>True) 1 A n (xs.map (Value.int .i64)))(E:Rd w (fun _=>True) 1 B m (r.map (Value.int .i64)))(ad:n≤1099511627776)(W:m≤1099511627776):
  Calls Tryz.prog 165 #[.slice A n c, .slice B m d] w (aY w (.int .i64 (cmpL dN xs r))):=by
 have l1:xs.length=n:=by simpa using D.1
 have l2:r.length=m:=by simpa using E.1
 have V:Hid (∀k v,xs[k]? =some v→∃g,A=some g∧w.cell? (g.add k)=some (.int .i64 v)):=fun k v y=>by
  have Q:=(List.getElem?_eq_some_iff.1 y).1;obtain⟨g,e,_,J⟩:=D.2 (by omega);exact⟨g,e,J k _ (by rw[List.getElem?_map,y];rfl)⟩
 have HB:Hid (∀k v,r[k]? =some v→∃g,B=some g∧w.cell? (g.add k)=some (.int .i64 v)):=fun k v y=>by
  have Q:=(List.getElem?_eq_some_iff.1 y).1;obtain⟨g,e,_,J⟩:=E.2 (by omega);exact⟨g,e,J k _ (by rw[List.getElem?_map,y];rfl)⟩
 have N:=af l1;have C:=af l2;have U:=af (fun a b w=>iu a b w);obtain⟨R,G⟩:∃R,R=cmpL dN xs r:=⟨_,rfl⟩;rw[←G];have z:=af G;clear D E l1 l2 G;go_enter Tryz.func165,Tryz.ntmps165;go_wp2;go_loopw[11](fun i wr=>∃k:Nat,k≤n∧(∃p a b,p.length=k∧xs=p++a∧r=p++b)∧i= .int .i64 k∧w=wr)(fun i _=>n-(intOf i).toNat);case atStart=>exact⟨0,by omega,⟨[],xs,r,rfl,rfl,rfl⟩,rfl,rfl⟩
 case round=>
  obtain⟨k,Q,⟨p,a,b,hp,S,T⟩,rfl,rfl⟩:=hrel;have f:=af hp;have l:=af S;have j:=af T;clear hp S T;by_cases aa:k<n
  ·have ac:(k:Int)<(n:Int):=by omega
   have H:∃v s,a=v::s:=by
    cases a with
    |nil=>
     have h:=N.out;rw[l.out,List.append_nil,f.out]at h;omega
    |cons v s=>exact⟨v,s,rfl⟩
   obtain⟨v,s,rfl⟩:=H;obtain⟨g,rfl,Y⟩:=V.out k v (by rw[l.out,List.getElem?_append_right (by rw[f.out];omega),f.out,Nat.sub_self];rfl);by_cases K:k<m
   ·have P:(k:Int)<(m:Int):=by omega
    have F:decide ((m:Int)≤(k:Int))=false:=ct (by omega);have I:∃u o,b=u::o:=by
     cases b with
     |nil=>
      have h:=C.out;rw[j.out,List.append_nil,f.out]at h;omega
     |cons u o=>exact⟨u,o,rfl⟩
    obtain⟨u,o,rfl⟩:=I;obtain⟨ab,rfl,Z⟩:=HB.out k u (by rw[j.out,List.getElem?_append_right (by rw[f.out];omega),f.out,Nat.sub_self];rfl);go_wp2_with fail;refine(U.out v u _).mono ?_;rintro e w'⟨rfl,rfl⟩;have M:=af (GP v u);generalize Dv v u=O at*;by_cases q:O=0
    ·subst q;have L:Hid (v=u):=eS.eq v u M.out.symm;go_wp2;go_roundw;case rel=>exact⟨k+1,by omega,⟨p++[v],s,o,by rw[bh,f.out];rfl,by rw[l.out];simp,by rw[j.out,L.out];simp⟩,by go_num,trivial⟩
     case measure=>simp[intOf];omega
    ·have t1:=sj q;obtain rfl:R=O:=by
      rw[z.out,l.out,j.out,ph eS,cmpL,←M.out,aV,if_neg q]
     go_wp2;go_ret;exact⟨rfl,rfl⟩
   ·have F:decide ((m:Int)≤(k:Int))=true:=dh (by omega);have X:¬(k:Int)<(m:Int):=by omega
    have I:b=[]:=by
     have h:=congrArg List.length j.out;rw[C.out,bh,f.out]at h;exact List.length_eq_zero_iff.1 (by omega)
    subst I;obtain rfl:R=1:=by rw[z.out,l.out,j.out,ph eS];rfl
    go_wp2;go_ret;exact⟨rfl,rfl⟩
  ·obtain rfl:k=n:=by omega
   have H:a=[]:=by
    have h:=congrArg List.length l.out;rw[N.out,bh,f.out]at h;exact List.length_eq_zero_iff.1 (by omega)
   subst H;have t:Hid (R=cmpL dN [] b):=by simp only[Hid];rw[z.out,l.out,j.out,ph eS]
   have x:Hid (m=k+b.length):=by
    have h:=congrArg List.length j.out;rw[C.out,bh,f.out]at h;exact h
   by_cases K:k<m
   ·have P:(k:Int)<(m:Int):=by omega
    obtain rfl:R=-1:=by
     rw[t.out];cases b with
     |nil=>have:=x.out;simp at this;omega
     |cons u o=>rfl
    go_wp2;go_ret;exact⟨rfl,rfl⟩
   ·have P:¬(k:Int)<(m:Int):=by omega
    obtain rfl:R=0:=by
     rw[t.out];cases b with
     |nil=>rfl
     |cons u o=>have:=x.out;simp at this;omega
    go_wp2;go_ret;exact⟨rfl,rfl⟩
def kq(a b:ByteArray):Int:=if a=b then 0 else if dc a=true then(if dc b=true then cmpL dN (ji a) (ji b)else-1)else if dc b=true then 1 else ld a b
theorem wZ(s:ByteArray):(ji s).length≤9:=by rw[ji,List.length_map];exact uI s
theorem kt(a b:ByteArray)(w:World)(p:a.size≤1099511627776)(q:b.size≤1099511627776):Calls Tryz.prog 134 #[.string a, .string b] w (aJ w (.int .i64 (kq a b))):=by
 by_cases e:a=b;·subst e;rw[show kq a a=0 by simp[kq]];refine(oN a w).mono ?_;rintro e w'⟨rfl,rfl⟩;exact aM
 ·have F:(a.toList==b.toList)=false:=by rw[beq_eq_false_iff_ne];exact fun h=>e (toList_inj h)
  have j:=af (fun w=>nf a w p);have k:=af (fun w=>nf b w q);have u:=af (fun w=>Bb a b w);have f:Hid (kq a b=if dc a=true then(if dc b=true then cmpL dN (ji a) (ji b)else-1)else if dc b=true then 1 else ld a b):=by simp only[Hid,kq];rw[if_neg e]
  have g:=af (fun w h=>pE a w p h);have i:=af (fun w h=>pE b w q h);have l:=af (wZ a);have m:=af (wZ b);generalize kq a b=G at*;generalize dc a=va at*;generalize dc b=r at*;clear e;go_enter Tryz.func134,Tryz.ntmps134;go_wp2_with fail;refine(j.out _).mono ?_;rintro e w1⟨rfl,f1⟩;have o:=af f1;clear f1;go_wp2_with fail;refine(k.out _).mono ?_;rintro e w2⟨rfl,f2⟩;have d:=af (o.out.trans f2);clear f2 o;cases va
  ·cases r;·go_wp2_with fail;refine(u.out _).mono ?_;rintro e w'⟨rfl,rfl⟩;go_wp2;go_ret;rw[f.out];exact⟨rfl,d.out⟩
   ·go_wp2;go_ret;rw[f.out];exact⟨rfl,d.out⟩
  ·cases r;·go_wp2;go_ret;rw[f.out];exact⟨rfl,d.out⟩
   ·go_wp2_with fail;refine(g.out _ (by first|rfl|trivial)).mono ?_;rintro e w3⟨v,rfl,c⟩;obtain⟨s,m1,C,rfl,H1,_⟩:=aU c.own;obtain rfl:=H1.out;have x:=af (d.out.trans c.ar);have A:=af (Rd.ib c.own);clear c;go_wp2_with fail;refine(i.out _ (by first|rfl|trivial)).mono ?_;rintro e E⟨v,rfl,c⟩;obtain⟨t,m2,D,rfl,z,_⟩:=aU c.own;obtain rfl:=z.out;have y:=af (x.out.trans c.ar);have B:=af (Rd.ib c.own);have n:=af (A.out.ar c.ar);clear c;go_wp2_with fail;refine(vm (ji a) (ji b) s t _ _ C D E n.out.any B.out.any (by have:=l.out;omega) (by have:=m.out;omega)).mono ?_;rintro e w'⟨rfl,rfl⟩;go_wp2;go_ret;rw[f.out];exact⟨rfl,y.out⟩
def cT(n m:aK):Int:=aV (dN n.kind m.kind) (aV (kq n.owner m.owner) (aV (dN n.number m.number) (aV (dN n.index m.index) (ld n.text m.text))))
theorem gN(n m:aK)(w:World)(O:n.owner.size≤1099511627776)(hm:m.owner.size≤1099511627776):Calls Tryz.prog 128 #[.agg n.cells.toArray, .agg m.cells.toArray] w (aJ w (.int .i64 (cT n m))):=by
 have V:Hid (∀w,Calls Tryz.prog 133 #[.int .i64 n.kind, .int .i64 m.kind] w (aY w (.int .i64 (dN n.kind m.kind)))):=fun w=>iu _ _ w;have W:=af (fun w=>kt n.owner m.owner w O hm);have X:Hid (∀w,Calls Tryz.prog 133 #[.int .i64 n.number, .int .i64 m.number] w (aY w (.int .i64 (dN n.number m.number)))):=fun w=>iu _ _ w;have Y:Hid (∀w,Calls Tryz.prog 133 #[.int .i64 n.index, .int .i64 m.index] w (aY w (.int .i64 (dN n.index m.index)))):=fun w=>iu _ _ w;have Z:=af (fun w=>zh n.text m.text w);have E:Hid (cT n m=aV (dN n.kind m.kind) (aV (kq n.owner m.owner) (aV (dN n.number m.number) (aV (dN n.index m.index) (ld n.text m.text))))):=rfl;generalize cT n m=R at*;generalize dN n.kind m.kind=z0 at*;generalize kq n.owner m.owner=z1 at*;generalize dN n.number m.number=z2 at*;generalize dN n.index m.index=z3 at*;generalize ld n.text m.text=z4 at*;clear O hm;go_enter Tryz.func128,Tryz.ntmps128;go_wp2_with(refine aA rfl 106 (.tmp 0) rfl n.cells.toArray rfl ?_);intro w1 n1;have F:=af n1;clear n1;generalize y:w.heap.size=k at*;have t:Hid (aq w1 k 106 n.cells.toArray):=by have h:=F.out.aH;rw[y]at h;exact h
 clear y;go_wp2_with(refine aA rfl 106 (.tmp 1) rfl m.cells.toArray rfl ?_);intro w2 S;have C:=af S;clear S;generalize z:w1.heap.size=l at*;have i:Hid (aq w2 l 106 m.cells.toArray):=by have h:=C.out.aH;rw[z]at h;exact h
 clear z;have g:=af (t.out.fr C.out.fr (fun x=>x));have D:=af (F.out.fr.trans C.out.fr);have G:w2.cell? ⟨k,0,none⟩=some (.int .i64 n.kind):=g.out.cell 0;have I:w2.cell? ⟨l,0,none⟩=some (.int .i64 m.kind):=i.out.cell 0;have H:w2.cell? ⟨k,1,none⟩=some (.string n.owner):=g.out.cell 1;have J:w2.cell? ⟨l,1,none⟩=some (.string m.owner):=i.out.cell 1;clear F C t;go_wp2_with fail;refine(V.out _).mono ?_;rintro e w'⟨rfl,rfl⟩;by_cases q:z0=0
 ·have j:=af q;have t0:=GA q;clear q;go_wp2_with fail;refine(W.out _).mono ?_;rintro e w3⟨rfl,f3⟩;have p:=af f3;clear f3 G I H J;by_cases r:z1=0
  ·have s:=af r;have t1:=GA r;clear r;go_upto_region 7 with fail;refine aC 15 ag [Is (.pointer (some ⟨k,2,none⟩)),Is (.int .i64 n.number),Is (.pointer (some ⟨l,2,none⟩)),Is (.int .i64 m.number),Is (.int .i64 z2),Is (.pointer (some ⟨k,3,none⟩)),Is (.int .i64 n.index),Is (.pointer (some ⟨l,3,none⟩)),Is (.int .i64 m.index),Is (.int .i64 z3),Is (.pointer (some ⟨k,4,none⟩)),Is (.string n.text),Is (.pointer (some ⟨l,4,none⟩)),Is (.string m.text),Is (.int .i64 z4)] [] (fun _=>True) (fun _ _=>false) (by kernel_rfl) (by kernel_rfl) (by kernel_rfl) (by kernel_rfl) ⟨Is.ah _,Is.ah _,Is.ah _,Is.ah _,Is.ah _,Is.ah _,Is.ah _,Is.ah _,Is.ah _,Is.ah _,Is.ah _,Is.ah _,Is.ah _,Is.ah _,Is.ah _,trivial⟩ trivial (fun _ _ _ _ h=>h) trivial ?_ ?_
   ·refine⟨?_,?_,?_,?_,?_,?_,?_,?_,?_,?_,?_,?_,?_,?_,?_,trivial⟩;all_goals intro u w' d o a f c b
    all_goals simp only[bH,bI,bJ,bK,ay,Act.put,bL,bM,bN,Nat.reduceAdd,Nat.zero_add]
    ·clear a f c b;refine aj ?_;go_simp;exact⟨_,rfl,al⟩
    ·have q:u 0=_:=a 0;clear a f c b;simp only[q];refine aj ?_;have v:w'.cell? ⟨k,2,none⟩=some (.int .i64 n.number):=(g.out.fr (p.out.trans o) (fun x=>x)).cell 2;go_simp;exact⟨_,rfl,al⟩
    ·clear a f c b;refine aj ?_;go_simp;exact⟨_,rfl,al⟩
    ·have ae:u 2=_:=a 2;clear a f c b;simp only[ae];refine aj ?_;have v:w'.cell? ⟨l,2,none⟩=some (.int .i64 m.number):=(i.out.fr (p.out.trans o) (fun x=>x)).cell 2;go_simp;exact⟨_,rfl,al⟩
    ·have r:u 1=_:=a 1;have ai:u 3=_:=a 3;clear a f c b;simp only[r,ai];refine aj ?_;go_simp;refine(X.out _).mono ?_;rintro e T⟨rfl,rfl⟩;exact⟨_,rfl,al⟩
    ·clear a f c b;refine aj ?_;go_simp;exact⟨_,rfl,al⟩
    ·have ak:u 5=_:=a 5;clear a f c b;simp only[ak];refine aj ?_;have v:w'.cell? ⟨k,3,none⟩=some (.int .i64 n.index):=(g.out.fr (p.out.trans o) (fun x=>x)).cell 3;go_simp;exact⟨_,rfl,al⟩
    ·clear a f c b;refine aj ?_;go_simp;exact⟨_,rfl,al⟩
    ·have an:u 7=_:=a 7;clear a f c b;simp only[an];refine aj ?_;have v:w'.cell? ⟨l,3,none⟩=some (.int .i64 m.index):=(i.out.fr (p.out.trans o) (fun x=>x)).cell 3;go_simp;exact⟨_,rfl,al⟩
    ·have am:u 6=_:=a 6;have ao:u 8=_:=a 8;clear a f c b;simp only[am,ao];refine aj ?_;go_simp;refine(Y.out _).mono ?_;rintro e T⟨rfl,rfl⟩;exact⟨_,rfl,al⟩
    ·clear a f c b;refine aj ?_;go_simp;exact⟨_,rfl,al⟩
    ·have K:u 10=_:=a 10;clear a f c b;simp only[K];refine aj ?_;have v:w'.cell? ⟨k,4,none⟩=some (.string n.text):=(g.out.fr (p.out.trans o) (fun x=>x)).cell 4;go_simp;exact⟨_,rfl,al⟩
    ·clear a f c b;refine aj ?_;go_simp;exact⟨_,rfl,al⟩
    ·have M:u 12=_:=a 12;clear a f c b;simp only[M];refine aj ?_;have v:w'.cell? ⟨l,4,none⟩=some (.string m.text):=(i.out.fr (p.out.trans o) (fun x=>x)).cell 4;go_simp;exact⟨_,rfl,al⟩
    ·have L:u 11=_:=a 11;have N:u 13=_:=a 13;clear a f c b;simp only[L,N];refine aj ?_;go_simp;refine(Z.out _).mono ?_;rintro e T⟨rfl,rfl⟩;exact⟨_,rfl,al⟩
   ·intro u w' o a b;have Q:u 4=_:=a 4 (by omega);have k9:u 9=_:=a 9 (by omega);have B:u 14=_:=a 14 (by omega);clear a b;simp only[bH,bI,bJ,bK,ay,Act.put,bL,bM,bN,dD,dE,Nat.reduceAdd,Nat.zero_add,Q,k9,B];have ab:=af (D.out.trans (p.out.trans o));clear o Q k9 B;obtain⟨i0,ap,P,A,ar⟩:=info_parts rI;have ac:Hid (¬3*i0.size>2^24):=by simp only[Hid];rw[A];omega
    have ad:Hid (¬3*i0.size=0):=by simp only[Hid];rw[A];omega
    go_wp2_with fail;have U:Hid (aq (w'.alloc (.cells #[.int .i64 z2, .int .i64 z3, .int .i64 z4] 3)) w'.heap.size 3 #[.int .i64 z2, .int .i64 z3, .int .i64 z4]):=aq.new _ _ _;have aa:=af (ab.out.trans ((Fr.refl ag w').alloc (.cells #[.int .i64 z2, .int .i64 z3, .int .i64 z4] 3)));refine(Bc z2 z3 z4 _ _ U.out).mono ?_;rintro e au⟨rfl,rfl⟩;go_wp2;go_ret;rw[E.out,j.out,s.out];exact⟨rfl,aa.out⟩
  ·have t1:=sj r;have s:=af r;clear r;go_wp2;go_ret;rw[E.out,j.out,aV,if_pos rfl,aV,if_neg s.out];exact⟨rfl,D.out.trans p.out⟩
 ·have t0:=sj q;have j:=af q;clear q;go_wp2;go_ret;rw[E.out,aV,if_neg j.out];exact⟨rfl,D.out⟩
end Go.Proofs.YtphjagkehiklkaaGreatDoor
namespace Go.Proofs.YtphjagkehiklkaaGreatDoor
open Go.ChangeShapes Go.WideShapes Go.ChangeAt Go.RowKit
theorem rz:Tryz.prog.cellsOf 3=1:=by kernel_rfl
theorem rA:Tryz.prog.cellsOf 9=1:=by kernel_rfl
theorem tR:Tryz.prog.cellsOf 4=1:=by kernel_rfl
theorem yX:Tryz.prog.cellsOf 245=5:=by kernel_rfl
theorem Du:Tryz.prog.cellsOf 247=7:=by kernel_rfl
theorem wF:Tryz.prog.cellsOf 189=6:=by kernel_rfl
theorem AW:Tryz.prog.cellsOf 190=126:=by kernel_rfl
theorem wO:Tryz.prog.globalNamed "replevin/object.usages"=some 0:=by kernel_rfl
theorem C9:(Tryz.prog.globals[0]?).map (·.type)=some 190:=by kernel_rfl
def gT.datum{H:Type}(u:gT):DataW H:= .agg [.lit (.string u.word.data.toList), .lit (.bool u.owner), .lit (.bool u.number), .lit (.bool u.index), .lit (.bool u.text), .lit (.int .i64 u.aP)]
theorem FT:(Rows.laid_replevin_object_usages:DataW Unit)= .agg (ig.map gT.datum):=by kernel_rfl
theorem Fk{H:Type}{enc:TypeId×Value→H}{w:World}{base:Nat}{sp:Nat→Bool}{held:Bool}{fuel:Nat}{l:List Value}{u:gT}{x:DataW H×List MemPlace}(m:x.1=u.datum)
  (h:DataW.trod enc Tryz.prog w base sp held fuel 189 l=some x):l=u.cells:=by
 obtain⟨s,v,_,rfl,b,c,a⟩:=DataW.trod_struct Tryz.underlying189 h;rw[wF]at b;match l,b with
 |[y,z,A,x3,B,C],_=>
  have g0:=a 0 _ rfl;have g1:=a 1 _ rfl;have g2:=a 2 _ rfl;have g3:=a 3 _ rfl;have g4:=a 4 _ rfl;have g5:=a 5 _ rfl;match s,c with
  |[D,E,F,y3,y4,G],_=>
   simp[rz,rA,tR]at g0 g1 g2 g3 g4 g5;obtain⟨a0,d,rfl,_⟩:=DataW.trod_string Tryz.underlying9 g0;obtain⟨t,e,rfl⟩:=DataW.trod_bool Tryz.underlying4 g1;obtain⟨a2,f,rfl⟩:=DataW.trod_bool Tryz.underlying4 g2;obtain⟨a3,g,rfl⟩:=DataW.trod_bool Tryz.underlying4 g3;obtain⟨a4,i,rfl⟩:=DataW.trod_bool Tryz.underlying4 g4;obtain⟨a5,j,rfl,_⟩:=DataW.trod_int Tryz.underlying3 g5;simp only[List.cons.injEq,and_true]at d e f g i j;subst d e f g i j;simp only[gT.datum,List.map_cons,List.map_nil,DataW.agg.injEq,List.cons.injEq,DataW.lit.injEq,Lit.string.injEq,Lit.bool.injEq,Lit.int.injEq,and_true,true_and]at m;obtain⟨k,n,o,p,q,r⟩:=m;have hw:a0=u.word:=by
    cases a0;cases hu:u.word;rw[hu]at k;simpa[Array.toList_inj]using k
   rw[gT.cells,hw,n,o,p,q,r]
theorem Jk{W:World}{rest:List (String×DataW Unit)}(h:laidMet Tryz.prog (("replevin/object.usages",Rows.laid_replevin_object_usages)::rest) W):eE W:=by
 obtain⟨z,⟨y,A,cs,fuel,p,q,c,e,b,r,_,_⟩,_⟩:=h;obtain rfl:=Option.some.inj (wO.symm.trans c);obtain rfl:=Option.some.inj (C9.symm.trans e);obtain⟨xs,m,_,i,w,x,s⟩:=DataW.trod_array Tryz.underlying190 r;rw[AW]at w;refine⟨fun k u n j v f=>?_⟩;have d:k<21:=by
  have:=(List.getElem?_eq_some_iff.1 n).1;simpa[ig]using this
 have g:=s k d;rw[wF,List.getElem?_eq_getElem (by omega)]at g;have a:(xs[k]).1=u.datum:=by
  rw[FT]at i;simp only[Prod.mk.injEq,DataW.agg.injEq]at i;have l:=congrArg (·[k]?) i.1;simp only[List.getElem?_map,n,Option.map_some,List.getElem?_eq_getElem (show k<xs.length by omega),Option.some.injEq]at l;exact l.symm
 have o:=Fk a g;have t:j<6:=by
  have:=(List.getElem?_eq_some_iff.1 f).1;simpa[gT.cells]using this
 refine World.var?_cell wO b (k*6+j)|>.trans ?_;rw[←o,List.getElem?_take_of_lt t,List.getElem?_drop]at f;simpa using f
end Go.Proofs.YtphjagkehiklkaaGreatDoor
namespace Go.Proofs.YtphjagkehiklkaaGreatDoor.Lt
open Go.RowKit
def aY(w:World)(v:Value)(e:Ending)(w':World):Prop:=e= .returned v∧w=w'
end Go.Proofs.YtphjagkehiklkaaGreatDoor.Lt
