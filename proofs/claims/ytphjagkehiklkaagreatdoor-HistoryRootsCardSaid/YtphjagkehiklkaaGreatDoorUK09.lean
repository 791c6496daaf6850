/- Texts. -/
import Derived.Test.YtphjagkehiklkaaGreatDoorUK08
set_option linter.unusedVariables false
set_option linter.unusedSimpArgs false
set_option maxRecDepth 100000
set_option maxHeartbeats 4000000
namespace Go.Proofs.YtphjagkehiklkaaGreatDoor
open Go.RowKit Go.Shelf
attribute[local go_sem]Oper.semAt_some
structure mV{α:Type}(b d:World)(g2:Nat)(c e:TypeId)(sz:Nat)(a:List α→Nat)(cells:List α→List Value)(pre:List α)(W:World):Prop where
 fr:Fr af b W
 kn:KP d W
 row:∃v,ak W g2 c #[v]∧W.ownsRow 0 e sz v (a pre) (cells pre)∧∀k,v.ownBlock=some k→b.heap.size≤k∧k≠g2
theorem mV.gT{α:Type}{r y:World}{g2:Nat}{s e:TypeId}{sz B:Nat}{l:List α→Nat}{cells:List α→List Value}(u:g2<B)(z:r.heap.size≤B):OwnFrom B (mV r y g2 s e sz l cells):=by
 intro pre X Y row h w o;have b:∀k,k<B→some k≠row:=fun k q e=>by have:=(o k e.symm).1;omega
 have j:Fr (fun k=>some k=row) X Y:=Fr.grown w;obtain⟨v,lK,a,x⟩:=h.row;refine⟨h.fr.ao j (fun i A e=>absurd e (b i (by omega))),h.kn.trans (KP.fr j (fun g t cs _ p e=>?_)),⟨v,lK.fr j (fun e=>b _ u e),aK a j (fun k q e=>?_),x⟩⟩;·obtain⟨_,C,d,m⟩:=o g e.symm;unfold ak at p;rw[p]at d;cases d;simp[Obj.isCells]at m
 ·obtain⟨_,C,d,m⟩:=o k e.symm;obtain⟨c,f,n⟩:=cu a q;rw[n]at d;cases d;simp[Obj.isCells]at m
theorem mV.same{α:Type}{g i W X:World}{g2:Nat}{f e:TypeId}{sz:Nat}{b:List α→Nat}{cells:List α→List Value}{pre a:List α}(h:mV g i g2 f e sz b cells pre W)(d:Fr af W X)(j:b a=b pre)(k:cells a=cells pre):mV g i g2 f e sz b cells a X:=by
 obtain⟨v,lK,c,l⟩:=h.row;refine⟨h.fr.trans d,h.kn.trans (KP.fr d (fun _ _ _ _ _ x=>x)),⟨v,lK.fr d (fun x=>x),?_,l⟩⟩;rw[j,k];exact aK c d (fun _ _ x=>x)
theorem mV.step{α:Type}{m D W X u l:World}{g2 B:Nat}{n e:TypeId}{sz:Nat}{d:List α→Nat}{cells:List α→List Value}{pre b:List α}{v v2:Value}
  (x:mV m D g2 n e sz d cells pre W)(G:g2<B)(H:m.heap.size≤B)(J:m.heap.size≤g2)(o:n≠9∧n≠270)(he:e≠9∧e≠270)(y:ak W g2 n #[v])
  (j:W.ownsRow 0 e sz v (d pre) (cells pre))(a:∀k,v.ownBlock=some k→m.heap.size≤k∧k≠g2)
  (A:Fr af W X)(w:bF e sz X v u v2 (d b) (cells b))(f3:Fr (fun k=>k=g2) u l)(b3:ak l g2 n #[v2]):
  KeepsFrom B W l∧KP W l∧mV m D g2 n e sz d cells b l:=by
 have s1:m.heap.size≤W.heap.size:=x.fr.size;have s2:W.heap.size≤X.heap.size:=A.size;have M:g2<W.heap.size:=y.lt;have p:∀k,v2.ownBlock=some k→m.heap.size≤k∧k≠g2:=fun k z=>by
  rcases w.dD k z with h|h;·exact a k h
  ·constructor<;>omega
 have F:Fr (fun k=>k=g2∨v.ownBlock=some k) W l:=by
  have E:Fr (fun k=>k=g2∨v.ownBlock=some k) W u:=(A.bA).trans (w.fr.mono (fun i _ h=> .inr h));exact E.trans (f3.mono (fun i _ h=> .inl h))
 have K:KP W l:=KP.fr F (fun g t cs C q h=>by
  unfold ak at q y;rcases h with rfl|h;·rw[y]at q;cases q;exact C.elim o.1 o.2
  ·obtain⟨c,f,r⟩:=cu j h;rw[r]at q;cases q;exact C.elim he.1 he.2);refine⟨⟨F.size,fun k N _ r I=>?_⟩,K,?_,x.kn.trans K,?_⟩
 ·refine(F.block k (Array.getElem?_eq_some_iff.1 r).1 ?_).trans r;rintro(rfl|h);·omega
  ·obtain⟨c,f,s⟩:=cu j h;rw[r]at s;cases s;simp[Obj.isCells]at I
 ·refine x.fr.ao F (fun i L h=>?_);rcases h with h|h;·omega
  ·have:=(a i h).1;omega
 ·exact⟨v2,b3,aK w.own f3 (fun k z e=>(p k z).2 e),p⟩
theorem BV(w:World):(zeroValue 251).run Tryz.prog w= .ok (.slice none 0 0) w:=by kernel_rfl
theorem ou:(Tryz.prog.info? 251).map (·.size)=some 1:=by kernel_rfl
theorem qx:(Tryz.prog.info? 3).map (fun i=>(i.zero,i.size,i.bytes))=some (some (.int .i64 0),1,8):=by kernel_rfl
theorem ux(tmps:Array Value)(w:World)(g2:Nat)(v:Value)(b:tmps.getD 2 undef= .pointer (some ⟨g2,0,none⟩))(b2:ak w g2 251 #[v]):
  (results Tryz.f166 tmps).run Tryz.prog w= .ok v w:=by
 have a:tmps[2]?.getD undef= .pointer (some ⟨g2,0,none⟩):=by simpa using b
 simp[results,Tryz.results166,a,asAddr,dC w g2 _ _ _ b2 ou (Tryz.isAgg251 w)]
def It(p:Part):Value:= .int .i64 (p.ord:Int)
def Aq(a:List Part):List Value:=a.map It
structure pB(a b:World)(g2 g3:Nat)(pre:List Part)(W:World):Prop where
 row:mV a b g3 251 3 1 List.length Aq pre W
 res:∃v,ak W g2 251 #[v]
 dD:∀v,ak W g3 251 #[v]→v.ownBlock≠some g2
theorem pB.later{b c A B:World}{g2 g3:Nat}{pre:List Part}(h:pB b c g2 g3 pre A)(f:Fr af A B)(d:g3<A.heap.size):pB b c g2 g3 pre B:=
 ⟨h.row.same f rfl rfl,by obtain⟨v,g⟩:=h.res;exact⟨v,g.fr f (fun x=>x)⟩,fun v a=>h.dD v (by
  have e:=f.block g3 d (fun x=>x);unfold ak at a⊢;rw[←e];exact a)⟩
theorem pB.gT{g k:World}{g2 g3 N:Nat}(i:g3<N)(j:g.heap.size≤N):OwnFrom N (pB g k g2 g3):=by
 intro pre A B row h d f;obtain⟨l,_,c⟩:=lO d f;refine⟨mV.gT i j pre A B row h.row d f,by obtain⟨v,b⟩:=h.res;exact⟨v,c _ _ _ b⟩,fun v b=>h.dD v ?_⟩;obtain⟨m,a,_⟩:=h.row.row;have e:=c _ _ _ a;unfold ak at b e a⊢;rw[e]at b;cases b;exact a
def Fp:Op→Bool
 | .load t _=>t==251
 |_=>false
def Fq:Op→Bool
 | .store t _ _=>t==251
 |_=>false
def Ih(w:World)(s:ByteArray)(r:Ending)(w':World):Prop:=∃v,r= .returned v∧bF 3 1 w (.slice none 0 0) w' v (im s).length ((im s).map (Value.int .i64))
theorem oy(s:ByteArray)(w:World)(aS:s.size≤1099511627776)(P:cC s=true):Calls Tryz.prog 166 #[.string s] w (Ih w s):=by
 obtain⟨i0,aD,ad,aH,aI⟩:=info_parts qx;have a1:=Lib.hid aS;have a2:=Lib.hid P;clear aS P;refine(callsIn_wide (n:=6)).1 (callsIn_of_wp_marks Tryz.func166 rfl trivial (wpIn_wide.2 ?_) rfl);simp only[Tryz.ntmps166,List.size_toArray,List.length_cons,List.length_nil,Nat.reduceAdd,Nat.reduceSub,Array.replicate_succ,Array.replicate_zero,List.push_toArray,List.append_toArray,List.nil_append,List.cons_append];go_wp2_with(refine ai rfl 251 rfl (.slice none 0 0) BV #[.slice none 0 0] rfl ?_);intro al M;have T:=Lib.hid M.fr;have p:=Lib.hid M.az;have a5:Sz w w.heap.size:=Nat.le_refl _;clear M;generalize w.heap.size=g2 at*;go_wp2_with(refine ai rfl 251 rfl (.slice none 0 0) BV #[.slice none 0 0] rfl ?_);intro w2 nb;have G:=Lib.hid (T.out.trans nb.fr);have R:=Lib.hid (p.out.fr nb.fr (fun x=>x));have F:=Lib.hid nb.az;have aN:Sz w al.heap.size:=T.out.size;have aw:Hid (g2<al.heap.size):=p.out.lt;clear nb p T;generalize al.heap.size=g3 at*;have aL:Hid (pB w w2 g2 g3 [] w2):=⟨⟨G.out,KP.refl _,_,F.out,⟨rfl, .inl ⟨rfl,rfl⟩⟩,fun k L=>by simp[Value.ownBlock]at L⟩,⟨_,R.out⟩,fun v m=>by
  have h:=F.out;unfold ak at h m;rw[h]at m;cases m;simp[Value.ownBlock]⟩;have ae:Hid (g3<w2.heap.size):=F.out.lt;clear F R G;go_wp2_with fail;refine(tG s _).mono ?_;rintro r aj⟨rfl,f3,b3⟩;have aq:Hid (pB w w2 g2 g3 [] aj):=aL.out.later f3 ae.out;have aW:=Lib.hid b3;have S:Hid (w2.heap.size≤aj.heap.size):=f3.size;clear f3 b3 aL;generalize w2.heap.size=gs at*;go_wp2_with fail;refine(wpIn_wide (n:=6)).1 ?_;refine wpIn_rangeFunc_ownH rfl (by omega) (gf:=182) (lb:=#[.pointer (some ⟨gs,0,none⟩)]) rfl trivial (enters_of Tryz.func182 (by kernel_rfl) rfl)
  (p9 5 gs s aj a1.out aW.out) (fun h k=>h.trans k) (fun W l o bd _ ho Z _=>KP.put W l o bd ho Z) (Below.refl _ _) (fun _=>rfl)
  (pB w w2 g2 g3) (fun _ pre _=>∃x∈pre,x.e≠0) (pB.gT (Nat.lt_of_lt_of_le ae.out S.out) aq.out.row.fr.size) (fun _ _ _ _ _ h _ _=>h) aq.out
  (fun x ay W=>∃g,ay=({tmps:=#[.string s,undef, .pointer (some ⟨g2,0,none⟩), .pointer (some ⟨g3,0,none⟩), .pointer (some ⟨g,0,none⟩), .string s, .func (.func 182) #[] #[.pointer (some ⟨gs,0,none⟩)], .agg #[.int .i64 x.ord, .int .i64 x.at_, .int .i64 x.e],undef,undef,undef,undef,undef,undef,undef,undef,undef],defers:=[]}:Act)∧ak W g 270 (aZ x))
  (fun x ay _ A B row h a8 ba=>by
   obtain⟨g,e,m⟩:=h;exact⟨g,e,(lO a8 ba).2.2 _ _ _ m⟩)
  ?assign ?body ?done ?stop;case assign=>
  intro l pre x W K j O;have a0:=Lib.hid O;have N:=Lib.hid j;clear O j;gi_wp2_with(refine bN yt rfl (by kernel_rfl) ?_);go_wp2_with(refine ai rfl 270 rfl (.agg mA) se mA rfl ?_);intro al M;have T:=Lib.hid M.fr;have aV:=Lib.hid M.az;have a4:Sz W W.heap.size:=Nat.le_refl _;clear M;generalize W.heap.size=g at*;go_wp2_with(refine ah rfl 270 (.tmp 4) _ rfl g (aZ x) rfl rfl _ _ aV.out bG rfl (cD x) ?_);intro bf bb a6;have G:Fr af W bf:=T.out.ao a6 (fun i aR e=>by have J:i=g:=e;have:=a4;unfold Sz at this;omega);refine⟨?_,rfl⟩;refine a0.out _ _ ⟨G.size,fun k o _ ho _=>(G.block k (Array.getElem?_eq_some_iff.1 ho).1 (fun x=>x)).trans ho⟩ (KP.fr G (fun _ _ _ _ _ x=>x)) (N.out.later G (by obtain⟨v,m,_,_⟩:=N.out.row.row;exact m.lt)) ⟨g,rfl,bb⟩
 case body=>
  rintro bj pre x ay W a9 aE j⟨g,rfl,C⟩aa;have N:=Lib.hid j;have bg:=Lib.hid C;have bk:W.cell? ⟨g,0,none⟩=some (.int .i64 x.ord):=C.cell 0;have bl:W.cell? ⟨g,2,none⟩=some (.int .i64 x.e):=C.cell 2;obtain⟨v2,z⟩:=j.res;obtain⟨v,b3,b,a⟩:=j.row.row;obtain⟨E,m1,I,rfl,H1,aX⟩:=aP b;have ag:=Lib.hid (j.dD _ b3);have d:=Lib.hid b;have u:=Lib.hid a;have p:=Lib.hid z;have F:=Lib.hid b3;have c3:W.cell? ⟨g3,0,none⟩=some (.slice E m1 I):=b3.cell 0;have ar:Hid (pre.length<9):=Nat.lt_of_lt_of_le aa (tD s);clear j C aa a9 aE z b3 b a;by_cases aG:x.e=0
  ·have aJ:((x.e:Int)==0)=true:=by rw[beq_iff_eq];omega
   gi_wp2_with(refine bN Fp rfl (by kernel_rfl) ?_);go_wp2_with(at_builtin;refine cX _ rfl _ _ 251 rfl 3 i0 (.int .i64 0) 1 8 Tryz.underlying251 aD ad aH aI rfl (by omega) _ _ _ rfl d.out 1 _ _ rfl rfl rfl ?zA ?zB (by omega) ?_);case zA=>simp[Value.oneCell']
   case zB=>have:=ar.out;omega
   intro be aU aQ;have X:=Lib.hid aQ;clear aQ;have ap:Hid (ak aU g3 251 #[.slice E m1 I]):=F.out.fr X.out.fr (fun e=>(u.out _ e).2 rfl);obtain⟨am,m2,aB,rfl,_,_⟩:=aP X.out.own;go_wp2_with(refine bE rfl 251 (.tmp 3) _ rfl g3 (.slice am m2 aB) rfl rfl rfl _ _ ap.out ou ?_);intro y3 H f3;refine⟨?_,rfl⟩;have av:bF 3 1 W (.slice E m1 I) aU (.slice am m2 aB) ((pre++[x]).length) (Aq (pre++[x])):=by
    have h:=X.out;rw[List.length_append,Aq,List.map_append];exact h
   have y:=mV.step (v:= .slice E m1 I) (v2:= .slice am m2 aB) N.out.row ae.out (Nat.le_trans aN (Nat.le_of_lt ae.out)) aN (by decide) (by decide) F.out d.out u.out (Fr.refl _ _) av f3 H;have an:ak y3 g2 251 #[v2]:=(p.out.fr X.out.fr ag.out).fr f3 (fun e=>by have J:g2=g3:=e;have:=aw.out;omega);have V:KeepsFrom aj.heap.size W y3:=⟨y.1.size,fun q o ac ho Z=>y.1.same q o (Nat.le_trans S.out ac) ho Z⟩;refine⟨V,y.2.1,⟨y.2.2,⟨_,an⟩,fun v P e=>?_⟩⟩;unfold ak at P H;rw[H]at P;cases P;rcases X.out.dD _ e with h|h;·exact ag.out h
   ·have:=p.out.lt;omega
  ·have aJ:((x.e:Int)==0)=false:=by rw[beq_eq_false_iff_ne];omega
   have a3:=Lib.hid aG;gi_wp2_with(refine bN Fq rfl (by kernel_rfl) ?_);go_wp2_with(refine bE rfl 251 (.tmp 2) _ rfl g2 (.slice none 0 0) rfl rfl rfl _ _ p.out ou ?_);intro Q aA Y;refine⟨?_,rfl⟩;gi_wp2;refine⟨⟨Y.size,fun q o bi ho Z=>(Y.block q (Array.getElem?_eq_some_iff.1 ho).1 (fun ac=>?_)).trans ho⟩,x,by simp,a3.out⟩;have e:q=g2:=ac;subst e;have m:=p.out;unfold ak at m;rw[m]at ho;cases ho;simp[Obj.isCells]at Z
 case done=>
  rintro D xs W aC rfl j O;obtain⟨v2,z⟩:=j.res;obtain⟨v,b3,b,a⟩:=j.row.row;obtain⟨E,m1,I,rfl,H1,aX⟩:=aP b;have au:=Lib.hid O;have aY:=Lib.hid aC;have N:=Lib.hid j;have ag:=Lib.hid (j.dD _ b3);have d:=Lib.hid b;have u:=Lib.hid a;have p:=Lib.hid z;have c3:W.cell? ⟨g3,0,none⟩=some (.slice E m1 I):=b3.cell 0;clear j aC O z b3 b a;go_wp2_with(refine bE rfl 251 (.tmp 2) _ rfl g2 (.slice E m1 I) rfl rfl rfl _ _ p.out ou ?_);intro Q aA Y;have aM:=Lib.hid aA;have V:=Lib.hid Y;have U:Hid (Q.heap[D]? =some (.deferred (some []))):=by
   refine(V.out.block D (Array.getElem?_eq_some_iff.1 au.out).1 (fun ac=>?_)).trans au.out;have a7:=au.out;have e:D=g2:=ac;subst e;have aF:=p.out;unfold ak at aF;rw[a7]at aF;cases aF
  clear aA Y c3;go_wp2;refine⟨by simp, .inl ⟨_,_,rfl,run_takeDeferred U.out,?_⟩⟩;have ax:Fr (fun k=>some k=some D) Q (Q.putObj D (.deferred none)):=Fr.grown (grownBy_putObj' Q D _);have aT:∀g,(∃c t f,Q.heap[g]? =some (.cells c t f))→¬(some g=some D):=fun g⟨c,t,f,m⟩e=>by
   have J:g=D:=by simpa using e
   subst J;rw[U.out]at m;cases m
  refine⟨_,ux _ _ g2 _ rfl (aM.out.fr ax (aT g2 ⟨_,_,_,aM.out⟩)),⟨_,rfl,⟨?_,?_,fun k L=> .inr (u.out k L).1⟩⟩⟩
  ·have aO:=aK d.out V.out (fun k L e=>by have J:k=g2:=e;subst J;exact ag.out L);have z:=aK aO ax (fun k L e=>by
    obtain⟨c,f,ho⟩:=cu aO L;exact aT k ⟨_,_,_,ho⟩ e);rw[im,List.length_map,List.map_map];exact z
  ·refine((N.out.row.fr.ao V.out (fun i aR e=>?_)).ao ax (fun i aR e=>?_)).bA;·have J:i=g2:=e;have z:=a5;unfold Sz at z;omega
   ·have J:i=D:=by simpa using e
    have:=aY.out;have:=aq.out.row.fr.size;omega
 case stop=>
  rintro D bh pre W aC ab⟨x,bc,aG⟩O;have h:=a2.out;rw[cC,List.all_eq_true]at h;have:=h x (ab.subset bc);simp only[beq_iff_eq]at this;exact absurd this aG
end Go.Proofs.YtphjagkehiklkaaGreatDoor
namespace Go.Proofs.YtphjagkehiklkaaGreatDoor
open Go.RowKit Go.Shelf
theorem EJ(a b:Int):Bo a b=df a b:=rfl
theorem xV(a b:ByteArray)(w:World):Calls Tryz.prog 161 #[.string a, .string b] w (bj w (.int .i64 (kh a b))):=by
 have c:=Lib.hid (fun a w=>zV a w);have d:=Lib.hid (sN a b);have key:∀r,kh a b=r→Calls Tryz.prog 161 #[.string a, .string b] w (bj w (.int .i64 r))→Calls Tryz.prog 161 #[.string a, .string b] w (bj w (.int .i64 (kh a b))):=fun r h k=>by rw[h];exact k
 by_cases f:Op.bytesLess a.toList b.toList=true;·refine key (-1) (by rw[d.out,if_pos f]) ?_;clear key d;go_enter Tryz.func161,Tryz.ntmps161;go_wp2_with fail;refine(c.out a _).mono ?_;rintro e w'⟨rfl,rfl⟩;go_wp2_with fail;refine(c.out b _).mono ?_;rintro e w'⟨rfl,rfl⟩;go_wp2;go_ret;exact⟨rfl,rfl⟩
 ·have i:Op.bytesLess a.toList b.toList=false:=by simpa using f
  by_cases e:a=b
  ·subst e;refine key 0 (by rw[d.out,if_neg f,if_pos rfl]) ?_;clear key d;have g:(a.toList==a.toList)=true:=by simp
   go_enter Tryz.func161,Tryz.ntmps161;go_wp2_with fail;refine(c.out a _).mono ?_;rintro e w'⟨rfl,rfl⟩;go_wp2_with fail;refine(c.out a _).mono ?_;rintro e w'⟨rfl,rfl⟩;go_wp2;go_ret;exact⟨rfl,rfl⟩
  ·refine key 1 (by rw[d.out,if_neg f,if_neg e]) ?_;have g:(a.toList==b.toList)=false:=by rw[beq_eq_false_iff_ne];exact fun h=>e (toList_inj h)
   clear key d e;go_enter Tryz.func161,Tryz.ntmps161;go_wp2_with fail;refine(c.out a _).mono ?_;rintro e w'⟨rfl,rfl⟩;go_wp2_with fail;refine(c.out b _).mono ?_;rintro e w'⟨rfl,rfl⟩;go_wp2;go_ret;exact⟨rfl,rfl⟩
theorem Dr(a:ByteArray)(w:World):Calls Tryz.prog 180 #[.string a] w (bj w (.bool false)):=by
 go_enter Tryz.func180,Tryz.ntmps180;go_wp2;go_ret;exact⟨rfl,rfl⟩
theorem zI(a b:ByteArray)(w:World):Calls Tryz.prog 167 #[.string a, .string b] w (bj w (.int .i64 (kh a b))):=by
 have c:=Lib.hid (fun a w=>Dr a w);have d:=Lib.hid (sN a b);have key:∀r,kh a b=r→Calls Tryz.prog 167 #[.string a, .string b] w (bj w (.int .i64 r))→Calls Tryz.prog 167 #[.string a, .string b] w (bj w (.int .i64 (kh a b))):=fun r h k=>by rw[h];exact k
 by_cases f:Op.bytesLess a.toList b.toList=true;·refine key (-1) (by rw[d.out,if_pos f]) ?_;clear key d;go_enter Tryz.func167,Tryz.ntmps167;go_wp2_with fail;refine(c.out a _).mono ?_;rintro e w'⟨rfl,rfl⟩;go_wp2_with fail;refine(c.out b _).mono ?_;rintro e w'⟨rfl,rfl⟩;go_wp2;go_ret;exact⟨rfl,rfl⟩
 ·have i:Op.bytesLess a.toList b.toList=false:=by simpa using f
  by_cases e:a=b
  ·subst e;refine key 0 (by rw[d.out,if_neg f,if_pos rfl]) ?_;clear key d;have g:(a.toList==a.toList)=true:=by simp
   go_enter Tryz.func167,Tryz.ntmps167;go_wp2_with fail;refine(c.out a _).mono ?_;rintro e w'⟨rfl,rfl⟩;go_wp2_with fail;refine(c.out a _).mono ?_;rintro e w'⟨rfl,rfl⟩;go_wp2;go_ret;exact⟨rfl,rfl⟩
  ·refine key 1 (by rw[d.out,if_neg f,if_neg e]) ?_;have g:(a.toList==b.toList)=false:=by rw[beq_eq_false_iff_ne];exact fun h=>e (toList_inj h)
   clear key d e;go_enter Tryz.func167,Tryz.ntmps167;go_wp2_with fail;refine(c.out a _).mono ?_;rintro e w'⟨rfl,rfl⟩;go_wp2_with fail;refine(c.out b _).mono ?_;rintro e w'⟨rfl,rfl⟩;go_wp2;go_ret;exact⟨rfl,rfl⟩
theorem Ez{x:Int}(h:x=0):(x==0)=true:=by subst h;rfl
theorem re{x:Int}(h:x≠0):(x==0)=false:=by rw[beq_eq_false_iff_ne];exact h
theorem xJ(x y z:Int):∀(k:Nat)(v:Int),([x,y,z])[k]? =some v→v≠0→(∀(j:Nat)(u:Int),j<k→([x,y,z])[j]? =some u→u=0)→aN x (aN y z)=v
 |0,v,a,c,b=>by
  obtain rfl:x=v:=by simpa using a
  simp[aN,c]
 |1,v,a,c,b=>by
  obtain rfl:y=v:=by simpa using a
  have:=b 0 x (by omega) rfl;simp[aN,this,c]
 |2,v,a,c,b=>by
  obtain rfl:z=v:=by simpa using a
  have d:=b 0 x (by omega) rfl;have e:=b 1 y (by omega) rfl;simp[aN,d,e]
 |k+3,v,a,_,_=>by simp at a
theorem wB(x y z:Int)(a:∀(j:Nat)(u:Int),j<3→([x,y,z])[j]? =some u→u=0):aN x (aN y z)=0:=by
 have b:=a 0 x (by omega) rfl;have c:=a 1 y (by omega) rfl;have d:=a 2 z (by omega) rfl;simp[aN,b,c,d]
theorem Rd.any{w:World}{S:Nat→Prop}{size n:Nat}{A:Option Addr}{xs:List Value}(h:Rd w S size A n xs):Rd w (fun _=>True) size A n xs:=
 ⟨h.1,fun c=>by obtain⟨a,e,_,b⟩:=h.2 c;exact⟨a,e,trivial,b⟩⟩
theorem zJ(x y z:Int)(g:Nat)(w:World)(h:ak w g 3 #[.int .i64 x, .int .i64 y, .int .i64 z]):Calls Tryz.prog 132 #[.slice (some ⟨g,0,none⟩) 3 3] w (bj w (.int .i64 (aN x (aN y z)))):=by
 have HB:=Lib.hid h;have n:Hid (∀k:Nat,k<3→∃v:Int,([x,y,z])[k]? =some v∧w.cell? ⟨g,k,none⟩=some (.int .i64 v)):=fun k f=>by
  match k,f with
  |0,_=>exact⟨x,rfl,h.cell 0⟩
  |1,_=>exact⟨y,rfl,h.cell 1⟩
  |2,_=>exact⟨z,rfl,h.cell 2⟩
 clear h;have o:Hid (∀(k:Nat)(v:Int),([x,y,z])[k]? =some v→v≠0→(∀(j:Nat)(u:Int),j<k→([x,y,z])[j]? =some u→u=0)→aN x (aN y z)=v):=fun k v=>xJ x y z k v;have p:Hid ((∀(j:Nat)(u:Int),j<3→([x,y,z])[j]? =some u→u=0)→aN x (aN y z)=0):=wB x y z;generalize aN x (aN y z)=t at*;go_enter Tryz.func132,Tryz.ntmps132;go_wp2;go_loopw[8](fun i wr=>∃k:Nat,k≤3∧(∀j u,j<k→([x,y,z])[j]? =some u→u=0)∧i= .int .i64 k∧w=wr)(fun i _=>3-(intOf i).toNat);case atStart=>exact⟨0,by omega,fun j u h=>by omega,rfl,rfl⟩
 case round=>
  obtain⟨k,f,m,rfl,rfl⟩:=hrel;have b:=Lib.hid m;clear m;by_cases c:k<3
  ·have q:(k:Int)<3:=by omega
   obtain⟨v,l,r⟩:=n.out k c;have d:=Lib.hid l;clear l;by_cases a:v=0
   ·subst a;go_wp2;go_roundw
    case rel=>exact⟨k+1,by omega,fun j u s hu=>by
      by_cases e:j=k;·subst e;have:=d.out;rw[hu]at this;cases this;rfl
      ·exact b.out j u (by omega) hu,by go_num,trivial⟩
    case measure=>simp[intOf];omega
   ·have t1:=re a;obtain rfl:t=v:=o.out k v d.out a b.out;go_wp2;go_ret;exact⟨rfl,rfl⟩
  ·obtain rfl:k=3:=by omega
   obtain rfl:t=0:=p.out b.out;go_wp2;go_ret;exact⟨rfl,rfl⟩
theorem oc{α:Type}{c:α→α→Int}(h:gz c):∀(p a b:List α),cmpL c (p++a) (p++b)=cmpL c a b
 |[],_,_=>rfl
 |x::p,a,b=>by
  rw[List.cons_append,List.cons_append,cmpL,h.refl,aN,if_pos rfl];exact oc h p a b
theorem tZ(xs r:List Int)(A B:Option Addr)(n m c d:Nat)(w:World)(D:Rd w (fun _=>True) 1 A n (xs.map (Value.int .i64)))(E:Rd w (fun _=>True) 1 B m (r.map (Value.int .i64)))(ad:n≤1099511627776)(W:m≤1099511627776):
  Calls Tryz.prog 165 #[.slice A n c, .slice B m d] w (bj w (.int .i64 (cmpL df xs r))):=by
 have l1:xs.length=n:=by simpa using D.1
 have l2:r.length=m:=by simpa using E.1
 have V:Hid (∀k v,xs[k]? =some v→∃g,A=some g∧w.cell? (g.add k)=some (.int .i64 v)):=fun k v y=>by
  have Q:=(List.getElem?_eq_some_iff.1 y).1;obtain⟨g,e,_,J⟩:=D.2 (by omega);exact⟨g,e,J k _ (by rw[List.getElem?_map,y];rfl)⟩
 have HB:Hid (∀k v,r[k]? =some v→∃g,B=some g∧w.cell? (g.add k)=some (.int .i64 v)):=fun k v y=>by
  have Q:=(List.getElem?_eq_some_iff.1 y).1;obtain⟨g,e,_,J⟩:=E.2 (by omega);exact⟨g,e,J k _ (by rw[List.getElem?_map,y];rfl)⟩
 have N:=Lib.hid l1;have C:=Lib.hid l2;have U:=Lib.hid (fun a b w=>gC a b w);obtain⟨R,G⟩:∃R,R=cmpL df xs r:=⟨_,rfl⟩;rw[←G];have z:=Lib.hid G;clear D E l1 l2 G;go_enter Tryz.func165,Tryz.ntmps165;go_wp2;go_loopw[11](fun i wr=>∃k:Nat,k≤n∧(∃p a b,p.length=k∧xs=p++a∧r=p++b)∧i= .int .i64 k∧w=wr)(fun i _=>n-(intOf i).toNat);case atStart=>exact⟨0,by omega,⟨[],xs,r,rfl,rfl,rfl⟩,rfl,rfl⟩
 case round=>
  obtain⟨k,Q,⟨p,a,b,hp,S,T⟩,rfl,rfl⟩:=hrel;have f:=Lib.hid hp;have l:=Lib.hid S;have j:=Lib.hid T;clear hp S T;by_cases aa:k<n
  ·have ac:(k:Int)<(n:Int):=by omega
   have H:∃v s,a=v::s:=by
    cases a with
    |nil=>
     have h:=N.out;rw[l.out,List.append_nil,f.out]at h;omega
    |cons v s=>exact⟨v,s,rfl⟩
   obtain⟨v,s,rfl⟩:=H;obtain⟨g,rfl,Y⟩:=V.out k v (by rw[l.out,List.getElem?_append_right (by rw[f.out];omega),f.out,Nat.sub_self];rfl);by_cases K:k<m
   ·have P:(k:Int)<(m:Int):=by omega
    have F:decide ((m:Int)≤(k:Int))=false:=decide_eq_false (by omega);have I:∃u o,b=u::o:=by
     cases b with
     |nil=>
      have h:=C.out;rw[j.out,List.append_nil,f.out]at h;omega
     |cons u o=>exact⟨u,o,rfl⟩
    obtain⟨u,o,rfl⟩:=I;obtain⟨ab,rfl,Z⟩:=HB.out k u (by rw[j.out,List.getElem?_append_right (by rw[f.out];omega),f.out,Nat.sub_self];rfl);go_wp2_with fail;refine(U.out v u _).mono ?_;rintro e w'⟨rfl,rfl⟩;have M:=Lib.hid (EJ v u);generalize Bo v u=O at*;by_cases q:O=0
    ·subst q;have L:Hid (v=u):=dW.eq v u M.out.symm;go_wp2;go_roundw;case rel=>exact⟨k+1,by omega,⟨p++[v],s,o,by rw[List.length_append,f.out];rfl,by rw[l.out];simp,by rw[j.out,L.out];simp⟩,by go_num,trivial⟩
     case measure=>simp[intOf];omega
    ·have t1:=re q;obtain rfl:R=O:=by
      rw[z.out,l.out,j.out,oc dW,cmpL,←M.out,aN,if_neg q]
     go_wp2;go_ret;exact⟨rfl,rfl⟩
   ·have F:decide ((m:Int)≤(k:Int))=true:=decide_eq_true (by omega);have X:¬(k:Int)<(m:Int):=by omega
    have I:b=[]:=by
     have h:=congrArg List.length j.out;rw[C.out,List.length_append,f.out]at h;exact List.length_eq_zero_iff.1 (by omega)
    subst I;obtain rfl:R=1:=by rw[z.out,l.out,j.out,oc dW];rfl
    go_wp2;go_ret;exact⟨rfl,rfl⟩
  ·obtain rfl:k=n:=by omega
   have H:a=[]:=by
    have h:=congrArg List.length l.out;rw[N.out,List.length_append,f.out]at h;exact List.length_eq_zero_iff.1 (by omega)
   subst H;have t:Hid (R=cmpL df [] b):=by simp only[Hid];rw[z.out,l.out,j.out,oc dW]
   have x:Hid (m=k+b.length):=by
    have h:=congrArg List.length j.out;rw[C.out,List.length_append,f.out]at h;exact h
   by_cases K:k<m
   ·have P:(k:Int)<(m:Int):=by omega
    obtain rfl:R=-1:=by
     rw[t.out];cases b with
     |nil=>have:=x.out;simp at this;omega
     |cons u o=>rfl
    go_wp2;go_ret;exact⟨rfl,rfl⟩
   ·have P:¬(k:Int)<(m:Int):=by omega
    obtain rfl:R=0:=by
     rw[t.out];cases b with
     |nil=>rfl
     |cons u o=>have:=x.out;simp at this;omega
    go_wp2;go_ret;exact⟨rfl,rfl⟩
def jP(a b:ByteArray):Int:=if a=b then 0 else if cC a=true then(if cC b=true then cmpL df (im a) (im b)else-1)else if cC b=true then 1 else kh a b
theorem vz(s:ByteArray):(im s).length≤9:=by rw[im,List.length_map];exact tD s
theorem jR(a b:ByteArray)(w:World)(p:a.size≤1099511627776)(q:b.size≤1099511627776):Calls Tryz.prog 134 #[.string a, .string b] w (aH w (.int .i64 (jP a b))):=by
 by_cases e:a=b;·subst e;rw[show jP a a=0 by simp[jP]];refine(nC a w).mono ?_;rintro e w'⟨rfl,rfl⟩;exact⟨rfl,Fr.refl _ _⟩
 ·have F:(a.toList==b.toList)=false:=by rw[beq_eq_false_iff_ne];exact fun h=>e (toList_inj h)
  have j:=Lib.hid (fun w=>lZ a w p);have k:=Lib.hid (fun w=>lZ b w q);have u:=Lib.hid (fun w=>zI a b w);have f:Hid (jP a b=if cC a=true then(if cC b=true then cmpL df (im a) (im b)else-1)else if cC b=true then 1 else kh a b):=by simp only[Hid,jP];rw[if_neg e]
  have g:=Lib.hid (fun w h=>oy a w p h);have i:=Lib.hid (fun w h=>oy b w q h);have l:=Lib.hid (vz a);have m:=Lib.hid (vz b);generalize jP a b=H at*;generalize cC a=va at*;generalize cC b=r at*;clear e;go_enter Tryz.func134,Tryz.ntmps134;go_wp2_with fail;refine(j.out _).mono ?_;rintro e w1⟨rfl,f1⟩;have o:=Lib.hid f1;clear f1;go_wp2_with fail;refine(k.out _).mono ?_;rintro e w2⟨rfl,f2⟩;have d:=Lib.hid (o.out.trans f2);clear f2 o;cases va
  ·cases r;·go_wp2_with fail;refine(u.out _).mono ?_;rintro e w'⟨rfl,rfl⟩;go_wp2;go_ret;rw[f.out];exact⟨rfl,d.out⟩
   ·go_wp2;go_ret;rw[f.out];exact⟨rfl,d.out⟩
  ·cases r;·go_wp2;go_ret;rw[f.out];exact⟨rfl,d.out⟩
   ·go_wp2_with fail;refine(g.out _ (by first|rfl|trivial)).mono ?_;rintro e G⟨v,rfl,c⟩;obtain⟨s,m1,C,rfl,H1,_⟩:=aP c.own;obtain rfl:=H1.out;have x:=Lib.hid (d.out.trans c.al);have A:=Lib.hid (Rd.gj c.own);clear c;go_wp2_with fail;refine(i.out _ (by first|rfl|trivial)).mono ?_;rintro e E⟨v,rfl,c⟩;obtain⟨t,m2,D,rfl,z,_⟩:=aP c.own;obtain rfl:=z.out;have y:=Lib.hid (x.out.trans c.al);have B:=Lib.hid (Rd.gj c.own);have n:=Lib.hid (A.out.al c.al);clear c;go_wp2_with fail;refine(tZ (im a) (im b) s t _ _ C D E n.out.any B.out.any (by have:=l.out;omega) (by have:=m.out;omega)).mono ?_;rintro e w'⟨rfl,rfl⟩;go_wp2;go_ret;rw[f.out];exact⟨rfl,y.out⟩
def cp(n m:aD):Int:=aN (df n.kind m.kind) (aN (jP n.owner m.owner) (aN (df n.number m.number) (aN (df n.index m.index) (kh n.text m.text))))
theorem fO(n m:aD)(w:World)(O:n.owner.size≤1099511627776)(hm:m.owner.size≤1099511627776):Calls Tryz.prog 128 #[.agg n.cells.toArray, .agg m.cells.toArray] w (aH w (.int .i64 (cp n m))):=by
 have V:Hid (∀w,Calls Tryz.prog 133 #[.int .i64 n.kind, .int .i64 m.kind] w (bj w (.int .i64 (df n.kind m.kind)))):=fun w=>gC _ _ w;have W:=Lib.hid (fun w=>jR n.owner m.owner w O hm);have X:Hid (∀w,Calls Tryz.prog 133 #[.int .i64 n.number, .int .i64 m.number] w (bj w (.int .i64 (df n.number m.number)))):=fun w=>gC _ _ w;have Y:Hid (∀w,Calls Tryz.prog 133 #[.int .i64 n.index, .int .i64 m.index] w (bj w (.int .i64 (df n.index m.index)))):=fun w=>gC _ _ w;have Z:=Lib.hid (fun w=>xV n.text m.text w);have E:Hid (cp n m=aN (df n.kind m.kind) (aN (jP n.owner m.owner) (aN (df n.number m.number) (aN (df n.index m.index) (kh n.text m.text))))):=rfl;generalize cp n m=R at*;generalize df n.kind m.kind=z0 at*;generalize jP n.owner m.owner=z1 at*;generalize df n.number m.number=z2 at*;generalize df n.index m.index=z3 at*;generalize kh n.text m.text=z4 at*;clear O hm;go_enter Tryz.func128,Tryz.ntmps128;go_wp2_with(refine au rfl 106 (.tmp 0) rfl n.cells.toArray rfl ?_);intro w1 n1;have F:=Lib.hid n1;clear n1;generalize y:w.heap.size=l at*;have t:Hid (ak w1 l 106 n.cells.toArray):=by have h:=F.out.az;rw[y]at h;exact h
 clear y;go_wp2_with(refine au rfl 106 (.tmp 1) rfl m.cells.toArray rfl ?_);intro w2 S;have C:=Lib.hid S;clear S;generalize z:w1.heap.size=o at*;have j:Hid (ak w2 o 106 m.cells.toArray):=by have h:=C.out.az;rw[z]at h;exact h
 clear z;have i:=Lib.hid (t.out.fr C.out.fr (fun x=>x));have D:=Lib.hid (F.out.fr.trans C.out.fr);have G:w2.cell? ⟨l,0,none⟩=some (.int .i64 n.kind):=i.out.cell 0;have I:w2.cell? ⟨o,0,none⟩=some (.int .i64 m.kind):=j.out.cell 0;have H:w2.cell? ⟨l,1,none⟩=some (.string n.owner):=i.out.cell 1;have J:w2.cell? ⟨o,1,none⟩=some (.string m.owner):=j.out.cell 1;clear F C t;go_wp2_with fail;refine(V.out _).mono ?_;rintro e w'⟨rfl,rfl⟩;by_cases q:z0=0
 ·have k:=Lib.hid q;have t0:=Ez q;clear q;go_wp2_with fail;refine(W.out _).mono ?_;rintro e aq⟨rfl,f3⟩;have p:=Lib.hid f3;clear f3 G I H J;by_cases r:z1=0
  ·have s:=Lib.hid r;have t1:=Ez r;clear r;go_upto_region 7 with fail;refine aA 15 af [Is (.pointer (some ⟨l,2,none⟩)),Is (.int .i64 n.number),Is (.pointer (some ⟨o,2,none⟩)),Is (.int .i64 m.number),Is (.int .i64 z2),Is (.pointer (some ⟨l,3,none⟩)),Is (.int .i64 n.index),Is (.pointer (some ⟨o,3,none⟩)),Is (.int .i64 m.index),Is (.int .i64 z3),Is (.pointer (some ⟨l,4,none⟩)),Is (.string n.text),Is (.pointer (some ⟨o,4,none⟩)),Is (.string m.text),Is (.int .i64 z4)] [] (fun _=>True) (fun _ _=>false) (by kernel_rfl) (by kernel_rfl) (by kernel_rfl) (by kernel_rfl) ⟨Is.ag _,Is.ag _,Is.ag _,Is.ag _,Is.ag _,Is.ag _,Is.ag _,Is.ag _,Is.ag _,Is.ag _,Is.ag _,Is.ag _,Is.ag _,Is.ag _,Is.ag _,trivial⟩ trivial (fun _ _ _ _ h=>h) trivial ?_ ?_
   ·refine⟨fun u w' d g a f c b=>?_,fun u w' d g a f c b=>?_,fun u w' d g a f c b=>?_,fun u w' d g a f c b=>?_,fun u w' d g a f c b=>?_,fun u w' d g a f c b=>?_,fun u w' d g a f c b=>?_,fun u w' d g a f c b=>?_,fun u w' d g a f c b=>?_,fun u w' d g a f c b=>?_,fun u w' d g a f c b=>?_,fun u w' d g a f c b=>?_,fun u w' d g a f c b=>?_,fun u w' d g a f c b=>?_,fun u w' d g a f c b=>?_,trivial⟩;all_goals simp only[List.take_succ_cons,List.take_zero,List.map_cons,List.map_nil,an,Act.put,List.setIfInBounds_toArray,List.set_cons_zero,List.set_cons_succ,Nat.reduceAdd,Nat.zero_add]
    ·clear a f c b;refine .inl ⟨by kernel_rfl,?_⟩;go_simp;exact⟨_,rfl,Fr.refl _ _,rfl,trivial⟩
    ·have q:u 0=_:=a 0 (by kernel_rfl);clear a f c b;simp only[q];refine .inl ⟨by kernel_rfl,?_⟩;have v:w'.cell? ⟨l,2,none⟩=some (.int .i64 n.number):=(i.out.fr (p.out.trans g) (fun x=>x)).cell 2;go_simp;exact⟨_,rfl,Fr.refl _ _,rfl,trivial⟩
    ·clear a f c b;refine .inl ⟨by kernel_rfl,?_⟩;go_simp;exact⟨_,rfl,Fr.refl _ _,rfl,trivial⟩
    ·have ae:u 2=_:=a 2 (by kernel_rfl);clear a f c b;simp only[ae];refine .inl ⟨by kernel_rfl,?_⟩;have v:w'.cell? ⟨o,2,none⟩=some (.int .i64 m.number):=(j.out.fr (p.out.trans g) (fun x=>x)).cell 2;go_simp;exact⟨_,rfl,Fr.refl _ _,rfl,trivial⟩
    ·have r:u 1=_:=a 1 (by kernel_rfl);have ah:u 3=_:=a 3 (by kernel_rfl);clear a f c b;simp only[r,ah];refine .inl ⟨by kernel_rfl,?_⟩;go_simp;refine(X.out _).mono ?_;rintro e T⟨rfl,rfl⟩;exact⟨_,rfl,Fr.refl _ _,rfl,trivial⟩
    ·clear a f c b;refine .inl ⟨by kernel_rfl,?_⟩;go_simp;exact⟨_,rfl,Fr.refl _ _,rfl,trivial⟩
    ·have ai:u 5=_:=a 5 (by kernel_rfl);clear a f c b;simp only[ai];refine .inl ⟨by kernel_rfl,?_⟩;have v:w'.cell? ⟨l,3,none⟩=some (.int .i64 n.index):=(i.out.fr (p.out.trans g) (fun x=>x)).cell 3;go_simp;exact⟨_,rfl,Fr.refl _ _,rfl,trivial⟩
    ·clear a f c b;refine .inl ⟨by kernel_rfl,?_⟩;go_simp;exact⟨_,rfl,Fr.refl _ _,rfl,trivial⟩
    ·have al:u 7=_:=a 7 (by kernel_rfl);clear a f c b;simp only[al];refine .inl ⟨by kernel_rfl,?_⟩;have v:w'.cell? ⟨o,3,none⟩=some (.int .i64 m.index):=(j.out.fr (p.out.trans g) (fun x=>x)).cell 3;go_simp;exact⟨_,rfl,Fr.refl _ _,rfl,trivial⟩
    ·have aj:u 6=_:=a 6 (by kernel_rfl);have am:u 8=_:=a 8 (by kernel_rfl);clear a f c b;simp only[aj,am];refine .inl ⟨by kernel_rfl,?_⟩;go_simp;refine(Y.out _).mono ?_;rintro e T⟨rfl,rfl⟩;exact⟨_,rfl,Fr.refl _ _,rfl,trivial⟩
    ·clear a f c b;refine .inl ⟨by kernel_rfl,?_⟩;go_simp;exact⟨_,rfl,Fr.refl _ _,rfl,trivial⟩
    ·have K:u 10=_:=a 10 (by kernel_rfl);clear a f c b;simp only[K];refine .inl ⟨by kernel_rfl,?_⟩;have v:w'.cell? ⟨l,4,none⟩=some (.string n.text):=(i.out.fr (p.out.trans g) (fun x=>x)).cell 4;go_simp;exact⟨_,rfl,Fr.refl _ _,rfl,trivial⟩
    ·clear a f c b;refine .inl ⟨by kernel_rfl,?_⟩;go_simp;exact⟨_,rfl,Fr.refl _ _,rfl,trivial⟩
    ·have M:u 12=_:=a 12 (by kernel_rfl);clear a f c b;simp only[M];refine .inl ⟨by kernel_rfl,?_⟩;have v:w'.cell? ⟨o,4,none⟩=some (.string m.text):=(j.out.fr (p.out.trans g) (fun x=>x)).cell 4;go_simp;exact⟨_,rfl,Fr.refl _ _,rfl,trivial⟩
    ·have L:u 11=_:=a 11 (by kernel_rfl);have N:u 13=_:=a 13 (by kernel_rfl);clear a f c b;simp only[L,N];refine .inl ⟨by kernel_rfl,?_⟩;go_simp;refine(Z.out _).mono ?_;rintro e T⟨rfl,rfl⟩;exact⟨_,rfl,Fr.refl _ _,rfl,trivial⟩
   ·intro u w' g a b;have Q:u 4=_:=a 4 (by omega);have k9:u 9=_:=a 9 (by omega);have B:u 14=_:=a 14 (by omega);clear a b;simp only[List.take_succ_cons,List.take_zero,List.map_cons,List.map_nil,an,Act.put,List.setIfInBounds_toArray,List.set_cons_zero,List.set_cons_succ,List.drop_succ_cons,List.drop_zero,Nat.reduceAdd,Nat.zero_add,Q,k9,B];have ab:=Lib.hid (D.out.trans (p.out.trans g));clear g Q k9 B;obtain⟨i0,ao,P,A,ap⟩:=info_parts qx;have ac:Hid (¬3*i0.size>2^24):=by simp only[Hid];rw[A];omega
    have ad:Hid (¬3*i0.size=0):=by simp only[Hid];rw[A];omega
    go_wp2_with fail;have U:Hid (ak (w'.alloc (.cells #[.int .i64 z2, .int .i64 z3, .int .i64 z4] 3)) w'.heap.size 3 #[.int .i64 z2, .int .i64 z3, .int .i64 z4]):=ak.new _ _ _;have aa:=Lib.hid (ab.out.trans ((Fr.refl af w').alloc (.cells #[.int .i64 z2, .int .i64 z3, .int .i64 z4] 3)));refine(zJ z2 z3 z4 _ _ U.out).mono ?_;rintro e ar⟨rfl,rfl⟩;go_wp2;go_ret;rw[E.out,k.out,s.out];exact⟨rfl,aa.out⟩
  ·have t1:=re r;have s:=Lib.hid r;clear r;go_wp2;go_ret;rw[E.out,k.out,aN,if_pos rfl,aN,if_neg s.out];exact⟨rfl,D.out.trans p.out⟩
 ·have t0:=re q;have k:=Lib.hid q;clear q;go_wp2;go_ret;rw[E.out,aN,if_neg k.out];exact⟨rfl,D.out⟩
end Go.Proofs.YtphjagkehiklkaaGreatDoor
