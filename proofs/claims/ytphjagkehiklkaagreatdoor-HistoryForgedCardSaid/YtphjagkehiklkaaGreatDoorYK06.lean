/- Texts. -/
import Derived.Test.YtphjagkehiklkaaGreatDoorYK05
set_option linter.unusedVariables false
set_option linter.unusedSimpArgs false
set_option maxRecDepth 100000
set_option maxHeartbeats 8000000
namespace Go.Proofs.YtphjagkehiklkaaGreatDoor
open Go.RowKit Go.Shelf
attribute[local go_sem]Oper.semAt_some
structure ot{α:Type}(b d:World)(g2:Nat)(c e:TypeId)(sz:Nat)(a:List α→Nat)(cells:List α→List Value)(pre:List α)(W:World):Prop where
 fr:Fr ag b W
 kn:KP d W
 row:∃v,ao W g2 c #[v]∧W.ownsRow 0 e sz v (a pre) (cells pre)∧∀k,v.ownBlock=some k→b.heap.size≤k∧k≠g2
theorem ot.iX{α:Type}{r y:World}{g2:Nat}{s e:TypeId}{sz B:Nat}{l:List α→Nat}{cells:List α→List Value}(u:g2<B)(z:r.heap.size≤B):OwnFrom B (ot r y g2 s e sz l cells):=by
 intro pre X Y row h w o;have b:∀k,k<B→some k≠row:=fun k q e=>by have:=(o k e.symm).1;omega
 have j:Fr (fun k=>some k=row) X Y:=Fr.grown w;obtain⟨v,mO,a,x⟩:=h.row;refine⟨h.fr.aw j (fun i A e=>absurd e (b i (by omega))),h.kn.trans (KP.fr j (fun g t cs _ p e=>?_)),⟨v,mO.fr j (fun e=>b _ u e),aQ a j (fun k q e=>?_),x⟩⟩;·obtain⟨_,C,d,m⟩:=o g e.symm;unfold ao at p;rw[p]at d;cases d;simp[Obj.isCells]at m
 ·obtain⟨_,C,d,m⟩:=o k e.symm;obtain⟨c,f,n⟩:=cM a q;rw[n]at d;cases d;simp[Obj.isCells]at m
theorem ot.same{α:Type}{g i W X:World}{g2:Nat}{f e:TypeId}{sz:Nat}{b:List α→Nat}{cells:List α→List Value}{pre a:List α}(h:ot g i g2 f e sz b cells pre W)(d:Fr ag W X)(j:b a=b pre)(k:cells a=cells pre):ot g i g2 f e sz b cells a X:=by
 obtain⟨v,mO,c,l⟩:=h.row;refine⟨h.fr.trans d,h.kn.trans (KP.fr d (fun _ _ _ _ _ x=>x)),⟨v,mO.fr d (fun x=>x),?_,l⟩⟩;rw[j,k];exact aQ c d (fun _ _ x=>x)
theorem ot.step{α:Type}{m D W X u l:World}{g2 B:Nat}{n e:TypeId}{sz:Nat}{d:List α→Nat}{cells:List α→List Value}{pre b:List α}{v v2:Value}
  (x:ot m D g2 n e sz d cells pre W)(G:g2<B)(H:m.heap.size≤B)(J:m.heap.size≤g2)(o:n≠9∧n≠270)(he:e≠9∧e≠270)(y:ao W g2 n #[v])
  (j:W.ownsRow 0 e sz v (d pre) (cells pre))(a:∀k,v.ownBlock=some k→m.heap.size≤k∧k≠g2)
  (A:Fr ag W X)(w:bW e sz X v u v2 (d b) (cells b))(f3:Fr (fun k=>k=g2) u l)(b3:ao l g2 n #[v2]):
  KeepsFrom B W l∧KP W l∧ot m D g2 n e sz d cells b l:=by
 have s1:m.heap.size≤W.heap.size:=x.fr.size;have s2:W.heap.size≤X.heap.size:=A.size;have M:g2<W.heap.size:=y.lt;have p:∀k,v2.ownBlock=some k→m.heap.size≤k∧k≠g2:=fun k z=>by
  rcases w.ez k z with h|h;·exact a k h
  ·constructor<;>omega
 have F:Fr (fun k=>k=g2∨v.ownBlock=some k) W l:=by
  have E:Fr (fun k=>k=g2∨v.ownBlock=some k) W u:=(A.bI).trans (w.fr.mono (fun i _ h=> .inr h));exact E.trans (f3.mono (fun i _ h=> .inl h))
 have K:KP W l:=KP.fr F (fun g t cs C q h=>by
  unfold ao at q y;rcases h with rfl|h;·rw[y]at q;cases q;exact C.elim o.1 o.2
  ·obtain⟨c,f,r⟩:=cM j h;rw[r]at q;cases q;exact C.elim he.1 he.2);refine⟨⟨F.size,fun k N _ r I=>?_⟩,K,?_,x.kn.trans K,?_⟩
 ·refine(F.block k (Array.getElem?_eq_some_iff.1 r).1 ?_).trans r;rintro(rfl|h);·omega
  ·obtain⟨c,f,s⟩:=cM j h;rw[r]at s;cases s;simp[Obj.isCells]at I
 ·refine x.fr.aw F (fun i L h=>?_);rcases h with h|h;·omega
  ·have:=(a i h).1;omega
 ·exact⟨v2,b3,aQ w.own f3 (fun k z e=>(p k z).2 e),p⟩
theorem EI(w:World):(zeroValue 251).run Tryz.prog w= .ok (.slice none 0 0) w:=by kernel_rfl
theorem pC:(Tryz.prog.info? 251).map (·.size)=some 1:=by kernel_rfl
theorem rU:(Tryz.prog.info? 3).map (fun i=>(i.zero,i.size,i.bytes))=some (some (.int .i64 0),1,8):=by kernel_rfl
theorem wM(tmps:Array Value)(w:World)(g2:Nat)(v:Value)(b:tmps.getD 2 undef= .pointer (some ⟨g2,0,none⟩))(b2:ao w g2 251 #[v]):
  (results Tryz.f166 tmps).run Tryz.prog w= .ok v w:=by
 have a:tmps[2]?.getD undef= .pointer (some ⟨g2,0,none⟩):=by simpa using b
 simp[results,Tryz.results166,a,asAddr,ey w g2 _ _ _ b2 pC (Tryz.isAgg251 w)]
def Lq(p:Part):Value:= .int .i64 (p.ord:Int)
def Di(a:List Part):List Value:=a.map Lq
structure qJ(a b:World)(g2 g3:Nat)(pre:List Part)(W:World):Prop where
 row:ot a b g3 251 3 1 List.length Di pre W
 res:∃v,ao W g2 251 #[v]
 ez:∀v,ao W g3 251 #[v]→v.ownBlock≠some g2
theorem qJ.later{b c A B:World}{g2 g3:Nat}{pre:List Part}(h:qJ b c g2 g3 pre A)(f:Fr ag A B)(d:g3<A.heap.size):qJ b c g2 g3 pre B:=
 ⟨h.row.same f rfl rfl,by obtain⟨v,g⟩:=h.res;exact⟨v,g.fr f (fun x=>x)⟩,fun v a=>h.ez v (by
  have e:=f.block g3 d (fun x=>x);unfold ao at a⊢;rw[←e];exact a)⟩
theorem qJ.iX{g k:World}{g2 g3 N:Nat}(i:g3<N)(j:g.heap.size≤N):OwnFrom N (qJ g k g2 g3):=by
 intro pre A B row h d f;obtain⟨l,_,c⟩:=mR d f;refine⟨ot.iX i j pre A B row h.row d f,by obtain⟨v,b⟩:=h.res;exact⟨v,c _ _ _ b⟩,fun v b=>h.ez v ?_⟩;obtain⟨m,a,_⟩:=h.row.row;have e:=c _ _ _ a;unfold ao at b e a⊢;rw[e]at b;cases b;exact a
def IN:Op→Bool
 | .load t _=>t==251
 |_=>false
def IP:Op→Bool
 | .store t _ _=>t==251
 |_=>false
def Lb(w:World)(s:ByteArray)(r:Ending)(w':World):Prop:=∃v,r= .returned v∧bW 3 1 w (.slice none 0 0) w' v (jk s).length ((jk s).map (Value.int .i64))
theorem pF(s:ByteArray)(w:World)(aT:s.size≤1099511627776)(P:dd s=true):Calls Tryz.prog 166 #[.string s] w (Lb w s):=by
 obtain⟨i0,aE,ad,aJ,aK⟩:=info_parts rU;have a3:=af aT;have a4:=af P;clear aT P;refine(callsIn_wide (n:=6)).1 (callsIn_of_wp_marks Tryz.func166 rfl trivial (wpIn_wide.2 ?_) rfl);simp only[Tryz.ntmps166,List.size_toArray,List.length_cons,List.length_nil,Nat.reduceAdd,Nat.reduceSub,Array.replicate_succ,Array.replicate_zero,List.push_toArray,List.append_toArray,List.nil_append,List.cons_append];go_wp2_with(refine ak rfl 251 rfl (.slice none 0 0) EI #[.slice none 0 0] rfl ?_);intro al M;have T:=af M.fr;have p:=af M.aF;have a7:Sz w w.heap.size:=Nat.le_refl _;clear M;generalize w.heap.size=g2 at*;go_wp2_with(refine ak rfl 251 rfl (.slice none 0 0) EI #[.slice none 0 0] rfl ?_);intro w2 nb;have G:=af (T.out.trans nb.fr);have R:=af (p.out.fr nb.fr (fun x=>x));have F:=af nb.aF;have aO:Sz w al.heap.size:=T.out.size;have ax:Hid (g2<al.heap.size):=p.out.lt;clear nb p T;generalize al.heap.size=g3 at*;have aM:Hid (qJ w w2 g2 g3 [] w2):=⟨⟨G.out,KP.refl _,_,F.out,⟨rfl, .inl ⟨rfl,rfl⟩⟩,fun k L=>by simp[Value.ownBlock]at L⟩,⟨_,R.out⟩,fun v m=>by
  have h:=F.out;unfold ao at h m;rw[h]at m;cases m;simp[Value.ownBlock]⟩;have ae:Hid (g3<w2.heap.size):=F.out.lt;clear F R G;go_wp2_with fail;refine(vo s _).mono ?_;rintro r aj⟨rfl,f3,b3⟩;have aq:Hid (qJ w w2 g2 g3 [] aj):=aM.out.later f3 ae.out;have aZ:=af b3;have S:Hid (w2.heap.size≤aj.heap.size):=f3.size;clear f3 b3 aM;generalize w2.heap.size=gs at*;go_wp2_with fail;refine(wpIn_wide (n:=6)).1 ?_;refine wpIn_rangeFunc_ownH rfl (by omega) (gf:=182) (lb:=#[.pointer (some ⟨gs,0,none⟩)]) rfl trivial (enters_of Tryz.func182 (by kernel_rfl) rfl)
  (ru 5 gs s aj a3.out aZ.out) (fun h k=>h.trans k) (fun W l o bf _ ho Z _=>KP.put W l o bf ho Z) (Below.refl _ _) (fun _=>rfl)
  (qJ w w2 g2 g3) (fun _ pre _=>∃x∈pre,x.e≠0) (qJ.iX (Nat.lt_of_lt_of_le ae.out S.out) aq.out.row.fr.size) (fun _ _ _ _ _ h _ _=>h) aq.out
  (fun x az W=>∃g,az=({tmps:=#[.string s,undef, .pointer (some ⟨g2,0,none⟩), .pointer (some ⟨g3,0,none⟩), .pointer (some ⟨g,0,none⟩), .string s, .func (.func 182) #[] #[.pointer (some ⟨gs,0,none⟩)], .agg #[.int .i64 x.ord, .int .i64 x.at_, .int .i64 x.e],undef,undef,undef,undef,undef,undef,undef,undef,undef],defers:=[]}:Act)∧ao W g 270 (bC x))
  (fun x az _ A B row h ba bd=>by
   obtain⟨g,e,m⟩:=h;exact⟨g,e,(mR ba bd).2.2 _ _ _ m⟩)
  ?assign ?body ?done ?stop;case assign=>
  intro l pre x W K j O;have a2:=af O;have N:=af j;clear O j;gi_wp2_with(refine cp Al rfl (by kernel_rfl) ?_);go_wp2_with(refine ak rfl 270 rfl (.agg nM) tQ nM rfl ?_);intro al M;have T:=af M.fr;have aX:=af M.aF;have a6:Sz W W.heap.size:=Nat.le_refl _;clear M;generalize W.heap.size=g at*;go_wp2_with(refine ai rfl 270 (.tmp 4) _ rfl g (bC x) rfl rfl _ _ aX.out bY rfl (dh x) ?_);intro bh bb a8;have G:Fr ag W bh:=T.out.aw a8 (fun i aS e=>by have J:i=g:=e;have:=a6;unfold Sz at this;omega);refine⟨?_,rfl⟩;refine a2.out _ _ ⟨G.size,fun k o _ ho _=>(G.block k (Array.getElem?_eq_some_iff.1 ho).1 (fun x=>x)).trans ho⟩ (KP.fr G (fun _ _ _ _ _ x=>x)) (N.out.later G (by obtain⟨v,m,_,_⟩:=N.out.row.row;exact m.lt)) ⟨g,rfl,bb⟩
 case body=>
  rintro bl pre x az W bc aG j⟨g,rfl,C⟩aa;have N:=af j;have bi:=af C;have bm:W.cell? ⟨g,0,none⟩=some (.int .i64 x.ord):=C.cell 0;have bn:W.cell? ⟨g,2,none⟩=some (.int .i64 x.e):=C.cell 2;obtain⟨v2,z⟩:=j.res;obtain⟨v,b3,b,a⟩:=j.row.row;obtain⟨E,m1,I,rfl,H1,a0⟩:=aW b;have ah:=af (j.ez _ b3);have d:=af b;have u:=af a;have p:=af z;have F:=af b3;have c3:W.cell? ⟨g3,0,none⟩=some (.slice E m1 I):=b3.cell 0;have ar:Hid (pre.length<9):=Nat.lt_of_lt_of_le aa (uZ s);clear j C aa bc aG z b3 b a;by_cases aI:x.e=0
  ·have aL:((x.e:Int)==0)=true:=by rw[beq_iff_eq];omega
   gi_wp2_with(refine cp IN rfl (by kernel_rfl) ?_);go_wp2_with(at_builtin;refine dE _ rfl _ _ 251 rfl 3 i0 (.int .i64 0) 1 8 Tryz.underlying251 aE ad aJ aK rfl (by omega) _ _ _ rfl d.out 1 _ _ rfl rfl rfl ?zA ?zB (by omega) ?_);case zA=>simp[Value.oneCell']
   case zB=>have:=ar.out;omega
   intro bg aV aR;have X:=af aR;clear aR;have ap:Hid (ao aV g3 251 #[.slice E m1 I]):=F.out.fr X.out.fr (fun e=>(u.out _ e).2 rfl);obtain⟨am,m2,aC,rfl,_,_⟩:=aW X.out.own;go_wp2_with(refine bV rfl 251 (.tmp 3) _ rfl g3 (.slice am m2 aC) rfl rfl rfl _ _ ap.out pC ?_);intro y3 H f3;refine⟨?_,rfl⟩;have av:bW 3 1 W (.slice E m1 I) aV (.slice am m2 aC) ((pre++[x]).length) (Di (pre++[x])):=by
    have h:=X.out;rw[aY,Di,List.map_append];exact h
   have y:=ot.step (v:= .slice E m1 I) (v2:= .slice am m2 aC) N.out.row ae.out (Nat.le_trans aO (Nat.le_of_lt ae.out)) aO (by decide) (by decide) F.out d.out u.out aA av f3 H;have an:ao y3 g2 251 #[v2]:=(p.out.fr X.out.fr ah.out).fr f3 (fun e=>by have J:g2=g3:=e;have:=ax.out;omega);have V:KeepsFrom aj.heap.size W y3:=⟨y.1.size,fun q o ac ho Z=>y.1.same q o (Nat.le_trans S.out ac) ho Z⟩;refine⟨V,y.2.1,⟨y.2.2,⟨_,an⟩,fun v P e=>?_⟩⟩;unfold ao at P H;rw[H]at P;cases P;rcases X.out.ez _ e with h|h;·exact ah.out h
   ·have:=p.out.lt;omega
  ·have aL:((x.e:Int)==0)=false:=by rw[beq_eq_false_iff_ne];omega
   have a5:=af aI;gi_wp2_with(refine cp IP rfl (by kernel_rfl) ?_);go_wp2_with(refine bV rfl 251 (.tmp 2) _ rfl g2 (.slice none 0 0) rfl rfl rfl _ _ p.out pC ?_);intro Q aB Y;refine⟨?_,rfl⟩;gi_wp2;refine⟨⟨Y.size,fun q o bk ho Z=>(Y.block q (Array.getElem?_eq_some_iff.1 ho).1 (fun ac=>?_)).trans ho⟩,x,by simp,a5.out⟩;have e:q=g2:=ac;subst e;have m:=p.out;unfold ao at m;rw[m]at ho;cases ho;simp[Obj.isCells]at Z
 case done=>
  rintro D xs W aD rfl j O;obtain⟨v2,z⟩:=j.res;obtain⟨v,b3,b,a⟩:=j.row.row;obtain⟨E,m1,I,rfl,H1,a0⟩:=aW b;have au:=af O;have a1:=af aD;have N:=af j;have ah:=af (j.ez _ b3);have d:=af b;have u:=af a;have p:=af z;have c3:W.cell? ⟨g3,0,none⟩=some (.slice E m1 I):=b3.cell 0;clear j aD O z b3 b a;go_wp2_with(refine bV rfl 251 (.tmp 2) _ rfl g2 (.slice E m1 I) rfl rfl rfl _ _ p.out pC ?_);intro Q aB Y;have aN:=af aB;have V:=af Y;have U:Hid (Q.heap[D]? =some (.deferred (some []))):=by
   refine(V.out.block D (Array.getElem?_eq_some_iff.1 au.out).1 (fun ac=>?_)).trans au.out;have a9:=au.out;have e:D=g2:=ac;subst e;have aH:=p.out;unfold ao at aH;rw[a9]at aH;cases aH
  clear aB Y c3;go_wp2;refine⟨by simp, .inl ⟨_,_,rfl,run_takeDeferred U.out,?_⟩⟩;have ay:Fr (fun k=>some k=some D) Q (Q.putObj D (.deferred none)):=Fr.grown (grownBy_putObj' Q D _);have aU:∀g,(∃c t f,Q.heap[g]? =some (.cells c t f))→¬(some g=some D):=fun g⟨c,t,f,m⟩e=>by
   have J:g=D:=by simpa using e
   subst J;rw[U.out]at m;cases m
  refine⟨_,wM _ _ g2 _ rfl (aN.out.fr ay (aU g2 ⟨_,_,_,aN.out⟩)),⟨_,rfl,⟨?_,?_,fun k L=> .inr (u.out k L).1⟩⟩⟩
  ·have aP:=aQ d.out V.out (fun k L e=>by have J:k=g2:=e;subst J;exact ah.out L);have z:=aQ aP ay (fun k L e=>by
    obtain⟨c,f,ho⟩:=cM aP L;exact aU k ⟨_,_,_,ho⟩ e);rw[jk,List.length_map,List.map_map];exact z
  ·refine((N.out.row.fr.aw V.out (fun i aS e=>?_)).aw ay (fun i aS e=>?_)).bI;·have J:i=g2:=e;have z:=a7;unfold Sz at z;omega
   ·have J:i=D:=by simpa using e
    have:=a1.out;have:=aq.out.row.fr.size;omega
 case stop=>
  rintro D bj pre W aD ab⟨x,be,aI⟩O;have h:=a4.out;rw[dd,List.all_eq_true]at h;have:=h x (ab.subset be);simp only[beq_iff_eq]at this;exact absurd this aI
end Go.Proofs.YtphjagkehiklkaaGreatDoor
namespace Go.Proofs.YtphjagkehiklkaaGreatDoor
open Go.RowKit Go.Shelf
theorem Ik(a b:Int):Ek a b=dS a b:=rfl
theorem zJ(a b:ByteArray)(w:World):Calls Tryz.prog 161 #[.string a, .string b] w (bG w (.int .i64 (ln a b))):=by
 have c:=af (fun a w=>Cr a w);have d:=af (uB a b);have key:∀r,ln a b=r→Calls Tryz.prog 161 #[.string a, .string b] w (bG w (.int .i64 r))→Calls Tryz.prog 161 #[.string a, .string b] w (bG w (.int .i64 (ln a b))):=fun r h k=>by rw[h];exact k
 by_cases f:Op.bytesLess a.toList b.toList=true;·refine key (-1) (by rw[d.out,if_pos f]) ?_;clear key d;go_enter Tryz.func161,Tryz.ntmps161;go_wp2_with fail;refine(c.out a _).mono ?_;rintro e w'⟨rfl,rfl⟩;go_wp2_with fail;refine(c.out b _).mono ?_;rintro e w'⟨rfl,rfl⟩;go_wp2;go_ret;exact⟨rfl,rfl⟩
 ·have i:Op.bytesLess a.toList b.toList=false:=by simpa using f
  by_cases e:a=b
  ·subst e;refine key 0 (by rw[d.out,if_neg f,if_pos rfl]) ?_;clear key d;have g:(a.toList==a.toList)=true:=by simp
   go_enter Tryz.func161,Tryz.ntmps161;go_wp2_with fail;refine(c.out a _).mono ?_;rintro e w'⟨rfl,rfl⟩;go_wp2_with fail;refine(c.out a _).mono ?_;rintro e w'⟨rfl,rfl⟩;go_wp2;go_ret;exact⟨rfl,rfl⟩
  ·refine key 1 (by rw[d.out,if_neg f,if_neg e]) ?_;have g:(a.toList==b.toList)=false:=by rw[beq_eq_false_iff_ne];exact fun h=>e (toList_inj h)
   clear key d e;go_enter Tryz.func161,Tryz.ntmps161;go_wp2_with fail;refine(c.out a _).mono ?_;rintro e w'⟨rfl,rfl⟩;go_wp2_with fail;refine(c.out b _).mono ?_;rintro e w'⟨rfl,rfl⟩;go_wp2;go_ret;exact⟨rfl,rfl⟩
theorem Gl(a:ByteArray)(w:World):Calls Tryz.prog 180 #[.string a] w (bG w (.bool false)):=by
 go_enter Tryz.func180,Tryz.ntmps180;go_wp2;go_ret;exact⟨rfl,rfl⟩
theorem Ce(a b:ByteArray)(w:World):Calls Tryz.prog 167 #[.string a, .string b] w (bG w (.int .i64 (ln a b))):=by
 have c:=af (fun a w=>Gl a w);have d:=af (uB a b);have key:∀r,ln a b=r→Calls Tryz.prog 167 #[.string a, .string b] w (bG w (.int .i64 r))→Calls Tryz.prog 167 #[.string a, .string b] w (bG w (.int .i64 (ln a b))):=fun r h k=>by rw[h];exact k
 by_cases f:Op.bytesLess a.toList b.toList=true;·refine key (-1) (by rw[d.out,if_pos f]) ?_;clear key d;go_enter Tryz.func167,Tryz.ntmps167;go_wp2_with fail;refine(c.out a _).mono ?_;rintro e w'⟨rfl,rfl⟩;go_wp2_with fail;refine(c.out b _).mono ?_;rintro e w'⟨rfl,rfl⟩;go_wp2;go_ret;exact⟨rfl,rfl⟩
 ·have i:Op.bytesLess a.toList b.toList=false:=by simpa using f
  by_cases e:a=b
  ·subst e;refine key 0 (by rw[d.out,if_neg f,if_pos rfl]) ?_;clear key d;have g:(a.toList==a.toList)=true:=by simp
   go_enter Tryz.func167,Tryz.ntmps167;go_wp2_with fail;refine(c.out a _).mono ?_;rintro e w'⟨rfl,rfl⟩;go_wp2_with fail;refine(c.out a _).mono ?_;rintro e w'⟨rfl,rfl⟩;go_wp2;go_ret;exact⟨rfl,rfl⟩
  ·refine key 1 (by rw[d.out,if_neg f,if_neg e]) ?_;have g:(a.toList==b.toList)=false:=by rw[beq_eq_false_iff_ne];exact fun h=>e (toList_inj h)
   clear key d e;go_enter Tryz.func167,Tryz.ntmps167;go_wp2_with fail;refine(c.out a _).mono ?_;rintro e w'⟨rfl,rfl⟩;go_wp2_with fail;refine(c.out b _).mono ?_;rintro e w'⟨rfl,rfl⟩;go_wp2;go_ret;exact⟨rfl,rfl⟩
theorem Ia{x:Int}(h:x=0):(x==0)=true:=by subst h;rfl
theorem sH{x:Int}(h:x≠0):(x==0)=false:=by rw[beq_eq_false_iff_ne];exact h
theorem zw(x y z:Int):∀(k:Nat)(v:Int),([x,y,z])[k]? =some v→v≠0→(∀(j:Nat)(u:Int),j<k→([x,y,z])[j]? =some u→u=0)→aU x (aU y z)=v
 |0,v,a,c,b=>by
  obtain rfl:x=v:=by simpa using a
  simp[aU,c]
 |1,v,a,c,b=>by
  obtain rfl:y=v:=by simpa using a
  have:=b 0 x (by omega) rfl;simp[aU,this,c]
 |2,v,a,c,b=>by
  obtain rfl:z=v:=by simpa using a
  have d:=b 0 x (by omega) rfl;have e:=b 1 y (by omega) rfl;simp[aU,d,e]
 |k+3,v,a,_,_=>by simp at a
theorem yf(x y z:Int)(a:∀(j:Nat)(u:Int),j<3→([x,y,z])[j]? =some u→u=0):aU x (aU y z)=0:=by
 have b:=a 0 x (by omega) rfl;have c:=a 1 y (by omega) rfl;have d:=a 2 z (by omega) rfl;simp[aU,b,c,d]
theorem Rd.any{w:World}{S:Nat→Prop}{size n:Nat}{A:Option Addr}{xs:List Value}(h:Rd w S size A n xs):Rd w (fun _=>True) size A n xs:=
 ⟨h.1,fun c=>by obtain⟨a,e,_,b⟩:=h.2 c;exact⟨a,e,trivial,b⟩⟩
theorem Cf(x y z:Int)(g:Nat)(w:World)(h:ao w g 3 #[.int .i64 x, .int .i64 y, .int .i64 z]):Calls Tryz.prog 132 #[.slice (some ⟨g,0,none⟩) 3 3] w (bG w (.int .i64 (aU x (aU y z)))):=by
 have HB:=af h;have n:Hid (∀k:Nat,k<3→∃v:Int,([x,y,z])[k]? =some v∧w.cell? ⟨g,k,none⟩=some (.int .i64 v)):=fun k f=>by
  match k,f with
  |0,_=>exact⟨x,rfl,h.cell 0⟩
  |1,_=>exact⟨y,rfl,h.cell 1⟩
  |2,_=>exact⟨z,rfl,h.cell 2⟩
 clear h;have o:Hid (∀(k:Nat)(v:Int),([x,y,z])[k]? =some v→v≠0→(∀(j:Nat)(u:Int),j<k→([x,y,z])[j]? =some u→u=0)→aU x (aU y z)=v):=fun k v=>zw x y z k v;have p:Hid ((∀(j:Nat)(u:Int),j<3→([x,y,z])[j]? =some u→u=0)→aU x (aU y z)=0):=yf x y z;generalize aU x (aU y z)=t at*;go_enter Tryz.func132,Tryz.ntmps132;go_wp2;go_loopw[8](fun i wr=>∃k:Nat,k≤3∧(∀j u,j<k→([x,y,z])[j]? =some u→u=0)∧i= .int .i64 k∧w=wr)(fun i _=>3-(intOf i).toNat);case atStart=>exact⟨0,by omega,fun j u h=>by omega,rfl,rfl⟩
 case round=>
  obtain⟨k,f,m,rfl,rfl⟩:=hrel;have b:=af m;clear m;by_cases c:k<3
  ·have q:(k:Int)<3:=by omega
   obtain⟨v,l,r⟩:=n.out k c;have d:=af l;clear l;by_cases a:v=0
   ·subst a;go_wp2;go_roundw
    case rel=>exact⟨k+1,by omega,fun j u s hu=>by
      by_cases e:j=k;·subst e;have:=d.out;rw[hu]at this;cases this;rfl
      ·exact b.out j u (by omega) hu,by go_num,trivial⟩
    case measure=>simp[intOf];omega
   ·have t1:=sH a;obtain rfl:t=v:=o.out k v d.out a b.out;go_wp2;go_ret;exact⟨rfl,rfl⟩
  ·obtain rfl:k=3:=by omega
   obtain rfl:t=0:=p.out b.out;go_wp2;go_ret;exact⟨rfl,rfl⟩
theorem pj{α:Type}{c:α→α→Int}(h:gI c):∀(p a b:List α),cmpL c (p++a) (p++b)=cmpL c a b
 |[],_,_=>rfl
 |x::p,a,b=>by
  rw[List.cons_append,List.cons_append,cmpL,h.refl,aU,if_pos rfl];exact pj h p a b
theorem vK(xs r:List Int)(A B:Option Addr)(n m c d:Nat)(w:World)(D:Rd w (fun _=>True) 1 A n (xs.map (Value.int .i64)))(E:Rd w (fun _=>True) 1 B m (r.map (Value.int .i64)))(ad:n≤1099511627776)(W:m≤1099511627776):
  Calls Tryz.prog 165 #[.slice A n c, .slice B m d] w (bG w (.int .i64 (cmpL dS xs r))):=by
 have l1:xs.length=n:=by simpa using D.1
 have l2:r.length=m:=by simpa using E.1
 have V:Hid (∀k v,xs[k]? =some v→∃g,A=some g∧w.cell? (g.add k)=some (.int .i64 v)):=fun k v y=>by
  have Q:=(List.getElem?_eq_some_iff.1 y).1;obtain⟨g,e,_,J⟩:=D.2 (by omega);exact⟨g,e,J k _ (by rw[List.getElem?_map,y];rfl)⟩
 have HB:Hid (∀k v,r[k]? =some v→∃g,B=some g∧w.cell? (g.add k)=some (.int .i64 v)):=fun k v y=>by
  have Q:=(List.getElem?_eq_some_iff.1 y).1;obtain⟨g,e,_,J⟩:=E.2 (by omega);exact⟨g,e,J k _ (by rw[List.getElem?_map,y];rfl)⟩
 have N:=af l1;have C:=af l2;have U:=af (fun a b w=>iq a b w);obtain⟨R,G⟩:∃R,R=cmpL dS xs r:=⟨_,rfl⟩;rw[←G];have z:=af G;clear D E l1 l2 G;go_enter Tryz.func165,Tryz.ntmps165;go_wp2;go_loopw[11](fun i wr=>∃k:Nat,k≤n∧(∃p a b,p.length=k∧xs=p++a∧r=p++b)∧i= .int .i64 k∧w=wr)(fun i _=>n-(intOf i).toNat);case atStart=>exact⟨0,by omega,⟨[],xs,r,rfl,rfl,rfl⟩,rfl,rfl⟩
 case round=>
  obtain⟨k,Q,⟨p,a,b,hp,S,T⟩,rfl,rfl⟩:=hrel;have f:=af hp;have l:=af S;have j:=af T;clear hp S T;by_cases aa:k<n
  ·have ac:(k:Int)<(n:Int):=by omega
   have H:∃v s,a=v::s:=by
    cases a with
    |nil=>
     have h:=N.out;rw[l.out,List.append_nil,f.out]at h;omega
    |cons v s=>exact⟨v,s,rfl⟩
   obtain⟨v,s,rfl⟩:=H;obtain⟨g,rfl,Y⟩:=V.out k v (by rw[l.out,List.getElem?_append_right (by rw[f.out];omega),f.out,Nat.sub_self];rfl);by_cases K:k<m
   ·have P:(k:Int)<(m:Int):=by omega
    have F:decide ((m:Int)≤(k:Int))=false:=cN (by omega);have I:∃u o,b=u::o:=by
     cases b with
     |nil=>
      have h:=C.out;rw[j.out,List.append_nil,f.out]at h;omega
     |cons u o=>exact⟨u,o,rfl⟩
    obtain⟨u,o,rfl⟩:=I;obtain⟨ab,rfl,Z⟩:=HB.out k u (by rw[j.out,List.getElem?_append_right (by rw[f.out];omega),f.out,Nat.sub_self];rfl);go_wp2_with fail;refine(U.out v u _).mono ?_;rintro e w'⟨rfl,rfl⟩;have M:=af (Ik v u);generalize Ek v u=O at*;by_cases q:O=0
    ·subst q;have L:Hid (v=u):=eT.eq v u M.out.symm;go_wp2;go_roundw;case rel=>exact⟨k+1,by omega,⟨p++[v],s,o,by rw[aY,f.out];rfl,by rw[l.out];simp,by rw[j.out,L.out];simp⟩,by go_num,trivial⟩
     case measure=>simp[intOf];omega
    ·have t1:=sH q;obtain rfl:R=O:=by
      rw[z.out,l.out,j.out,pj eT,cmpL,←M.out,aU,if_neg q]
     go_wp2;go_ret;exact⟨rfl,rfl⟩
   ·have F:decide ((m:Int)≤(k:Int))=true:=dJ (by omega);have X:¬(k:Int)<(m:Int):=by omega
    have I:b=[]:=by
     have h:=congrArg List.length j.out;rw[C.out,aY,f.out]at h;exact List.length_eq_zero_iff.1 (by omega)
    subst I;obtain rfl:R=1:=by rw[z.out,l.out,j.out,pj eT];rfl
    go_wp2;go_ret;exact⟨rfl,rfl⟩
  ·obtain rfl:k=n:=by omega
   have H:a=[]:=by
    have h:=congrArg List.length l.out;rw[N.out,aY,f.out]at h;exact List.length_eq_zero_iff.1 (by omega)
   subst H;have t:Hid (R=cmpL dS [] b):=by simp only[Hid];rw[z.out,l.out,j.out,pj eT]
   have x:Hid (m=k+b.length):=by
    have h:=congrArg List.length j.out;rw[C.out,aY,f.out]at h;exact h
   by_cases K:k<m
   ·have P:(k:Int)<(m:Int):=by omega
    obtain rfl:R=-1:=by
     rw[t.out];cases b with
     |nil=>have:=x.out;simp at this;omega
     |cons u o=>rfl
    go_wp2;go_ret;exact⟨rfl,rfl⟩
   ·have P:¬(k:Int)<(m:Int):=by omega
    obtain rfl:R=0:=by
     rw[t.out];cases b with
     |nil=>rfl
     |cons u o=>have:=x.out;simp at this;omega
    go_wp2;go_ret;exact⟨rfl,rfl⟩
def kC(a b:ByteArray):Int:=if a=b then 0 else if dd a=true then(if dd b=true then cmpL dS (jk a) (jk b)else-1)else if dd b=true then 1 else ln a b
theorem xB(s:ByteArray):(jk s).length≤9:=by rw[jk,List.length_map];exact uZ s
theorem kG(a b:ByteArray)(w:World)(p:a.size≤1099511627776)(q:b.size≤1099511627776):Calls Tryz.prog 134 #[.string a, .string b] w (aK w (.int .i64 (kC a b))):=by
 by_cases e:a=b;·subst e;rw[show kC a a=0 by simp[kC]];refine(oL a w).mono ?_;rintro e w'⟨rfl,rfl⟩;exact aG
 ·have F:(a.toList==b.toList)=false:=by rw[beq_eq_false_iff_ne];exact fun h=>e (toList_inj h)
  have j:=af (fun w=>nh a w p);have k:=af (fun w=>nh b w q);have u:=af (fun w=>Ce a b w);have f:Hid (kC a b=if dd a=true then(if dd b=true then cmpL dS (jk a) (jk b)else-1)else if dd b=true then 1 else ln a b):=by simp only[Hid,kC];rw[if_neg e]
  have g:=af (fun w h=>pF a w p h);have i:=af (fun w h=>pF b w q h);have l:=af (xB a);have m:=af (xB b);generalize kC a b=H at*;generalize dd a=va at*;generalize dd b=r at*;clear e;go_enter Tryz.func134,Tryz.ntmps134;go_wp2_with fail;refine(j.out _).mono ?_;rintro e w1⟨rfl,f1⟩;have o:=af f1;clear f1;go_wp2_with fail;refine(k.out _).mono ?_;rintro e w2⟨rfl,f2⟩;have d:=af (o.out.trans f2);clear f2 o;cases va
  ·cases r;·go_wp2_with fail;refine(u.out _).mono ?_;rintro e w'⟨rfl,rfl⟩;go_wp2;go_ret;rw[f.out];exact⟨rfl,d.out⟩
   ·go_wp2;go_ret;rw[f.out];exact⟨rfl,d.out⟩
  ·cases r;·go_wp2;go_ret;rw[f.out];exact⟨rfl,d.out⟩
   ·go_wp2_with fail;refine(g.out _ (by first|rfl|trivial)).mono ?_;rintro e G⟨v,rfl,c⟩;obtain⟨s,m1,C,rfl,H1,_⟩:=aW c.own;obtain rfl:=H1.out;have x:=af (d.out.trans c.aq);have A:=af (Rd.gO c.own);clear c;go_wp2_with fail;refine(i.out _ (by first|rfl|trivial)).mono ?_;rintro e E⟨v,rfl,c⟩;obtain⟨t,m2,D,rfl,z,_⟩:=aW c.own;obtain rfl:=z.out;have y:=af (x.out.trans c.aq);have B:=af (Rd.gO c.own);have n:=af (A.out.aq c.aq);clear c;go_wp2_with fail;refine(vK (jk a) (jk b) s t _ _ C D E n.out.any B.out.any (by have:=l.out;omega) (by have:=m.out;omega)).mono ?_;rintro e w'⟨rfl,rfl⟩;go_wp2;go_ret;rw[f.out];exact⟨rfl,y.out⟩
def bX(n m:aI):Int:=aU (dS n.kind m.kind) (aU (kC n.owner m.owner) (aU (dS n.number m.number) (aU (dS n.index m.index) (ln n.text m.text))))
theorem gT(n m:aI)(w:World)(O:n.owner.size≤1099511627776)(hm:m.owner.size≤1099511627776):Calls Tryz.prog 128 #[.agg n.cells.toArray, .agg m.cells.toArray] w (aK w (.int .i64 (bX n m))):=by
 have V:Hid (∀w,Calls Tryz.prog 133 #[.int .i64 n.kind, .int .i64 m.kind] w (bG w (.int .i64 (dS n.kind m.kind)))):=fun w=>iq _ _ w;have W:=af (fun w=>kG n.owner m.owner w O hm);have X:Hid (∀w,Calls Tryz.prog 133 #[.int .i64 n.number, .int .i64 m.number] w (bG w (.int .i64 (dS n.number m.number)))):=fun w=>iq _ _ w;have Y:Hid (∀w,Calls Tryz.prog 133 #[.int .i64 n.index, .int .i64 m.index] w (bG w (.int .i64 (dS n.index m.index)))):=fun w=>iq _ _ w;have Z:=af (fun w=>zJ n.text m.text w);have E:Hid (bX n m=aU (dS n.kind m.kind) (aU (kC n.owner m.owner) (aU (dS n.number m.number) (aU (dS n.index m.index) (ln n.text m.text))))):=rfl;generalize bX n m=R at*;generalize dS n.kind m.kind=z0 at*;generalize kC n.owner m.owner=z1 at*;generalize dS n.number m.number=z2 at*;generalize dS n.index m.index=z3 at*;generalize ln n.text m.text=z4 at*;clear O hm;go_enter Tryz.func128,Tryz.ntmps128;go_wp2_with(refine ay rfl 106 (.tmp 0) rfl n.cells.toArray rfl ?_);intro w1 n1;have F:=af n1;clear n1;generalize y:w.heap.size=k at*;have t:Hid (ao w1 k 106 n.cells.toArray):=by have h:=F.out.aF;rw[y]at h;exact h
 clear y;go_wp2_with(refine ay rfl 106 (.tmp 1) rfl m.cells.toArray rfl ?_);intro w2 S;have C:=af S;clear S;generalize z:w1.heap.size=l at*;have i:Hid (ao w2 l 106 m.cells.toArray):=by have h:=C.out.aF;rw[z]at h;exact h
 clear z;have g:=af (t.out.fr C.out.fr (fun x=>x));have D:=af (F.out.fr.trans C.out.fr);have G:w2.cell? ⟨k,0,none⟩=some (.int .i64 n.kind):=g.out.cell 0;have I:w2.cell? ⟨l,0,none⟩=some (.int .i64 m.kind):=i.out.cell 0;have H:w2.cell? ⟨k,1,none⟩=some (.string n.owner):=g.out.cell 1;have J:w2.cell? ⟨l,1,none⟩=some (.string m.owner):=i.out.cell 1;clear F C t;go_wp2_with fail;refine(V.out _).mono ?_;rintro e w'⟨rfl,rfl⟩;by_cases q:z0=0
 ·have j:=af q;have t0:=Ia q;clear q;go_wp2_with fail;refine(W.out _).mono ?_;rintro e av⟨rfl,f3⟩;have p:=af f3;clear f3 G I H J;by_cases r:z1=0
  ·have s:=af r;have t1:=Ia r;clear r;go_upto_region 7 with fail;refine aE 15 ag [Is (.pointer (some ⟨k,2,none⟩)),Is (.int .i64 n.number),Is (.pointer (some ⟨l,2,none⟩)),Is (.int .i64 m.number),Is (.int .i64 z2),Is (.pointer (some ⟨k,3,none⟩)),Is (.int .i64 n.index),Is (.pointer (some ⟨l,3,none⟩)),Is (.int .i64 m.index),Is (.int .i64 z3),Is (.pointer (some ⟨k,4,none⟩)),Is (.string n.text),Is (.pointer (some ⟨l,4,none⟩)),Is (.string m.text),Is (.int .i64 z4)] [] (fun _=>True) (fun _ _=>false) (by kernel_rfl) (by kernel_rfl) (by kernel_rfl) (by kernel_rfl) ⟨Is.ah _,Is.ah _,Is.ah _,Is.ah _,Is.ah _,Is.ah _,Is.ah _,Is.ah _,Is.ah _,Is.ah _,Is.ah _,Is.ah _,Is.ah _,Is.ah _,Is.ah _,trivial⟩ trivial (fun _ _ _ _ h=>h) trivial ?_ ?_
   ·refine⟨?_,?_,?_,?_,?_,?_,?_,?_,?_,?_,?_,?_,?_,?_,?_,trivial⟩;all_goals intro u w' d o a f c b
    all_goals simp only[bJ,bK,bL,bM,au,Act.put,bN,bO,bP,Nat.reduceAdd,Nat.zero_add]
    ·clear a f c b;refine aj ?_;go_simp;exact⟨_,rfl,al⟩
    ·have q:u 0=_:=a 0;clear a f c b;simp only[q];refine aj ?_;have v:w'.cell? ⟨k,2,none⟩=some (.int .i64 n.number):=(g.out.fr (p.out.trans o) (fun x=>x)).cell 2;go_simp;exact⟨_,rfl,al⟩
    ·clear a f c b;refine aj ?_;go_simp;exact⟨_,rfl,al⟩
    ·have ae:u 2=_:=a 2;clear a f c b;simp only[ae];refine aj ?_;have v:w'.cell? ⟨l,2,none⟩=some (.int .i64 m.number):=(i.out.fr (p.out.trans o) (fun x=>x)).cell 2;go_simp;exact⟨_,rfl,al⟩
    ·have r:u 1=_:=a 1;have ai:u 3=_:=a 3;clear a f c b;simp only[r,ai];refine aj ?_;go_simp;refine(X.out _).mono ?_;rintro e T⟨rfl,rfl⟩;exact⟨_,rfl,al⟩
    ·clear a f c b;refine aj ?_;go_simp;exact⟨_,rfl,al⟩
    ·have ak:u 5=_:=a 5;clear a f c b;simp only[ak];refine aj ?_;have v:w'.cell? ⟨k,3,none⟩=some (.int .i64 n.index):=(g.out.fr (p.out.trans o) (fun x=>x)).cell 3;go_simp;exact⟨_,rfl,al⟩
    ·clear a f c b;refine aj ?_;go_simp;exact⟨_,rfl,al⟩
    ·have an:u 7=_:=a 7;clear a f c b;simp only[an];refine aj ?_;have v:w'.cell? ⟨l,3,none⟩=some (.int .i64 m.index):=(i.out.fr (p.out.trans o) (fun x=>x)).cell 3;go_simp;exact⟨_,rfl,al⟩
    ·have am:u 6=_:=a 6;have ap:u 8=_:=a 8;clear a f c b;simp only[am,ap];refine aj ?_;go_simp;refine(Y.out _).mono ?_;rintro e T⟨rfl,rfl⟩;exact⟨_,rfl,al⟩
    ·clear a f c b;refine aj ?_;go_simp;exact⟨_,rfl,al⟩
    ·have K:u 10=_:=a 10;clear a f c b;simp only[K];refine aj ?_;have v:w'.cell? ⟨k,4,none⟩=some (.string n.text):=(g.out.fr (p.out.trans o) (fun x=>x)).cell 4;go_simp;exact⟨_,rfl,al⟩
    ·clear a f c b;refine aj ?_;go_simp;exact⟨_,rfl,al⟩
    ·have M:u 12=_:=a 12;clear a f c b;simp only[M];refine aj ?_;have v:w'.cell? ⟨l,4,none⟩=some (.string m.text):=(i.out.fr (p.out.trans o) (fun x=>x)).cell 4;go_simp;exact⟨_,rfl,al⟩
    ·have L:u 11=_:=a 11;have N:u 13=_:=a 13;clear a f c b;simp only[L,N];refine aj ?_;go_simp;refine(Z.out _).mono ?_;rintro e T⟨rfl,rfl⟩;exact⟨_,rfl,al⟩
   ·intro u w' o a b;have Q:u 4=_:=a 4 (by omega);have k9:u 9=_:=a 9 (by omega);have B:u 14=_:=a 14 (by omega);clear a b;simp only[bJ,bK,bL,bM,au,Act.put,bN,bO,bP,dL,dM,Nat.reduceAdd,Nat.zero_add,Q,k9,B];have ab:=af (D.out.trans (p.out.trans o));clear o Q k9 B;obtain⟨i0,aq,P,A,ar⟩:=info_parts rU;have ac:Hid (¬3*i0.size>2^24):=by simp only[Hid];rw[A];omega
    have ad:Hid (¬3*i0.size=0):=by simp only[Hid];rw[A];omega
    go_wp2_with fail;have U:Hid (ao (w'.alloc (.cells #[.int .i64 z2, .int .i64 z3, .int .i64 z4] 3)) w'.heap.size 3 #[.int .i64 z2, .int .i64 z3, .int .i64 z4]):=ao.new _ _ _;have aa:=af (ab.out.trans ((Fr.refl ag w').alloc (.cells #[.int .i64 z2, .int .i64 z3, .int .i64 z4] 3)));refine(Cf z2 z3 z4 _ _ U.out).mono ?_;rintro e aw⟨rfl,rfl⟩;go_wp2;go_ret;rw[E.out,j.out,s.out];exact⟨rfl,aa.out⟩
  ·have t1:=sH r;have s:=af r;clear r;go_wp2;go_ret;rw[E.out,j.out,aU,if_pos rfl,aU,if_neg s.out];exact⟨rfl,D.out.trans p.out⟩
 ·have t0:=sH q;have j:=af q;clear q;go_wp2;go_ret;rw[E.out,aU,if_neg j.out];exact⟨rfl,D.out⟩
end Go.Proofs.YtphjagkehiklkaaGreatDoor
namespace Go.Proofs.YtphjagkehiklkaaGreatDoor
open Go.RowKit
theorem oU{α:Type}(l:List α)(h:l≠[]):∃i x,l=i++[x]:=by
 rcases List.eq_nil_or_concat l with rfl|⟨i,b,rfl⟩;·exact absurd rfl h
 ·exact⟨i,b,by simp⟩
def oo(ds:List UInt8):Prop:=(∀b∈ds,lW b=true)∧ds≠[]∧ds[0]? ≠some 48
theorem uT{b:UInt8}(h:lW b=true):48≤b.toNat∧b.toNat≤57:=by simpa[lW]using h
theorem oo.init{i:List UInt8}{x:UInt8}(h:oo (i++[x]))(a:i≠[]):oo i:=by
 refine⟨fun b c=>h.1 b (by simp[c]),a,fun e=>h.2.2 ?_⟩;rw[List.getElem?_append_left (List.length_pos_iff.2 a)];exact e
theorem xz:∀(n:Nat)(ds:List UInt8),ds.length=n→oo ds→1≤eU ds:=by
 intro n;induction n with
 |zero=>intro ds h a;exact absurd (List.length_eq_zero_iff.1 h) a.2.1
 |succ n d=>
  intro ds h a;obtain⟨i,x,rfl⟩:=oU ds a.2.1;rw[lK];by_cases b:i=[];·subst b;have f:=uT (a.1 x (by simp));have c:x≠48:=fun e=>a.2.2 (by rw[e];rfl);have g:x.toNat≠48:=fun e=>c (UInt8.toNat_inj.1 e);omega
  ·have:=d i (by simpa using h) (a.init b);omega
theorem xy:∀(n:Nat)(ds es:List UInt8),ds.length=n→oo ds→oo es→eU ds=eU es→ds=es:=by
 intro n;induction n with
 |zero=>intro ds es h g;exact absurd (List.length_eq_zero_iff.1 h) g.2.1
 |succ n k=>
  intro ds es h c he e;obtain⟨i,x,rfl⟩:=oU ds c.2.1;obtain⟨j,y,rfl⟩:=oU es he.2.1;rw[lK,lK]at e;have l:=uT (c.1 x (by simp));have m:=uT (he.1 y (by simp));have f:x=y:=UInt8.toNat_inj.1 (by omega);have a:eU i=eU j:=by omega
  subst f;by_cases d:i=[]
  ·by_cases b:j=[];·rw[d,b]
   ·have:=xz _ j rfl (he.init b);rw[d]at a;simp[eU]at a;simp[eU]at this;omega
  ·by_cases b:j=[];·have:=xz _ i rfl (c.init d);rw[b]at a;simp[eU]at a;simp[eU]at this;omega
   ·rw[k i j (by simpa using h) (c.init d) (he.init b) a]
theorem Ck{c a:Nat}{l:List UInt8}(h:(cP c a l).1.e=0):oo (dA 7 l)∧(cP c a l).1.ord=eU (dA 7 l):=by
 simp only[cP]at h⊢;split at h;·simp at h
 ·rename_i f;rw[if_neg f];split at h;·simp at h
  ·rename_i g;rw[if_neg g];split at h;·simp at h
   ·rename_i b;rw[if_neg b];split at h;·simp at h
    ·rename_i d;rw[if_neg d];split at h;·simp at h
     ·rename_i i;rw[if_neg i];refine⟨⟨sf 7 l,b,fun e=>d ?_⟩,rfl⟩;have j:0<(dA 7 l).length:=List.length_pos_iff.2 b;rw[nP,List.getElem?_take_of_lt j]at e;exact e
theorem nN(n a:Nat)(l:List UInt8):du n a l≠[]:=by
 cases n with
 |zero=>simp[du]
 |succ n=>
  rw[du];simp only;split;·simp
  ·split;·simp
   ·split<;>simp
theorem vm{n a:Nat}{l:List UInt8}(h:∀p∈du (n+1) a l,p.e=0):
  oo (dA 7 l)∧((l=dA 7 l∧(du (n+1) a l).map (·.ord)=[eU (dA 7 l)])∨
   ∃r,l=dA 7 l++46::r∧(du (n+1) a l).map (·.ord)=eU (dA 7 l)::(du n (a+(dA 7 l).length+1) r).map (·.ord)∧∀p∈du n (a+(dA 7 l).length+1) r,p.e=0):=by
 rw[du]at h⊢;simp only at h⊢;by_cases he:(cP (7-n) a l).1.e=0
 ·rw[if_neg (by simp[he])]at h⊢;obtain⟨i,g⟩:=Ck he;refine⟨i,?_⟩;have m:=kS 7 l;have f:=nP 7 l;by_cases b:l.length≤(dA 7 l).length;·rw[if_pos b];left;refine⟨?_,by simp[g]⟩;rw[List.take_of_length_le b]at f;exact f.symm
  ·rw[if_neg b]at h⊢;by_cases c:l[(dA 7 l).length]? =some 46;·rw[if_neg (by simp[c])]at h⊢;right;refine⟨l.drop ((dA 7 l).length+1),?_,by simp[g],fun p j=>h p (by simp[j])⟩;obtain⟨d,k⟩:=List.getElem?_eq_some_iff.1 c;conv=>lhs;rw[←List.take_append_drop (dA 7 l).length l,←f,List.drop_eq_getElem_cons d,k]
   ·rw[if_pos c]at h;have:=h ⟨0,a+(dA 7 l).length,6⟩ (by simp);simp at this
 ·rw[if_pos he]at h;exact absurd (h _ (by simp)) he
theorem ta:∀(n a b:Nat)(l m:List UInt8),(∀p∈du n a l,p.e=0)→(∀p∈du n b m,p.e=0)→(du n a l).map (·.ord)=(du n b m).map (·.ord)→l=m
 |0,a,b,l,m,h,_,_=>by
  have:=h ⟨0,a,9⟩ (by simp[du]);simp at this
 |n+1,a,b,l,m,h,k,e=>by
  obtain⟨g1,o⟩:=vm h;obtain⟨g2,i⟩:=vm k;rcases o with⟨g,f⟩|⟨r,g,f,q⟩
  ·rcases i with⟨d,c⟩|⟨s,d,c,j⟩;·rw[f,c]at e;rw[g,d];exact xy _ _ _ rfl g1 g2 (by simpa using e)
   ·rw[f,c]at e;simp only[List.cons.injEq]at e;exact absurd (List.map_eq_nil_iff.1 e.2.symm) (nN _ _ _)
  ·rcases i with⟨d,c⟩|⟨s,d,c,j⟩;·rw[f,c]at e;simp only[List.cons.injEq]at e;exact absurd (List.map_eq_nil_iff.1 e.2) (nN _ _ _)
   ·rw[f,c]at e;simp only[List.cons.injEq]at e;rw[g,d,xy _ _ _ rfl g1 g2 e.1,ta n _ _ r s q j e.2]
theorem Dh{a b:ByteArray}(c:dd a=true)(d:dd b=true)(h:jk a=jk b):a=b:=by
 apply toList_inj;unfold dd at c d;rw[List.all_eq_true]at c d;simp only[beq_iff_eq]at c d;unfold jk at h;have hm:(fQ a).map (·.ord)=(fQ b).map (·.ord):=by
  have g:=congrArg (List.map Int.toNat) h;simpa[List.map_map,Function.comp_def]using g
 unfold fQ at c d hm;by_cases f:a.size=0
 ·by_cases e:b.size=0;·rw[show a.toList=[]from List.length_eq_zero_iff.1 (by rw[fh];exact f),show b.toList=[]from List.length_eq_zero_iff.1 (by rw[fh];exact e)]
  ·rw[if_pos f,if_neg e]at hm;exact absurd (List.map_eq_nil_iff.1 hm.symm) (nN _ _ _)
 ·by_cases e:b.size=0;·rw[if_neg f,if_pos e]at hm;exact absurd (List.map_eq_nil_iff.1 hm) (nN _ _ _)
  ·rw[if_neg f]at c hm;rw[if_neg e]at d hm;exact ta 8 0 0 _ _ c d hm
def rj(a:ByteArray):(Int×List Int)×ByteArray:=if dd a=true then((0,jk a),ByteArray.empty)else((1,[]),a)
theorem Gm(a b:ByteArray)(h:rj a=rj b):a=b:=by
 unfold rj at h;split at h
 ·rename_i c;split at h;·rename_i d;simp only[Prod.mk.injEq,true_and,and_true]at h;exact Dh c d h
  ·simp at h
 ·split at h;·simp at h
  ·simpa using h
def El(x y:(Int×List Int)×ByteArray):Int:=aU (aU (dS x.1.1 y.1.1) (cmpL dS x.1.2 y.1.2)) (ln x.2 y.2)
theorem zG:gI El:=((eT.lex (oB eT)).lex uA)
theorem Fq(a b:ByteArray):kC a b=El (rj a) (rj b):=by
 unfold kC;by_cases e:a=b;·subst e;rw[if_pos rfl,zG.refl]
 ·rw[if_neg e];unfold rj El;by_cases d:dd a=true
  ·rw[if_pos d,if_pos d];by_cases c:dd b=true
   ·rw[if_pos c,if_pos c];simp only[eT.refl,aU,if_true,uA.refl];split;·assumption
    ·rfl
   ·rw[if_neg c,if_neg c];rfl
  ·rw[if_neg d,if_neg d];by_cases c:dd b=true;·rw[if_pos c,if_pos c];rfl
   ·rw[if_neg c,if_neg c];simp only[eT.refl,aU,if_true,(oB eT).refl]
theorem zH:gI kC:=by
 have h:=zG.pull rj Gm;have e:kC=fun a b=>El (rj a) (rj b):=by funext a b;exact Fq a b
 rw[e];exact h
def IJ(n:aI):Int×ByteArray×Int×Int×ByteArray:=(n.kind,n.owner,n.number,n.index,n.text)
theorem cm:gI bX:=by
 have h:=(eT.lex (zH.lex (eT.lex (eT.lex uA)))).pull IJ (fun a b e=>by
  cases a;cases b;simpa[IJ]using e);exact h
end Go.Proofs.YtphjagkehiklkaaGreatDoor
namespace Go.Proofs.YtphjagkehiklkaaGreatDoor
open Go.RowKit Go.Shelf
theorem fp(a m:Int)(w:World):Calls Tryz.prog 153 #[.int .i64 a, .int .i64 m] w (bG w (.bool (decide (0≤a)&&decide (a≤m)))):=by
 by_cases b:0≤a;·have t1:decide (0≤a)=true:=decide_eq_true b;rw[t1];go_enter Tryz.func153,Tryz.ntmps153;go_wp2;go_ret;exact⟨by simp,rfl⟩
 ·have t1:decide (0≤a)=false:=decide_eq_false b;rw[t1];go_enter Tryz.func153,Tryz.ntmps153;go_wp2;go_ret;exact⟨rfl,rfl⟩
theorem sU(a:Int)(w:World):Calls Tryz.prog 152 #[.int .i64 a] w (bG w (.bool (decide (1≤a)&&decide (a≤20)))):=by
 by_cases b:1≤a;·have t1:decide (1≤a)=true:=decide_eq_true b;rw[t1];go_enter Tryz.func152,Tryz.ntmps152;go_wp2;go_ret;exact⟨by simp,rfl⟩
 ·have t1:decide (1≤a)=false:=decide_eq_false b;rw[t1];go_enter Tryz.func152,Tryz.ntmps152;go_wp2;go_ret;exact⟨rfl,rfl⟩
def nT(b:UInt8):Bool:=decide (33≤b.toNat)&&decide (b.toNat≤126)&&!(b.toNat==47)
def ks(s:ByteArray):Bool:=!s.toList.isEmpty&&decide (s.size≤32)&&s.toList.all nT
theorem EZ(s:ByteArray)(w:World)(H:s.size≤1099511627776):Calls Tryz.prog 154 #[.string s] w (bG w (.bool (ks s))):=by
 cases he:s.toList.isEmpty
 ·by_cases f:s.size≤32
  ·have t1:decide (32<(s.size:Int))=false:=cN (by omega);have D:=af he;have E:=af f;obtain⟨I,m⟩:∃I,I=ks s:=⟨_,rfl⟩;rw[←m];have d:Hid (I=s.toList.all nT):=by simp only[Hid];rw[m,ks,he,decide_eq_true f];rfl
   have l:Hid (∀i,i<s.size→∃b,∃h:i<s.size,s.toList[i]? =some b∧s[i]=b):=fun i z=>by
    have e:s.toList[i]? =some (s.toList[i]'(by rw[fh];exact z)):=List.getElem?_eq_getElem _;obtain⟨t,u⟩:=yX e;exact⟨_,t,e,u⟩
   clear f m;go_enter Tryz.func154,Tryz.ntmps154;go_wp2;go_loopw[13](fun i wr=>∃k:Nat,k≤s.size∧(∀b∈s.toList.take k,nT b=true)∧i= .int .i64 k∧w=wr)(fun i _=>s.size-(intOf i).toNat);case atStart=>exact⟨0,by omega,by simp,rfl,rfl⟩
   case round=>
    obtain⟨k,G,c,rfl,rfl⟩:=hrel;have r:=af c;clear c;by_cases n:k<s.size
    ·have v:(k:Int)<(s.size:Int):=by omega
     have y:(0:Int)≤(k:Int):=by omega
     obtain⟨b,F,e,t⟩:=l.out k n;have q:=af e;clear e;have g:∀h:nT b=false,I=false:=fun h=>by
      rw[d.out,List.all_eq_false];exact⟨b,List.mem_of_getElem? q.out,by rw[h];simp⟩
     have a:=af g;clear g;by_cases g1:33≤b.toNat
     ·have A:decide ((b.toNat:Int)<33)=false:=cN (by omega);have o:¬(b.toNat:Int)<33:=by omega
      by_cases g2:b.toNat≤126
      ·have B:decide ((126:Int)<(b.toNat:Int))=false:=cN (by omega);have p:¬(126:Int)<(b.toNat:Int):=by omega
       by_cases g3:b.toNat=47
       ·have C:((b.toNat:Int)==47)=true:=by rw[beq_iff_eq];omega
        obtain rfl:I=false:=a.out (by simp[nT,g3]);clear g1 g2 g3;go_wp2;go_ret;exact⟨rfl,rfl⟩
       ·have C:((b.toNat:Int)==47)=false:=by rw[beq_eq_false_iff_ne];omega
        have HB:Hid (nT b=true):=by simp[Hid,nT,g1,g2,g3]
        clear g1 g2 g3 a;go_wp2;go_roundw
        case rel=>exact⟨k+1,by omega,fun x j=>by
          rw[List.take_add_one,q.out,Option.toList_some,List.mem_append,List.mem_singleton]at j;rcases j with j|rfl;·exact r.out x j
          ·exact HB.out,by go_num,trivial⟩
        case measure=>simp[intOf];omega
      ·have B:decide ((126:Int)<(b.toNat:Int))=true:=dJ (by omega);have p:(126:Int)<(b.toNat:Int):=by omega
       obtain rfl:I=false:=a.out (by simp[nT,g2]);clear g1 g2;go_wp2;go_ret;exact⟨rfl,rfl⟩
     ·have A:decide ((b.toNat:Int)<33)=true:=dJ (by omega);have o:(b.toNat:Int)<33:=by omega
      obtain rfl:I=false:=a.out (by simp[nT,g1]);clear g1;go_wp2;go_ret;exact⟨rfl,rfl⟩
    ·obtain rfl:k=s.size:=by omega
     have v:¬(s.size:Int)<(s.size:Int):=by omega
     obtain rfl:I=true:=by
      rw[d.out,List.all_eq_true];have h:=r.out;rw[List.take_of_length_le (by rw[fh];omega)]at h;exact h
     go_wp2;go_ret;exact⟨rfl,rfl⟩
  ·have t1:decide (32<(s.size:Int))=true:=dJ (by omega);have d:Hid (ks s=false):=by simp[Hid,ks,f]
   rw[d.out];clear f;go_enter Tryz.func154,Tryz.ntmps154;go_wp2;go_ret;exact⟨rfl,rfl⟩
 ·have d:Hid (ks s=false):=by simp[Hid,ks,he]
  rw[d.out];go_enter Tryz.func154,Tryz.ntmps154;go_wp2;go_ret;exact⟨rfl,rfl⟩
def pP(u:gX)(n:aI):Bool:=(u.owner||n.owner.toList.isEmpty)&&(u.number||n.number==0)&&(u.index||n.index==0)&&(u.text||n.text.toList.isEmpty)&&(!u.owner||dd n.owner)&&
 (!u.number||(decide (0≤n.number)&&decide (n.number≤1073741824)))&&(!u.index||(decide (0≤n.index)&&decide (n.index≤u.aO)))&&(!u.text||ks n.text)
def dD(n:aI):Bool:=decide (1≤n.kind)&&decide (n.kind≤20)&&(match ij[n.kind.toNat]? with|some u=>pP u n|none=>false)
def Checked(w:World)(n:aI)(e:Ending)(w':World):Prop:=∃k:Int,e= .returned (.int .i64 k)∧(k==0)=dD n∧Fr ag w w'
theorem gX.one(u:gX):u.cells.toArray.all (·.oneCell')=true:=by simp[gX.cells,Value.oneCell']
theorem yH(wd:ByteArray)(f e bi g:Bool)(h k:Int)(c d:ByteArray)(b a:Int):
  pP ⟨wd,f,e,bi,g,h⟩ ⟨k,c,b,a,d⟩=!((!f&&!c.toList.isEmpty)||(!e&&b !=0)||(!bi&&a !=0)||(!g&&!d.toList.isEmpty)||(f&&!dd c)||(e&&!(decide (0≤b)&&decide (b≤1073741824)))||(bi&&!(decide (0≤a)&&decide (a≤h)))||(g&&!ks d)):=by
 unfold pP;simp only[bne];generalize(decide (0≤b)&&decide (b≤1073741824))=i;generalize(decide (0≤a)&&decide (a≤h))=j;generalize(b==0)=d1;generalize(a==0)=d2;generalize dd c=v;generalize ks d=x;generalize c.toList.isEmpty=l;generalize d.toList.isEmpty=m;cases f<;>cases e<;>cases bi<;>cases g<;>simp[Bool.and_assoc]
theorem Bf(k:Nat)(r:ByteArray)(y t:Int)(s wd:ByteArray)(f d bi g:Bool)(A:Int)(w:World)(a9:eG w)(bo:1≤k∧k≤20)(hu:ij[k]? =some ⟨wd,f,d,bi,g,A⟩)(ba:r.size≤1099511627776)(bb:s.size≤1099511627776):
  Calls Tryz.prog 115 #[.agg #[.int .i64 (k:Int), .string r, .int .i64 y, .int .i64 t, .string s]] w (Checked w ⟨(k:Int),r,y,t,s⟩):=by
 have p:Hid (dD ⟨(k:Int),r,y,t,s⟩=pP ⟨wd,f,d,bi,g,A⟩ ⟨(k:Int),r,y,t,s⟩):=by
  simp only[Hid,dD,Int.toNat_natCast,hu];rw[dJ (show(1:Int)≤(k:Int)by omega),dJ (show(k:Int)≤20 by omega)];rfl
 have l:=af (yH wd f d bi g A k r s y t);obtain⟨aM,ad⟩:∃aM,aM=gX.cells ⟨wd,f,d,bi,g,A⟩:=⟨_,rfl⟩;have a3:Hid (∀j v,(gX.cells ⟨wd,f,d,bi,g,A⟩)[j]? =some v→w.cell? ⟨0,k*6+j,none⟩=some v):=a9.row k _ hu;have a0:Hid ((Tryz.prog.info? 189).map (·.size)=some (gX.cells ⟨wd,f,d,bi,g,A⟩).length):=jQ;have ab:Hid ((Tryz.prog.info? 189).map (·.size)=some (gX.cells ⟨wd,f,d,bi,g,A⟩).toArray.size):=jQ;have a2:=af (gX.one ⟨wd,f,d,bi,g,A⟩);have aa:=af ad;rw[←ad]at a3 a0 ab a2;have a5:Hid (∀w,Calls Tryz.prog 152 #[.int .i64 (k:Int)] w (bG w (.bool true))):=fun w=>by
  have h:=sU (k:Int) w;rw[dJ (show(1:Int)≤(k:Int)by omega),dJ (show(k:Int)≤20 by omega)]at h;exact h
 obtain⟨va,aj⟩:∃va,dd r=va:=⟨_,rfl⟩;obtain⟨R,al⟩:∃R,ks s=R:=⟨_,rfl⟩;obtain⟨am,ae⟩:∃c,(decide (0≤y)&&decide (y≤1073741824))=c:=⟨_,rfl⟩;obtain⟨ap,ah⟩:∃c,(decide (0≤t)&&decide (t≤A))=c:=⟨_,rfl⟩;have CV:Hid (∀w,Calls Tryz.prog 151 #[.string r] w (aK w (.bool va))):=fun w=>by rw[←aj];exact nh r w ba
 have bg:Hid (∀w,Calls Tryz.prog 154 #[.string s] w (aK w (.bool R))):=fun w=>by rw[←al];exact(EZ s w bb).mono (fun _ _ h=>⟨h.1,by rw[h.2];exact aA⟩)
 have bf:Hid (∀w,Calls Tryz.prog 153 #[.int .i64 y, .int .i64 1073741824] w (bG w (.bool am))):=fun w=>by rw[←ae];exact fp y 1073741824 w
 have be:Hid (∀w,Calls Tryz.prog 153 #[.int .i64 t, .int .i64 A] w (bG w (.bool ap))):=fun w=>by rw[←ah];exact fp t A w
 obtain⟨aq,bk⟩:∃aq:Bool,r.toList.isEmpty=!aq:=⟨!r.toList.isEmpty,by simp⟩;obtain⟨av,bn⟩:∃av:Bool,s.toList.isEmpty=!av:=⟨!s.toList.isEmpty,by simp⟩;obtain⟨ar,bl⟩:∃ar:Bool,(y !=0)=ar:=⟨_,rfl⟩;obtain⟨x3,bm⟩:∃x3:Bool,(t !=0)=x3:=⟨_,rfl⟩;rw[bk,bl,bm,bn,aj,al,ae,ah,Bool.not_not,Bool.not_not]at l;have bs:(k:Int)<21:=by omega
 have bt:k<21:=by omega
 have bu:(0:Int)≤(k:Int):=by omega
 clear a9 bo hu ba bb ad aj al ae ah;go_enter Tryz.func115,Tryz.ntmps115;go_wp2_with(refine ay rfl 106 (.tmp 0) rfl #[.int .i64 (k:Int), .string r, .int .i64 y, .int .i64 t, .string s] rfl ?_);intro w1 n1;have aV:=af n1.fr;have ax:=af n1.aF;clear n1;generalize w.heap.size=C at*;have ac:Hid (ao w1 C 106 #[.int .i64 (k:Int), .string r, .int .i64 y, .int .i64 t, .string s]):=ax.out;clear ax;have bj:w1.cell? ⟨C,0,none⟩=some (.int .i64 (k:Int)):=ac.out.cell 0;go_wp2_with fail;refine(a5.out _).mono ?_;rintro e w'⟨rfl,rfl⟩;go_wp2_with(refine aB rfl 189 (.tmp 10) rfl ⟨0,k*6,none⟩ rfl aM _ ?zB Tryz.underlying189 rfl a0.out (bh.go ?hold));case zB=>exact fun j x bp=>by rw[Addr.add_mid];exact aV.out.an (a3.out j x bp) (fun x=>x)
 unfold bh;go_wp2_with(refine ak rfl 189 rfl EE vS #[.string ByteArray.empty, .bool false, .bool false, .bool false, .bool false, .int .i64 0] rfl ?_);intro w2 bc;have a1:=af bc;clear bc;generalize aL:w1.heap.size=B at*;have Z:=af aL;clear aL;have a6:Hid (ao w2 B 189 #[.string ByteArray.empty, .bool false, .bool false, .bool false, .bool false, .int .i64 0]):=by have h:=a1.out.aF;rw[Z.out]at h;exact h
 go_wp2_with(refine ai rfl 189 (.tmp 3) _ rfl B aM.toArray rfl rfl _ _ a6.out ab.out (by rw[aa.out];rfl) a2.out ?_);intro bd b3 f3;have n:Hid (ao bd B 189 #[.string wd, .bool f, .bool d, .bool bi, .bool g, .int .i64 A]):=by have h:=b3;rw[aa.out]at h;exact h
 have S:Hid (Fr ag w1 bd):=a1.out.fr.aw f3 (fun i br e=>by have bq:i=B:=e;have:=Z.out;omega);have m:=af (aV.out.trans S.out);have o:=af (ac.out.fr S.out (fun x=>x));clear b3 f3 a1 a6 S aV ac bj Z a3 a0 ab a2 aa a5;obtain⟨aR,az⟩:∃z:Bool,(bif f then false else aq)=z:=⟨_,rfl⟩;have T:=af az;clear az;go_upto_region 4 with fail;refine gZ 9 [.pointer (some ⟨B,1,none⟩), .bool f, .bool (!f), .bool (!f),bif f then undef else .pointer (some ⟨C,1,none⟩),bif f then undef else .string r,bif f then undef else .bool aq,bif f then .bool false else .bool aq, .bool aR] ?zC ?_;case zC=>
  refine⟨?xY,?zK,?zL,?zM,?zN,?zO,?zP,?zQ,?zR,trivial⟩;all_goals intro u w' b a
  all_goals simp only[z1,z2,z3,z4,au,Act.put,z5,z6,z7,Nat.reduceAdd,Nat.zero_add]
  case zK=>
   simp only[show u 0=_ from a 0];refine aC ?_;have q:_=some (Value.bool f):=(n.out.fr b (fun x=>x)).cell 1;go_simp;exact aG
  case' zL=>simp only[show u 1=_ from a 1]
  case' zM=>simp only[show u 2=_ from a 2]
  case' zN=>
   simp only[show u 3=_ from a 3];cases f;case true=>exact bR
  case zO=>
   simp only[show u 4=_ from a 4,show u 3=_ from a 3];cases f;case true=>exact bR
   refine aC ?_;have q:_=some (Value.string r):=(o.out.fr b (fun x=>x)).cell 1;go_simp;exact aG
  case' zP=>
   simp only[show u 5=_ from a 5,show u 3=_ from a 3];cases f;case true=>exact bR
  case' zQ=>
   simp only[show u 3=_ from a 3,show u 6=_ from a 6];cases f
  case zR=>
   simp only[show u 7=_ from a 7];cases f<;>exact aC (by go_simp;exact⟨by rw[←T.out];rfl,aA⟩)
  all_goals
   try simp only[cond]
   refine aC ?_;go_simp;exact aG
 intro w' b;simp only[z1,z2,z3,z4,au,Act.put,z5,z6,z7,z8,z9,iO,iP,Nat.reduceAdd,Nat.zero_add];have m:=af (m.out.trans b);have o:=af (o.out.fr b (fun x=>x));have n:=af (n.out.fr b (fun x=>x));clear b;have D:Hid ((!f&&aq)=aR):=by
  rw[Hid,←T.out];cases f<;>simp
 clear T;cases L:aR;case true=>
  rw[L]at D;clear L;go_wp2;go_ret;refine⟨_,rfl,?_,m.out⟩;rw[p.out,l.out,D.out];simp
 rw[L]at D;clear L;obtain⟨aS,aD⟩:∃z:Bool,(bif d then false else ar)=z:=⟨_,rfl⟩;have U:=af aD;clear aD;go_upto_region 5 with fail;refine gZ 9 [.pointer (some ⟨B,2,none⟩), .bool d, .bool (!d), .bool (!d),bif d then undef else .pointer (some ⟨C,2,none⟩),bif d then undef else .int .i64 y,bif d then undef else .bool ar,bif d then .bool false else .bool ar, .bool aS] ?zD ?_;case zD=>
  refine⟨?xZ,?zS,?zT,?zU,?zV,?zW,?zX,?zY,?zZ,trivial⟩;all_goals intro u w' b a
  all_goals simp only[z1,z2,z3,z4,au,Act.put,z5,z6,z7,Nat.reduceAdd,Nat.zero_add]
  case zS=>
   simp only[show u 0=_ from a 0];refine aC ?_;have q:_=some (Value.bool d):=(n.out.fr b (fun x=>x)).cell 2;go_simp;exact aG
  case' zT=>simp only[show u 1=_ from a 1]
  case' zU=>simp only[show u 2=_ from a 2]
  case' zV=>
   simp only[show u 3=_ from a 3];cases d;case true=>exact bR
  case zW=>
   simp only[show u 4=_ from a 4,show u 3=_ from a 3];cases d;case true=>exact bR
   refine aC ?_;have q:_=some (Value.int .i64 y):=(o.out.fr b (fun x=>x)).cell 2;go_simp;exact aG
  case' zX=>
   simp only[show u 5=_ from a 5,show u 3=_ from a 3];cases d;case true=>exact bR
  case' zY=>
   simp only[show u 3=_ from a 3,show u 6=_ from a 6];cases d
  case zZ=>
   simp only[show u 7=_ from a 7];cases d<;>exact aC (by go_simp;exact⟨by rw[←U.out];rfl,aA⟩)
  all_goals
   try simp only[cond]
   refine aC ?_;go_simp;exact aG
 intro w' b;simp only[z1,z2,z3,z4,au,Act.put,z5,z6,z7,z8,z9,iO,iP,Nat.reduceAdd,Nat.zero_add];have m:=af (m.out.trans b);have o:=af (o.out.fr b (fun x=>x));have n:=af (n.out.fr b (fun x=>x));clear b;have F:Hid ((!d&&ar)=aS):=by
  rw[Hid,←U.out];cases d<;>simp
 clear U;cases M:aS;case true=>
  rw[M]at F;clear M;go_wp2;go_ret;refine⟨_,rfl,?_,m.out⟩;rw[p.out,l.out,F.out];simp
 rw[M]at F;clear M;obtain⟨aT,aE⟩:∃z:Bool,(bif bi then false else x3)=z:=⟨_,rfl⟩;have V:=af aE;clear aE;go_upto_region 6 with fail;refine gZ 9 [.pointer (some ⟨B,3,none⟩), .bool bi, .bool (!bi), .bool (!bi),bif bi then undef else .pointer (some ⟨C,3,none⟩),bif bi then undef else .int .i64 t,bif bi then undef else .bool x3,bif bi then .bool false else .bool x3, .bool aT] ?zE ?_;case zE=>
  refine⟨?ZA,?yA,?yB,?yC,?yD,?yE,?yF,?yG,?yI,trivial⟩;all_goals intro u w' b a
  all_goals simp only[z1,z2,z3,z4,au,Act.put,z5,z6,z7,Nat.reduceAdd,Nat.zero_add]
  case yA=>
   simp only[show u 0=_ from a 0];refine aC ?_;have q:_=some (Value.bool bi):=(n.out.fr b (fun x=>x)).cell 3;go_simp;exact aG
  case' yB=>simp only[show u 1=_ from a 1]
  case' yC=>simp only[show u 2=_ from a 2]
  case' yD=>
   simp only[show u 3=_ from a 3];cases bi;case true=>exact bR
  case yE=>
   simp only[show u 4=_ from a 4,show u 3=_ from a 3];cases bi;case true=>exact bR
   refine aC ?_;have q:_=some (Value.int .i64 t):=(o.out.fr b (fun x=>x)).cell 3;go_simp;exact aG
  case' yF=>
   simp only[show u 5=_ from a 5,show u 3=_ from a 3];cases bi;case true=>exact bR
  case' yG=>
   simp only[show u 3=_ from a 3,show u 6=_ from a 6];cases bi
  case yI=>
   simp only[show u 7=_ from a 7];cases bi<;>exact aC (by go_simp;exact⟨by rw[←V.out];rfl,aA⟩)
  all_goals
   try simp only[cond]
   refine aC ?_;go_simp;exact aG
 intro w' b;simp only[z1,z2,z3,z4,au,Act.put,z5,z6,z7,z8,z9,iO,iP,Nat.reduceAdd,Nat.zero_add];have m:=af (m.out.trans b);have o:=af (o.out.fr b (fun x=>x));have n:=af (n.out.fr b (fun x=>x));clear b;have G:Hid ((!bi&&x3)=aT):=by
  rw[Hid,←V.out];cases bi<;>simp
 clear V;cases N:aT;case true=>
  rw[N]at G;clear N;go_wp2;go_ret;refine⟨_,rfl,?_,m.out⟩;rw[p.out,l.out,G.out];simp
 rw[N]at G;clear N;obtain⟨aU,aH⟩:∃z:Bool,(bif g then false else av)=z:=⟨_,rfl⟩;have W:=af aH;clear aH;go_upto_region 7 with fail;refine gZ 9 [.pointer (some ⟨B,4,none⟩), .bool g, .bool (!g), .bool (!g),bif g then undef else .pointer (some ⟨C,4,none⟩),bif g then undef else .string s,bif g then undef else .bool av,bif g then .bool false else .bool av, .bool aU] ?zF ?_;case zF=>
  refine⟨?ZB,?yJ,?yK,?yL,?yM,?yN,?yO,?yP,?yQ,trivial⟩;all_goals intro u w' b a
  all_goals simp only[z1,z2,z3,z4,au,Act.put,z5,z6,z7,Nat.reduceAdd,Nat.zero_add]
  case yJ=>
   simp only[show u 0=_ from a 0];refine aC ?_;have q:_=some (Value.bool g):=(n.out.fr b (fun x=>x)).cell 4;go_simp;exact aG
  case' yK=>simp only[show u 1=_ from a 1]
  case' yL=>simp only[show u 2=_ from a 2]
  case' yM=>
   simp only[show u 3=_ from a 3];cases g;case true=>exact bR
  case yN=>
   simp only[show u 4=_ from a 4,show u 3=_ from a 3];cases g;case true=>exact bR
   refine aC ?_;have q:_=some (Value.string s):=(o.out.fr b (fun x=>x)).cell 4;go_simp;exact aG
  case' yO=>
   simp only[show u 5=_ from a 5,show u 3=_ from a 3];cases g;case true=>exact bR
  case' yP=>
   simp only[show u 3=_ from a 3,show u 6=_ from a 6];cases g
  case yQ=>
   simp only[show u 7=_ from a 7];cases g<;>exact aC (by go_simp;exact⟨by rw[←W.out];rfl,aA⟩)
  all_goals
   try simp only[cond]
   refine aC ?_;go_simp;exact aG
 intro w' b;simp only[z1,z2,z3,z4,au,Act.put,z5,z6,z7,z8,z9,iO,iP,Nat.reduceAdd,Nat.zero_add];have m:=af (m.out.trans b);have o:=af (o.out.fr b (fun x=>x));have n:=af (n.out.fr b (fun x=>x));clear b;have I:Hid ((!g&&av)=aU):=by
  rw[Hid,←W.out];cases g<;>simp
 clear W;cases O:aU;case true=>
  rw[O]at I;clear O;go_wp2;go_ret;refine⟨_,rfl,?_,m.out⟩;rw[p.out,l.out,I.out];simp
 rw[O]at I;clear O;obtain⟨E,a7⟩:∃z:Bool,(bif f then(!va)else false)=z:=⟨_,rfl⟩;have aY:=af a7;clear a7;go_upto_region 9 with fail;refine gZ 9 [.pointer (some ⟨B,1,none⟩), .bool f, .bool f,bif f then .pointer (some ⟨C,1,none⟩)else undef,bif f then .string r else undef,bif f then .bool va else undef,bif f then .bool (!va)else undef,bif f then .bool (!va)else .bool false, .bool E] ?zG ?_;case zG=>
  refine⟨?ZC,?yR,?yS,?yT,?yU,?yV,?yW,?yX,?yY,trivial⟩;all_goals intro u w' b a
  all_goals simp only[z1,z2,z3,z4,au,Act.put,z5,z6,z7,Nat.reduceAdd,Nat.zero_add]
  case yR=>
   simp only[show u 0=_ from a 0];refine aC ?_;have q:_=some (Value.bool f):=(n.out.fr b (fun x=>x)).cell 1;go_simp;exact aG
  case' yS=>simp only[show u 1=_ from a 1]
  case' yT=>
   simp only[show u 2=_ from a 2];cases f;case false=>exact bR
  case yU=>
   simp only[show u 3=_ from a 3,show u 2=_ from a 2];cases f;case false=>exact bR
   refine aC ?_;have q:_=some (Value.string r):=(o.out.fr b (fun x=>x)).cell 1;go_simp;exact aG
  case yV=>
   simp only[show u 4=_ from a 4,show u 2=_ from a 2];cases f;case false=>exact bR
   refine aC ?_;go_simp;refine(CV.out _).mono ?_;rintro e a4⟨rfl,f9⟩;exact⟨rfl,f9⟩
  case' yW=>
   simp only[show u 5=_ from a 5,show u 2=_ from a 2];cases f;case false=>exact bR
  case' yX=>
   simp only[show u 2=_ from a 2,show u 6=_ from a 6];cases f
  case yY=>
   simp only[show u 7=_ from a 7];cases f<;>exact aC (by go_simp;exact⟨by rw[←aY.out];rfl,aA⟩)
  all_goals
   try simp only[cond]
   refine aC ?_;go_simp;exact aG
 intro w' b;simp only[z1,z2,z3,z4,au,Act.put,z5,z6,z7,z8,z9,iO,iP,Nat.reduceAdd,Nat.zero_add];have m:=af (m.out.trans b);have o:=af (o.out.fr b (fun x=>x));have n:=af (n.out.fr b (fun x=>x));clear b;have aN:Hid ((f&&!va)=E):=by
  rw[Hid,←aY.out];cases f<;>simp
 clear aY;cases aP:E;case true=>
  rw[aP]at aN;clear aP;go_wp2;go_ret;refine⟨_,rfl,?_,m.out⟩;rw[p.out,l.out,aN.out];simp
 rw[aP]at aN;clear aP;obtain⟨aW,aI⟩:∃z:Bool,(bif d then(!am)else false)=z:=⟨_,rfl⟩;have X:=af aI;clear aI;go_upto_region 11 with fail;refine gZ 9 [.pointer (some ⟨B,2,none⟩), .bool d, .bool d,bif d then .pointer (some ⟨C,2,none⟩)else undef,bif d then .int .i64 y else undef,bif d then .bool am else undef,bif d then .bool (!am)else undef,bif d then .bool (!am)else .bool false, .bool aW] ?zH ?_;case zH=>
  refine⟨?ZD,?yZ,?xA,?xB,?xC,?xD,?xE,?xF,?xG,trivial⟩;all_goals intro u w' b a
  all_goals simp only[z1,z2,z3,z4,au,Act.put,z5,z6,z7,Nat.reduceAdd,Nat.zero_add]
  case yZ=>
   simp only[show u 0=_ from a 0];refine aC ?_;have q:_=some (Value.bool d):=(n.out.fr b (fun x=>x)).cell 2;go_simp;exact aG
  case' xA=>simp only[show u 1=_ from a 1]
  case' xB=>
   simp only[show u 2=_ from a 2];cases d;case false=>exact bR
  case xC=>
   simp only[show u 3=_ from a 3,show u 2=_ from a 2];cases d;case false=>exact bR
   refine aC ?_;have q:_=some (Value.int .i64 y):=(o.out.fr b (fun x=>x)).cell 2;go_simp;exact aG
  case xD=>
   simp only[show u 4=_ from a 4,show u 2=_ from a 2];cases d;case false=>exact bR
   refine aC ?_;go_simp;refine(bf.out _).mono ?_;rintro e a4⟨rfl,rfl⟩;exact aG
  case' xE=>
   simp only[show u 5=_ from a 5,show u 2=_ from a 2];cases d;case false=>exact bR
  case' xF=>
   simp only[show u 2=_ from a 2,show u 6=_ from a 6];cases d
  case xG=>
   simp only[show u 7=_ from a 7];cases d<;>exact aC (by go_simp;exact⟨by rw[←X.out];rfl,aA⟩)
  all_goals
   try simp only[cond]
   refine aC ?_;go_simp;exact aG
 intro w' b;simp only[z1,z2,z3,z4,au,Act.put,z5,z6,z7,z8,z9,iO,iP,Nat.reduceAdd,Nat.zero_add];have m:=af (m.out.trans b);have o:=af (o.out.fr b (fun x=>x));have n:=af (n.out.fr b (fun x=>x));clear b;have J:Hid ((d&&!am)=aW):=by
  rw[Hid,←X.out];cases d<;>simp
 clear X;cases P:aW;case true=>
  rw[P]at J;clear P;go_wp2;go_ret;refine⟨_,rfl,?_,m.out⟩;rw[p.out,l.out,J.out];simp
 rw[P]at J;clear P;obtain⟨aX,aJ⟩:∃z:Bool,(bif bi then(!ap)else false)=z:=⟨_,rfl⟩;have Y:=af aJ;clear aJ;go_upto_region 12 with fail;refine gZ 11 [.pointer (some ⟨B,3,none⟩), .bool bi, .bool bi,bif bi then .pointer (some ⟨C,3,none⟩)else undef,bif bi then .int .i64 t else undef,bif bi then .pointer (some ⟨B,5,none⟩)else undef,bif bi then .int .i64 A else undef,bif bi then .bool ap else undef,bif bi then .bool (!ap)else undef,bif bi then .bool (!ap)else .bool false, .bool aX] ?zI ?_;case zI=>
  refine⟨?ZE,?xH,?xI,?xJ,?xK,?xL,?xM,?xN,?xO,?xP,?zA,trivial⟩;all_goals intro u w' b a
  all_goals simp only[z1,z2,z3,z4,au,Act.put,z5,z6,z7,Nat.reduceAdd,Nat.zero_add]
  case xH=>
   simp only[show u 0=_ from a 0];refine aC ?_;have q:_=some (Value.bool bi):=(n.out.fr b (fun x=>x)).cell 3;go_simp;exact aG
  case' xI=>simp only[show u 1=_ from a 1]
  case' xJ=>
   simp only[show u 2=_ from a 2];cases bi;case false=>exact bR
  case xK=>
   simp only[show u 3=_ from a 3,show u 2=_ from a 2];cases bi;case false=>exact bR
   refine aC ?_;have q:_=some (Value.int .i64 t):=(o.out.fr b (fun x=>x)).cell 3;go_simp;exact aG
  case' xL=>
   simp only[show u 2=_ from a 2];cases bi;case false=>exact bR
  case xM=>
   simp only[show u 5=_ from a 5,show u 2=_ from a 2];cases bi;case false=>exact bR
   refine aC ?_;have q:_=some (Value.int .i64 A):=(n.out.fr b (fun x=>x)).cell 5;go_simp;exact aG
  case xN=>
   simp only[show u 4=_ from a 4,show u 6=_ from a 6,show u 2=_ from a 2];cases bi;case false=>exact bR
   refine aC ?_;go_simp;refine(be.out _).mono ?_;rintro e a4⟨rfl,rfl⟩;exact aG
  case' xO=>
   simp only[show u 7=_ from a 7,show u 2=_ from a 2];cases bi;case false=>exact bR
  case' xP=>
   simp only[show u 2=_ from a 2,show u 8=_ from a 8];cases bi
  case zA=>
   simp only[show u 9=_ from a 9];cases bi<;>exact aC (by go_simp;exact⟨by rw[←Y.out];rfl,aA⟩)
  all_goals
   try simp only[cond]
   refine aC ?_;go_simp;exact aG
 intro w' b;simp only[z1,z2,z3,z4,au,Act.put,z5,z6,z7,z8,z9,iO,iP,Nat.reduceAdd,Nat.zero_add];have m:=af (m.out.trans b);have o:=af (o.out.fr b (fun x=>x));have n:=af (n.out.fr b (fun x=>x));clear b;have K:Hid ((bi&&!ap)=aX):=by
  rw[Hid,←Y.out];cases bi<;>simp
 clear Y;cases Q:aX;case true=>
  rw[Q]at K;clear Q;go_wp2;go_ret;refine⟨_,rfl,?_,m.out⟩;rw[p.out,l.out,K.out];simp
 rw[Q]at K;clear Q;obtain⟨H,a8⟩:∃z:Bool,(bif g then(!R)else false)=z:=⟨_,rfl⟩;have aZ:=af a8;clear a8;go_upto_region 14 with fail;refine gZ 9 [.pointer (some ⟨B,4,none⟩), .bool g, .bool g,bif g then .pointer (some ⟨C,4,none⟩)else undef,bif g then .string s else undef,bif g then .bool R else undef,bif g then .bool (!R)else undef,bif g then .bool (!R)else .bool false, .bool H] ?zJ ?_;case zJ=>
  refine⟨?ZF,?xQ,?xR,?xS,?xT,?xU,?xV,?xW,?xX,trivial⟩;all_goals intro u w' b a
  all_goals simp only[z1,z2,z3,z4,au,Act.put,z5,z6,z7,Nat.reduceAdd,Nat.zero_add]
  case xQ=>
   simp only[show u 0=_ from a 0];refine aC ?_;have q:_=some (Value.bool g):=(n.out.fr b (fun x=>x)).cell 4;go_simp;exact aG
  case' xR=>simp only[show u 1=_ from a 1]
  case' xS=>
   simp only[show u 2=_ from a 2];cases g;case false=>exact bR
  case xT=>
   simp only[show u 3=_ from a 3,show u 2=_ from a 2];cases g;case false=>exact bR
   refine aC ?_;have q:_=some (Value.string s):=(o.out.fr b (fun x=>x)).cell 4;go_simp;exact aG
  case xU=>
   simp only[show u 4=_ from a 4,show u 2=_ from a 2];cases g;case false=>exact bR
   refine aC ?_;go_simp;refine(bg.out _).mono ?_;rintro e a4⟨rfl,f9⟩;exact⟨rfl,f9⟩
  case' xV=>
   simp only[show u 5=_ from a 5,show u 2=_ from a 2];cases g;case false=>exact bR
  case' xW=>
   simp only[show u 2=_ from a 2,show u 6=_ from a 6];cases g
  case xX=>
   simp only[show u 7=_ from a 7];cases g<;>exact aC (by go_simp;exact⟨by rw[←aZ.out];rfl,aA⟩)
  all_goals
   try simp only[cond]
   refine aC ?_;go_simp;exact aG
 intro w' b;simp only[z1,z2,z3,z4,au,Act.put,z5,z6,z7,z8,z9,iO,iP,Nat.reduceAdd,Nat.zero_add];have m:=af (m.out.trans b);have o:=af (o.out.fr b (fun x=>x));have n:=af (n.out.fr b (fun x=>x));clear b;have aO:Hid ((g&&!R)=H):=by
  rw[Hid,←aZ.out];cases g<;>simp
 clear aZ;cases aQ:H;case true=>
  rw[aQ]at aO;clear aQ;go_wp2;go_ret;refine⟨_,rfl,?_,m.out⟩;rw[p.out,l.out,aO.out];simp
 rw[aQ]at aO;clear aQ;go_wp2;go_ret;refine⟨_,rfl,?_,m.out⟩;rw[p.out,l.out,D.out,F.out,G.out,I.out,aN.out,J.out,K.out,aO.out];rfl
theorem kY(n:aI)(w:World)(o:eG w)(f:n.owner.size≤1099511627776)(g:n.text.size≤1099511627776):Calls Tryz.prog 115 #[.agg n.cells.toArray] w (Checked w n):=by
 obtain⟨a,l,j,i,m⟩:=n;simp only at f g;by_cases v:1≤a∧a≤20
 ·obtain⟨k,rfl⟩:∃k:Nat,a=(k:Int):=⟨a.toNat,by omega⟩;have d:1≤k∧k≤20:=by omega
  have A:ij.length=21:=by decide
  obtain⟨u,hu⟩:∃u,ij[k]? =some u:=⟨_,List.getElem?_eq_getElem (show k<ij.length by omega)⟩;obtain⟨wd,s,r,bi,t,x⟩:=u;exact Bf k l j i m wd s r bi t x w o d hu f g
 ·have c:(decide (1≤a)&&decide (a≤20))=false:=by
   rw[Bool.and_eq_false_iff,decide_eq_false_iff_not,decide_eq_false_iff_not];omega
  have b:Hid (dD ⟨a,l,j,i,m⟩=false):=by
   simp only[Hid,dD];rw[c];rfl
  have q:Hid (∀w,Calls Tryz.prog 152 #[.int .i64 a] w (bG w (.bool false))):=fun w=>by
   have h:=sU a w;rw[c]at h;exact h
  clear o v f g c;go_enter Tryz.func115,Tryz.ntmps115;go_wp2_with(refine ay rfl 106 (.tmp 0) rfl #[.int .i64 a, .string l, .int .i64 j, .int .i64 i, .string m] rfl ?_);intro w1 n1;have p:=af n1.fr;have y:w1.cell? ⟨w.heap.size,0,none⟩=some (.int .i64 a):=n1.aF.cell 0;clear n1;generalize w.heap.size=z at*;go_wp2_with fail;refine(q.out _).mono ?_;rintro e w'⟨rfl,rfl⟩;go_wp2;go_ret;exact⟨11,rfl,by rw[b.out];rfl,p.out⟩
theorem CL.one{w:World}{g:Nat}{t:TypeId}{c:CV}(h:ao w g t c.cells.toArray):CL w (fun _=>True) (some ⟨g,0,none⟩) 1 [c]:=by
 refine⟨⟨rfl,fun _=>⟨_,rfl,trivial,fun j y a=>?_⟩⟩,rfl⟩;rw[Addr.add_mid,Nat.zero_add,h.cell,bD];simpa using a
end Go.Proofs.YtphjagkehiklkaaGreatDoor
