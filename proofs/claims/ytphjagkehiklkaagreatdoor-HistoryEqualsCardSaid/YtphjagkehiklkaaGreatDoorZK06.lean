/- Texts. -/
import Derived.Test.YtphjagkehiklkaaGreatDoorZK05
set_option linter.unusedVariables false
set_option linter.unusedSimpArgs false
set_option maxRecDepth 100000
set_option maxHeartbeats 4000000
namespace Go.Proofs.YtphjagkehiklkaaGreatDoor
open Go.RowKit Go.Shelf
attribute[local go_sem]Oper.semAt_some
theorem xi(s:ByteArray)(w:World):Calls Tryz.prog 179 #[.string s] w fun r w'=>r= .returned (.func (.func 182) #[] #[.pointer (some ⟨w.heap.size,0,none⟩)])∧Fr ag w w'∧aq w' w.heap.size 9 #[.string s]:=by
 go_enter Tryz.func179,Tryz.ntmps179;go_wp2_with(refine aB rfl 9 (.tmp 0) rfl #[.string s] rfl ?_);intro w1 n1;have a:=af n1;clear n1;go_wp2;go_ret;exact⟨rfl,a.out.fr,a.out.aE⟩
theorem uq{ws:List (Nat×(World→Prop))}{M:World→Prop}(h:∀x∈ws,x.2=M){d:Nat→Bool}{w:World}(a:dq ws M d w):M w:=by
 induction ws with
 |nil=>exact a
 |cons x r f=>
  obtain⟨p,b⟩:=x;have e:b=M:=h _ List.mem_cons_self;subst e;unfold dq at a;split at a;·exact f (fun y c=>h y (List.mem_cons_of_mem _ c)) a
  ·exact a
theorem xg:∀(n at_:Nat)(l:List UInt8),(dx n at_ l).length≤n+1
 |0,_,_=>by simp[dx]
 |n+1,at_,l=>by
  rw[dx];simp only;split;·simp
  ·split;·simp
   ·split;·simp
    ·have:=xg n (at_+(dC 7 l).length+1) (l.drop ((dC 7 l).length+1));simp only[List.length_cons];omega
theorem xf(s:ByteArray):(gJ s).length≤9:=by
 unfold gJ;split;·simp
 ·exact xg 8 0 _
theorem KP.put(W:World)(l:Nat)(f b:Obj)(h:W.heap[l]? =some f)(d:f.isCells=false):KP W (W.putObj l b):=
 KP.fr (Fr.grown (grownBy_putObj' W l b)) (fun g t cs _ a e=>by
  have c:g=l:=by simpa using e
  subst c;unfold aq at a;rw[a]at h;cases h;simp[Obj.isCells]at d)
structure Oc(a w3 W:World):Prop where
 fr:Fr ag a W
 kp:KP w3 W
theorem nM{A B:World}{row:Option Nat}{N:Nat}(f:A.grownBy B row)(i:∀r,row=some r→N≤r∧∃j:Obj,A.heap[r]? =some j∧j.isCells=false):
  Fr (fun k=>some k=row) A B∧KP A B∧(∀g t cs,aq A g t cs→aq B g t cs):=by
 have b:Fr (fun k=>some k=row) A B:=Fr.grown f;have a:∀g t cs,aq A g t cs→aq B g t cs:=fun g t cs a=>a.fr b (fun e=>by
  obtain⟨_,j,c,d⟩:=i g e.symm;unfold aq at a;rw[a]at c;cases c;simp[Obj.isCells]at d);exact⟨b,fun g t cs _ h=>a g t cs h,a⟩
def Ck:Op→Bool
 | .alloc _=>true
 |_=>false
theorem MH(w:World):(zeroValue 41).run Tryz.prog w= .ok (.string ByteArray.empty) w:=by kernel_rfl
theorem MG(w:World):(zeroValue 3).run Tryz.prog w= .ok (.int .i64 0) w:=by kernel_rfl
theorem MF(w:World):(zeroValue 34).run Tryz.prog w= .ok (.int .i64 0) w:=by kernel_rfl
theorem zO:(Tryz.prog.info? 41).map (·.size)=some 1:=by kernel_rfl
theorem zM:(Tryz.prog.info? 3).map (·.size)=some 1:=by kernel_rfl
theorem zL:(Tryz.prog.info? 34).map (·.size)=some 1:=by kernel_rfl
structure rQ(b w3:World)(g2 g3 g4:Nat)(W:World):Prop where
 fr:Fr ag b W
 kp:KP w3 W
 b2:∃n,aq W g2 41 #[.string n]
 b3:∃a,aq W g3 3 #[.int .i64 a]
 b4:∃k,aq W g4 34 #[.int .i64 k]
theorem rQ.later{b w3 A B:World}{g2 g3 g4:Nat}(h:rQ b w3 g2 g3 g4 A)(f:Fr ag A B):rQ b w3 g2 g3 g4 B:=
 ⟨h.fr.trans f,h.kp.trans (KP.fr f (fun _ _ _ _ _ x=>x)),by obtain⟨n,a⟩:=h.b2;exact⟨n,a.fr f (fun x=>x)⟩,by obtain⟨n,a⟩:=h.b3;exact⟨n,a.fr f (fun x=>x)⟩,by obtain⟨n,a⟩:=h.b4;exact⟨n,a.fr f (fun x=>x)⟩⟩
theorem rQ.grown{c w3 A B:World}{g2 g3 g4:Nat}{row:Option Nat}{N:Nat}(h:rQ c w3 g2 g3 g4 A)(g:A.grownBy B row)(d:∀r,row=some r→N≤r∧∃m:Obj,A.heap[r]? =some m∧m.isCells=false)(k:c.heap.size≤N):rQ c w3 g2 g3 g4 B:=by
 obtain⟨f,j,b⟩:=nM g d;exact⟨h.fr.aw f (fun i l e=>by have:=(d i e.symm).1;omega),h.kp.trans j,by obtain⟨n,a⟩:=h.b2;exact⟨n,b _ _ _ a⟩,by obtain⟨n,a⟩:=h.b3;exact⟨n,b _ _ _ a⟩,by obtain⟨n,a⟩:=h.b4;exact⟨n,b _ _ _ a⟩⟩
theorem eF{P:Program}(w:World)(g:Nat)(t ty:TypeId)(v:Value)(d:aq w g t #[v])(a:(P.info? ty).map (·.size)=some 1)(b:(isAgg ty).run P w= .ok false w):
  (loadVar ty ⟨g,0,none⟩).run P w= .ok v w:=by
 have c:w.cell? ⟨g,0,none⟩=some v:=d.cell 0;simp[loadVar,b,go_sem,c]
theorem pT(tmps:Array Value)(w:World)(g2 g3 g4:Nat)(n:ByteArray)(a k:Int)
  (e:tmps.getD 2 undef= .pointer (some ⟨g2,0,none⟩))(f:tmps.getD 3 undef= .pointer (some ⟨g3,0,none⟩))(g:tmps.getD 4 undef= .pointer (some ⟨g4,0,none⟩))
  (b2:aq w g2 41 #[.string n])(b3:aq w g3 3 #[.int .i64 a])(b4:aq w g4 34 #[.int .i64 k]):
  (results Tryz.f174 tmps).run Tryz.prog w= .ok (.tuple #[.string n, .int .i64 a, .int .i64 k]) w:=by
 have b:tmps[2]?.getD undef= .pointer (some ⟨g2,0,none⟩):=by simpa using e
 have c:tmps[3]?.getD undef= .pointer (some ⟨g3,0,none⟩):=by simpa using f
 have d:tmps[4]?.getD undef= .pointer (some ⟨g4,0,none⟩):=by simpa using g
 simp[results,Tryz.results174,b,c,d,asAddr,eF w g2 _ _ _ b2 zO (Tryz.isAgg41 w),eF w g3 _ _ _ b3 zM (Tryz.isAgg3 w),eF w g4 _ _ _ b4 zL (Tryz.isAgg34 w)]
def LH(w:World)(s:ByteArray)(r:Ending)(w':World):Prop:=∃n a k,r= .returned (.tuple #[.string n, .int .i64 a, .int .i64 k])∧(k==0)=df s∧Fr ag w w'
theorem DM(s:ByteArray)(w:World)(bs:s.size≤1099511627776):Calls Tryz.prog 174 #[.string s] w (LH w s):=by
 have bz:=af bs;clear bs;refine(callsIn_wide (n:=6)).1 (callsIn_of_wp_marks Tryz.func174 rfl trivial (wpIn_wide.2 ?_) rfl);simp only[Tryz.ntmps174,List.size_toArray,List.length_cons,List.length_nil,Nat.reduceAdd,Nat.reduceSub,Array.replicate_succ,Array.replicate_zero,List.push_toArray,List.append_toArray,List.nil_append,List.cons_append];go_wp2_with(refine an rfl 41 rfl (.string ByteArray.empty) MH #[.string ByteArray.empty] rfl ?_);intro a4 ac;have aA:=af ac.fr;have O:=af ac.aE;have bm:Sz w w.heap.size:=Nat.le_refl _;clear ac;generalize w.heap.size=g2 at*;go_wp2_with(refine an rfl 3 rfl (.int .i64 0) MG #[.int .i64 0] rfl ?_);intro aP nb;have R:=af (aA.out.trans nb.fr);have ax:=af (O.out.fr nb.fr (fun x=>x));have P:=af nb.aE;have bn:Sz w a4.heap.size:=aA.out.size;clear nb O aA;generalize a4.heap.size=g3 at*;go_wp2_with(refine an rfl 34 rfl (.int .i64 0) MF #[.int .i64 0] rfl ?_);intro w2 aJ;have a8:=af (R.out.trans aJ.fr);have L:=af (ax.out.fr aJ.fr (fun x=>x));have M:=af (P.out.fr aJ.fr (fun x=>x));have N:=af aJ.aE;have bo:Sz w aP.heap.size:=R.out.size;clear aJ ax P R;generalize aP.heap.size=g4 at*;have a7:Hid (rQ w w2 g2 g3 g4 w2):=⟨a8.out,KP.refl _,⟨_,L.out⟩,⟨_,M.out⟩,⟨_,N.out⟩⟩;have NE:Hid (g2≠g3∧g2≠g4∧g3≠g4):=by
  refine⟨?_,?_,?_⟩<;>(rintro rfl);·have v:=L.out;have c:=M.out;unfold aq at v c;rw[v]at c;cases c
  ·have v:=L.out;have c:=N.out;unfold aq at v c;rw[v]at c;cases c
  ·have v:=M.out;have c:=N.out;unfold aq at v c;rw[v]at c;cases c
 clear L M N a8;go_wp2_with fail;refine(xi s _).mono ?_;rintro r w3⟨rfl,f3,b3⟩;have az:=af (a7.out.later f3);have bv:=af b3;clear f3 b3 a7;generalize w2.heap.size=gs at*;go_wp2_with fail;refine(wpIn_wide (n:=6)).1 ?_;refine wpIn_rangeFunc_ownH rfl (by omega) (gf:=182) (lb:=#[.pointer (some ⟨gs,0,none⟩)]) rfl trivial (enters_of Tryz.func182 (by kernel_rfl) rfl)
  (so 5 gs s w3 bz.out bv.out) (fun h k=>h.trans k) (fun W l o bO _ U aH _=>KP.put W l o bO U aH) (Below.refl _ _) (fun _=>rfl)
  (fun pre W=>rQ w w2 g2 g3 g4 W∧∀y∈pre,y.e=0) (fun aY pre W=>rQ w w2 g2 g3 g4 W∧∃x∈pre,x.e≠0∧aq W g4 34 #[.int .i64 x.e]∧aY= .ret) (fun pre A B row h am ao=>⟨h.1.grown am ao az.out.fr.size,h.2⟩) (fun aY pre A B row h am ao=>by obtain⟨v,x,aO,X,z,aH⟩:=h;exact⟨v.grown am ao az.out.fr.size,x,aO,X,(nM am ao).2.2 _ _ _ z,aH⟩) ⟨az.out,by simp⟩
  (fun x aX W=>∃g,aX=({tmps:=#[.string s,undef, .pointer (some ⟨g2,0,none⟩), .pointer (some ⟨g3,0,none⟩), .pointer (some ⟨g4,0,none⟩), .pointer (some ⟨g,0,none⟩), .string s, .func (.func 182) #[] #[.pointer (some ⟨gs,0,none⟩)], .agg #[.int .i64 x.ord, .int .i64 x.at_, .int .i64 x.e],undef,undef,undef,undef,undef,undef,undef,undef],defers:=[]}:Act)∧aq W g 270 (bp x))
  (fun x aX _ A B row h am ao=>by
   obtain⟨g,e,z⟩:=h;exact⟨g,e,(nM am ao).2.2 _ _ _ z⟩)
  ?assign ?body ?done ?stop;case assign=>
  intro l pre x W K J S;have bx:=af S;have aB:=af J;clear S J;gi_wp2_with(refine cj Ck rfl (by kernel_rfl) ?_);go_wp2_with(refine an rfl 270 rfl (.agg oL) uQ oL rfl ?_);intro a4 ac;have aA:=af ac.fr;have bu:=af ac.aE;have bI:Sz W W.heap.size:=Nat.le_refl _;clear ac;generalize W.heap.size=g at*;go_wp2_with(refine ai rfl 270 (.tmp 5) _ rfl g (bp x) rfl rfl _ _ bu.out cg rfl (dh x) ?_);intro aP bb bJ;have R:Fr ag W aP:=aA.out.aw bJ (fun i aN e=>by have ak:i=g:=e;have:=bI;unfold Sz at this;omega);refine⟨?_,rfl⟩;refine bx.out _ _ ⟨R.size,fun k o _ U _=>(R.block k (Array.getElem?_eq_some_iff.1 U).1 (fun x=>x)).trans U⟩ (KP.fr R (fun _ _ _ _ _ x=>x)) (⟨aB.out.1.later R,aB.out.2⟩) ⟨g,rfl,bb⟩
 case body=>
  rintro bR pre x aX W bL a1 J⟨g,rfl,p⟩a2;have aB:=af J;have Q:=af J.1;have a5:=af p;have bS:W.cell? ⟨g,2,none⟩=some (.int .i64 x.e):=p.cell 2;have bc:Hid (¬(g=g2∨g=g3)):=by
   rintro(rfl|rfl);·obtain⟨n,b⟩:=J.1.b2;unfold aq at p b;rw[p]at b;cases b
   ·obtain⟨n,b⟩:=J.1.b3;unfold aq at p b;rw[p]at b;cases b
  clear J p a2 bL a1;by_cases X:x.e=0
  ·have a3:((x.e:Int)==0)=true:=by rw[beq_iff_eq];omega
   gi_wp2;refine⟨KeepsFrom.refl _ _,KP.refl _,aB.out.1,?_⟩;intro y bN;rcases List.mem_append.1 bN with h|h;·exact aB.out.2 y h
   ·rw[List.mem_singleton.1 h];exact X
  ·have a3:((x.e:Int)==0)=false:=by rw[beq_eq_false_iff_ne];omega
   have aS:=af X;gi_wp2;refine pZ 6 (fun k=>k=g2∨k=g3) [Is (.pointer (some ⟨g,1,none⟩)),Is (.int .i64 x.at_),Is (.pointer (some ⟨g,2,none⟩)),Is (.int .i64 x.e),(fun _ _=>True),(fun _ _=>True)] [(4,(fun W'=>(∃n,aq W' g2 41 #[.string n])∧(∃a,aq W' g3 3 #[.int .i64 a])∧∃k,aq W' g4 34 #[.int .i64 k])),(5,(fun W'=>(∃n,aq W' g2 41 #[.string n])∧(∃a,aq W' g3 3 #[.int .i64 a])∧∃k,aq W' g4 34 #[.int .i64 k]))] (fun W'=>(∃n,aq W' g2 41 #[.string n])∧(∃a,aq W' g3 3 #[.int .i64 a])∧∃k,aq W' g4 34 #[.int .i64 k]) (fun i j=>i==4&&j==5) (by kernel_rfl) (by kernel_rfl) (by kernel_rfl) (by kernel_rfl) (by kernel_rfl) ⟨Is.ah _,Is.ah _,Is.ah _,Is.ah _,fun _ _ _ _ _ h=>h,fun _ _ _ _ _ h=>h,trivial⟩ ⟨(fun _ _ _ m h=>⟨(by obtain⟨a,f⟩:=h.1;exact⟨a,f.fr m (fun x=>x)⟩),(by obtain⟨a,f⟩:=h.2.1;exact⟨a,f.fr m (fun x=>x)⟩),(by obtain⟨a,f⟩:=h.2.2;exact⟨a,f.fr m (fun x=>x)⟩)⟩),(fun _ _ _ m h=>⟨(by obtain⟨a,f⟩:=h.1;exact⟨a,f.fr m (fun x=>x)⟩),(by obtain⟨a,f⟩:=h.2.1;exact⟨a,f.fr m (fun x=>x)⟩),(by obtain⟨a,f⟩:=h.2.2;exact⟨a,f.fr m (fun x=>x)⟩)⟩),trivial⟩ (fun _ _ _ m h=>⟨(by obtain⟨a,f⟩:=h.1;exact⟨a,f.fr m (fun x=>x)⟩),(by obtain⟨a,f⟩:=h.2.1;exact⟨a,f.fr m (fun x=>x)⟩),(by obtain⟨a,f⟩:=h.2.2;exact⟨a,f.fr m (fun x=>x)⟩)⟩) ⟨Q.out.b2,Q.out.b3,Q.out.b4⟩ ?_ ?_
   ·refine⟨?_,?_,?_,?_,?_,?_,trivial⟩;all_goals intro u w' d m C au ap Y
    all_goals simp only[bw,bC,bD,bE,ar,Act.put,bF,bG,bH,Nat.reduceAdd,Nat.zero_add]
    ·clear C au ap Y;refine aj ?_;go_simp;exact⟨_,rfl,al⟩
    ·have bK:u 0=_:=C 0;clear C au ap Y;simp only[bK];refine aj ?_;have q:w'.cell? ⟨g,1,none⟩=some _:=(a5.out.fr m bc.out).cell 1;go_simp;exact⟨_,rfl,al⟩
    ·clear C au ap Y;refine aj ?_;go_simp;exact⟨_,rfl,al⟩
    ·have c:u 2=_:=C 2;clear C au ap Y;simp only[c];refine aj ?_;have q:w'.cell? ⟨g,2,none⟩=some _:=(a5.out.fr m bc.out).cell 2;go_simp;exact⟨_,rfl,al⟩
    ·clear C au ap;refine aj ?_;obtain⟨⟨n,c⟩,G,H⟩:=uq (by simp) Y;refine lQ 41 (.tmp 2) _ rfl g2 0 (.string ByteArray.empty) rfl rfl rfl zO _ _ #[.string ByteArray.empty] c (by simp) rfl ?_;intro aQ ae F;refine⟨_,rfl,F.mono (fun i _ h=> .inl h),trivial,⟨_,ae⟩,?_,?_⟩;·obtain⟨a,f⟩:=G;exact⟨a,f.fr F (fun e=>NE.out.1 e.symm)⟩
     ·obtain⟨a,f⟩:=H;exact⟨a,f.fr F (fun e=>NE.out.2.1 e.symm)⟩
    ·have v:u 1=_:=C 1;clear C au ap;simp only[v];refine aj ?_;obtain⟨c,⟨n,G⟩,H⟩:=uq (by simp) Y;refine lQ 3 (.tmp 3) _ rfl g3 0 (.int .i64 x.at_) rfl rfl rfl zM _ _ #[.int .i64 x.at_] G (by simp) rfl ?_;intro aQ ae F;refine⟨_,rfl,F.mono (fun i _ h=> .inr h),trivial,?_,⟨_,ae⟩,?_⟩;·obtain⟨a,f⟩:=c;exact⟨a,f.fr F (fun e=>NE.out.1 e)⟩
     ·obtain⟨a,f⟩:=H;exact⟨a,f.fr F (fun e=>NE.out.2.2 e.symm)⟩
   ·intro u w' m C Y;have bt:u 3=_:=C 3 (by omega);obtain⟨c,G,k,H⟩:=Y;have aT:=af c;have aU:=af G;have aV:=af H;have bA:=af m;clear C c G H m;simp only[bw,bC,bD,bE,ar,Act.put,bF,bG,bH,dj,dk,Nat.reduceAdd,Nat.zero_add,bt];clear bt;go_wp2_with(refine aW rfl 34 (.tmp 4) _ rfl g4 0 (.int .i64 x.e) rfl rfl rfl zL _ _ #[.int .i64 x.e] aV.out (by simp) rfl ?_);intro aQ ae F;have Z:Fr (fun k=>k=g2∨k=g3∨k=g4) W aQ:=(bA.out.mono (fun i _ h=>h.elim .inl (fun h=> .inr (.inl h)))).trans (F.mono (fun i _ h=> .inr (.inr h)));have a6:∀k,k=g2∨k=g3∨k=g4→∃t cs,aq W k t cs∧t≠9∧t≠270:=by
     rintro k(rfl|rfl|rfl);·obtain⟨n,b⟩:=Q.out.b2;exact⟨_,_,b,by decide,by decide⟩
     ·obtain⟨n,b⟩:=Q.out.b3;exact⟨_,_,b,by decide,by decide⟩
     ·obtain⟨n,b⟩:=Q.out.b4;exact⟨_,_,b,by decide,by decide⟩
    have bB:KP W aQ:=KP.fr Z (fun q t cs bM z aI=>by
     obtain⟨bP,cs',hb',v,c⟩:=a6 q aI;unfold aq at z hb';rw[z]at hb';cases hb';rcases bM with rfl|rfl;·exact v rfl
     ·exact c rfl);refine⟨?_,rfl⟩;gi_wp2;refine⟨⟨Z.size,fun q o bQ U aH=>(Z.block q (Array.getElem?_eq_some_iff.1 U).1 (fun aI=>?_)).trans U⟩,⟨⟨?_,Q.out.kp.trans bB,?_,?_,⟨_,ae⟩⟩,x,by simp,aS.out,ae,rfl⟩⟩;·obtain⟨bP,cs',hb',_,_⟩:=a6 q aI;unfold aq at hb';rw[U]at hb';cases hb';simp[Obj.isCells]at aH
    ·exact Q.out.fr.aw Z (fun i aN e=>by
      have c:=bm;have G:=bn;have H:=bo;unfold Sz at c G H;omega)
    ·obtain⟨n,b⟩:=aT.out;exact⟨n,b.fr F (fun e=>NE.out.2.1 e)⟩
    ·obtain⟨n,b⟩:=aU.out;exact⟨n,b.fr F (fun e=>NE.out.2.2 e)⟩
 case done=>
  rintro D xs W aF rfl J S;obtain⟨I,T⟩:=J;have E:Fr (fun k=>some k=some D) W (W.putObj D (.deferred none)):=Fr.grown (grownBy_putObj' W D _);have aa:=af S;have aZ:Hid (df s=true):=by
   simp only[Hid,df,List.all_eq_true,beq_iff_eq];exact T
  obtain⟨n,b2⟩:=I.b2;obtain⟨a,b3⟩:=I.b3;obtain⟨k,b4⟩:=I.b4;have O:=af b2;have P:=af b3;have ay:=af b4;have ad:=af I;have aR:=af aF;clear E I b2 b3 b4 aF S T;go_wp2_with(refine aW rfl 41 (.tmp 2) _ rfl g2 0 (.string s) rfl rfl rfl zO _ _ #[.string s] O.out (by simp) rfl ?_);intro bT bq aK;have bh:=af (P.out.fr aK (fun e=>NE.out.1 e.symm));have bi:=af (ay.out.fr aK (fun e=>NE.out.2.1 e.symm));have bg:=af bq;have a9:=af aK;clear bq aK O P ay;go_wp2_with(refine aW rfl 3 (.tmp 3) _ rfl g3 0 (.int .i64 0) rfl rfl rfl zM _ _ #[.int .i64 0] bh.out (by simp) rfl ?_);intro bU aD aL;have bj:=af (bg.out.fr aL (fun e=>NE.out.1 e));have bl:=af (bi.out.fr aL (fun e=>NE.out.2.2 e.symm));have bk:=af aD;have ba:=af aL;clear aD aL bg bh bi;go_wp2_with(refine aW rfl 34 (.tmp 4) _ rfl g4 0 (.int .i64 0) rfl rfl rfl zL _ _ #[.int .i64 0] bl.out (by simp) rfl ?_);intro av br aM;have bd:=af (bj.out.fr aM (fun e=>NE.out.2.1 e));have be:=af (bk.out.fr aM (fun e=>NE.out.2.2 e));have bf:=af br;have Z:Hid (Fr (fun k=>k=g2∨k=g3∨k=g4) W av):=((a9.out.mono (fun i _ h=> .inl h)).trans (ba.out.mono (fun i _ h=> .inr (.inl h)))).trans (aM.mono (fun i _ h=> .inr (.inr h)));have aC:Hid (av.heap[D]? =some (.deferred (some []))):=by
   refine(Z.out.block D (Array.getElem?_eq_some_iff.1 aa.out).1 (fun aI=>?_)).trans aa.out;have a0:=aa.out;rcases aI with rfl|rfl|rfl;·obtain⟨n,b⟩:=ad.out.b2;unfold aq at b;rw[a0]at b;cases b
   ·obtain⟨n,b⟩:=ad.out.b3;unfold aq at b;rw[a0]at b;cases b
   ·obtain⟨n,b⟩:=ad.out.b4;unfold aq at b;rw[a0]at b;cases b
  clear br aM a9 ba aa bj bk bl;go_wp2;refine⟨by simp, .inl ⟨_,_,rfl,run_takeDeferred aC.out,?_⟩⟩;have E:Fr (fun k=>some k=some D) av (av.putObj D (.deferred none)):=Fr.grown (grownBy_putObj' av D _);have ab:∀g t cs,aq av g t cs→¬(some g=some D):=fun g t cs z e=>by
   have ak:g=D:=by simpa using e
   subst ak;unfold aq at z;rw[aC.out]at z;cases z
  refine⟨_,pT _ _ g2 g3 g4 s 0 0 rfl rfl rfl (bd.out.fr E (ab _ _ _ bd.out)) (be.out.fr E (ab _ _ _ be.out)) (bf.out.fr E (ab _ _ _ bf.out)),⟨_,_,_,rfl,?_,?_⟩⟩;·rw[aZ.out];rfl
  ·refine(ad.out.fr.aw Z.out (fun i aN e=>?_)).aw E (fun i aN e=>?_);·have c:=bm;have G:=bn;have H:=bo;unfold Sz at c G H;omega
   ·have ak:i=D:=by simpa using e
    have:=aR.out;have:=az.out.fr.size;omega
 case stop=>
  rintro D aY pre W aF V⟨I,x,aO,X,aG,rfl⟩S;have aa:=af S;have aR:=af aF;have aZ:Hid (df s=false):=by
   simp only[Hid];rw[Bool.eq_false_iff];intro h;rw[df,List.all_eq_true]at h;have:=h x (V.subset aO);simp only[beq_iff_eq]at this;exact X this
  obtain⟨n,b2⟩:=I.b2;obtain⟨a,b3⟩:=I.b3;have ad:=af I;have aS:=af X;have O:=af b2;have P:=af b3;have ay:=af aG;clear I b2 b3 aG X S aF V aO;gi_wp2;refine⟨by simp, .inl ⟨_,_,rfl,run_takeDeferred aa.out,?_⟩⟩;have E:Fr (fun k=>some k=some D) W (W.putObj D (.deferred none)):=Fr.grown (grownBy_putObj' W D _);have ab:∀g t cs,aq W g t cs→¬(some g=some D):=fun g t cs z e=>by
   have ak:g=D:=by simpa using e
   subst ak;unfold aq at z;rw[aa.out]at z;cases z
  refine⟨_,pT _ _ g2 g3 g4 n a x.e rfl rfl rfl (O.out.fr E (ab _ _ _ O.out)) (P.out.fr E (ab _ _ _ P.out)) (ay.out.fr E (ab _ _ _ ay.out)),⟨_,_,_,rfl,?_,?_⟩⟩;·rw[aZ.out,beq_eq_false_iff_ne];have:=aS.out;omega
  ·refine ad.out.fr.aw E (fun i aN e=>?_);have ak:i=D:=by simpa using e
   have:=aR.out;have:=az.out.fr.size;omega
theorem oh(s:ByteArray)(w:World)(g:s.size≤1099511627776):Calls Tryz.prog 151 #[.string s] w (aH w (.bool (df s))):=by
 have b:=af (DM s w g);go_enter Tryz.func151,Tryz.ntmps151;go_wp2_with fail;refine b.out.mono ?_;rintro e w1⟨n,a,k,rfl,c,f1⟩;have f:=af c;have d:=af f1;clear c f1 b;go_wp2;go_ret;rw[f.out];exact⟨rfl,d.out⟩
end Go.Proofs.YtphjagkehiklkaaGreatDoor
namespace Go.Proofs.YtphjagkehiklkaaGreatDoor
open Go.RowKit Go.Shelf
attribute[local go_sem]Oper.semAt_some
structure pt{α:Type}(b w3:World)(g2:Nat)(c e:TypeId)(sz:Nat)(a:List α→Nat)(cells:List α→List Value)(pre:List α)(W:World):Prop where
 fr:Fr ag b W
 kn:KP w3 W
 row:∃v,aq W g2 c #[v]∧W.ownsRow 0 e sz v (a pre) (cells pre)∧∀k,v.ownBlock=some k→b.heap.size≤k∧k≠g2
theorem pt.iY{α:Type}{r w3:World}{g2:Nat}{s e:TypeId}{sz B:Nat}{l:List α→Nat}{cells:List α→List Value}(u:g2<B)(y:r.heap.size≤B):OwnFrom B (pt r w3 g2 s e sz l cells):=by
 intro pre X Y row h w o;have b:∀k,k<B→some k≠row:=fun k q e=>by have:=(o k e.symm).1;omega
 have j:Fr (fun k=>some k=row) X Y:=Fr.grown w;obtain⟨v,kf,a,x⟩:=h.row;refine⟨h.fr.aw j (fun i z e=>absurd e (b i (by omega))),h.kn.trans (KP.fr j (fun g t cs _ p e=>?_)),⟨v,kf.fr j (fun e=>b _ u e),aL a j (fun k q e=>?_),x⟩⟩;·obtain⟨_,A,d,m⟩:=o g e.symm;unfold aq at p;rw[p]at d;cases d;simp[Obj.isCells]at m
 ·obtain⟨_,A,d,m⟩:=o k e.symm;obtain⟨c,f,n⟩:=cS a q;rw[n]at d;cases d;simp[Obj.isCells]at m
theorem pt.same{α:Type}{g w3 W X:World}{g2:Nat}{f e:TypeId}{sz:Nat}{b:List α→Nat}{cells:List α→List Value}{pre a:List α}(h:pt g w3 g2 f e sz b cells pre W)(d:Fr ag W X)(i:b a=b pre)(j:cells a=cells pre):pt g w3 g2 f e sz b cells a X:=by
 obtain⟨v,kf,c,k⟩:=h.row;refine⟨h.fr.trans d,h.kn.trans (KP.fr d (fun _ _ _ _ _ x=>x)),⟨v,kf.fr d (fun x=>x),?_,k⟩⟩;rw[i,j];exact aL c d (fun _ _ x=>x)
theorem pt.step{α:Type}{m w3 W X u l:World}{g2 B:Nat}{n e:TypeId}{sz:Nat}{d:List α→Nat}{cells:List α→List Value}{pre b:List α}{v v2:Value}
  (x:pt m w3 g2 n e sz d cells pre W)(E:g2<B)(G:m.heap.size≤B)(I:m.heap.size≤g2)(o:n≠9∧n≠270)(he:e≠9∧e≠270)(y:aq W g2 n #[v])
  (j:W.ownsRow 0 e sz v (d pre) (cells pre))(a:∀k,v.ownBlock=some k→m.heap.size≤k∧k≠g2)
  (A:Fr ag W X)(w:bK e sz X v u v2 (d b) (cells b))(f3:Fr (fun k=>k=g2) u l)(b3:aq l g2 n #[v2]):
  KeepsFrom B W l∧KP W l∧pt m w3 g2 n e sz d cells b l:=by
 have s1:m.heap.size≤W.heap.size:=x.fr.size;have s2:W.heap.size≤X.heap.size:=A.size;have L:g2<W.heap.size:=y.lt;have p:∀k,v2.ownBlock=some k→m.heap.size≤k∧k≠g2:=fun k z=>by
  rcases w.eG k z with h|h;·exact a k h
  ·constructor<;>omega
 have F:Fr (fun k=>k=g2∨v.ownBlock=some k) W l:=by
  have D:Fr (fun k=>k=g2∨v.ownBlock=some k) W u:=(A.bO).trans (w.fr.mono (fun i _ h=> .inr h));exact D.trans (f3.mono (fun i _ h=> .inl h))
 have K:KP W l:=KP.fr F (fun g t cs C q h=>by
  unfold aq at q y;rcases h with rfl|h;·rw[y]at q;cases q;exact C.elim o.1 o.2
  ·obtain⟨c,f,r⟩:=cS j h;rw[r]at q;cases q;exact C.elim he.1 he.2);refine⟨⟨F.size,fun k M _ r H=>?_⟩,K,?_,x.kn.trans K,?_⟩
 ·refine(F.block k (Array.getElem?_eq_some_iff.1 r).1 ?_).trans r;rintro(rfl|h);·omega
  ·obtain⟨c,f,s⟩:=cS j h;rw[r]at s;cases s;simp[Obj.isCells]at H
 ·refine x.fr.aw F (fun i J h=>?_);rcases h with h|h;·omega
  ·have:=(a i h).1;omega
 ·exact⟨v2,b3,aL w.own f3 (fun k z e=>(p k z).2 e),p⟩
theorem GX(w:World):(zeroValue 251).run Tryz.prog w= .ok (.slice none 0 0) w:=by kernel_rfl
theorem qs:(Tryz.prog.info? 251).map (·.size)=some 1:=by kernel_rfl
theorem sW:(Tryz.prog.info? 3).map (fun i=>(i.zero,i.size,i.bytes))=some (some (.int .i64 0),1,8):=by kernel_rfl
theorem xY(tmps:Array Value)(w:World)(g2:Nat)(v:Value)(b:tmps.getD 2 undef= .pointer (some ⟨g2,0,none⟩))(b2:aq w g2 251 #[v]):
  (results Tryz.f166 tmps).run Tryz.prog w= .ok v w:=by
 have a:tmps[2]?.getD undef= .pointer (some ⟨g2,0,none⟩):=by simpa using b
 simp[results,Tryz.results166,a,asAddr,eF w g2 _ _ _ b2 qs (Tryz.isAgg251 w)]
def NJ(p:Part):Value:= .int .i64 (p.ord:Int)
def E0(a:List Part):List Value:=a.map NJ
structure rM(a w3:World)(g2 g3:Nat)(pre:List Part)(W:World):Prop where
 row:pt a w3 g3 251 3 1 List.length E0 pre W
 res:∃v,aq W g2 251 #[v]
 eG:∀v,aq W g3 251 #[v]→v.ownBlock≠some g2
theorem rM.later{b w3 A B:World}{g2 g3:Nat}{pre:List Part}(h:rM b w3 g2 g3 pre A)(f:Fr ag A B)(c:g3<A.heap.size):rM b w3 g2 g3 pre B:=
 ⟨h.row.same f rfl rfl,by obtain⟨v,d⟩:=h.res;exact⟨v,d.fr f (fun x=>x)⟩,fun v a=>h.eG v (by
  have e:=f.block g3 c (fun x=>x);unfold aq at a⊢;rw[←e];exact a)⟩
theorem rM.iY{g w3:World}{g2 g3 N:Nat}(i:g3<N)(j:g.heap.size≤N):OwnFrom N (rM g w3 g2 g3):=by
 intro pre A B row h d f;obtain⟨k,_,c⟩:=nM d f;refine⟨pt.iY i j pre A B row h.row d f,by obtain⟨v,b⟩:=h.res;exact⟨v,c _ _ _ b⟩,fun v b=>h.eG v ?_⟩;obtain⟨l,a,_⟩:=h.row.row;have e:=c _ _ _ a;unfold aq at b e a⊢;rw[e]at b;cases b;exact a
def KR:Op→Bool
 | .load t _=>t==251
 |_=>false
def KU:Op→Bool
 | .store t _ _=>t==251
 |_=>false
def Nu(w:World)(s:ByteArray)(r:Ending)(w':World):Prop:=∃v,r= .returned v∧bK 3 1 w (.slice none 0 0) w' v (jE s).length ((jE s).map (Value.int .i64))
theorem qw(s:ByteArray)(w:World)(aU:s.size≤1099511627776)(P:df s=true):Calls Tryz.prog 166 #[.string s] w (Nu w s):=by
 obtain⟨i0,aD,ad,aJ,aK⟩:=info_parts sW;have a2:=af aU;have a3:=af P;clear aU P;refine(callsIn_wide (n:=6)).1 (callsIn_of_wp_marks Tryz.func166 rfl trivial (wpIn_wide.2 ?_) rfl);simp only[Tryz.ntmps166,List.size_toArray,List.length_cons,List.length_nil,Nat.reduceAdd,Nat.reduceSub,Array.replicate_succ,Array.replicate_zero,List.push_toArray,List.append_toArray,List.nil_append,List.cons_append];go_wp2_with(refine an rfl 251 rfl (.slice none 0 0) GX #[.slice none 0 0] rfl ?_);intro aj M;have T:=af M.fr;have p:=af M.aE;have a6:Sz w w.heap.size:=Nat.le_refl _;clear M;generalize w.heap.size=g2 at*;go_wp2_with(refine an rfl 251 rfl (.slice none 0 0) GX #[.slice none 0 0] rfl ?_);intro w2 nb;have G:=af (T.out.trans nb.fr);have R:=af (p.out.fr nb.fr (fun x=>x));have F:=af nb.aE;have aP:Sz w aj.heap.size:=T.out.size;have av:Hid (g2<aj.heap.size):=p.out.lt;clear nb p T;generalize aj.heap.size=g3 at*;have aN:Hid (rM w w2 g2 g3 [] w2):=⟨⟨G.out,KP.refl _,_,F.out,⟨rfl, .inl ⟨rfl,rfl⟩⟩,fun k L=>by simp[Value.ownBlock]at L⟩,⟨_,R.out⟩,fun v m=>by
  have h:=F.out;unfold aq at h m;rw[h]at m;cases m;simp[Value.ownBlock]⟩;have ae:Hid (g3<w2.heap.size):=F.out.lt;clear F R G;go_wp2_with fail;refine(xi s _).mono ?_;rintro r w3⟨rfl,f3,b3⟩;have ao:Hid (rM w w2 g2 g3 [] w3):=aN.out.later f3 ae.out;have aY:=af b3;have S:Hid (w2.heap.size≤w3.heap.size):=f3.size;clear f3 b3 aN;generalize w2.heap.size=gs at*;go_wp2_with fail;refine(wpIn_wide (n:=6)).1 ?_;refine wpIn_rangeFunc_ownH rfl (by omega) (gf:=182) (lb:=#[.pointer (some ⟨gs,0,none⟩)]) rfl trivial (enters_of Tryz.func182 (by kernel_rfl) rfl)
  (so 5 gs s w3 a2.out aY.out) (fun h k=>h.trans k) (fun W l o be _ ho Z _=>KP.put W l o be ho Z) (Below.refl _ _) (fun _=>rfl)
  (rM w w2 g2 g3) (fun _ pre _=>∃x∈pre,x.e≠0) (rM.iY (Nat.lt_of_lt_of_le ae.out S.out) ao.out.row.fr.size) (fun _ _ _ _ _ h _ _=>h) ao.out
  (fun x ay W=>∃g,ay=({tmps:=#[.string s,undef, .pointer (some ⟨g2,0,none⟩), .pointer (some ⟨g3,0,none⟩), .pointer (some ⟨g,0,none⟩), .string s, .func (.func 182) #[] #[.pointer (some ⟨gs,0,none⟩)], .agg #[.int .i64 x.ord, .int .i64 x.at_, .int .i64 x.e],undef,undef,undef,undef,undef,undef,undef,undef,undef],defers:=[]}:Act)∧aq W g 270 (bp x))
  (fun x ay _ A B row h a9 bc=>by
   obtain⟨g,e,m⟩:=h;exact⟨g,e,(nM a9 bc).2.2 _ _ _ m⟩)
  ?assign ?body ?done ?stop;case assign=>
  intro l pre x W K j O;have a1:=af O;have N:=af j;clear O j;gi_wp2_with(refine cj Ck rfl (by kernel_rfl) ?_);go_wp2_with(refine an rfl 270 rfl (.agg oL) uQ oL rfl ?_);intro aj M;have T:=af M.fr;have aX:=af M.aE;have a5:Sz W W.heap.size:=Nat.le_refl _;clear M;generalize W.heap.size=g at*;go_wp2_with(refine ai rfl 270 (.tmp 4) _ rfl g (bp x) rfl rfl _ _ aX.out cg rfl (dh x) ?_);intro bg bb a7;have G:Fr ag W bg:=T.out.aw a7 (fun i aT e=>by have J:i=g:=e;have:=a5;unfold Sz at this;omega);refine⟨?_,rfl⟩;refine a1.out _ _ ⟨G.size,fun k o _ ho _=>(G.block k (Array.getElem?_eq_some_iff.1 ho).1 (fun x=>x)).trans ho⟩ (KP.fr G (fun _ _ _ _ _ x=>x)) (N.out.later G (by obtain⟨v,m,_,_⟩:=N.out.row.row;exact m.lt)) ⟨g,rfl,bb⟩
 case body=>
  rintro bk pre x ay W ba aF j⟨g,rfl,C⟩aa;have N:=af j;have bh:=af C;have bl:W.cell? ⟨g,0,none⟩=some (.int .i64 x.ord):=C.cell 0;have bm:W.cell? ⟨g,2,none⟩=some (.int .i64 x.e):=C.cell 2;obtain⟨v2,z⟩:=j.res;obtain⟨v,b3,b,a⟩:=j.row.row;obtain⟨E,m1,I,rfl,H1,aZ⟩:=aG b;have ah:=af (j.eG _ b3);have d:=af b;have u:=af a;have p:=af z;have F:=af b3;have c3:W.cell? ⟨g3,0,none⟩=some (.slice E m1 I):=b3.cell 0;have ap:Hid (pre.length<9):=Nat.lt_of_lt_of_le aa (xf s);clear j C aa ba aF z b3 b a;by_cases aI:x.e=0
  ·have aM:((x.e:Int)==0)=true:=by rw[beq_iff_eq];omega
   gi_wp2_with(refine cj KR rfl (by kernel_rfl) ?_);go_wp2_with(at_builtin;refine cP _ rfl _ _ 251 rfl 3 i0 (.int .i64 0) 1 8 Tryz.underlying251 aD ad aJ aK rfl (by omega) _ _ _ rfl d.out 1 _ _ rfl rfl rfl ?zA ?zB (by omega) ?_);case zA=>simp[Value.oneCell']
   case zB=>have:=ap.out;omega
   intro bf aW aR;have X:=af aR;clear aR;have am:Hid (aq aW g3 251 #[.slice E m1 I]):=F.out.fr X.out.fr (fun e=>(u.out _ e).2 rfl);obtain⟨ak,m2,aB,rfl,_,_⟩:=aG X.out.own;go_wp2_with(refine bS rfl 251 (.tmp 3) _ rfl g3 (.slice ak m2 aB) rfl rfl rfl _ _ am.out qs ?_);intro y3 H f3;refine⟨?_,rfl⟩;have au:bK 3 1 W (.slice E m1 I) aW (.slice ak m2 aB) ((pre++[x]).length) (E0 (pre++[x])):=by
    have h:=X.out;rw[aS,E0,List.map_append];exact h
   have y:=pt.step (v:= .slice E m1 I) (v2:= .slice ak m2 aB) N.out.row ae.out (Nat.le_trans aP (Nat.le_of_lt ae.out)) aP (by decide) (by decide) F.out d.out u.out az au f3 H;have al:aq y3 g2 251 #[v2]:=(p.out.fr X.out.fr ah.out).fr f3 (fun e=>by have J:g2=g3:=e;have:=av.out;omega);have V:KeepsFrom w3.heap.size W y3:=⟨y.1.size,fun q o ac ho Z=>y.1.same q o (Nat.le_trans S.out ac) ho Z⟩;refine⟨V,y.2.1,⟨y.2.2,⟨_,al⟩,fun v P e=>?_⟩⟩;unfold aq at P H;rw[H]at P;cases P;rcases X.out.eG _ e with h|h;·exact ah.out h
   ·have:=p.out.lt;omega
  ·have aM:((x.e:Int)==0)=false:=by rw[beq_eq_false_iff_ne];omega
   have a4:=af aI;gi_wp2_with(refine cj KU rfl (by kernel_rfl) ?_);go_wp2_with(refine bS rfl 251 (.tmp 2) _ rfl g2 (.slice none 0 0) rfl rfl rfl _ _ p.out qs ?_);intro Q aA Y;refine⟨?_,rfl⟩;gi_wp2;refine⟨⟨Y.size,fun q o bj ho Z=>(Y.block q (Array.getElem?_eq_some_iff.1 ho).1 (fun ac=>?_)).trans ho⟩,x,by simp,a4.out⟩;have e:q=g2:=ac;subst e;have m:=p.out;unfold aq at m;rw[m]at ho;cases ho;simp[Obj.isCells]at Z
 case done=>
  rintro D xs W aC rfl j O;obtain⟨v2,z⟩:=j.res;obtain⟨v,b3,b,a⟩:=j.row.row;obtain⟨E,m1,I,rfl,H1,aZ⟩:=aG b;have ar:=af O;have a0:=af aC;have N:=af j;have ah:=af (j.eG _ b3);have d:=af b;have u:=af a;have p:=af z;have c3:W.cell? ⟨g3,0,none⟩=some (.slice E m1 I):=b3.cell 0;clear j aC O z b3 b a;go_wp2_with(refine bS rfl 251 (.tmp 2) _ rfl g2 (.slice E m1 I) rfl rfl rfl _ _ p.out qs ?_);intro Q aA Y;have aO:=af aA;have V:=af Y;have U:Hid (Q.heap[D]? =some (.deferred (some []))):=by
   refine(V.out.block D (Array.getElem?_eq_some_iff.1 ar.out).1 (fun ac=>?_)).trans ar.out;have a8:=ar.out;have e:D=g2:=ac;subst e;have aH:=p.out;unfold aq at aH;rw[a8]at aH;cases aH
  clear aA Y c3;go_wp2;refine⟨by simp, .inl ⟨_,_,rfl,run_takeDeferred U.out,?_⟩⟩;have ax:Fr (fun k=>some k=some D) Q (Q.putObj D (.deferred none)):=Fr.grown (grownBy_putObj' Q D _);have aV:∀g,(∃c t f,Q.heap[g]? =some (.cells c t f))→¬(some g=some D):=fun g⟨c,t,f,m⟩e=>by
   have J:g=D:=by simpa using e
   subst J;rw[U.out]at m;cases m
  refine⟨_,xY _ _ g2 _ rfl (aO.out.fr ax (aV g2 ⟨_,_,_,aO.out⟩)),⟨_,rfl,⟨?_,?_,fun k L=> .inr (u.out k L).1⟩⟩⟩
  ·have aQ:=aL d.out V.out (fun k L e=>by have J:k=g2:=e;subst J;exact ah.out L);have z:=aL aQ ax (fun k L e=>by
    obtain⟨c,f,ho⟩:=cS aQ L;exact aV k ⟨_,_,_,ho⟩ e);rw[jE,List.length_map,List.map_map];exact z
  ·refine((N.out.row.fr.aw V.out (fun i aT e=>?_)).aw ax (fun i aT e=>?_)).bO;·have J:i=g2:=e;have z:=a6;unfold Sz at z;omega
   ·have J:i=D:=by simpa using e
    have:=a0.out;have:=ao.out.row.fr.size;omega
 case stop=>
  rintro D bi pre W aC ab⟨x,bd,aI⟩O;have h:=a3.out;rw[df,List.all_eq_true]at h;have:=h x (ab.subset bd);simp only[beq_iff_eq]at this;exact absurd this aI
end Go.Proofs.YtphjagkehiklkaaGreatDoor
namespace Go.Proofs.YtphjagkehiklkaaGreatDoor
open Go.RowKit Go.Shelf
theorem Ka(a b:Int):Gs a b=dU a b:=rfl
theorem Bp(a b:ByteArray)(w:World):Calls Tryz.prog 161 #[.string a, .string b] w (bm w (.int .i64 (me a b))):=by
 have c:=af (fun a w=>Ex a w);have d:=af (vJ a b);have key:∀r,me a b=r→Calls Tryz.prog 161 #[.string a, .string b] w (bm w (.int .i64 r))→Calls Tryz.prog 161 #[.string a, .string b] w (bm w (.int .i64 (me a b))):=fun r h k=>by rw[h];exact k
 by_cases f:Op.bytesLess a.toList b.toList=true;·refine key (-1) (by rw[d.out,if_pos f]) ?_;clear key d;go_enter Tryz.func161,Tryz.ntmps161;go_wp2_with fail;refine(c.out a _).mono ?_;rintro e w'⟨rfl,rfl⟩;go_wp2_with fail;refine(c.out b _).mono ?_;rintro e w'⟨rfl,rfl⟩;go_wp2;go_ret;exact⟨rfl,rfl⟩
 ·have i:Op.bytesLess a.toList b.toList=false:=by simpa using f
  by_cases e:a=b
  ·subst e;refine key 0 (by rw[d.out,if_neg f,if_pos rfl]) ?_;clear key d;have g:(a.toList==a.toList)=true:=by simp
   go_enter Tryz.func161,Tryz.ntmps161;go_wp2_with fail;refine(c.out a _).mono ?_;rintro e w'⟨rfl,rfl⟩;go_wp2_with fail;refine(c.out a _).mono ?_;rintro e w'⟨rfl,rfl⟩;go_wp2;go_ret;exact⟨rfl,rfl⟩
  ·refine key 1 (by rw[d.out,if_neg f,if_neg e]) ?_;have g:(a.toList==b.toList)=false:=by rw[beq_eq_false_iff_ne];exact fun h=>e (toList_inj h)
   clear key d e;go_enter Tryz.func161,Tryz.ntmps161;go_wp2_with fail;refine(c.out a _).mono ?_;rintro e w'⟨rfl,rfl⟩;go_wp2_with fail;refine(c.out b _).mono ?_;rintro e w'⟨rfl,rfl⟩;go_wp2;go_ret;exact⟨rfl,rfl⟩
theorem II(a:ByteArray)(w:World):Calls Tryz.prog 180 #[.string a] w (bm w (.bool false)):=by
 go_enter Tryz.func180,Tryz.ntmps180;go_wp2;go_ret;exact⟨rfl,rfl⟩
theorem Eg(a b:ByteArray)(w:World):Calls Tryz.prog 167 #[.string a, .string b] w (bm w (.int .i64 (me a b))):=by
 have c:=af (fun a w=>II a w);have d:=af (vJ a b);have key:∀r,me a b=r→Calls Tryz.prog 167 #[.string a, .string b] w (bm w (.int .i64 r))→Calls Tryz.prog 167 #[.string a, .string b] w (bm w (.int .i64 (me a b))):=fun r h k=>by rw[h];exact k
 by_cases f:Op.bytesLess a.toList b.toList=true;·refine key (-1) (by rw[d.out,if_pos f]) ?_;clear key d;go_enter Tryz.func167,Tryz.ntmps167;go_wp2_with fail;refine(c.out a _).mono ?_;rintro e w'⟨rfl,rfl⟩;go_wp2_with fail;refine(c.out b _).mono ?_;rintro e w'⟨rfl,rfl⟩;go_wp2;go_ret;exact⟨rfl,rfl⟩
 ·have i:Op.bytesLess a.toList b.toList=false:=by simpa using f
  by_cases e:a=b
  ·subst e;refine key 0 (by rw[d.out,if_neg f,if_pos rfl]) ?_;clear key d;have g:(a.toList==a.toList)=true:=by simp
   go_enter Tryz.func167,Tryz.ntmps167;go_wp2_with fail;refine(c.out a _).mono ?_;rintro e w'⟨rfl,rfl⟩;go_wp2_with fail;refine(c.out a _).mono ?_;rintro e w'⟨rfl,rfl⟩;go_wp2;go_ret;exact⟨rfl,rfl⟩
  ·refine key 1 (by rw[d.out,if_neg f,if_neg e]) ?_;have g:(a.toList==b.toList)=false:=by rw[beq_eq_false_iff_ne];exact fun h=>e (toList_inj h)
   clear key d e;go_enter Tryz.func167,Tryz.ntmps167;go_wp2_with fail;refine(c.out a _).mono ?_;rintro e w'⟨rfl,rfl⟩;go_wp2_with fail;refine(c.out b _).mono ?_;rintro e w'⟨rfl,rfl⟩;go_wp2;go_ret;exact⟨rfl,rfl⟩
theorem JQ{x:Int}(h:x=0):(x==0)=true:=by subst h;rfl
theorem tK{x:Int}(h:x≠0):(x==0)=false:=by rw[beq_eq_false_iff_ne];exact h
theorem Ba(x y z:Int):∀(k:Nat)(v:Int),([x,y,z])[k]? =some v→v≠0→(∀(j:Nat)(u:Int),j<k→([x,y,z])[j]? =some u→u=0)→aX x (aX y z)=v
 |0,v,a,c,b=>by
  obtain rfl:x=v:=by simpa using a
  simp[aX,c]
 |1,v,a,c,b=>by
  obtain rfl:y=v:=by simpa using a
  have:=b 0 x (by omega) rfl;simp[aX,this,c]
 |2,v,a,c,b=>by
  obtain rfl:z=v:=by simpa using a
  have d:=b 0 x (by omega) rfl;have e:=b 1 y (by omega) rfl;simp[aX,d,e]
 |k+3,v,a,_,_=>by simp at a
theorem zx(x y z:Int)(a:∀(j:Nat)(u:Int),j<3→([x,y,z])[j]? =some u→u=0):aX x (aX y z)=0:=by
 have b:=a 0 x (by omega) rfl;have c:=a 1 y (by omega) rfl;have d:=a 2 z (by omega) rfl;simp[aX,b,c,d]
theorem Rd.any{w:World}{S:Nat→Prop}{size n:Nat}{A:Option Addr}{xs:List Value}(h:Rd w S size A n xs):Rd w (fun _=>True) size A n xs:=
 ⟨h.1,fun c=>by obtain⟨a,e,_,b⟩:=h.2 c;exact⟨a,e,trivial,b⟩⟩
theorem Eh(x y z:Int)(g:Nat)(w:World)(h:aq w g 3 #[.int .i64 x, .int .i64 y, .int .i64 z]):Calls Tryz.prog 132 #[.slice (some ⟨g,0,none⟩) 3 3] w (bm w (.int .i64 (aX x (aX y z)))):=by
 have HB:=af h;have n:Hid (∀k:Nat,k<3→∃v:Int,([x,y,z])[k]? =some v∧w.cell? ⟨g,k,none⟩=some (.int .i64 v)):=fun k f=>by
  match k,f with
  |0,_=>exact⟨x,rfl,h.cell 0⟩
  |1,_=>exact⟨y,rfl,h.cell 1⟩
  |2,_=>exact⟨z,rfl,h.cell 2⟩
 clear h;have o:Hid (∀(k:Nat)(v:Int),([x,y,z])[k]? =some v→v≠0→(∀(j:Nat)(u:Int),j<k→([x,y,z])[j]? =some u→u=0)→aX x (aX y z)=v):=fun k v=>Ba x y z k v;have p:Hid ((∀(j:Nat)(u:Int),j<3→([x,y,z])[j]? =some u→u=0)→aX x (aX y z)=0):=zx x y z;generalize aX x (aX y z)=t at*;go_enter Tryz.func132,Tryz.ntmps132;go_wp2;go_loopw[8](fun i wr=>∃k:Nat,k≤3∧(∀j u,j<k→([x,y,z])[j]? =some u→u=0)∧i= .int .i64 k∧w=wr)(fun i _=>3-(intOf i).toNat);case atStart=>exact⟨0,by omega,fun j u h=>by omega,rfl,rfl⟩
 case round=>
  obtain⟨k,f,m,rfl,rfl⟩:=hrel;have b:=af m;clear m;by_cases c:k<3
  ·have q:(k:Int)<3:=by omega
   obtain⟨v,l,r⟩:=n.out k c;have d:=af l;clear l;by_cases a:v=0
   ·subst a;go_wp2;go_roundw
    case rel=>exact⟨k+1,by omega,fun j u s hu=>by
      by_cases e:j=k;·subst e;have:=d.out;rw[hu]at this;cases this;rfl
      ·exact b.out j u (by omega) hu,by go_num,trivial⟩
    case measure=>simp[intOf];omega
   ·have t1:=tK a;obtain rfl:t=v:=o.out k v d.out a b.out;go_wp2;go_ret;exact⟨rfl,rfl⟩
  ·obtain rfl:k=3:=by omega
   obtain rfl:t=0:=p.out b.out;go_wp2;go_ret;exact⟨rfl,rfl⟩
theorem qf{α:Type}{c:α→α→Int}(h:ij c):∀(p a b:List α),cmpL c (p++a) (p++b)=cmpL c a b
 |[],_,_=>rfl
 |x::p,a,b=>by
  rw[List.cons_append,List.cons_append,cmpL,h.refl,aX,if_pos rfl];exact qf h p a b
theorem xC(xs r:List Int)(A B:Option Addr)(n m c d:Nat)(w:World)(D:Rd w (fun _=>True) 1 A n (xs.map (Value.int .i64)))(E:Rd w (fun _=>True) 1 B m (r.map (Value.int .i64)))(ad:n≤1099511627776)(W:m≤1099511627776):
  Calls Tryz.prog 165 #[.slice A n c, .slice B m d] w (bm w (.int .i64 (cmpL dU xs r))):=by
 have l1:xs.length=n:=by simpa using D.1
 have l2:r.length=m:=by simpa using E.1
 have V:Hid (∀k v,xs[k]? =some v→∃g,A=some g∧w.cell? (g.add k)=some (.int .i64 v)):=fun k v y=>by
  have Q:=(List.getElem?_eq_some_iff.1 y).1;obtain⟨g,e,_,J⟩:=D.2 (by omega);exact⟨g,e,J k _ (by rw[List.getElem?_map,y];rfl)⟩
 have HB:Hid (∀k v,r[k]? =some v→∃g,B=some g∧w.cell? (g.add k)=some (.int .i64 v)):=fun k v y=>by
  have Q:=(List.getElem?_eq_some_iff.1 y).1;obtain⟨g,e,_,J⟩:=E.2 (by omega);exact⟨g,e,J k _ (by rw[List.getElem?_map,y];rfl)⟩
 have N:=af l1;have C:=af l2;have U:=af (fun a b w=>iV a b w);obtain⟨R,G⟩:∃R,R=cmpL dU xs r:=⟨_,rfl⟩;rw[←G];have z:=af G;clear D E l1 l2 G;go_enter Tryz.func165,Tryz.ntmps165;go_wp2;go_loopw[11](fun i wr=>∃k:Nat,k≤n∧(∃p a b,p.length=k∧xs=p++a∧r=p++b)∧i= .int .i64 k∧w=wr)(fun i _=>n-(intOf i).toNat);case atStart=>exact⟨0,by omega,⟨[],xs,r,rfl,rfl,rfl⟩,rfl,rfl⟩
 case round=>
  obtain⟨k,Q,⟨p,a,b,hp,S,T⟩,rfl,rfl⟩:=hrel;have f:=af hp;have l:=af S;have j:=af T;clear hp S T;by_cases aa:k<n
  ·have ac:(k:Int)<(n:Int):=by omega
   have H:∃v s,a=v::s:=by
    cases a with
    |nil=>
     have h:=N.out;rw[l.out,List.append_nil,f.out]at h;omega
    |cons v s=>exact⟨v,s,rfl⟩
   obtain⟨v,s,rfl⟩:=H;obtain⟨g,rfl,Y⟩:=V.out k v (by rw[l.out,List.getElem?_append_right (by rw[f.out];omega),f.out,Nat.sub_self];rfl);by_cases K:k<m
   ·have P:(k:Int)<(m:Int):=by omega
    have F:decide ((m:Int)≤(k:Int))=false:=cD (by omega);have I:∃u o,b=u::o:=by
     cases b with
     |nil=>
      have h:=C.out;rw[j.out,List.append_nil,f.out]at h;omega
     |cons u o=>exact⟨u,o,rfl⟩
    obtain⟨u,o,rfl⟩:=I;obtain⟨ab,rfl,Z⟩:=HB.out k u (by rw[j.out,List.getElem?_append_right (by rw[f.out];omega),f.out,Nat.sub_self];rfl);go_wp2_with fail;refine(U.out v u _).mono ?_;rintro e w'⟨rfl,rfl⟩;have M:=af (Ka v u);generalize Gs v u=O at*;by_cases q:O=0
    ·subst q;have L:Hid (v=u):=fh.eq v u M.out.symm;go_wp2;go_roundw;case rel=>exact⟨k+1,by omega,⟨p++[v],s,o,by rw[aS,f.out];rfl,by rw[l.out];simp,by rw[j.out,L.out];simp⟩,by go_num,trivial⟩
     case measure=>simp[intOf];omega
    ·have t1:=tK q;obtain rfl:R=O:=by
      rw[z.out,l.out,j.out,qf fh,cmpL,←M.out,aX,if_neg q]
     go_wp2;go_ret;exact⟨rfl,rfl⟩
   ·have F:decide ((m:Int)≤(k:Int))=true:=de (by omega);have X:¬(k:Int)<(m:Int):=by omega
    have I:b=[]:=by
     have h:=congrArg List.length j.out;rw[C.out,aS,f.out]at h;exact List.length_eq_zero_iff.1 (by omega)
    subst I;obtain rfl:R=1:=by rw[z.out,l.out,j.out,qf fh];rfl
    go_wp2;go_ret;exact⟨rfl,rfl⟩
  ·obtain rfl:k=n:=by omega
   have H:a=[]:=by
    have h:=congrArg List.length l.out;rw[N.out,aS,f.out]at h;exact List.length_eq_zero_iff.1 (by omega)
   subst H;have t:Hid (R=cmpL dU [] b):=by simp only[Hid];rw[z.out,l.out,j.out,qf fh]
   have x:Hid (m=k+b.length):=by
    have h:=congrArg List.length j.out;rw[C.out,aS,f.out]at h;exact h
   by_cases K:k<m
   ·have P:(k:Int)<(m:Int):=by omega
    obtain rfl:R=-1:=by
     rw[t.out];cases b with
     |nil=>have:=x.out;simp at this;omega
     |cons u o=>rfl
    go_wp2;go_ret;exact⟨rfl,rfl⟩
   ·have P:¬(k:Int)<(m:Int):=by omega
    obtain rfl:R=0:=by
     rw[t.out];cases b with
     |nil=>rfl
     |cons u o=>have:=x.out;simp at this;omega
    go_wp2;go_ret;exact⟨rfl,rfl⟩
def lz(a b:ByteArray):Int:=if a=b then 0 else if df a=true then(if df b=true then cmpL dU (jE a) (jE b)else-1)else if df b=true then 1 else me a b
theorem yR(s:ByteArray):(jE s).length≤9:=by rw[jE,List.length_map];exact xf s
theorem lB(a b:ByteArray)(w:World)(p:a.size≤1099511627776)(q:b.size≤1099511627776):Calls Tryz.prog 134 #[.string a, .string b] w (aH w (.int .i64 (lz a b))):=by
 by_cases e:a=b;·subst e;rw[show lz a a=0 by simp[lz]];refine(pM a w).mono ?_;rintro e w'⟨rfl,rfl⟩;exact aM
 ·have F:(a.toList==b.toList)=false:=by rw[beq_eq_false_iff_ne];exact fun h=>e (toList_inj h)
  have j:=af (fun w=>oh a w p);have k:=af (fun w=>oh b w q);have u:=af (fun w=>Eg a b w);have f:Hid (lz a b=if df a=true then(if df b=true then cmpL dU (jE a) (jE b)else-1)else if df b=true then 1 else me a b):=by simp only[Hid,lz];rw[if_neg e]
  have g:=af (fun w h=>qw a w p h);have i:=af (fun w h=>qw b w q h);have l:=af (yR a);have m:=af (yR b);generalize lz a b=G at*;generalize df a=va at*;generalize df b=r at*;clear e;go_enter Tryz.func134,Tryz.ntmps134;go_wp2_with fail;refine(j.out _).mono ?_;rintro e w1⟨rfl,f1⟩;have o:=af f1;clear f1;go_wp2_with fail;refine(k.out _).mono ?_;rintro e w2⟨rfl,f2⟩;have d:=af (o.out.trans f2);clear f2 o;cases va
  ·cases r;·go_wp2_with fail;refine(u.out _).mono ?_;rintro e w'⟨rfl,rfl⟩;go_wp2;go_ret;rw[f.out];exact⟨rfl,d.out⟩
   ·go_wp2;go_ret;rw[f.out];exact⟨rfl,d.out⟩
  ·cases r;·go_wp2;go_ret;rw[f.out];exact⟨rfl,d.out⟩
   ·go_wp2_with fail;refine(g.out _ (by first|rfl|trivial)).mono ?_;rintro e w3⟨v,rfl,c⟩;obtain⟨s,m1,C,rfl,H1,_⟩:=aG c.own;obtain rfl:=H1.out;have x:=af (d.out.trans c.ao);have A:=af (Rd.gR c.own);clear c;go_wp2_with fail;refine(i.out _ (by first|rfl|trivial)).mono ?_;rintro e E⟨v,rfl,c⟩;obtain⟨t,m2,D,rfl,z,_⟩:=aG c.own;obtain rfl:=z.out;have y:=af (x.out.trans c.ao);have B:=af (Rd.gR c.own);have n:=af (A.out.ao c.ao);clear c;go_wp2_with fail;refine(xC (jE a) (jE b) s t _ _ C D E n.out.any B.out.any (by have:=l.out;omega) (by have:=m.out;omega)).mono ?_;rintro e w'⟨rfl,rfl⟩;go_wp2;go_ret;rw[f.out];exact⟨rfl,y.out⟩
def bQ(n m:aJ):Int:=aX (dU n.kind m.kind) (aX (lz n.owner m.owner) (aX (dU n.number m.number) (aX (dU n.index m.index) (me n.text m.text))))
theorem gh(n m:aJ)(w:World)(O:n.owner.size≤1099511627776)(hm:m.owner.size≤1099511627776):Calls Tryz.prog 128 #[.agg n.cells.toArray, .agg m.cells.toArray] w (aH w (.int .i64 (bQ n m))):=by
 have V:Hid (∀w,Calls Tryz.prog 133 #[.int .i64 n.kind, .int .i64 m.kind] w (bm w (.int .i64 (dU n.kind m.kind)))):=fun w=>iV _ _ w;have W:=af (fun w=>lB n.owner m.owner w O hm);have X:Hid (∀w,Calls Tryz.prog 133 #[.int .i64 n.number, .int .i64 m.number] w (bm w (.int .i64 (dU n.number m.number)))):=fun w=>iV _ _ w;have Y:Hid (∀w,Calls Tryz.prog 133 #[.int .i64 n.index, .int .i64 m.index] w (bm w (.int .i64 (dU n.index m.index)))):=fun w=>iV _ _ w;have Z:=af (fun w=>Bp n.text m.text w);have E:Hid (bQ n m=aX (dU n.kind m.kind) (aX (lz n.owner m.owner) (aX (dU n.number m.number) (aX (dU n.index m.index) (me n.text m.text))))):=rfl;generalize bQ n m=R at*;generalize dU n.kind m.kind=z0 at*;generalize lz n.owner m.owner=z1 at*;generalize dU n.number m.number=z2 at*;generalize dU n.index m.index=z3 at*;generalize me n.text m.text=z4 at*;clear O hm;go_enter Tryz.func128,Tryz.ntmps128;go_wp2_with(refine aB rfl 106 (.tmp 0) rfl n.cells.toArray rfl ?_);intro w1 n1;have F:=af n1;clear n1;generalize y:w.heap.size=k at*;have t:Hid (aq w1 k 106 n.cells.toArray):=by have h:=F.out.aE;rw[y]at h;exact h
 clear y;go_wp2_with(refine aB rfl 106 (.tmp 1) rfl m.cells.toArray rfl ?_);intro w2 S;have C:=af S;clear S;generalize z:w1.heap.size=l at*;have i:Hid (aq w2 l 106 m.cells.toArray):=by have h:=C.out.aE;rw[z]at h;exact h
 clear z;have g:=af (t.out.fr C.out.fr (fun x=>x));have D:=af (F.out.fr.trans C.out.fr);have G:w2.cell? ⟨k,0,none⟩=some (.int .i64 n.kind):=g.out.cell 0;have I:w2.cell? ⟨l,0,none⟩=some (.int .i64 m.kind):=i.out.cell 0;have H:w2.cell? ⟨k,1,none⟩=some (.string n.owner):=g.out.cell 1;have J:w2.cell? ⟨l,1,none⟩=some (.string m.owner):=i.out.cell 1;clear F C t;go_wp2_with fail;refine(V.out _).mono ?_;rintro e w'⟨rfl,rfl⟩;by_cases q:z0=0
 ·have j:=af q;have t0:=JQ q;clear q;go_wp2_with fail;refine(W.out _).mono ?_;rintro e w3⟨rfl,f3⟩;have p:=af f3;clear f3 G I H J;by_cases r:z1=0
  ·have s:=af r;have t1:=JQ r;clear r;go_upto_region 7 with fail;refine ay 15 ag [Is (.pointer (some ⟨k,2,none⟩)),Is (.int .i64 n.number),Is (.pointer (some ⟨l,2,none⟩)),Is (.int .i64 m.number),Is (.int .i64 z2),Is (.pointer (some ⟨k,3,none⟩)),Is (.int .i64 n.index),Is (.pointer (some ⟨l,3,none⟩)),Is (.int .i64 m.index),Is (.int .i64 z3),Is (.pointer (some ⟨k,4,none⟩)),Is (.string n.text),Is (.pointer (some ⟨l,4,none⟩)),Is (.string m.text),Is (.int .i64 z4)] [] (fun _=>True) (fun _ _=>false) (by kernel_rfl) (by kernel_rfl) (by kernel_rfl) (by kernel_rfl) ⟨Is.ah _,Is.ah _,Is.ah _,Is.ah _,Is.ah _,Is.ah _,Is.ah _,Is.ah _,Is.ah _,Is.ah _,Is.ah _,Is.ah _,Is.ah _,Is.ah _,Is.ah _,trivial⟩ trivial (fun _ _ _ _ h=>h) trivial ?_ ?_
   ·refine⟨?_,?_,?_,?_,?_,?_,?_,?_,?_,?_,?_,?_,?_,?_,?_,trivial⟩;all_goals intro u w' d o a f c b
    all_goals simp only[bw,bC,bD,bE,ar,Act.put,bF,bG,bH,Nat.reduceAdd,Nat.zero_add]
    ·clear a f c b;refine aj ?_;go_simp;exact⟨_,rfl,al⟩
    ·have q:u 0=_:=a 0;clear a f c b;simp only[q];refine aj ?_;have v:w'.cell? ⟨k,2,none⟩=some (.int .i64 n.number):=(g.out.fr (p.out.trans o) (fun x=>x)).cell 2;go_simp;exact⟨_,rfl,al⟩
    ·clear a f c b;refine aj ?_;go_simp;exact⟨_,rfl,al⟩
    ·have ae:u 2=_:=a 2;clear a f c b;simp only[ae];refine aj ?_;have v:w'.cell? ⟨l,2,none⟩=some (.int .i64 m.number):=(i.out.fr (p.out.trans o) (fun x=>x)).cell 2;go_simp;exact⟨_,rfl,al⟩
    ·have r:u 1=_:=a 1;have ai:u 3=_:=a 3;clear a f c b;simp only[r,ai];refine aj ?_;go_simp;refine(X.out _).mono ?_;rintro e T⟨rfl,rfl⟩;exact⟨_,rfl,al⟩
    ·clear a f c b;refine aj ?_;go_simp;exact⟨_,rfl,al⟩
    ·have ak:u 5=_:=a 5;clear a f c b;simp only[ak];refine aj ?_;have v:w'.cell? ⟨k,3,none⟩=some (.int .i64 n.index):=(g.out.fr (p.out.trans o) (fun x=>x)).cell 3;go_simp;exact⟨_,rfl,al⟩
    ·clear a f c b;refine aj ?_;go_simp;exact⟨_,rfl,al⟩
    ·have an:u 7=_:=a 7;clear a f c b;simp only[an];refine aj ?_;have v:w'.cell? ⟨l,3,none⟩=some (.int .i64 m.index):=(i.out.fr (p.out.trans o) (fun x=>x)).cell 3;go_simp;exact⟨_,rfl,al⟩
    ·have am:u 6=_:=a 6;have ao:u 8=_:=a 8;clear a f c b;simp only[am,ao];refine aj ?_;go_simp;refine(Y.out _).mono ?_;rintro e T⟨rfl,rfl⟩;exact⟨_,rfl,al⟩
    ·clear a f c b;refine aj ?_;go_simp;exact⟨_,rfl,al⟩
    ·have K:u 10=_:=a 10;clear a f c b;simp only[K];refine aj ?_;have v:w'.cell? ⟨k,4,none⟩=some (.string n.text):=(g.out.fr (p.out.trans o) (fun x=>x)).cell 4;go_simp;exact⟨_,rfl,al⟩
    ·clear a f c b;refine aj ?_;go_simp;exact⟨_,rfl,al⟩
    ·have M:u 12=_:=a 12;clear a f c b;simp only[M];refine aj ?_;have v:w'.cell? ⟨l,4,none⟩=some (.string m.text):=(i.out.fr (p.out.trans o) (fun x=>x)).cell 4;go_simp;exact⟨_,rfl,al⟩
    ·have L:u 11=_:=a 11;have N:u 13=_:=a 13;clear a f c b;simp only[L,N];refine aj ?_;go_simp;refine(Z.out _).mono ?_;rintro e T⟨rfl,rfl⟩;exact⟨_,rfl,al⟩
   ·intro u w' o a b;have Q:u 4=_:=a 4 (by omega);have k9:u 9=_:=a 9 (by omega);have B:u 14=_:=a 14 (by omega);clear a b;simp only[bw,bC,bD,bE,ar,Act.put,bF,bG,bH,dj,dk,Nat.reduceAdd,Nat.zero_add,Q,k9,B];have ab:=af (D.out.trans (p.out.trans o));clear o Q k9 B;obtain⟨i0,ap,P,A,au⟩:=info_parts sW;have ac:Hid (¬3*i0.size>2^24):=by simp only[Hid];rw[A];omega
    have ad:Hid (¬3*i0.size=0):=by simp only[Hid];rw[A];omega
    go_wp2_with fail;have U:Hid (aq (w'.alloc (.cells #[.int .i64 z2, .int .i64 z3, .int .i64 z4] 3)) w'.heap.size 3 #[.int .i64 z2, .int .i64 z3, .int .i64 z4]):=aq.new _ _ _;have aa:=af (ab.out.trans ((Fr.refl ag w').alloc (.cells #[.int .i64 z2, .int .i64 z3, .int .i64 z4] 3)));refine(Eh z2 z3 z4 _ _ U.out).mono ?_;rintro e av⟨rfl,rfl⟩;go_wp2;go_ret;rw[E.out,j.out,s.out];exact⟨rfl,aa.out⟩
  ·have t1:=tK r;have s:=af r;clear r;go_wp2;go_ret;rw[E.out,j.out,aX,if_pos rfl,aX,if_neg s.out];exact⟨rfl,D.out.trans p.out⟩
 ·have t0:=tK q;have j:=af q;clear q;go_wp2;go_ret;rw[E.out,aX,if_neg j.out];exact⟨rfl,D.out⟩
end Go.Proofs.YtphjagkehiklkaaGreatDoor
namespace Go.Proofs.YtphjagkehiklkaaGreatDoor
open Go.RowKit
theorem pV{α:Type}(l:List α)(h:l≠[]):∃i x,l=i++[x]:=by
 rcases List.eq_nil_or_concat l with rfl|⟨i,b,rfl⟩;·exact absurd rfl h
 ·exact⟨i,b,by simp⟩
def ph(ds:List UInt8):Prop:=(∀b∈ds,mG b=true)∧ds≠[]∧ds[0]? ≠some 48
theorem wF{b:UInt8}(h:mG b=true):48≤b.toNat∧b.toNat≤57:=by simpa[mG]using h
theorem ph.init{i:List UInt8}{x:UInt8}(h:ph (i++[x]))(a:i≠[]):ph i:=by
 refine⟨fun b c=>h.1 b (by simp[c]),a,fun e=>h.2.2 ?_⟩;rw[List.getElem?_append_left (List.length_pos_iff.2 a)];exact e
theorem yP:∀(n:Nat)(ds:List UInt8),ds.length=n→ph ds→1≤fi ds:=by
 intro n;induction n with
 |zero=>intro ds h a;exact absurd (List.length_eq_zero_iff.1 h) a.2.1
 |succ n d=>
  intro ds h a;obtain⟨i,x,rfl⟩:=pV ds a.2.1;rw[mu];by_cases b:i=[];·subst b;have f:=wF (a.1 x (by simp));have c:x≠48:=fun e=>a.2.2 (by rw[e];rfl);have g:x.toNat≠48:=fun e=>c (UInt8.toNat_inj.1 e);omega
  ·have:=d i (by simpa using h) (a.init b);omega
theorem yO:∀(n:Nat)(ds es:List UInt8),ds.length=n→ph ds→ph es→fi ds=fi es→ds=es:=by
 intro n;induction n with
 |zero=>intro ds es h g;exact absurd (List.length_eq_zero_iff.1 h) g.2.1
 |succ n k=>
  intro ds es h c he e;obtain⟨i,x,rfl⟩:=pV ds c.2.1;obtain⟨j,y,rfl⟩:=pV es he.2.1;rw[mu,mu]at e;have l:=wF (c.1 x (by simp));have m:=wF (he.1 y (by simp));have f:x=y:=UInt8.toNat_inj.1 (by omega);have a:fi i=fi j:=by omega
  subst f;by_cases d:i=[]
  ·by_cases b:j=[];·rw[d,b]
   ·have:=yP _ j rfl (he.init b);rw[d]at a;simp[fi]at a;simp[fi]at this;omega
  ·by_cases b:j=[];·have:=yP _ i rfl (c.init d);rw[b]at a;simp[fi]at a;simp[fi]at this;omega
   ·rw[k i j (by simpa using h) (c.init d) (he.init b) a]
theorem Ep{c a:Nat}{l:List UInt8}(h:(cU c a l).1.e=0):ph (dC 7 l)∧(cU c a l).1.ord=fi (dC 7 l):=by
 simp only[cU]at h⊢;split at h;·simp at h
 ·rename_i f;rw[if_neg f];split at h;·simp at h
  ·rename_i g;rw[if_neg g];split at h;·simp at h
   ·rename_i b;rw[if_neg b];split at h;·simp at h
    ·rename_i d;rw[if_neg d];split at h;·simp at h
     ·rename_i i;rw[if_neg i];refine⟨⟨tf 7 l,b,fun e=>d ?_⟩,rfl⟩;have j:0<(dC 7 l).length:=List.length_pos_iff.2 b;rw[oO,List.getElem?_take_of_lt j]at e;exact e
theorem oM(n a:Nat)(l:List UInt8):dx n a l≠[]:=by
 cases n with
 |zero=>simp[dx]
 |succ n=>
  rw[dx];simp only;split;·simp
  ·split;·simp
   ·split<;>simp
theorem xh{n a:Nat}{l:List UInt8}(h:∀p∈dx (n+1) a l,p.e=0):
  ph (dC 7 l)∧((l=dC 7 l∧(dx (n+1) a l).map (·.ord)=[fi (dC 7 l)])∨
   ∃r,l=dC 7 l++46::r∧(dx (n+1) a l).map (·.ord)=fi (dC 7 l)::(dx n (a+(dC 7 l).length+1) r).map (·.ord)∧∀p∈dx n (a+(dC 7 l).length+1) r,p.e=0):=by
 rw[dx]at h⊢;simp only at h⊢;by_cases he:(cU (7-n) a l).1.e=0
 ·rw[if_neg (by simp[he])]at h⊢;obtain⟨i,g⟩:=Ep he;refine⟨i,?_⟩;have m:=lM 7 l;have f:=oO 7 l;by_cases b:l.length≤(dC 7 l).length;·rw[if_pos b];left;refine⟨?_,by simp[g]⟩;rw[List.take_of_length_le b]at f;exact f.symm
  ·rw[if_neg b]at h⊢;by_cases c:l[(dC 7 l).length]? =some 46;·rw[if_neg (by simp[c])]at h⊢;right;refine⟨l.drop ((dC 7 l).length+1),?_,by simp[g],fun p j=>h p (by simp[j])⟩;obtain⟨d,k⟩:=List.getElem?_eq_some_iff.1 c;conv=>lhs;rw[←List.take_append_drop (dC 7 l).length l,←f,List.drop_eq_getElem_cons d,k]
   ·rw[if_pos c]at h;have:=h ⟨0,a+(dC 7 l).length,6⟩ (by simp);simp at this
 ·rw[if_pos he]at h;exact absurd (h _ (by simp)) he
theorem uf:∀(n a b:Nat)(l m:List UInt8),(∀p∈dx n a l,p.e=0)→(∀p∈dx n b m,p.e=0)→(dx n a l).map (·.ord)=(dx n b m).map (·.ord)→l=m
 |0,a,b,l,m,h,_,_=>by
  have:=h ⟨0,a,9⟩ (by simp[dx]);simp at this
 |n+1,a,b,l,m,h,k,e=>by
  obtain⟨g1,o⟩:=xh h;obtain⟨g2,i⟩:=xh k;rcases o with⟨g,f⟩|⟨r,g,f,q⟩
  ·rcases i with⟨d,c⟩|⟨s,d,c,j⟩;·rw[f,c]at e;rw[g,d];exact yO _ _ _ rfl g1 g2 (by simpa using e)
   ·rw[f,c]at e;simp only[List.cons.injEq]at e;exact absurd (List.map_eq_nil_iff.1 e.2.symm) (oM _ _ _)
  ·rcases i with⟨d,c⟩|⟨s,d,c,j⟩;·rw[f,c]at e;simp only[List.cons.injEq]at e;exact absurd (List.map_eq_nil_iff.1 e.2) (oM _ _ _)
   ·rw[f,c]at e;simp only[List.cons.injEq]at e;rw[g,d,yO _ _ _ rfl g1 g2 e.1,uf n _ _ r s q j e.2]
theorem EZ{a b:ByteArray}(c:df a=true)(d:df b=true)(h:jE a=jE b):a=b:=by
 apply toList_inj;unfold df at c d;rw[List.all_eq_true]at c d;simp only[beq_iff_eq]at c d;unfold jE at h;have hm:(gJ a).map (·.ord)=(gJ b).map (·.ord):=by
  have g:=congrArg (List.map Int.toNat) h;simpa[List.map_map,Function.comp_def]using g
 unfold gJ at c d hm;by_cases f:a.size=0
 ·by_cases e:b.size=0;·rw[show a.toList=[]from List.length_eq_zero_iff.1 (by rw[ft];exact f),show b.toList=[]from List.length_eq_zero_iff.1 (by rw[ft];exact e)]
  ·rw[if_pos f,if_neg e]at hm;exact absurd (List.map_eq_nil_iff.1 hm.symm) (oM _ _ _)
 ·by_cases e:b.size=0;·rw[if_neg f,if_pos e]at hm;exact absurd (List.map_eq_nil_iff.1 hm) (oM _ _ _)
  ·rw[if_neg f]at c hm;rw[if_neg e]at d hm;exact uf 8 0 0 _ _ c d hm
def sg(a:ByteArray):(Int×List Int)×ByteArray:=if df a=true then((0,jE a),ByteArray.empty)else((1,[]),a)
theorem IJ(a b:ByteArray)(h:sg a=sg b):a=b:=by
 unfold sg at h;split at h
 ·rename_i c;split at h;·rename_i d;simp only[Prod.mk.injEq,true_and,and_true]at h;exact EZ c d h
  ·simp at h
 ·split at h;·simp at h
  ·simpa using h
def Gt(x y:(Int×List Int)×ByteArray):Int:=aX (aX (dU x.1.1 y.1.1) (cmpL dU x.1.2 y.1.2)) (me x.2 y.2)
theorem Bl:ij Gt:=((fh.lex (pC fh)).lex vI)
theorem Ib(a b:ByteArray):lz a b=Gt (sg a) (sg b):=by
 unfold lz;by_cases e:a=b;·subst e;rw[if_pos rfl,Bl.refl]
 ·rw[if_neg e];unfold sg Gt;by_cases d:df a=true
  ·rw[if_pos d,if_pos d];by_cases c:df b=true
   ·rw[if_pos c,if_pos c];simp only[fh.refl,aX,if_true,vI.refl];split;·assumption
    ·rfl
   ·rw[if_neg c,if_neg c];rfl
  ·rw[if_neg d,if_neg d];by_cases c:df b=true;·rw[if_pos c,if_pos c];rfl
   ·rw[if_neg c,if_neg c];simp only[fh.refl,aX,if_true,(pC fh).refl]
theorem Bm:ij lz:=by
 have h:=Bl.pull sg IJ;have e:lz=fun a b=>Gt (sg a) (sg b):=by funext a b;exact Ib a b
 rw[e];exact h
def Kz(n:aJ):Int×ByteArray×Int×Int×ByteArray:=(n.kind,n.owner,n.number,n.index,n.text)
theorem bZ:ij bQ:=by
 have h:=(fh.lex (Bm.lex (fh.lex (fh.lex vI)))).pull Kz (fun a b e=>by
  cases a;cases b;simpa[Kz]using e);exact h
end Go.Proofs.YtphjagkehiklkaaGreatDoor
namespace Go.Proofs.YtphjagkehiklkaaGreatDoor
open Go.RowKit Go.Shelf
abbrev Ent:=aJ×ByteArray
def cG(L:List Ent):Prop:=L.Pairwise (fun a b=>bQ a.1 b.1<0)
def dE(nm:aJ)(v:ByteArray):List Ent→List Ent
 |[]=>[(nm,v)]
 |x::r=>if bQ nm x.1<0 then(nm,v)::x::r else if bQ nm x.1=0 then(nm,v)::r else x::dE nm v r
def di(nm:aJ):List Ent→List Ent
 |[]=>[]
 |x::r=>if bQ nm x.1=0 then r else x::di nm r
def fm(nm:aJ):List Ent→Option ByteArray
 |[]=>none
 |x::r=>if bQ nm x.1=0 then some x.2 else fm nm r
theorem BV{nm:aJ}{v:ByteArray}{x:Ent}(h:bQ nm x.1<0):∀(L a:List Ent),dE nm v (L++x::a)=dE nm v L++x::a
 |[],a=>by simp[dE,h]
 |y::L,a=>by
  simp only[List.cons_append,dE];split;·rfl
  ·split;·rfl
   ·rw[BV h L a];rfl
theorem mn{nm:aJ}{v:ByteArray}:∀(L M:List Ent),(∀y∈L,0<bQ nm y.1)→dE nm v (L++M)=L++dE nm v M
 |[],_,_=>rfl
 |y::L,M,h=>by
  have b:=h y (by simp);simp only[List.cons_append,dE];rw[if_neg (by omega),if_neg (by omega),mn L M (fun z a=>h z (by simp[a]))]
theorem rV{nm:aJ}:∀(L M:List Ent),(∀y∈L,0<bQ nm y.1)→di nm (L++M)=L++di nm M
 |[],_,_=>rfl
 |y::L,M,h=>by
  have b:=h y (by simp);simp only[List.cons_append,di];rw[if_neg (by omega),rV L M (fun z a=>h z (by simp[a]))]
theorem sS{nm:aJ}:∀(L M:List Ent),(∀y∈L,0<bQ nm y.1)→fm nm (L++M)=fm nm M
 |[],_,_=>rfl
 |y::L,M,h=>by
  have b:=h y (by simp);simp only[List.cons_append,fm];rw[if_neg (by omega),sS L M (fun z a=>h z (by simp[a]))]
theorem Bq{nm:aJ}:∀(L M:List Ent),(∀y∈M,bQ nm y.1<0)→(∃v,(nm,v)∈L)→di nm (L++M)=di nm L++M
 |[],_,_,h=>by obtain⟨v,b⟩:=h;cases b
 |y::L,M,h,hm=>by
  simp only[List.cons_append,di];by_cases e:bQ nm y.1=0;·rw[if_pos e,if_pos e]
  ·rw[if_neg e,if_neg e,Bq L M h,List.cons_append];obtain⟨v,b⟩:=hm;rcases List.mem_cons.1 b with a|a;·rw[←a]at e;exact absurd (bZ.refl nm) e
   ·exact⟨v,a⟩
theorem tW{nm:aJ}:∀(M:List Ent),(∀y∈M,bQ nm y.1<0)→fm nm M=none
 |[],_=>rfl
 |y::M,h=>by
  have b:=h y (by simp);rw[fm,if_neg (by omega),tW M (fun z a=>h z (by simp[a]))]
theorem yD{nm:aJ}:∀(L M:List Ent),(∀y∈M,bQ nm y.1<0)→fm nm (L++M)=fm nm L
 |[],M,h=>tW M h
 |y::L,M,h=>by
  simp only[List.cons_append,fm];rw[yD L M h]
theorem vW{nm:aJ}{v:ByteArray}:∀{L:List Ent},fm nm L=some v→(nm,v)∈L
 |[],h=>by simp[fm]at h
 |y::L,h=>by
  rw[fm]at h;split at h;·rename_i e;have a:=bZ.eq _ _ e;simp only[Option.some.injEq]at h;rw[a,←h];simp
  ·exact List.mem_cons_of_mem _ (vW h)
theorem cG.parts{L b:List Ent}{x:Ent}(h:cG (L++x::b)):cG L∧cG b∧(∀y∈L,bQ y.1 x.1<0)∧(∀y∈b,bQ x.1 y.1<0):=by
 unfold cG at h;rw[List.pairwise_append,List.pairwise_cons]at h;exact⟨h.1,h.2.1.2,fun y a=>h.2.2 y a x (by simp),h.2.1.1⟩
theorem gT{a b:aJ}(h:bQ a b<0):0<bQ b a:=by rw[bZ.lY a b];omega
theorem lS{a b:aJ}(h:0<bQ a b):bQ b a<0:=by rw[bZ.lY a b];omega
theorem oE{nm:aJ}{v:ByteArray}:∀{L:List Ent},cG L→cG (dE nm v L)∧∀x∈dE nm v L,x=(nm,v)∨x∈L
 |[],_=>by simp[dE,cG]
 |y::L,h=>by
  have b:=List.pairwise_cons.1 h;rw[dE];split
  ·rename_i c;refine⟨List.pairwise_cons.2 ⟨fun z a=>?_,h⟩,fun x d=>by simpa using d⟩;rcases List.mem_cons.1 a with rfl|a;·exact c
   ·exact bZ.trans _ _ _ c (b.1 z a)
  ·split
   ·rename_i _ he;have e:=bZ.eq _ _ he;refine⟨List.pairwise_cons.2 ⟨fun z a=>?_,b.2⟩,fun x d=>?_⟩;·simp only;rw[e];exact b.1 z a
    ·rcases List.mem_cons.1 d with h|h;·exact .inl h
     ·exact .inr (List.mem_cons_of_mem _ h)
   ·rename_i f he;obtain⟨i1,i2⟩:=oE (nm:=nm) (v:=v) b.2;refine⟨List.pairwise_cons.2 ⟨fun z a=>?_,i1⟩,fun x d=>?_⟩
    ·rcases i2 z a with rfl|a;·exact lS (by simp only;omega)
     ·exact b.1 z a
    ·rcases List.mem_cons.1 d with h|h;·exact .inr (by simp[h])
     ·rcases i2 x h with h|h;·exact .inl h
      ·exact .inr (List.mem_cons_of_mem _ h)
theorem sO{nm:aJ}:∀(L:List Ent),(di nm L).Sublist L
 |[]=> .slnil
 |y::L=>by
  rw[di];split;·exact List.sublist_cons_self _ _
  ·exact(sO L).cons_cons _
theorem Ej{nm:aJ}{L:List Ent}(h:cG L):cG (di nm L):=h.sublist (sO L)
def jH(L:List Ent):Prop:=∀x∈L,x.1.owner.size≤1099511627776
def Iz(w:World):Value→Nat
 | .pointer (some a)=>match w.cell? ⟨a.block,8,none⟩with
  |some (.int _ h)=>h.toNat
  |_=>0
 |_=>0
theorem r8{w:World}{a:Option Addr}{t:Tr}(h:cm w a t):Iz w (.pointer a)=t.cL:=by
 cases t with
 |leaf=>
  obtain rfl:a=none:=h;rfl
 |node l nm v r=>
  obtain⟨g,d,ra,rfl,_,_,b⟩:=h;have c:w.cell? ⟨g,8,none⟩=some (.int .i64 ((Tr.node l nm v r).cL:Nat)):=b.cell 8;simp only[Iz,c,Int.toNat_natCast]
def Found(w:World)(nm:aJ)(L:List Ent)(e:Ending)(w':World):Prop:=∃p,e= .returned (.pointer p)∧Fr ag w w'∧((∃g v,p=some ⟨g,0,none⟩∧fm nm L=some v∧Mid w' g nm v)∨(p=none∧fm nm L=none))
theorem yE(n:aJ)(a:Option Addr)(t:Tr)(w:World)(H:cm w a t)(I:cG t.bJ)(aa:n.owner.size≤1099511627776)(ab:jH t.bJ):
  Calls Tryz.prog 108 #[.pointer a, .agg n.cells.toArray] w (Found w n t.bJ):=by
 have am:=af H;have ap:=af I;have an:=af ab;have R:=af aa;clear H I aa ab;go_enter Tryz.func108,Tryz.ntmps108;go_wp2_with(refine aB rfl 106 (.tmp 1) rfl n.cells.toArray rfl ?_);intro w1 n1;have Q:=af n1.fr;have M:=af n1.aE;clear n1;generalize w.heap.size=Y at*;have av:Hid (aq w1 Y 106 n.cells.toArray):=M.out;clear M;go_wp2;go_loopw[0](fun i wr=>∃(b:Option Addr)(u:Tr),i= .pointer b∧cm wr b u∧cG u.bJ∧jH u.bJ∧fm n u.bJ=fm n t.bJ∧Fr ag w1 wr)(fun i wr=>Iz wr i);case atStart=>exact⟨a,t,rfl,am.out.ao Q.out,ap.out,an.out,rfl,az⟩
 case round=>
  obtain⟨b,u,rfl,H,I,O,hF,q⟩:=hrel;have o:=af q;have m:=af hF;cases u with
  |leaf=>
   obtain rfl:b=none:=H;clear I O hF q;go_wp2;go_ret;exact⟨_,rfl,Q.out.trans o.out, .inr ⟨rfl,m.out.symm⟩⟩
  |node l nm v r=>
   have K:=af (r8 H);obtain⟨A,ad,ra,rfl,Z,ac,P⟩:=H;have V:=af Z;have X:=af ac;have W:Hid (Mid wr A nm v):=Mid.of P;have ae:Hid (wr.cell? ⟨A,0,none⟩=some (.pointer ad)):=P.cell 0;have ai:Hid (wr.cell? ⟨A,1,none⟩=some (.pointer ra)):=P.cell 1;have g:=af (cG.parts I);have L:=af O;have S:=af (av.out.fr q (fun x=>x));have U:Hid (∀w',Calls Tryz.prog 128 #[.agg n.cells.toArray, .agg nm.cells.toArray] w' (aH w' (.int .i64 (bQ n nm)))):=fun w'=>gh n nm w' R.out (O (nm,v) (by simp[Tr.bJ]));obtain⟨z,C⟩:∃z,z=bQ n nm:=⟨_,rfl⟩;rw[←C]at U;have f:=af C;clear Z ac P I O hF q C;go_upto_region 2 with fail;refine ay 7 ag [Is (.agg n.cells.toArray),Is (.pointer (some ⟨A,0,none⟩)),Is (.pointer (some ⟨A,0,none⟩)),Is (.pointer (some ⟨A,2,none⟩)),Is (.agg nm.cells.toArray),Is (.int .i64 z),Is (.int .i64 z)] [] (fun _=>True) (fun _ _=>false) (by kernel_rfl) (by kernel_rfl) (by kernel_rfl) (by kernel_rfl) ⟨Is.ah _,Is.ah _,Is.ah _,Is.ah _,Is.ah _,Is.ah _,Is.ah _,trivial⟩ trivial (fun _ _ _ _ h=>h) trivial ?_ ?_
   ·refine⟨?_,?_,?_,?_,?_,?_,?_,trivial⟩;all_goals intro u w' d N c G F s
    all_goals simp only[bw,bC,bD,bE,ar,Act.put,bF,bG,bH,Nat.reduceAdd,Nat.zero_add]
    ·clear c G F s;refine aj ?_;exact au _ _ rfl ⟨Y,0,none⟩ rfl n.cells _ (fun j x D=>by rw[Addr.add_mid,Nat.zero_add];exact(S.out.fr N (fun x=>x)).cell j|>.trans (by rw[bP];exact D)) Tryz.underlying106 rfl aT ⟨_,rfl,al⟩
    ·clear c G F s;refine aj ?_;go_simp;exact⟨_,rfl,al⟩
    ·have B:u 1=_:=c 1;clear c G F s;simp only[B];refine aj ?_;go_simp;exact⟨_,rfl,al⟩
    ·have T:u 2=_:=c 2;clear c G F s;simp only[T];refine aj ?_;go_simp;exact⟨_,rfl,al⟩
    ·have aw:u 3=_:=c 3;clear c G F s;simp only[aw];refine aj ?_;exact au _ _ rfl ⟨A,2,none⟩ rfl nm.cells _ (fun j x D=>by rw[Addr.add_mid];exact N.ak (W.out.name j x D) (fun x=>x)) Tryz.underlying106 rfl aT ⟨_,rfl,al⟩
    ·have p:u 0=_:=c 0;have ax:u 4=_:=c 4;clear c G F s;simp only[p,ax];refine aj ?_;go_simp;refine(U.out _).mono ?_;rintro e aG⟨rfl,f4⟩;exact⟨_,rfl,f4.bO,rfl,trivial⟩
    ·have aA:u 5=_:=c 5;clear c G F s;simp only[aA];refine aj ?_;go_simp;exact⟨_,rfl,al⟩
   ·intro u w' N c s;have k6:u 6=_:=c 6 (by omega);clear c s;simp only[bw,bC,bD,bE,ar,Act.put,bF,bG,bH,dj,dk,Nat.reduceAdd,Nat.zero_add,k6];have k:=af N;clear N k6;by_cases p:z=0
    ·have t0:=JQ p;have J:=af p;clear p;go_wp2;go_ret;refine⟨_,rfl,Q.out.trans (o.out.trans k.out), .inl ⟨A,v,rfl,?_,?_⟩⟩;·rw[←m.out,Tr.bJ,sS _ _ (fun y E=>?_),fm,if_pos (by simp only;rw[←f.out];exact J.out)];have e:=bZ.eq n nm (by rw[←f.out];exact J.out);rw[e];exact gT (g.out.2.2.1 y E)
     ·have e:=bZ.eq n nm (by rw[←f.out];exact J.out);rw[e];exact W.out.ao k.out
    ·have t0:=tK p;have J:=af p;by_cases B:z<0
     ·have t1:decide (z<0)=true:=decide_eq_true B;have H1:=af B;have aD:=k.out.ak ae.out (fun x=>x);clear p;go_wp2;go_roundw;case rel=>
       refine⟨ad,l,rfl,V.out.ao k.out,g.out.1,fun x D=>L.out x (by simp[Tr.bJ,D]),?_,o.out.trans k.out⟩;rw[←m.out,Tr.bJ,yD _ _ (fun y E=>?_)];rcases List.mem_cons.1 E with rfl|E;·have:=H1.out;rw[f.out]at this;exact this
       ·have:=H1.out;rw[f.out]at this;exact bZ.trans _ _ _ this (g.out.2.2.2 y E)
      case measure=>
       rw[r8 (V.out.ao k.out),K.out];simp only[Tr.cL];omega
     ·have t1:decide (z<0)=false:=decide_eq_false B;have H1:=af B;have aF:=k.out.ak ai.out (fun x=>x);clear p;go_wp2;go_roundw;case rel=>
       refine⟨ra,r,rfl,X.out.ao k.out,g.out.2.1,fun x D=>L.out x (by simp[Tr.bJ,D]),?_,o.out.trans k.out⟩;have aC:0<bQ n nm:=by have B:=J.out;have T:=H1.out;rw[f.out]at B T;omega
       rw[←m.out,Tr.bJ,sS _ _ (fun y E=>?_),fm,if_neg (by simp only;omega)];exact gT (bZ.trans _ _ _ (g.out.2.2.1 y E) (lS aC))
      case measure=>
       rw[r8 (X.out.ao k.out),K.out];simp only[Tr.cL];omega
end Go.Proofs.YtphjagkehiklkaaGreatDoor
