/- Texts. -/
import Derived.Test.YtphjagkehiklkaaGreatDoorXK05
set_option linter.unusedVariables false
set_option linter.unusedSimpArgs false
set_option maxRecDepth 100000
set_option maxHeartbeats 4000000
namespace Go.Proofs.YtphjagkehiklkaaGreatDoor
open Go.RowKit Go.Shelf
attribute[local go_sem]Oper.semAt_some
theorem vp(s:ByteArray)(w:World):Calls Tryz.prog 179 #[.string s] w fun r w'=>r= .returned (.func (.func 182) #[] #[.pointer (some ⟨w.heap.size,0,none⟩)])∧Fr ah w w'∧aq w' w.heap.size 9 #[.string s]:=by
 go_enter Tryz.func179,Tryz.ntmps179;go_wp2_with(refine aB rfl 9 (.tmp 0) rfl #[.string s] rfl ?_);intro w1 n1;have a:=af n1;clear n1;go_wp2;go_ret;exact⟨rfl,a.out.fr,a.out.aD⟩
theorem ts{ws:List (Nat×(World→Prop))}{M:World→Prop}(h:∀x∈ws,x.2=M){d:Nat→Bool}{w:World}(a:dn ws M d w):M w:=by
 induction ws with
 |nil=>exact a
 |cons x r f=>
  obtain⟨p,b⟩:=x;have e:b=M:=h _ List.mem_cons_self;subst e;unfold dn at a;split at a;·exact f (fun y c=>h y (List.mem_cons_of_mem _ c)) a
  ·exact a
theorem vm:∀(n at_:Nat)(l:List UInt8),(dq n at_ l).length≤n+1
 |0,_,_=>by simp[dq]
 |n+1,at_,l=>by
  rw[dq];simp only;split;·simp
  ·split;·simp
   ·split;·simp
    ·have:=vm n (at_+(dy 7 l).length+1) (l.drop ((dy 7 l).length+1));simp only[List.length_cons];omega
theorem vi(s:ByteArray):(fS s).length≤9:=by
 unfold fS;split;·simp
 ·exact vm 8 0 _
theorem KP.put(W:World)(l:Nat)(f b:Obj)(h:W.heap[l]? =some f)(d:f.isCells=false):KP W (W.putObj l b):=
 KP.fr (Fr.grown (grownBy_putObj' W l b)) (fun g t cs _ a e=>by
  have c:g=l:=by simpa using e
  subst c;unfold aq at a;rw[a]at h;cases h;simp[Obj.isCells]at d)
structure LS(a w3 W:World):Prop where
 fr:Fr ah a W
 kp:KP w3 W
theorem mQ{A B:World}{row:Option Nat}{N:Nat}(f:A.grownBy B row)(i:∀r,row=some r→N≤r∧∃j:Obj,A.heap[r]? =some j∧j.isCells=false):
  Fr (fun k=>some k=row) A B∧KP A B∧(∀g t cs,aq A g t cs→aq B g t cs):=by
 have b:Fr (fun k=>some k=row) A B:=Fr.grown f;have a:∀g t cs,aq A g t cs→aq B g t cs:=fun g t cs a=>a.fr b (fun e=>by
  obtain⟨_,j,c,d⟩:=i g e.symm;unfold aq at a;rw[a]at c;cases c;simp[Obj.isCells]at d);exact⟨b,fun g t cs _ h=>a g t cs h,a⟩
def Az:Op→Bool
 | .alloc _=>true
 |_=>false
theorem Kp(w:World):(zeroValue 41).run Tryz.prog w= .ok (.string ByteArray.empty) w:=by kernel_rfl
theorem Ko(w:World):(zeroValue 3).run Tryz.prog w= .ok (.int .i64 0) w:=by kernel_rfl
theorem Kn(w:World):(zeroValue 34).run Tryz.prog w= .ok (.int .i64 0) w:=by kernel_rfl
theorem yB:(Tryz.prog.info? 41).map (·.size)=some 1:=by kernel_rfl
theorem yz:(Tryz.prog.info? 3).map (·.size)=some 1:=by kernel_rfl
theorem yy:(Tryz.prog.info? 34).map (·.size)=some 1:=by kernel_rfl
structure qV(b w3:World)(g2 g3 g4:Nat)(W:World):Prop where
 fr:Fr ah b W
 kp:KP w3 W
 b2:∃n,aq W g2 41 #[.string n]
 b3:∃a,aq W g3 3 #[.int .i64 a]
 b4:∃k,aq W g4 34 #[.int .i64 k]
theorem qV.later{b w3 A B:World}{g2 g3 g4:Nat}(h:qV b w3 g2 g3 g4 A)(f:Fr ah A B):qV b w3 g2 g3 g4 B:=
 ⟨h.fr.trans f,h.kp.trans (KP.fr f (fun _ _ _ _ _ x=>x)),by obtain⟨n,a⟩:=h.b2;exact⟨n,a.fr f (fun x=>x)⟩,by obtain⟨n,a⟩:=h.b3;exact⟨n,a.fr f (fun x=>x)⟩,by obtain⟨n,a⟩:=h.b4;exact⟨n,a.fr f (fun x=>x)⟩⟩
theorem qV.grown{c w3 A B:World}{g2 g3 g4:Nat}{row:Option Nat}{N:Nat}(h:qV c w3 g2 g3 g4 A)(g:A.grownBy B row)(d:∀r,row=some r→N≤r∧∃m:Obj,A.heap[r]? =some m∧m.isCells=false)(k:c.heap.size≤N):qV c w3 g2 g3 g4 B:=by
 obtain⟨f,j,b⟩:=mQ g d;exact⟨h.fr.au f (fun i l e=>by have:=(d i e.symm).1;omega),h.kp.trans j,by obtain⟨n,a⟩:=h.b2;exact⟨n,b _ _ _ a⟩,by obtain⟨n,a⟩:=h.b3;exact⟨n,b _ _ _ a⟩,by obtain⟨n,a⟩:=h.b4;exact⟨n,b _ _ _ a⟩⟩
theorem ez{P:Program}(w:World)(g:Nat)(t ty:TypeId)(v:Value)(d:aq w g t #[v])(a:(P.info? ty).map (·.size)=some 1)(b:(isAgg ty).run P w= .ok false w):
  (loadVar ty ⟨g,0,none⟩).run P w= .ok v w:=by
 have c:w.cell? ⟨g,0,none⟩=some v:=d.cell 0;simp[loadVar,b,go_sem,c]
theorem pc(tmps:Array Value)(w:World)(g2 g3 g4:Nat)(n:ByteArray)(a k:Int)
  (e:tmps.getD 2 undef= .pointer (some ⟨g2,0,none⟩))(f:tmps.getD 3 undef= .pointer (some ⟨g3,0,none⟩))(g:tmps.getD 4 undef= .pointer (some ⟨g4,0,none⟩))
  (b2:aq w g2 41 #[.string n])(b3:aq w g3 3 #[.int .i64 a])(b4:aq w g4 34 #[.int .i64 k]):
  (results Tryz.f174 tmps).run Tryz.prog w= .ok (.tuple #[.string n, .int .i64 a, .int .i64 k]) w:=by
 have b:tmps[2]?.getD undef= .pointer (some ⟨g2,0,none⟩):=by simpa using e
 have c:tmps[3]?.getD undef= .pointer (some ⟨g3,0,none⟩):=by simpa using f
 have d:tmps[4]?.getD undef= .pointer (some ⟨g4,0,none⟩):=by simpa using g
 simp[results,Tryz.results174,b,c,d,asAddr,ez w g2 _ _ _ b2 yB (Tryz.isAgg41 w),ez w g3 _ _ _ b3 yz (Tryz.isAgg3 w),ez w g4 _ _ _ b4 yy (Tryz.isAgg34 w)]
def Jy(w:World)(s:ByteArray)(r:Ending)(w':World):Prop:=∃n a k,r= .returned (.tuple #[.string n, .int .i64 a, .int .i64 k])∧(k==0)=db s∧Fr ah w w'
theorem BY(s:ByteArray)(w:World)(bu:s.size≤1099511627776):Calls Tryz.prog 174 #[.string s] w (Jy w s):=by
 have bB:=af bu;clear bu;refine(callsIn_wide (n:=6)).1 (callsIn_of_wp_marks Tryz.func174 rfl trivial (wpIn_wide.2 ?_) rfl);simp only[Tryz.ntmps174,List.size_toArray,List.length_cons,List.length_nil,Nat.reduceAdd,Nat.reduceSub,Array.replicate_succ,Array.replicate_zero,List.push_toArray,List.append_toArray,List.nil_append,List.cons_append];go_wp2_with(refine an rfl 41 rfl (.string ByteArray.empty) Kp #[.string ByteArray.empty] rfl ?_);intro a5 ac;have aA:=af ac.fr;have O:=af ac.aD;have bo:Sz w w.heap.size:=Nat.le_refl _;clear ac;generalize w.heap.size=g2 at*;go_wp2_with(refine an rfl 3 rfl (.int .i64 0) Ko #[.int .i64 0] rfl ?_);intro aQ nb;have R:=af (aA.out.trans nb.fr);have ax:=af (O.out.fr nb.fr (fun x=>x));have P:=af nb.aD;have bq:Sz w a5.heap.size:=aA.out.size;clear nb O aA;generalize a5.heap.size=g3 at*;go_wp2_with(refine an rfl 34 rfl (.int .i64 0) Kn #[.int .i64 0] rfl ?_);intro w2 aJ;have a9:=af (R.out.trans aJ.fr);have L:=af (ax.out.fr aJ.fr (fun x=>x));have M:=af (P.out.fr aJ.fr (fun x=>x));have N:=af aJ.aD;have br:Sz w aQ.heap.size:=R.out.size;clear aJ ax P R;generalize aQ.heap.size=g4 at*;have a8:Hid (qV w w2 g2 g3 g4 w2):=⟨a9.out,KP.refl _,⟨_,L.out⟩,⟨_,M.out⟩,⟨_,N.out⟩⟩;have NE:Hid (g2≠g3∧g2≠g4∧g3≠g4):=by
  refine⟨?_,?_,?_⟩<;>(rintro rfl);·have v:=L.out;have c:=M.out;unfold aq at v c;rw[v]at c;cases c
  ·have v:=L.out;have c:=N.out;unfold aq at v c;rw[v]at c;cases c
  ·have v:=M.out;have c:=N.out;unfold aq at v c;rw[v]at c;cases c
 clear L M N a9;go_wp2_with fail;refine(vp s _).mono ?_;rintro r w3⟨rfl,f3,b3⟩;have az:=af (a8.out.later f3);have bz:=af b3;clear f3 b3 a8;generalize w2.heap.size=gs at*;go_wp2_with fail;refine(wpIn_wide (n:=6)).1 ?_;refine wpIn_rangeFunc_ownH rfl (by omega) (gf:=182) (lb:=#[.pointer (some ⟨gs,0,none⟩)]) rfl trivial (enters_of Tryz.func182 (by kernel_rfl) rfl)
  (rB 5 gs s w3 bB.out bz.out) (fun h k=>h.trans k) (fun W l o bO _ U aH _=>KP.put W l o bO U aH) (Below.refl _ _) (fun _=>rfl)
  (fun pre W=>qV w w2 g2 g3 g4 W∧∀y∈pre,y.e=0) (fun aZ pre W=>qV w w2 g2 g3 g4 W∧∃x∈pre,x.e≠0∧aq W g4 34 #[.int .i64 x.e]∧aZ= .ret) (fun pre A B row h am ao=>⟨h.1.grown am ao az.out.fr.size,h.2⟩) (fun aZ pre A B row h am ao=>by obtain⟨v,x,aP,X,z,aH⟩:=h;exact⟨v.grown am ao az.out.fr.size,x,aP,X,(mQ am ao).2.2 _ _ _ z,aH⟩) ⟨az.out,by simp⟩
  (fun x aX W=>∃g,aX=({tmps:=#[.string s,undef, .pointer (some ⟨g2,0,none⟩), .pointer (some ⟨g3,0,none⟩), .pointer (some ⟨g4,0,none⟩), .pointer (some ⟨g,0,none⟩), .string s, .func (.func 182) #[] #[.pointer (some ⟨gs,0,none⟩)], .agg #[.int .i64 x.ord, .int .i64 x.at_, .int .i64 x.e],undef,undef,undef,undef,undef,undef,undef,undef],defers:=[]}:Act)∧aq W g 270 (aY x))
  (fun x aX _ A B row h am ao=>by
   obtain⟨g,e,z⟩:=h;exact⟨g,e,(mQ am ao).2.2 _ _ _ z⟩)
  ?assign ?body ?done ?stop;case assign=>
  intro l pre x W K J S;have bA:=af S;have aB:=af J;clear S J;gi_wp2_with(refine cj Az rfl (by kernel_rfl) ?_);go_wp2_with(refine an rfl 270 rfl (.agg nV) pM nV rfl ?_);intro a5 ac;have aA:=af ac.fr;have bx:=af ac.aD;have bI:Sz W W.heap.size:=Nat.le_refl _;clear ac;generalize W.heap.size=g at*;go_wp2_with(refine ak rfl 270 (.tmp 5) _ rfl g (aY x) rfl rfl _ _ bx.out cg rfl (dc x) ?_);intro aQ bb bJ;have R:Fr ah W aQ:=aA.out.au bJ (fun i aO e=>by have aj:i=g:=e;have:=bI;unfold Sz at this;omega);refine⟨?_,rfl⟩;refine bA.out _ _ ⟨R.size,fun k o _ U _=>(R.block k (Array.getElem?_eq_some_iff.1 U).1 (fun x=>x)).trans U⟩ (KP.fr R (fun _ _ _ _ _ x=>x)) (⟨aB.out.1.later R,aB.out.2⟩) ⟨g,rfl,bb⟩
 case body=>
  rintro bR pre x aX W bL a2 J⟨g,rfl,p⟩a3;have aB:=af J;have Q:=af J.1;have a6:=af p;have bS:W.cell? ⟨g,2,none⟩=some (.int .i64 x.e):=p.cell 2;have bd:Hid (¬(g=g2∨g=g3)):=by
   rintro(rfl|rfl);·obtain⟨n,b⟩:=J.1.b2;unfold aq at p b;rw[p]at b;cases b
   ·obtain⟨n,b⟩:=J.1.b3;unfold aq at p b;rw[p]at b;cases b
  clear J p a3 bL a2;by_cases X:x.e=0
  ·have a4:((x.e:Int)==0)=true:=by rw[beq_iff_eq];omega
   gi_wp2;refine⟨KeepsFrom.refl _ _,KP.refl _,aB.out.1,?_⟩;intro y bN;rcases List.mem_append.1 bN with h|h;·exact aB.out.2 y h
   ·rw[List.mem_singleton.1 h];exact X
  ·have a4:((x.e:Int)==0)=false:=by rw[beq_eq_false_iff_ne];omega
   have aT:=af X;gi_wp2;refine pk 6 (fun k=>k=g2∨k=g3) [Is (.pointer (some ⟨g,1,none⟩)),Is (.int .i64 x.at_),Is (.pointer (some ⟨g,2,none⟩)),Is (.int .i64 x.e),(fun _ _=>True),(fun _ _=>True)] [(4,(fun W'=>(∃n,aq W' g2 41 #[.string n])∧(∃a,aq W' g3 3 #[.int .i64 a])∧∃k,aq W' g4 34 #[.int .i64 k])),(5,(fun W'=>(∃n,aq W' g2 41 #[.string n])∧(∃a,aq W' g3 3 #[.int .i64 a])∧∃k,aq W' g4 34 #[.int .i64 k]))] (fun W'=>(∃n,aq W' g2 41 #[.string n])∧(∃a,aq W' g3 3 #[.int .i64 a])∧∃k,aq W' g4 34 #[.int .i64 k]) (fun i j=>i==4&&j==5) (by kernel_rfl) (by kernel_rfl) (by kernel_rfl) (by kernel_rfl) (by kernel_rfl) ⟨Is.ag _,Is.ag _,Is.ag _,Is.ag _,fun _ _ _ _ _ h=>h,fun _ _ _ _ _ h=>h,trivial⟩ ⟨(fun _ _ _ m h=>⟨(by obtain⟨a,f⟩:=h.1;exact⟨a,f.fr m (fun x=>x)⟩),(by obtain⟨a,f⟩:=h.2.1;exact⟨a,f.fr m (fun x=>x)⟩),(by obtain⟨a,f⟩:=h.2.2;exact⟨a,f.fr m (fun x=>x)⟩)⟩),(fun _ _ _ m h=>⟨(by obtain⟨a,f⟩:=h.1;exact⟨a,f.fr m (fun x=>x)⟩),(by obtain⟨a,f⟩:=h.2.1;exact⟨a,f.fr m (fun x=>x)⟩),(by obtain⟨a,f⟩:=h.2.2;exact⟨a,f.fr m (fun x=>x)⟩)⟩),trivial⟩ (fun _ _ _ m h=>⟨(by obtain⟨a,f⟩:=h.1;exact⟨a,f.fr m (fun x=>x)⟩),(by obtain⟨a,f⟩:=h.2.1;exact⟨a,f.fr m (fun x=>x)⟩),(by obtain⟨a,f⟩:=h.2.2;exact⟨a,f.fr m (fun x=>x)⟩)⟩) ⟨Q.out.b2,Q.out.b3,Q.out.b4⟩ ?_ ?_
   ·refine⟨?_,?_,?_,?_,?_,?_,trivial⟩;all_goals intro u w' d m C av ap Y
    all_goals simp only[bm,bp,bw,bC,ar,Act.put,bD,bE,bF,Nat.reduceAdd,Nat.zero_add]
    ·clear C av ap Y;refine ai ?_;go_simp;exact⟨_,rfl,al⟩
    ·have bK:u 0=_:=C 0;clear C av ap Y;simp only[bK];refine ai ?_;have q:w'.cell? ⟨g,1,none⟩=some _:=(a6.out.fr m bd.out).cell 1;go_simp;exact⟨_,rfl,al⟩
    ·clear C av ap Y;refine ai ?_;go_simp;exact⟨_,rfl,al⟩
    ·have c:u 2=_:=C 2;clear C av ap Y;simp only[c];refine ai ?_;have q:w'.cell? ⟨g,2,none⟩=some _:=(a6.out.fr m bd.out).cell 2;go_simp;exact⟨_,rfl,al⟩
    ·clear C av ap;refine ai ?_;obtain⟨⟨n,c⟩,G,H⟩:=ts (by simp) Y;refine lh 41 (.tmp 2) _ rfl g2 0 (.string ByteArray.empty) rfl rfl rfl yB _ _ #[.string ByteArray.empty] c (by simp) rfl ?_;intro aR ae F;refine⟨_,rfl,F.mono (fun i _ h=> .inl h),trivial,⟨_,ae⟩,?_,?_⟩;·obtain⟨a,f⟩:=G;exact⟨a,f.fr F (fun e=>NE.out.1 e.symm)⟩
     ·obtain⟨a,f⟩:=H;exact⟨a,f.fr F (fun e=>NE.out.2.1 e.symm)⟩
    ·have v:u 1=_:=C 1;clear C av ap;simp only[v];refine ai ?_;obtain⟨c,⟨n,G⟩,H⟩:=ts (by simp) Y;refine lh 3 (.tmp 3) _ rfl g3 0 (.int .i64 x.at_) rfl rfl rfl yz _ _ #[.int .i64 x.at_] G (by simp) rfl ?_;intro aR ae F;refine⟨_,rfl,F.mono (fun i _ h=> .inr h),trivial,?_,⟨_,ae⟩,?_⟩;·obtain⟨a,f⟩:=c;exact⟨a,f.fr F (fun e=>NE.out.1 e)⟩
     ·obtain⟨a,f⟩:=H;exact⟨a,f.fr F (fun e=>NE.out.2.2 e.symm)⟩
   ·intro u w' m C Y;have bv:u 3=_:=C 3 (by omega);obtain⟨c,G,k,H⟩:=Y;have aU:=af c;have aV:=af G;have aW:=af H;have bG:=af m;clear C c G H m;simp only[bm,bp,bw,bC,ar,Act.put,bD,bE,bF,cZ,da,Nat.reduceAdd,Nat.zero_add,bv];clear bv;go_wp2_with(refine aM rfl 34 (.tmp 4) _ rfl g4 0 (.int .i64 x.e) rfl rfl rfl yy _ _ #[.int .i64 x.e] aW.out (by simp) rfl ?_);intro aR ae F;have Z:Fr (fun k=>k=g2∨k=g3∨k=g4) W aR:=(bG.out.mono (fun i _ h=>h.elim .inl (fun h=> .inr (.inl h)))).trans (F.mono (fun i _ h=> .inr (.inr h)));have a7:∀k,k=g2∨k=g3∨k=g4→∃t cs,aq W k t cs∧t≠9∧t≠270:=by
     rintro k(rfl|rfl|rfl);·obtain⟨n,b⟩:=Q.out.b2;exact⟨_,_,b,by decide,by decide⟩
     ·obtain⟨n,b⟩:=Q.out.b3;exact⟨_,_,b,by decide,by decide⟩
     ·obtain⟨n,b⟩:=Q.out.b4;exact⟨_,_,b,by decide,by decide⟩
    have bH:KP W aR:=KP.fr Z (fun q t cs bM z aI=>by
     obtain⟨bP,cs',hb',v,c⟩:=a7 q aI;unfold aq at z hb';rw[z]at hb';cases hb';rcases bM with rfl|rfl;·exact v rfl
     ·exact c rfl);refine⟨?_,rfl⟩;gi_wp2;refine⟨⟨Z.size,fun q o bQ U aH=>(Z.block q (Array.getElem?_eq_some_iff.1 U).1 (fun aI=>?_)).trans U⟩,⟨⟨?_,Q.out.kp.trans bH,?_,?_,⟨_,ae⟩⟩,x,by simp,aT.out,ae,rfl⟩⟩;·obtain⟨bP,cs',hb',_,_⟩:=a7 q aI;unfold aq at hb';rw[U]at hb';cases hb';simp[Obj.isCells]at aH
    ·exact Q.out.fr.au Z (fun i aO e=>by
      have c:=bo;have G:=bq;have H:=br;unfold Sz at c G H;omega)
    ·obtain⟨n,b⟩:=aU.out;exact⟨n,b.fr F (fun e=>NE.out.2.1 e)⟩
    ·obtain⟨n,b⟩:=aV.out;exact⟨n,b.fr F (fun e=>NE.out.2.2 e)⟩
 case done=>
  rintro D xs W aF rfl J S;obtain⟨I,T⟩:=J;have E:Fr (fun k=>some k=some D) W (W.putObj D (.deferred none)):=Fr.grown (grownBy_putObj' W D _);have aa:=af S;have a0:Hid (db s=true):=by
   simp only[Hid,db,List.all_eq_true,beq_iff_eq];exact T
  obtain⟨n,b2⟩:=I.b2;obtain⟨a,b3⟩:=I.b3;obtain⟨k,b4⟩:=I.b4;have O:=af b2;have P:=af b3;have ay:=af b4;have ad:=af I;have aS:=af aF;clear E I b2 b3 b4 aF S T;go_wp2_with(refine aM rfl 41 (.tmp 2) _ rfl g2 0 (.string s) rfl rfl rfl yB _ _ #[.string s] O.out (by simp) rfl ?_);intro bT bs aK;have bi:=af (P.out.fr aK (fun e=>NE.out.1 e.symm));have bj:=af (ay.out.fr aK (fun e=>NE.out.2.1 e.symm));have bh:=af bs;have ba:=af aK;clear bs aK O P ay;go_wp2_with(refine aM rfl 3 (.tmp 3) _ rfl g3 0 (.int .i64 0) rfl rfl rfl yz _ _ #[.int .i64 0] bi.out (by simp) rfl ?_);intro bU aE aL;have bk:=af (bh.out.fr aL (fun e=>NE.out.1 e));have bn:=af (bj.out.fr aL (fun e=>NE.out.2.2 e.symm));have bl:=af aE;have bc:=af aL;clear aE aL bh bi bj;go_wp2_with(refine aM rfl 34 (.tmp 4) _ rfl g4 0 (.int .i64 0) rfl rfl rfl yy _ _ #[.int .i64 0] bn.out (by simp) rfl ?_);intro aw bt aN;have be:=af (bk.out.fr aN (fun e=>NE.out.2.1 e));have bf:=af (bl.out.fr aN (fun e=>NE.out.2.2 e));have bg:=af bt;have Z:Hid (Fr (fun k=>k=g2∨k=g3∨k=g4) W aw):=((ba.out.mono (fun i _ h=> .inl h)).trans (bc.out.mono (fun i _ h=> .inr (.inl h)))).trans (aN.mono (fun i _ h=> .inr (.inr h)));have aC:Hid (aw.heap[D]? =some (.deferred (some []))):=by
   refine(Z.out.block D (Array.getElem?_eq_some_iff.1 aa.out).1 (fun aI=>?_)).trans aa.out;have a1:=aa.out;rcases aI with rfl|rfl|rfl;·obtain⟨n,b⟩:=ad.out.b2;unfold aq at b;rw[a1]at b;cases b
   ·obtain⟨n,b⟩:=ad.out.b3;unfold aq at b;rw[a1]at b;cases b
   ·obtain⟨n,b⟩:=ad.out.b4;unfold aq at b;rw[a1]at b;cases b
  clear bt aN ba bc aa bk bl bn;go_wp2;refine⟨by simp, .inl ⟨_,_,rfl,run_takeDeferred aC.out,?_⟩⟩;have E:Fr (fun k=>some k=some D) aw (aw.putObj D (.deferred none)):=Fr.grown (grownBy_putObj' aw D _);have ab:∀g t cs,aq aw g t cs→¬(some g=some D):=fun g t cs z e=>by
   have aj:g=D:=by simpa using e
   subst aj;unfold aq at z;rw[aC.out]at z;cases z
  refine⟨_,pc _ _ g2 g3 g4 s 0 0 rfl rfl rfl (be.out.fr E (ab _ _ _ be.out)) (bf.out.fr E (ab _ _ _ bf.out)) (bg.out.fr E (ab _ _ _ bg.out)),⟨_,_,_,rfl,?_,?_⟩⟩;·rw[a0.out];rfl
  ·refine(ad.out.fr.au Z.out (fun i aO e=>?_)).au E (fun i aO e=>?_);·have c:=bo;have G:=bq;have H:=br;unfold Sz at c G H;omega
   ·have aj:i=D:=by simpa using e
    have:=aS.out;have:=az.out.fr.size;omega
 case stop=>
  rintro D aZ pre W aF V⟨I,x,aP,X,aG,rfl⟩S;have aa:=af S;have aS:=af aF;have a0:Hid (db s=false):=by
   simp only[Hid];rw[Bool.eq_false_iff];intro h;rw[db,List.all_eq_true]at h;have:=h x (V.subset aP);simp only[beq_iff_eq]at this;exact X this
  obtain⟨n,b2⟩:=I.b2;obtain⟨a,b3⟩:=I.b3;have ad:=af I;have aT:=af X;have O:=af b2;have P:=af b3;have ay:=af aG;clear I b2 b3 aG X S aF V aP;gi_wp2;refine⟨by simp, .inl ⟨_,_,rfl,run_takeDeferred aa.out,?_⟩⟩;have E:Fr (fun k=>some k=some D) W (W.putObj D (.deferred none)):=Fr.grown (grownBy_putObj' W D _);have ab:∀g t cs,aq W g t cs→¬(some g=some D):=fun g t cs z e=>by
   have aj:g=D:=by simpa using e
   subst aj;unfold aq at z;rw[aa.out]at z;cases z
  refine⟨_,pc _ _ g2 g3 g4 n a x.e rfl rfl rfl (O.out.fr E (ab _ _ _ O.out)) (P.out.fr E (ab _ _ _ P.out)) (ay.out.fr E (ab _ _ _ ay.out)),⟨_,_,_,rfl,?_,?_⟩⟩;·rw[a0.out,beq_eq_false_iff_ne];have:=aT.out;omega
  ·refine ad.out.fr.au E (fun i aO e=>?_);have aj:i=D:=by simpa using e
   have:=aS.out;have:=az.out.fr.size;omega
theorem np(s:ByteArray)(w:World)(g:s.size≤1099511627776):Calls Tryz.prog 151 #[.string s] w (aK w (.bool (db s))):=by
 have b:=af (BY s w g);go_enter Tryz.func151,Tryz.ntmps151;go_wp2_with fail;refine b.out.mono ?_;rintro e w1⟨n,a,k,rfl,c,f1⟩;have f:=af c;have d:=af f1;clear c f1 b;go_wp2;go_ret;rw[f.out];exact⟨rfl,d.out⟩
end Go.Proofs.YtphjagkehiklkaaGreatDoor
namespace Go.Proofs.YtphjagkehiklkaaGreatDoor
open Go.RowKit Go.Shelf
attribute[local go_sem]Oper.semAt_some
structure oH{α:Type}(b w3:World)(g2:Nat)(c e:TypeId)(sz:Nat)(a:List α→Nat)(cells:List α→List Value)(pre:List α)(W:World):Prop where
 fr:Fr ah b W
 kn:KP w3 W
 row:∃v,aq W g2 c #[v]∧W.ownsRow 0 e sz v (a pre) (cells pre)∧∀k,v.ownBlock=some k→b.heap.size≤k∧k≠g2
theorem oH.iC{α:Type}{r w3:World}{g2:Nat}{s e:TypeId}{sz B:Nat}{l:List α→Nat}{cells:List α→List Value}(u:g2<B)(y:r.heap.size≤B):OwnFrom B (oH r w3 g2 s e sz l cells):=by
 intro pre X Y row h w o;have b:∀k,k<B→some k≠row:=fun k q e=>by have:=(o k e.symm).1;omega
 have j:Fr (fun k=>some k=row) X Y:=Fr.grown w;obtain⟨v,jQ,a,x⟩:=h.row;refine⟨h.fr.au j (fun i z e=>absurd e (b i (by omega))),h.kn.trans (KP.fr j (fun g t cs _ p e=>?_)),⟨v,jQ.fr j (fun e=>b _ u e),aJ a j (fun k q e=>?_),x⟩⟩;·obtain⟨_,A,d,m⟩:=o g e.symm;unfold aq at p;rw[p]at d;cases d;simp[Obj.isCells]at m
 ·obtain⟨_,A,d,m⟩:=o k e.symm;obtain⟨c,f,n⟩:=cO a q;rw[n]at d;cases d;simp[Obj.isCells]at m
theorem oH.same{α:Type}{g w3 W X:World}{g2:Nat}{f e:TypeId}{sz:Nat}{b:List α→Nat}{cells:List α→List Value}{pre a:List α}(h:oH g w3 g2 f e sz b cells pre W)(d:Fr ah W X)(i:b a=b pre)(j:cells a=cells pre):oH g w3 g2 f e sz b cells a X:=by
 obtain⟨v,jQ,c,k⟩:=h.row;refine⟨h.fr.trans d,h.kn.trans (KP.fr d (fun _ _ _ _ _ x=>x)),⟨v,jQ.fr d (fun x=>x),?_,k⟩⟩;rw[i,j];exact aJ c d (fun _ _ x=>x)
theorem oH.step{α:Type}{m w3 W X u l:World}{g2 B:Nat}{n e:TypeId}{sz:Nat}{d:List α→Nat}{cells:List α→List Value}{pre b:List α}{v v2:Value}
  (x:oH m w3 g2 n e sz d cells pre W)(E:g2<B)(G:m.heap.size≤B)(I:m.heap.size≤g2)(o:n≠9∧n≠270)(he:e≠9∧e≠270)(y:aq W g2 n #[v])
  (j:W.ownsRow 0 e sz v (d pre) (cells pre))(a:∀k,v.ownBlock=some k→m.heap.size≤k∧k≠g2)
  (A:Fr ah W X)(w:bO e sz X v u v2 (d b) (cells b))(f3:Fr (fun k=>k=g2) u l)(b3:aq l g2 n #[v2]):
  KeepsFrom B W l∧KP W l∧oH m w3 g2 n e sz d cells b l:=by
 have s1:m.heap.size≤W.heap.size:=x.fr.size;have s2:W.heap.size≤X.heap.size:=A.size;have L:g2<W.heap.size:=y.lt;have p:∀k,v2.ownBlock=some k→m.heap.size≤k∧k≠g2:=fun k z=>by
  rcases w.eE k z with h|h;·exact a k h
  ·constructor<;>omega
 have F:Fr (fun k=>k=g2∨v.ownBlock=some k) W l:=by
  have D:Fr (fun k=>k=g2∨v.ownBlock=some k) W u:=(A.bJ).trans (w.fr.mono (fun i _ h=> .inr h));exact D.trans (f3.mono (fun i _ h=> .inl h))
 have K:KP W l:=KP.fr F (fun g t cs C q h=>by
  unfold aq at q y;rcases h with rfl|h;·rw[y]at q;cases q;exact C.elim o.1 o.2
  ·obtain⟨c,f,r⟩:=cO j h;rw[r]at q;cases q;exact C.elim he.1 he.2);refine⟨⟨F.size,fun k M _ r H=>?_⟩,K,?_,x.kn.trans K,?_⟩
 ·refine(F.block k (Array.getElem?_eq_some_iff.1 r).1 ?_).trans r;rintro(rfl|h);·omega
  ·obtain⟨c,f,s⟩:=cO j h;rw[r]at s;cases s;simp[Obj.isCells]at H
 ·refine x.fr.au F (fun i J h=>?_);rcases h with h|h;·omega
  ·have:=(a i h).1;omega
 ·exact⟨v2,b3,aJ w.own f3 (fun k z e=>(p k z).2 e),p⟩
theorem EX(w:World):(zeroValue 251).run Tryz.prog w= .ok (.slice none 0 0) w:=by kernel_rfl
theorem pK:(Tryz.prog.info? 251).map (·.size)=some 1:=by kernel_rfl
theorem sc:(Tryz.prog.info? 3).map (fun i=>(i.zero,i.size,i.bytes))=some (some (.int .i64 0),1,8):=by kernel_rfl
theorem wJ(tmps:Array Value)(w:World)(g2:Nat)(v:Value)(b:tmps.getD 2 undef= .pointer (some ⟨g2,0,none⟩))(b2:aq w g2 251 #[v]):
  (results Tryz.f166 tmps).run Tryz.prog w= .ok v w:=by
 have a:tmps[2]?.getD undef= .pointer (some ⟨g2,0,none⟩):=by simpa using b
 simp[results,Tryz.results166,a,asAddr,ez w g2 _ _ _ b2 pK (Tryz.isAgg251 w)]
def Lu(p:Part):Value:= .int .i64 (p.ord:Int)
def DB(a:List Part):List Value:=a.map Lu
structure qR(a w3:World)(g2 g3:Nat)(pre:List Part)(W:World):Prop where
 row:oH a w3 g3 251 3 1 List.length DB pre W
 res:∃v,aq W g2 251 #[v]
 eE:∀v,aq W g3 251 #[v]→v.ownBlock≠some g2
theorem qR.later{b w3 A B:World}{g2 g3:Nat}{pre:List Part}(h:qR b w3 g2 g3 pre A)(f:Fr ah A B)(c:g3<A.heap.size):qR b w3 g2 g3 pre B:=
 ⟨h.row.same f rfl rfl,by obtain⟨v,d⟩:=h.res;exact⟨v,d.fr f (fun x=>x)⟩,fun v a=>h.eE v (by
  have e:=f.block g3 c (fun x=>x);unfold aq at a⊢;rw[←e];exact a)⟩
theorem qR.iC{g w3:World}{g2 g3 N:Nat}(i:g3<N)(j:g.heap.size≤N):OwnFrom N (qR g w3 g2 g3):=by
 intro pre A B row h d f;obtain⟨k,_,c⟩:=mQ d f;refine⟨oH.iC i j pre A B row h.row d f,by obtain⟨v,b⟩:=h.res;exact⟨v,c _ _ _ b⟩,fun v b=>h.eE v ?_⟩;obtain⟨l,a,_⟩:=h.row.row;have e:=c _ _ _ a;unfold aq at b e a⊢;rw[e]at b;cases b;exact a
def IY:Op→Bool
 | .load t _=>t==251
 |_=>false
def I2:Op→Bool
 | .store t _ _=>t==251
 |_=>false
def Lh(w:World)(s:ByteArray)(r:Ending)(w':World):Prop:=∃v,r= .returned v∧bO 3 1 w (.slice none 0 0) w' v (jk s).length ((jk s).map (Value.int .i64))
theorem pP(s:ByteArray)(w:World)(aT:s.size≤1099511627776)(P:db s=true):Calls Tryz.prog 166 #[.string s] w (Lh w s):=by
 obtain⟨i0,aE,ad,aK,aL⟩:=info_parts sc;have a3:=af aT;have a4:=af P;clear aT P;refine(callsIn_wide (n:=6)).1 (callsIn_of_wp_marks Tryz.func166 rfl trivial (wpIn_wide.2 ?_) rfl);simp only[Tryz.ntmps166,List.size_toArray,List.length_cons,List.length_nil,Nat.reduceAdd,Nat.reduceSub,Array.replicate_succ,Array.replicate_zero,List.push_toArray,List.append_toArray,List.nil_append,List.cons_append];go_wp2_with(refine an rfl 251 rfl (.slice none 0 0) EX #[.slice none 0 0] rfl ?_);intro ai M;have T:=af M.fr;have p:=af M.aD;have a7:Sz w w.heap.size:=Nat.le_refl _;clear M;generalize w.heap.size=g2 at*;go_wp2_with(refine an rfl 251 rfl (.slice none 0 0) EX #[.slice none 0 0] rfl ?_);intro w2 nb;have G:=af (T.out.trans nb.fr);have R:=af (p.out.fr nb.fr (fun x=>x));have F:=af nb.aD;have aP:Sz w ai.heap.size:=T.out.size;have aw:Hid (g2<ai.heap.size):=p.out.lt;clear nb p T;generalize ai.heap.size=g3 at*;have aN:Hid (qR w w2 g2 g3 [] w2):=⟨⟨G.out,KP.refl _,_,F.out,⟨rfl, .inl ⟨rfl,rfl⟩⟩,fun k L=>by simp[Value.ownBlock]at L⟩,⟨_,R.out⟩,fun v m=>by
  have h:=F.out;unfold aq at h m;rw[h]at m;cases m;simp[Value.ownBlock]⟩;have ae:Hid (g3<w2.heap.size):=F.out.lt;clear F R G;go_wp2_with fail;refine(vp s _).mono ?_;rintro r w3⟨rfl,f3,b3⟩;have ao:Hid (qR w w2 g2 g3 [] w3):=aN.out.later f3 ae.out;have aZ:=af b3;have S:Hid (w2.heap.size≤w3.heap.size):=f3.size;clear f3 b3 aN;generalize w2.heap.size=gs at*;go_wp2_with fail;refine(wpIn_wide (n:=6)).1 ?_;refine wpIn_rangeFunc_ownH rfl (by omega) (gf:=182) (lb:=#[.pointer (some ⟨gs,0,none⟩)]) rfl trivial (enters_of Tryz.func182 (by kernel_rfl) rfl)
  (rB 5 gs s w3 a3.out aZ.out) (fun h k=>h.trans k) (fun W l o bf _ ho Z _=>KP.put W l o bf ho Z) (Below.refl _ _) (fun _=>rfl)
  (qR w w2 g2 g3) (fun _ pre _=>∃x∈pre,x.e≠0) (qR.iC (Nat.lt_of_lt_of_le ae.out S.out) ao.out.row.fr.size) (fun _ _ _ _ _ h _ _=>h) ao.out
  (fun x ay W=>∃g,ay=({tmps:=#[.string s,undef, .pointer (some ⟨g2,0,none⟩), .pointer (some ⟨g3,0,none⟩), .pointer (some ⟨g,0,none⟩), .string s, .func (.func 182) #[] #[.pointer (some ⟨gs,0,none⟩)], .agg #[.int .i64 x.ord, .int .i64 x.at_, .int .i64 x.e],undef,undef,undef,undef,undef,undef,undef,undef,undef],defers:=[]}:Act)∧aq W g 270 (aY x))
  (fun x ay _ A B row h ba bd=>by
   obtain⟨g,e,m⟩:=h;exact⟨g,e,(mQ ba bd).2.2 _ _ _ m⟩)
  ?assign ?body ?done ?stop;case assign=>
  intro l pre x W K j O;have a2:=af O;have N:=af j;clear O j;gi_wp2_with(refine cj Az rfl (by kernel_rfl) ?_);go_wp2_with(refine an rfl 270 rfl (.agg nV) pM nV rfl ?_);intro ai M;have T:=af M.fr;have aX:=af M.aD;have a6:Sz W W.heap.size:=Nat.le_refl _;clear M;generalize W.heap.size=g at*;go_wp2_with(refine ak rfl 270 (.tmp 4) _ rfl g (aY x) rfl rfl _ _ aX.out cg rfl (dc x) ?_);intro bh bb a8;have G:Fr ah W bh:=T.out.au a8 (fun i aS e=>by have J:i=g:=e;have:=a6;unfold Sz at this;omega);refine⟨?_,rfl⟩;refine a2.out _ _ ⟨G.size,fun k o _ ho _=>(G.block k (Array.getElem?_eq_some_iff.1 ho).1 (fun x=>x)).trans ho⟩ (KP.fr G (fun _ _ _ _ _ x=>x)) (N.out.later G (by obtain⟨v,m,_,_⟩:=N.out.row.row;exact m.lt)) ⟨g,rfl,bb⟩
 case body=>
  rintro bl pre x ay W bc aF j⟨g,rfl,C⟩aa;have N:=af j;have bi:=af C;have bm:W.cell? ⟨g,0,none⟩=some (.int .i64 x.ord):=C.cell 0;have bn:W.cell? ⟨g,2,none⟩=some (.int .i64 x.e):=C.cell 2;obtain⟨v2,z⟩:=j.res;obtain⟨v,b3,b,a⟩:=j.row.row;obtain⟨E,m1,I,rfl,H1,a0⟩:=aH b;have ag:=af (j.eE _ b3);have d:=af b;have u:=af a;have p:=af z;have F:=af b3;have c3:W.cell? ⟨g3,0,none⟩=some (.slice E m1 I):=b3.cell 0;have ap:Hid (pre.length<9):=Nat.lt_of_lt_of_le aa (vi s);clear j C aa bc aF z b3 b a;by_cases aI:x.e=0
  ·have aM:((x.e:Int)==0)=true:=by rw[beq_iff_eq];omega
   gi_wp2_with(refine cj IY rfl (by kernel_rfl) ?_);go_wp2_with(at_builtin;refine cL _ rfl _ _ 251 rfl 3 i0 (.int .i64 0) 1 8 Tryz.underlying251 aE ad aK aL rfl (by omega) _ _ _ rfl d.out 1 _ _ rfl rfl rfl ?zA ?zB (by omega) ?_);case zA=>simp[Value.oneCell']
   case zB=>have:=ap.out;omega
   intro bg aV aR;have X:=af aR;clear aR;have am:Hid (aq aV g3 251 #[.slice E m1 I]):=F.out.fr X.out.fr (fun e=>(u.out _ e).2 rfl);obtain⟨aj,m2,aB,rfl,_,_⟩:=aH X.out.own;go_wp2_with(refine bT rfl 251 (.tmp 3) _ rfl g3 (.slice aj m2 aB) rfl rfl rfl _ _ am.out pK ?_);intro y3 H f3;refine⟨?_,rfl⟩;have av:bO 3 1 W (.slice E m1 I) aV (.slice aj m2 aB) ((pre++[x]).length) (DB (pre++[x])):=by
    have h:=X.out;rw[aW,DB,List.map_append];exact h
   have y:=oH.step (v:= .slice E m1 I) (v2:= .slice aj m2 aB) N.out.row ae.out (Nat.le_trans aP (Nat.le_of_lt ae.out)) aP (by decide) (by decide) F.out d.out u.out az av f3 H;have al:aq y3 g2 251 #[v2]:=(p.out.fr X.out.fr ag.out).fr f3 (fun e=>by have J:g2=g3:=e;have:=aw.out;omega);have V:KeepsFrom w3.heap.size W y3:=⟨y.1.size,fun q o ac ho Z=>y.1.same q o (Nat.le_trans S.out ac) ho Z⟩;refine⟨V,y.2.1,⟨y.2.2,⟨_,al⟩,fun v P e=>?_⟩⟩;unfold aq at P H;rw[H]at P;cases P;rcases X.out.eE _ e with h|h;·exact ag.out h
   ·have:=p.out.lt;omega
  ·have aM:((x.e:Int)==0)=false:=by rw[beq_eq_false_iff_ne];omega
   have a5:=af aI;gi_wp2_with(refine cj I2 rfl (by kernel_rfl) ?_);go_wp2_with(refine bT rfl 251 (.tmp 2) _ rfl g2 (.slice none 0 0) rfl rfl rfl _ _ p.out pK ?_);intro Q aA Y;refine⟨?_,rfl⟩;gi_wp2;refine⟨⟨Y.size,fun q o bk ho Z=>(Y.block q (Array.getElem?_eq_some_iff.1 ho).1 (fun ac=>?_)).trans ho⟩,x,by simp,a5.out⟩;have e:q=g2:=ac;subst e;have m:=p.out;unfold aq at m;rw[m]at ho;cases ho;simp[Obj.isCells]at Z
 case done=>
  rintro D xs W aC rfl j O;obtain⟨v2,z⟩:=j.res;obtain⟨v,b3,b,a⟩:=j.row.row;obtain⟨E,m1,I,rfl,H1,a0⟩:=aH b;have ar:=af O;have a1:=af aC;have N:=af j;have ag:=af (j.eE _ b3);have d:=af b;have u:=af a;have p:=af z;have c3:W.cell? ⟨g3,0,none⟩=some (.slice E m1 I):=b3.cell 0;clear j aC O z b3 b a;go_wp2_with(refine bT rfl 251 (.tmp 2) _ rfl g2 (.slice E m1 I) rfl rfl rfl _ _ p.out pK ?_);intro Q aA Y;have aO:=af aA;have V:=af Y;have U:Hid (Q.heap[D]? =some (.deferred (some []))):=by
   refine(V.out.block D (Array.getElem?_eq_some_iff.1 ar.out).1 (fun ac=>?_)).trans ar.out;have a9:=ar.out;have e:D=g2:=ac;subst e;have aG:=p.out;unfold aq at aG;rw[a9]at aG;cases aG
  clear aA Y c3;go_wp2;refine⟨by simp, .inl ⟨_,_,rfl,run_takeDeferred U.out,?_⟩⟩;have ax:Fr (fun k=>some k=some D) Q (Q.putObj D (.deferred none)):=Fr.grown (grownBy_putObj' Q D _);have aU:∀g,(∃c t f,Q.heap[g]? =some (.cells c t f))→¬(some g=some D):=fun g⟨c,t,f,m⟩e=>by
   have J:g=D:=by simpa using e
   subst J;rw[U.out]at m;cases m
  refine⟨_,wJ _ _ g2 _ rfl (aO.out.fr ax (aU g2 ⟨_,_,_,aO.out⟩)),⟨_,rfl,⟨?_,?_,fun k L=> .inr (u.out k L).1⟩⟩⟩
  ·have aQ:=aJ d.out V.out (fun k L e=>by have J:k=g2:=e;subst J;exact ag.out L);have z:=aJ aQ ax (fun k L e=>by
    obtain⟨c,f,ho⟩:=cO aQ L;exact aU k ⟨_,_,_,ho⟩ e);rw[jk,List.length_map,List.map_map];exact z
  ·refine((N.out.row.fr.au V.out (fun i aS e=>?_)).au ax (fun i aS e=>?_)).bJ;·have J:i=g2:=e;have z:=a7;unfold Sz at z;omega
   ·have J:i=D:=by simpa using e
    have:=a1.out;have:=ao.out.row.fr.size;omega
 case stop=>
  rintro D bj pre W aC ab⟨x,be,aI⟩O;have h:=a4.out;rw[db,List.all_eq_true]at h;have:=h x (ab.subset be);simp only[beq_iff_eq]at this;exact absurd this aI
end Go.Proofs.YtphjagkehiklkaaGreatDoor
namespace Go.Proofs.YtphjagkehiklkaaGreatDoor
open Go.RowKit Go.Shelf
theorem Iq(a b:Int):Ev a b=dR a b:=rfl
theorem zS(a b:ByteArray)(w:World):Calls Tryz.prog 161 #[.string a, .string b] w (bG w (.int .i64 (lG a b))):=by
 have c:=af (fun a w=>Dd a w);have d:=af (uE a b);have key:∀r,lG a b=r→Calls Tryz.prog 161 #[.string a, .string b] w (bG w (.int .i64 r))→Calls Tryz.prog 161 #[.string a, .string b] w (bG w (.int .i64 (lG a b))):=fun r h k=>by rw[h];exact k
 by_cases f:Op.bytesLess a.toList b.toList=true;·refine key (-1) (by rw[d.out,if_pos f]) ?_;clear key d;go_enter Tryz.func161,Tryz.ntmps161;go_wp2_with fail;refine(c.out a _).mono ?_;rintro e w'⟨rfl,rfl⟩;go_wp2_with fail;refine(c.out b _).mono ?_;rintro e w'⟨rfl,rfl⟩;go_wp2;go_ret;exact⟨rfl,rfl⟩
 ·have i:Op.bytesLess a.toList b.toList=false:=by simpa using f
  by_cases e:a=b
  ·subst e;refine key 0 (by rw[d.out,if_neg f,if_pos rfl]) ?_;clear key d;have g:(a.toList==a.toList)=true:=by simp
   go_enter Tryz.func161,Tryz.ntmps161;go_wp2_with fail;refine(c.out a _).mono ?_;rintro e w'⟨rfl,rfl⟩;go_wp2_with fail;refine(c.out a _).mono ?_;rintro e w'⟨rfl,rfl⟩;go_wp2;go_ret;exact⟨rfl,rfl⟩
  ·refine key 1 (by rw[d.out,if_neg f,if_neg e]) ?_;have g:(a.toList==b.toList)=false:=by rw[beq_eq_false_iff_ne];exact fun h=>e (toList_inj h)
   clear key d e;go_enter Tryz.func161,Tryz.ntmps161;go_wp2_with fail;refine(c.out a _).mono ?_;rintro e w'⟨rfl,rfl⟩;go_wp2_with fail;refine(c.out b _).mono ?_;rintro e w'⟨rfl,rfl⟩;go_wp2;go_ret;exact⟨rfl,rfl⟩
theorem Gp(a:ByteArray)(w:World):Calls Tryz.prog 180 #[.string a] w (bG w (.bool false)):=by
 go_enter Tryz.func180,Tryz.ntmps180;go_wp2;go_ret;exact⟨rfl,rfl⟩
theorem Cr(a b:ByteArray)(w:World):Calls Tryz.prog 167 #[.string a, .string b] w (bG w (.int .i64 (lG a b))):=by
 have c:=af (fun a w=>Gp a w);have d:=af (uE a b);have key:∀r,lG a b=r→Calls Tryz.prog 167 #[.string a, .string b] w (bG w (.int .i64 r))→Calls Tryz.prog 167 #[.string a, .string b] w (bG w (.int .i64 (lG a b))):=fun r h k=>by rw[h];exact k
 by_cases f:Op.bytesLess a.toList b.toList=true;·refine key (-1) (by rw[d.out,if_pos f]) ?_;clear key d;go_enter Tryz.func167,Tryz.ntmps167;go_wp2_with fail;refine(c.out a _).mono ?_;rintro e w'⟨rfl,rfl⟩;go_wp2_with fail;refine(c.out b _).mono ?_;rintro e w'⟨rfl,rfl⟩;go_wp2;go_ret;exact⟨rfl,rfl⟩
 ·have i:Op.bytesLess a.toList b.toList=false:=by simpa using f
  by_cases e:a=b
  ·subst e;refine key 0 (by rw[d.out,if_neg f,if_pos rfl]) ?_;clear key d;have g:(a.toList==a.toList)=true:=by simp
   go_enter Tryz.func167,Tryz.ntmps167;go_wp2_with fail;refine(c.out a _).mono ?_;rintro e w'⟨rfl,rfl⟩;go_wp2_with fail;refine(c.out a _).mono ?_;rintro e w'⟨rfl,rfl⟩;go_wp2;go_ret;exact⟨rfl,rfl⟩
  ·refine key 1 (by rw[d.out,if_neg f,if_neg e]) ?_;have g:(a.toList==b.toList)=false:=by rw[beq_eq_false_iff_ne];exact fun h=>e (toList_inj h)
   clear key d e;go_enter Tryz.func167,Tryz.ntmps167;go_wp2_with fail;refine(c.out a _).mono ?_;rintro e w'⟨rfl,rfl⟩;go_wp2_with fail;refine(c.out b _).mono ?_;rintro e w'⟨rfl,rfl⟩;go_wp2;go_ret;exact⟨rfl,rfl⟩
theorem Ie{x:Int}(h:x=0):(x==0)=true:=by subst h;rfl
theorem sL{x:Int}(h:x≠0):(x==0)=false:=by rw[beq_eq_false_iff_ne];exact h
theorem zF(x y z:Int):∀(k:Nat)(v:Int),([x,y,z])[k]? =some v→v≠0→(∀(j:Nat)(u:Int),j<k→([x,y,z])[j]? =some u→u=0)→aV x (aV y z)=v
 |0,v,a,c,b=>by
  obtain rfl:x=v:=by simpa using a
  simp[aV,c]
 |1,v,a,c,b=>by
  obtain rfl:y=v:=by simpa using a
  have:=b 0 x (by omega) rfl;simp[aV,this,c]
 |2,v,a,c,b=>by
  obtain rfl:z=v:=by simpa using a
  have d:=b 0 x (by omega) rfl;have e:=b 1 y (by omega) rfl;simp[aV,d,e]
 |k+3,v,a,_,_=>by simp at a
theorem yh(x y z:Int)(a:∀(j:Nat)(u:Int),j<3→([x,y,z])[j]? =some u→u=0):aV x (aV y z)=0:=by
 have b:=a 0 x (by omega) rfl;have c:=a 1 y (by omega) rfl;have d:=a 2 z (by omega) rfl;simp[aV,b,c,d]
theorem Rd.any{w:World}{S:Nat→Prop}{size n:Nat}{A:Option Addr}{xs:List Value}(h:Rd w S size A n xs):Rd w (fun _=>True) size A n xs:=
 ⟨h.1,fun c=>by obtain⟨a,e,_,b⟩:=h.2 c;exact⟨a,e,trivial,b⟩⟩
theorem Cs(x y z:Int)(g:Nat)(w:World)(h:aq w g 3 #[.int .i64 x, .int .i64 y, .int .i64 z]):Calls Tryz.prog 132 #[.slice (some ⟨g,0,none⟩) 3 3] w (bG w (.int .i64 (aV x (aV y z)))):=by
 have HB:=af h;have n:Hid (∀k:Nat,k<3→∃v:Int,([x,y,z])[k]? =some v∧w.cell? ⟨g,k,none⟩=some (.int .i64 v)):=fun k f=>by
  match k,f with
  |0,_=>exact⟨x,rfl,h.cell 0⟩
  |1,_=>exact⟨y,rfl,h.cell 1⟩
  |2,_=>exact⟨z,rfl,h.cell 2⟩
 clear h;have o:Hid (∀(k:Nat)(v:Int),([x,y,z])[k]? =some v→v≠0→(∀(j:Nat)(u:Int),j<k→([x,y,z])[j]? =some u→u=0)→aV x (aV y z)=v):=fun k v=>zF x y z k v;have p:Hid ((∀(j:Nat)(u:Int),j<3→([x,y,z])[j]? =some u→u=0)→aV x (aV y z)=0):=yh x y z;generalize aV x (aV y z)=t at*;go_enter Tryz.func132,Tryz.ntmps132;go_wp2;go_loopw[8](fun i wr=>∃k:Nat,k≤3∧(∀j u,j<k→([x,y,z])[j]? =some u→u=0)∧i= .int .i64 k∧w=wr)(fun i _=>3-(intOf i).toNat);case atStart=>exact⟨0,by omega,fun j u h=>by omega,rfl,rfl⟩
 case round=>
  obtain⟨k,f,m,rfl,rfl⟩:=hrel;have b:=af m;clear m;by_cases c:k<3
  ·have q:(k:Int)<3:=by omega
   obtain⟨v,l,r⟩:=n.out k c;have d:=af l;clear l;by_cases a:v=0
   ·subst a;go_wp2;go_roundw
    case rel=>exact⟨k+1,by omega,fun j u s hu=>by
      by_cases e:j=k;·subst e;have:=d.out;rw[hu]at this;cases this;rfl
      ·exact b.out j u (by omega) hu,by go_num,trivial⟩
    case measure=>simp[intOf];omega
   ·have t1:=sL a;obtain rfl:t=v:=o.out k v d.out a b.out;go_wp2;go_ret;exact⟨rfl,rfl⟩
  ·obtain rfl:k=3:=by omega
   obtain rfl:t=0:=p.out b.out;go_wp2;go_ret;exact⟨rfl,rfl⟩
theorem pA{α:Type}{c:α→α→Int}(h:gJ c):∀(p a b:List α),cmpL c (p++a) (p++b)=cmpL c a b
 |[],_,_=>rfl
 |x::p,a,b=>by
  rw[List.cons_append,List.cons_append,cmpL,h.refl,aV,if_pos rfl];exact pA h p a b
theorem vR(xs r:List Int)(A B:Option Addr)(n m c d:Nat)(w:World)(D:Rd w (fun _=>True) 1 A n (xs.map (Value.int .i64)))(E:Rd w (fun _=>True) 1 B m (r.map (Value.int .i64)))(ad:n≤1099511627776)(W:m≤1099511627776):
  Calls Tryz.prog 165 #[.slice A n c, .slice B m d] w (bG w (.int .i64 (cmpL dR xs r))):=by
 have l1:xs.length=n:=by simpa using D.1
 have l2:r.length=m:=by simpa using E.1
 have V:Hid (∀k v,xs[k]? =some v→∃g,A=some g∧w.cell? (g.add k)=some (.int .i64 v)):=fun k v y=>by
  have Q:=(List.getElem?_eq_some_iff.1 y).1;obtain⟨g,e,_,J⟩:=D.2 (by omega);exact⟨g,e,J k _ (by rw[List.getElem?_map,y];rfl)⟩
 have HB:Hid (∀k v,r[k]? =some v→∃g,B=some g∧w.cell? (g.add k)=some (.int .i64 v)):=fun k v y=>by
  have Q:=(List.getElem?_eq_some_iff.1 y).1;obtain⟨g,e,_,J⟩:=E.2 (by omega);exact⟨g,e,J k _ (by rw[List.getElem?_map,y];rfl)⟩
 have N:=af l1;have C:=af l2;have U:=af (fun a b w=>iy a b w);obtain⟨R,G⟩:∃R,R=cmpL dR xs r:=⟨_,rfl⟩;rw[←G];have z:=af G;clear D E l1 l2 G;go_enter Tryz.func165,Tryz.ntmps165;go_wp2;go_loopw[11](fun i wr=>∃k:Nat,k≤n∧(∃p a b,p.length=k∧xs=p++a∧r=p++b)∧i= .int .i64 k∧w=wr)(fun i _=>n-(intOf i).toNat);case atStart=>exact⟨0,by omega,⟨[],xs,r,rfl,rfl,rfl⟩,rfl,rfl⟩
 case round=>
  obtain⟨k,Q,⟨p,a,b,hp,S,T⟩,rfl,rfl⟩:=hrel;have f:=af hp;have l:=af S;have j:=af T;clear hp S T;by_cases aa:k<n
  ·have ac:(k:Int)<(n:Int):=by omega
   have H:∃v s,a=v::s:=by
    cases a with
    |nil=>
     have h:=N.out;rw[l.out,List.append_nil,f.out]at h;omega
    |cons v s=>exact⟨v,s,rfl⟩
   obtain⟨v,s,rfl⟩:=H;obtain⟨g,rfl,Y⟩:=V.out k v (by rw[l.out,List.getElem?_append_right (by rw[f.out];omega),f.out,Nat.sub_self];rfl);by_cases K:k<m
   ·have P:(k:Int)<(m:Int):=by omega
    have F:decide ((m:Int)≤(k:Int))=false:=bZ (by omega);have I:∃u o,b=u::o:=by
     cases b with
     |nil=>
      have h:=C.out;rw[j.out,List.append_nil,f.out]at h;omega
     |cons u o=>exact⟨u,o,rfl⟩
    obtain⟨u,o,rfl⟩:=I;obtain⟨ab,rfl,Z⟩:=HB.out k u (by rw[j.out,List.getElem?_append_right (by rw[f.out];omega),f.out,Nat.sub_self];rfl);go_wp2_with fail;refine(U.out v u _).mono ?_;rintro e w'⟨rfl,rfl⟩;have M:=af (Iq v u);generalize Ev v u=O at*;by_cases q:O=0
    ·subst q;have L:Hid (v=u):=eX.eq v u M.out.symm;go_wp2;go_roundw;case rel=>exact⟨k+1,by omega,⟨p++[v],s,o,by rw[aW,f.out];rfl,by rw[l.out];simp,by rw[j.out,L.out];simp⟩,by go_num,trivial⟩
     case measure=>simp[intOf];omega
    ·have t1:=sL q;obtain rfl:R=O:=by
      rw[z.out,l.out,j.out,pA eX,cmpL,←M.out,aV,if_neg q]
     go_wp2;go_ret;exact⟨rfl,rfl⟩
   ·have F:decide ((m:Int)≤(k:Int))=true:=cT (by omega);have X:¬(k:Int)<(m:Int):=by omega
    have I:b=[]:=by
     have h:=congrArg List.length j.out;rw[C.out,aW,f.out]at h;exact List.length_eq_zero_iff.1 (by omega)
    subst I;obtain rfl:R=1:=by rw[z.out,l.out,j.out,pA eX];rfl
    go_wp2;go_ret;exact⟨rfl,rfl⟩
  ·obtain rfl:k=n:=by omega
   have H:a=[]:=by
    have h:=congrArg List.length l.out;rw[N.out,aW,f.out]at h;exact List.length_eq_zero_iff.1 (by omega)
   subst H;have t:Hid (R=cmpL dR [] b):=by simp only[Hid];rw[z.out,l.out,j.out,pA eX]
   have x:Hid (m=k+b.length):=by
    have h:=congrArg List.length j.out;rw[C.out,aW,f.out]at h;exact h
   by_cases K:k<m
   ·have P:(k:Int)<(m:Int):=by omega
    obtain rfl:R=-1:=by
     rw[t.out];cases b with
     |nil=>have:=x.out;simp at this;omega
     |cons u o=>rfl
    go_wp2;go_ret;exact⟨rfl,rfl⟩
   ·have P:¬(k:Int)<(m:Int):=by omega
    obtain rfl:R=0:=by
     rw[t.out];cases b with
     |nil=>rfl
     |cons u o=>have:=x.out;simp at this;omega
    go_wp2;go_ret;exact⟨rfl,rfl⟩
def kI(a b:ByteArray):Int:=if a=b then 0 else if db a=true then(if db b=true then cmpL dR (jk a) (jk b)else-1)else if db b=true then 1 else lG a b
theorem xC(s:ByteArray):(jk s).length≤9:=by rw[jk,List.length_map];exact vi s
theorem kL(a b:ByteArray)(w:World)(p:a.size≤1099511627776)(q:b.size≤1099511627776):Calls Tryz.prog 134 #[.string a, .string b] w (aK w (.int .i64 (kI a b))):=by
 by_cases e:a=b;·subst e;rw[show kI a a=0 by simp[kI]];refine(oX a w).mono ?_;rintro e w'⟨rfl,rfl⟩;exact aL
 ·have F:(a.toList==b.toList)=false:=by rw[beq_eq_false_iff_ne];exact fun h=>e (toList_inj h)
  have j:=af (fun w=>np a w p);have k:=af (fun w=>np b w q);have u:=af (fun w=>Cr a b w);have f:Hid (kI a b=if db a=true then(if db b=true then cmpL dR (jk a) (jk b)else-1)else if db b=true then 1 else lG a b):=by simp only[Hid,kI];rw[if_neg e]
  have g:=af (fun w h=>pP a w p h);have i:=af (fun w h=>pP b w q h);have l:=af (xC a);have m:=af (xC b);generalize kI a b=G at*;generalize db a=va at*;generalize db b=r at*;clear e;go_enter Tryz.func134,Tryz.ntmps134;go_wp2_with fail;refine(j.out _).mono ?_;rintro e w1⟨rfl,f1⟩;have o:=af f1;clear f1;go_wp2_with fail;refine(k.out _).mono ?_;rintro e w2⟨rfl,f2⟩;have d:=af (o.out.trans f2);clear f2 o;cases va
  ·cases r;·go_wp2_with fail;refine(u.out _).mono ?_;rintro e w'⟨rfl,rfl⟩;go_wp2;go_ret;rw[f.out];exact⟨rfl,d.out⟩
   ·go_wp2;go_ret;rw[f.out];exact⟨rfl,d.out⟩
  ·cases r;·go_wp2;go_ret;rw[f.out];exact⟨rfl,d.out⟩
   ·go_wp2_with fail;refine(g.out _ (by first|rfl|trivial)).mono ?_;rintro e w3⟨v,rfl,c⟩;obtain⟨s,m1,C,rfl,H1,_⟩:=aH c.own;obtain rfl:=H1.out;have x:=af (d.out.trans c.ao);have A:=af (Rd.gO c.own);clear c;go_wp2_with fail;refine(i.out _ (by first|rfl|trivial)).mono ?_;rintro e E⟨v,rfl,c⟩;obtain⟨t,m2,D,rfl,z,_⟩:=aH c.own;obtain rfl:=z.out;have y:=af (x.out.trans c.ao);have B:=af (Rd.gO c.own);have n:=af (A.out.ao c.ao);clear c;go_wp2_with fail;refine(vR (jk a) (jk b) s t _ _ C D E n.out.any B.out.any (by have:=l.out;omega) (by have:=m.out;omega)).mono ?_;rintro e w'⟨rfl,rfl⟩;go_wp2;go_ret;rw[f.out];exact⟨rfl,y.out⟩
def bP(n m:aI):Int:=aV (dR n.kind m.kind) (aV (kI n.owner m.owner) (aV (dR n.number m.number) (aV (dR n.index m.index) (lG n.text m.text))))
theorem fI(n m:aI)(w:World)(O:n.owner.size≤1099511627776)(hm:m.owner.size≤1099511627776):Calls Tryz.prog 128 #[.agg n.cells.toArray, .agg m.cells.toArray] w (aK w (.int .i64 (bP n m))):=by
 have V:Hid (∀w,Calls Tryz.prog 133 #[.int .i64 n.kind, .int .i64 m.kind] w (bG w (.int .i64 (dR n.kind m.kind)))):=fun w=>iy _ _ w;have W:=af (fun w=>kL n.owner m.owner w O hm);have X:Hid (∀w,Calls Tryz.prog 133 #[.int .i64 n.number, .int .i64 m.number] w (bG w (.int .i64 (dR n.number m.number)))):=fun w=>iy _ _ w;have Y:Hid (∀w,Calls Tryz.prog 133 #[.int .i64 n.index, .int .i64 m.index] w (bG w (.int .i64 (dR n.index m.index)))):=fun w=>iy _ _ w;have Z:=af (fun w=>zS n.text m.text w);have E:Hid (bP n m=aV (dR n.kind m.kind) (aV (kI n.owner m.owner) (aV (dR n.number m.number) (aV (dR n.index m.index) (lG n.text m.text))))):=rfl;generalize bP n m=R at*;generalize dR n.kind m.kind=z0 at*;generalize kI n.owner m.owner=z1 at*;generalize dR n.number m.number=z2 at*;generalize dR n.index m.index=z3 at*;generalize lG n.text m.text=z4 at*;clear O hm;go_enter Tryz.func128,Tryz.ntmps128;go_wp2_with(refine aB rfl 106 (.tmp 0) rfl n.cells.toArray rfl ?_);intro w1 n1;have F:=af n1;clear n1;generalize y:w.heap.size=k at*;have t:Hid (aq w1 k 106 n.cells.toArray):=by have h:=F.out.aD;rw[y]at h;exact h
 clear y;go_wp2_with(refine aB rfl 106 (.tmp 1) rfl m.cells.toArray rfl ?_);intro w2 S;have C:=af S;clear S;generalize z:w1.heap.size=l at*;have i:Hid (aq w2 l 106 m.cells.toArray):=by have h:=C.out.aD;rw[z]at h;exact h
 clear z;have g:=af (t.out.fr C.out.fr (fun x=>x));have D:=af (F.out.fr.trans C.out.fr);have G:w2.cell? ⟨k,0,none⟩=some (.int .i64 n.kind):=g.out.cell 0;have I:w2.cell? ⟨l,0,none⟩=some (.int .i64 m.kind):=i.out.cell 0;have H:w2.cell? ⟨k,1,none⟩=some (.string n.owner):=g.out.cell 1;have J:w2.cell? ⟨l,1,none⟩=some (.string m.owner):=i.out.cell 1;clear F C t;go_wp2_with fail;refine(V.out _).mono ?_;rintro e w'⟨rfl,rfl⟩;by_cases q:z0=0
 ·have j:=af q;have t0:=Ie q;clear q;go_wp2_with fail;refine(W.out _).mono ?_;rintro e w3⟨rfl,f3⟩;have p:=af f3;clear f3 G I H J;by_cases r:z1=0
  ·have s:=af r;have t1:=Ie r;clear r;go_upto_region 7 with fail;refine ay 15 ah [Is (.pointer (some ⟨k,2,none⟩)),Is (.int .i64 n.number),Is (.pointer (some ⟨l,2,none⟩)),Is (.int .i64 m.number),Is (.int .i64 z2),Is (.pointer (some ⟨k,3,none⟩)),Is (.int .i64 n.index),Is (.pointer (some ⟨l,3,none⟩)),Is (.int .i64 m.index),Is (.int .i64 z3),Is (.pointer (some ⟨k,4,none⟩)),Is (.string n.text),Is (.pointer (some ⟨l,4,none⟩)),Is (.string m.text),Is (.int .i64 z4)] [] (fun _=>True) (fun _ _=>false) (by kernel_rfl) (by kernel_rfl) (by kernel_rfl) (by kernel_rfl) ⟨Is.ag _,Is.ag _,Is.ag _,Is.ag _,Is.ag _,Is.ag _,Is.ag _,Is.ag _,Is.ag _,Is.ag _,Is.ag _,Is.ag _,Is.ag _,Is.ag _,Is.ag _,trivial⟩ trivial (fun _ _ _ _ h=>h) trivial ?_ ?_
   ·refine⟨?_,?_,?_,?_,?_,?_,?_,?_,?_,?_,?_,?_,?_,?_,?_,trivial⟩;all_goals intro u w' d o a f c b
    all_goals simp only[bm,bp,bw,bC,ar,Act.put,bD,bE,bF,Nat.reduceAdd,Nat.zero_add]
    ·clear a f c b;refine ai ?_;go_simp;exact⟨_,rfl,al⟩
    ·have q:u 0=_:=a 0;clear a f c b;simp only[q];refine ai ?_;have v:w'.cell? ⟨k,2,none⟩=some (.int .i64 n.number):=(g.out.fr (p.out.trans o) (fun x=>x)).cell 2;go_simp;exact⟨_,rfl,al⟩
    ·clear a f c b;refine ai ?_;go_simp;exact⟨_,rfl,al⟩
    ·have ae:u 2=_:=a 2;clear a f c b;simp only[ae];refine ai ?_;have v:w'.cell? ⟨l,2,none⟩=some (.int .i64 m.number):=(i.out.fr (p.out.trans o) (fun x=>x)).cell 2;go_simp;exact⟨_,rfl,al⟩
    ·have r:u 1=_:=a 1;have aj:u 3=_:=a 3;clear a f c b;simp only[r,aj];refine ai ?_;go_simp;refine(X.out _).mono ?_;rintro e T⟨rfl,rfl⟩;exact⟨_,rfl,al⟩
    ·clear a f c b;refine ai ?_;go_simp;exact⟨_,rfl,al⟩
    ·have ak:u 5=_:=a 5;clear a f c b;simp only[ak];refine ai ?_;have v:w'.cell? ⟨k,3,none⟩=some (.int .i64 n.index):=(g.out.fr (p.out.trans o) (fun x=>x)).cell 3;go_simp;exact⟨_,rfl,al⟩
    ·clear a f c b;refine ai ?_;go_simp;exact⟨_,rfl,al⟩
    ·have an:u 7=_:=a 7;clear a f c b;simp only[an];refine ai ?_;have v:w'.cell? ⟨l,3,none⟩=some (.int .i64 m.index):=(i.out.fr (p.out.trans o) (fun x=>x)).cell 3;go_simp;exact⟨_,rfl,al⟩
    ·have am:u 6=_:=a 6;have ao:u 8=_:=a 8;clear a f c b;simp only[am,ao];refine ai ?_;go_simp;refine(Y.out _).mono ?_;rintro e T⟨rfl,rfl⟩;exact⟨_,rfl,al⟩
    ·clear a f c b;refine ai ?_;go_simp;exact⟨_,rfl,al⟩
    ·have K:u 10=_:=a 10;clear a f c b;simp only[K];refine ai ?_;have v:w'.cell? ⟨k,4,none⟩=some (.string n.text):=(g.out.fr (p.out.trans o) (fun x=>x)).cell 4;go_simp;exact⟨_,rfl,al⟩
    ·clear a f c b;refine ai ?_;go_simp;exact⟨_,rfl,al⟩
    ·have M:u 12=_:=a 12;clear a f c b;simp only[M];refine ai ?_;have v:w'.cell? ⟨l,4,none⟩=some (.string m.text):=(i.out.fr (p.out.trans o) (fun x=>x)).cell 4;go_simp;exact⟨_,rfl,al⟩
    ·have L:u 11=_:=a 11;have N:u 13=_:=a 13;clear a f c b;simp only[L,N];refine ai ?_;go_simp;refine(Z.out _).mono ?_;rintro e T⟨rfl,rfl⟩;exact⟨_,rfl,al⟩
   ·intro u w' o a b;have Q:u 4=_:=a 4 (by omega);have k9:u 9=_:=a 9 (by omega);have B:u 14=_:=a 14 (by omega);clear a b;simp only[bm,bp,bw,bC,ar,Act.put,bD,bE,bF,cZ,da,Nat.reduceAdd,Nat.zero_add,Q,k9,B];have ab:=af (D.out.trans (p.out.trans o));clear o Q k9 B;obtain⟨i0,ap,P,A,au⟩:=info_parts sc;have ac:Hid (¬3*i0.size>2^24):=by simp only[Hid];rw[A];omega
    have ad:Hid (¬3*i0.size=0):=by simp only[Hid];rw[A];omega
    go_wp2_with fail;have U:Hid (aq (w'.alloc (.cells #[.int .i64 z2, .int .i64 z3, .int .i64 z4] 3)) w'.heap.size 3 #[.int .i64 z2, .int .i64 z3, .int .i64 z4]):=aq.new _ _ _;have aa:=af (ab.out.trans ((Fr.refl ah w').alloc (.cells #[.int .i64 z2, .int .i64 z3, .int .i64 z4] 3)));refine(Cs z2 z3 z4 _ _ U.out).mono ?_;rintro e av⟨rfl,rfl⟩;go_wp2;go_ret;rw[E.out,j.out,s.out];exact⟨rfl,aa.out⟩
  ·have t1:=sL r;have s:=af r;clear r;go_wp2;go_ret;rw[E.out,j.out,aV,if_pos rfl,aV,if_neg s.out];exact⟨rfl,D.out.trans p.out⟩
 ·have t0:=sL q;have j:=af q;clear q;go_wp2;go_ret;rw[E.out,aV,if_neg j.out];exact⟨rfl,D.out⟩
end Go.Proofs.YtphjagkehiklkaaGreatDoor
namespace Go.Proofs.YtphjagkehiklkaaGreatDoor
open Go.RowKit
theorem pf{α:Type}(l:List α)(h:l≠[]):∃i x,l=i++[x]:=by
 rcases List.eq_nil_or_concat l with rfl|⟨i,b,rfl⟩;·exact absurd rfl h
 ·exact⟨i,b,by simp⟩
def oC(ds:List UInt8):Prop:=(∀b∈ds,me b=true)∧ds≠[]∧ds[0]? ≠some 48
theorem uU{b:UInt8}(h:me b=true):48≤b.toNat∧b.toNat≤57:=by simpa[me]using h
theorem oC.init{i:List UInt8}{x:UInt8}(h:oC (i++[x]))(a:i≠[]):oC i:=by
 refine⟨fun b c=>h.1 b (by simp[c]),a,fun e=>h.2.2 ?_⟩;rw[List.getElem?_append_left (List.length_pos_iff.2 a)];exact e
theorem xA:∀(n:Nat)(ds:List UInt8),ds.length=n→oC ds→1≤eY ds:=by
 intro n;induction n with
 |zero=>intro ds h a;exact absurd (List.length_eq_zero_iff.1 h) a.2.1
 |succ n d=>
  intro ds h a;obtain⟨i,x,rfl⟩:=pf ds a.2.1;rw[lR];by_cases b:i=[];·subst b;have f:=uU (a.1 x (by simp));have c:x≠48:=fun e=>a.2.2 (by rw[e];rfl);have g:x.toNat≠48:=fun e=>c (UInt8.toNat_inj.1 e);omega
  ·have:=d i (by simpa using h) (a.init b);omega
theorem xz:∀(n:Nat)(ds es:List UInt8),ds.length=n→oC ds→oC es→eY ds=eY es→ds=es:=by
 intro n;induction n with
 |zero=>intro ds es h g;exact absurd (List.length_eq_zero_iff.1 h) g.2.1
 |succ n k=>
  intro ds es h c he e;obtain⟨i,x,rfl⟩:=pf ds c.2.1;obtain⟨j,y,rfl⟩:=pf es he.2.1;rw[lR,lR]at e;have l:=uU (c.1 x (by simp));have m:=uU (he.1 y (by simp));have f:x=y:=UInt8.toNat_inj.1 (by omega);have a:eY i=eY j:=by omega
  subst f;by_cases d:i=[]
  ·by_cases b:j=[];·rw[d,b]
   ·have:=xA _ j rfl (he.init b);rw[d]at a;simp[eY]at a;simp[eY]at this;omega
  ·by_cases b:j=[];·have:=xA _ i rfl (c.init d);rw[b]at a;simp[eY]at a;simp[eY]at this;omega
   ·rw[k i j (by simpa using h) (c.init d) (he.init b) a]
theorem Cy{c a:Nat}{l:List UInt8}(h:(cQ c a l).1.e=0):oC (dy 7 l)∧(cQ c a l).1.ord=eY (dy 7 l):=by
 simp only[cQ]at h⊢;split at h;·simp at h
 ·rename_i f;rw[if_neg f];split at h;·simp at h
  ·rename_i g;rw[if_neg g];split at h;·simp at h
   ·rename_i b;rw[if_neg b];split at h;·simp at h
    ·rename_i d;rw[if_neg d];split at h;·simp at h
     ·rename_i i;rw[if_neg i];refine⟨⟨so 7 l,b,fun e=>d ?_⟩,rfl⟩;have j:0<(dy 7 l).length:=List.length_pos_iff.2 b;rw[nZ,List.getElem?_take_of_lt j]at e;exact e
theorem nX(n a:Nat)(l:List UInt8):dq n a l≠[]:=by
 cases n with
 |zero=>simp[dq]
 |succ n=>
  rw[dq];simp only;split;·simp
  ·split;·simp
   ·split<;>simp
theorem vo{n a:Nat}{l:List UInt8}(h:∀p∈dq (n+1) a l,p.e=0):
  oC (dy 7 l)∧((l=dy 7 l∧(dq (n+1) a l).map (·.ord)=[eY (dy 7 l)])∨
   ∃r,l=dy 7 l++46::r∧(dq (n+1) a l).map (·.ord)=eY (dy 7 l)::(dq n (a+(dy 7 l).length+1) r).map (·.ord)∧∀p∈dq n (a+(dy 7 l).length+1) r,p.e=0):=by
 rw[dq]at h⊢;simp only at h⊢;by_cases he:(cQ (7-n) a l).1.e=0
 ·rw[if_neg (by simp[he])]at h⊢;obtain⟨i,g⟩:=Cy he;refine⟨i,?_⟩;have m:=kY 7 l;have f:=nZ 7 l;by_cases b:l.length≤(dy 7 l).length;·rw[if_pos b];left;refine⟨?_,by simp[g]⟩;rw[List.take_of_length_le b]at f;exact f.symm
  ·rw[if_neg b]at h⊢;by_cases c:l[(dy 7 l).length]? =some 46;·rw[if_neg (by simp[c])]at h⊢;right;refine⟨l.drop ((dy 7 l).length+1),?_,by simp[g],fun p j=>h p (by simp[j])⟩;obtain⟨d,k⟩:=List.getElem?_eq_some_iff.1 c;conv=>lhs;rw[←List.take_append_drop (dy 7 l).length l,←f,List.drop_eq_getElem_cons d,k]
   ·rw[if_pos c]at h;have:=h ⟨0,a+(dy 7 l).length,6⟩ (by simp);simp at this
 ·rw[if_pos he]at h;exact absurd (h _ (by simp)) he
theorem ti:∀(n a b:Nat)(l m:List UInt8),(∀p∈dq n a l,p.e=0)→(∀p∈dq n b m,p.e=0)→(dq n a l).map (·.ord)=(dq n b m).map (·.ord)→l=m
 |0,a,b,l,m,h,_,_=>by
  have:=h ⟨0,a,9⟩ (by simp[dq]);simp at this
 |n+1,a,b,l,m,h,k,e=>by
  obtain⟨g1,o⟩:=vo h;obtain⟨g2,i⟩:=vo k;rcases o with⟨g,f⟩|⟨r,g,f,q⟩
  ·rcases i with⟨d,c⟩|⟨s,d,c,j⟩;·rw[f,c]at e;rw[g,d];exact xz _ _ _ rfl g1 g2 (by simpa using e)
   ·rw[f,c]at e;simp only[List.cons.injEq]at e;exact absurd (List.map_eq_nil_iff.1 e.2.symm) (nX _ _ _)
  ·rcases i with⟨d,c⟩|⟨s,d,c,j⟩;·rw[f,c]at e;simp only[List.cons.injEq]at e;exact absurd (List.map_eq_nil_iff.1 e.2) (nX _ _ _)
   ·rw[f,c]at e;simp only[List.cons.injEq]at e;rw[g,d,xz _ _ _ rfl g1 g2 e.1,ti n _ _ r s q j e.2]
theorem DA{a b:ByteArray}(c:db a=true)(d:db b=true)(h:jk a=jk b):a=b:=by
 apply toList_inj;unfold db at c d;rw[List.all_eq_true]at c d;simp only[beq_iff_eq]at c d;unfold jk at h;have hm:(fS a).map (·.ord)=(fS b).map (·.ord):=by
  have g:=congrArg (List.map Int.toNat) h;simpa[List.map_map,Function.comp_def]using g
 unfold fS at c d hm;by_cases f:a.size=0
 ·by_cases e:b.size=0;·rw[show a.toList=[]from List.length_eq_zero_iff.1 (by rw[fm];exact f),show b.toList=[]from List.length_eq_zero_iff.1 (by rw[fm];exact e)]
  ·rw[if_pos f,if_neg e]at hm;exact absurd (List.map_eq_nil_iff.1 hm.symm) (nX _ _ _)
 ·by_cases e:b.size=0;·rw[if_neg f,if_pos e]at hm;exact absurd (List.map_eq_nil_iff.1 hm) (nX _ _ _)
  ·rw[if_neg f]at c hm;rw[if_neg e]at d hm;exact ti 8 0 0 _ _ c d hm
def rq(a:ByteArray):(Int×List Int)×ByteArray:=if db a=true then((0,jk a),ByteArray.empty)else((1,[]),a)
theorem Gq(a b:ByteArray)(h:rq a=rq b):a=b:=by
 unfold rq at h;split at h
 ·rename_i c;split at h;·rename_i d;simp only[Prod.mk.injEq,true_and,and_true]at h;exact DA c d h
  ·simp at h
 ·split at h;·simp at h
  ·simpa using h
def Ew(x y:(Int×List Int)×ByteArray):Int:=aV (aV (dR x.1.1 y.1.1) (cmpL dR x.1.2 y.1.2)) (lG x.2 y.2)
theorem zP:gJ Ew:=((eX.lex (oN eX)).lex uD)
theorem FH(a b:ByteArray):kI a b=Ew (rq a) (rq b):=by
 unfold kI;by_cases e:a=b;·subst e;rw[if_pos rfl,zP.refl]
 ·rw[if_neg e];unfold rq Ew;by_cases d:db a=true
  ·rw[if_pos d,if_pos d];by_cases c:db b=true
   ·rw[if_pos c,if_pos c];simp only[eX.refl,aV,if_true,uD.refl];split;·assumption
    ·rfl
   ·rw[if_neg c,if_neg c];rfl
  ·rw[if_neg d,if_neg d];by_cases c:db b=true;·rw[if_pos c,if_pos c];rfl
   ·rw[if_neg c,if_neg c];simp only[eX.refl,aV,if_true,(oN eX).refl]
theorem zQ:gJ kI:=by
 have h:=zP.pull rq Gq;have e:kI=fun a b=>Ew (rq a) (rq b):=by funext a b;exact FH a b
 rw[e];exact h
def IU(n:aI):Int×ByteArray×Int×Int×ByteArray:=(n.kind,n.owner,n.number,n.index,n.text)
theorem ca:gJ bP:=by
 have h:=(eX.lex (zQ.lex (eX.lex (eX.lex uD)))).pull IU (fun a b e=>by
  cases a;cases b;simpa[IU]using e);exact h
end Go.Proofs.YtphjagkehiklkaaGreatDoor
namespace Go.Proofs.YtphjagkehiklkaaGreatDoor
open Go.RowKit Go.Shelf
abbrev Ent:=aI×ByteArray
def cC(L:List Ent):Prop:=L.Pairwise (fun a b=>bP a.1 b.1<0)
def dC(nm:aI)(v:ByteArray):List Ent→List Ent
 |[]=>[(nm,v)]
 |x::r=>if bP nm x.1<0 then(nm,v)::x::r else if bP nm x.1=0 then(nm,v)::r else x::dC nm v r
def de(nm:aI):List Ent→List Ent
 |[]=>[]
 |x::r=>if bP nm x.1=0 then r else x::de nm r
def fi(nm:aI):List Ent→Option ByteArray
 |[]=>none
 |x::r=>if bP nm x.1=0 then some x.2 else fi nm r
theorem Al{nm:aI}{v:ByteArray}{x:Ent}(h:bP nm x.1<0):∀(L a:List Ent),dC nm v (L++x::a)=dC nm v L++x::a
 |[],a=>by simp[dC,h]
 |y::L,a=>by
  simp only[List.cons_append,dC];split;·rfl
  ·split;·rfl
   ·rw[Al h L a];rfl
theorem lO{nm:aI}{v:ByteArray}:∀(L M:List Ent),(∀y∈L,0<bP nm y.1)→dC nm v (L++M)=L++dC nm v M
 |[],_,_=>rfl
 |y::L,M,h=>by
  have b:=h y (by simp);simp only[List.cons_append,dC];rw[if_neg (by omega),if_neg (by omega),lO L M (fun z a=>h z (by simp[a]))]
theorem q9{nm:aI}:∀(L M:List Ent),(∀y∈L,0<bP nm y.1)→de nm (L++M)=L++de nm M
 |[],_,_=>rfl
 |y::L,M,h=>by
  have b:=h y (by simp);simp only[List.cons_append,de];rw[if_neg (by omega),q9 L M (fun z a=>h z (by simp[a]))]
theorem rY{nm:aI}:∀(L M:List Ent),(∀y∈L,0<bP nm y.1)→fi nm (L++M)=fi nm M
 |[],_,_=>rfl
 |y::L,M,h=>by
  have b:=h y (by simp);simp only[List.cons_append,fi];rw[if_neg (by omega),rY L M (fun z a=>h z (by simp[a]))]
theorem zT{nm:aI}:∀(L M:List Ent),(∀y∈M,bP nm y.1<0)→(∃v,(nm,v)∈L)→de nm (L++M)=de nm L++M
 |[],_,_,h=>by obtain⟨v,b⟩:=h;cases b
 |y::L,M,h,hm=>by
  simp only[List.cons_append,de];by_cases e:bP nm y.1=0;·rw[if_pos e,if_pos e]
  ·rw[if_neg e,if_neg e,zT L M h,List.cons_append];obtain⟨v,b⟩:=hm;rcases List.mem_cons.1 b with a|a;·rw[←a]at e;exact absurd (ca.refl nm) e
   ·exact⟨v,a⟩
theorem sW{nm:aI}:∀(M:List Ent),(∀y∈M,bP nm y.1<0)→fi nm M=none
 |[],_=>rfl
 |y::M,h=>by
  have b:=h y (by simp);rw[fi,if_neg (by omega),sW M (fun z a=>h z (by simp[a]))]
theorem xm{nm:aI}:∀(L M:List Ent),(∀y∈M,bP nm y.1<0)→fi nm (L++M)=fi nm L
 |[],M,h=>sW M h
 |y::L,M,h=>by
  simp only[List.cons_append,fi];rw[xm L M h]
theorem uQ{nm:aI}{v:ByteArray}:∀{L:List Ent},fi nm L=some v→(nm,v)∈L
 |[],h=>by simp[fi]at h
 |y::L,h=>by
  rw[fi]at h;split at h;·rename_i e;have a:=ca.eq _ _ e;simp only[Option.some.injEq]at h;rw[a,←h];simp
  ·exact List.mem_cons_of_mem _ (uQ h)
theorem cC.parts{L b:List Ent}{x:Ent}(h:cC (L++x::b)):cC L∧cC b∧(∀y∈L,bP y.1 x.1<0)∧(∀y∈b,bP x.1 y.1<0):=by
 unfold cC at h;rw[List.pairwise_append,List.pairwise_cons]at h;exact⟨h.1,h.2.1.2,fun y a=>h.2.2 y a x (by simp),h.2.1.1⟩
theorem gj{a b:aI}(h:bP a b<0):0<bP b a:=by rw[ca.kH a b];omega
theorem lk{a b:aI}(h:0<bP a b):bP b a<0:=by rw[ca.kH a b];omega
theorem nM{nm:aI}{v:ByteArray}:∀{L:List Ent},cC L→cC (dC nm v L)∧∀x∈dC nm v L,x=(nm,v)∨x∈L
 |[],_=>by simp[dC,cC]
 |y::L,h=>by
  have b:=List.pairwise_cons.1 h;rw[dC];split
  ·rename_i c;refine⟨List.pairwise_cons.2 ⟨fun z a=>?_,h⟩,fun x d=>by simpa using d⟩;rcases List.mem_cons.1 a with rfl|a;·exact c
   ·exact ca.trans _ _ _ c (b.1 z a)
  ·split
   ·rename_i _ he;have e:=ca.eq _ _ he;refine⟨List.pairwise_cons.2 ⟨fun z a=>?_,b.2⟩,fun x d=>?_⟩;·simp only;rw[e];exact b.1 z a
    ·rcases List.mem_cons.1 d with h|h;·exact .inl h
     ·exact .inr (List.mem_cons_of_mem _ h)
   ·rename_i f he;obtain⟨i1,i2⟩:=nM (nm:=nm) (v:=v) b.2;refine⟨List.pairwise_cons.2 ⟨fun z a=>?_,i1⟩,fun x d=>?_⟩
    ·rcases i2 z a with rfl|a;·exact lk (by simp only;omega)
     ·exact b.1 z a
    ·rcases List.mem_cons.1 d with h|h;·exact .inr (by simp[h])
     ·rcases i2 x h with h|h;·exact .inl h
      ·exact .inr (List.mem_cons_of_mem _ h)
theorem rU{nm:aI}:∀(L:List Ent),(de nm L).Sublist L
 |[]=> .slnil
 |y::L=>by
  rw[de];split;·exact List.sublist_cons_self _ _
  ·exact(rU L).cons_cons _
theorem Cu{nm:aI}{L:List Ent}(h:cC L):cC (de nm L):=h.sublist (rU L)
def js(L:List Ent):Prop:=∀x∈L,x.1.owner.size≤1099511627776
def Gk(w:World):Value→Nat
 | .pointer (some a)=>match w.cell? ⟨a.block,8,none⟩with
  |some (.int _ h)=>h.toNat
  |_=>0
 |_=>0
theorem rj{w:World}{a:Option Addr}{t:Tr}(h:ck w a t):Gk w (.pointer a)=t.cF:=by
 cases t with
 |leaf=>
  obtain rfl:a=none:=h;rfl
 |node l nm v r=>
  obtain⟨g,d,ra,rfl,_,_,b⟩:=h;have c:w.cell? ⟨g,8,none⟩=some (.int .i64 ((Tr.node l nm v r).cF:Nat)):=b.cell 8;simp only[Gk,c,Int.toNat_natCast]
def Found(w:World)(nm:aI)(L:List Ent)(e:Ending)(w':World):Prop:=∃p,e= .returned (.pointer p)∧Fr ah w w'∧((∃g v,p=some ⟨g,0,none⟩∧fi nm L=some v∧Mid w' g nm v)∨(p=none∧fi nm L=none))
theorem xn(n:aI)(a:Option Addr)(t:Tr)(w:World)(H:ck w a t)(I:cC t.bI)(aa:n.owner.size≤1099511627776)(ab:js t.bI):
  Calls Tryz.prog 108 #[.pointer a, .agg n.cells.toArray] w (Found w n t.bI):=by
 have am:=af H;have ap:=af I;have an:=af ab;have R:=af aa;clear H I aa ab;go_enter Tryz.func108,Tryz.ntmps108;go_wp2_with(refine aB rfl 106 (.tmp 1) rfl n.cells.toArray rfl ?_);intro w1 n1;have Q:=af n1.fr;have M:=af n1.aD;clear n1;generalize w.heap.size=Y at*;have au:Hid (aq w1 Y 106 n.cells.toArray):=M.out;clear M;go_wp2;go_loopw[0](fun i wr=>∃(b:Option Addr)(u:Tr),i= .pointer b∧ck wr b u∧cC u.bI∧js u.bI∧fi n u.bI=fi n t.bI∧Fr ah w1 wr)(fun i wr=>Gk wr i);case atStart=>exact⟨a,t,rfl,am.out.ao Q.out,ap.out,an.out,rfl,az⟩
 case round=>
  obtain⟨b,u,rfl,H,I,O,hF,q⟩:=hrel;have o:=af q;have m:=af hF;cases u with
  |leaf=>
   obtain rfl:b=none:=H;clear I O hF q;go_wp2;go_ret;exact⟨_,rfl,Q.out.trans o.out, .inr ⟨rfl,m.out.symm⟩⟩
  |node l nm v r=>
   have K:=af (rj H);obtain⟨A,ad,ra,rfl,Z,ac,P⟩:=H;have V:=af Z;have X:=af ac;have W:Hid (Mid wr A nm v):=Mid.of P;have ae:Hid (wr.cell? ⟨A,0,none⟩=some (.pointer ad)):=P.cell 0;have ak:Hid (wr.cell? ⟨A,1,none⟩=some (.pointer ra)):=P.cell 1;have g:=af (cC.parts I);have L:=af O;have S:=af (au.out.fr q (fun x=>x));have U:Hid (∀w',Calls Tryz.prog 128 #[.agg n.cells.toArray, .agg nm.cells.toArray] w' (aK w' (.int .i64 (bP n nm)))):=fun w'=>fI n nm w' R.out (O (nm,v) (by simp[Tr.bI]));obtain⟨z,C⟩:∃z,z=bP n nm:=⟨_,rfl⟩;rw[←C]at U;have f:=af C;clear Z ac P I O hF q C;go_upto_region 2 with fail;refine ay 7 ah [Is (.agg n.cells.toArray),Is (.pointer (some ⟨A,0,none⟩)),Is (.pointer (some ⟨A,0,none⟩)),Is (.pointer (some ⟨A,2,none⟩)),Is (.agg nm.cells.toArray),Is (.int .i64 z),Is (.int .i64 z)] [] (fun _=>True) (fun _ _=>false) (by kernel_rfl) (by kernel_rfl) (by kernel_rfl) (by kernel_rfl) ⟨Is.ag _,Is.ag _,Is.ag _,Is.ag _,Is.ag _,Is.ag _,Is.ag _,trivial⟩ trivial (fun _ _ _ _ h=>h) trivial ?_ ?_
   ·refine⟨?_,?_,?_,?_,?_,?_,?_,trivial⟩;all_goals intro u w' d N c G F s
    all_goals simp only[bm,bp,bw,bC,ar,Act.put,bD,bE,bF,Nat.reduceAdd,Nat.zero_add]
    ·clear c G F s;refine ai ?_;exact aw _ _ rfl ⟨Y,0,none⟩ rfl n.cells _ (fun j x D=>by rw[Addr.add_mid,Nat.zero_add];exact(S.out.fr N (fun x=>x)).cell j|>.trans (by rw[bQ];exact D)) Tryz.underlying106 rfl aT ⟨_,rfl,al⟩
    ·clear c G F s;refine ai ?_;go_simp;exact⟨_,rfl,al⟩
    ·have B:u 1=_:=c 1;clear c G F s;simp only[B];refine ai ?_;go_simp;exact⟨_,rfl,al⟩
    ·have T:u 2=_:=c 2;clear c G F s;simp only[T];refine ai ?_;go_simp;exact⟨_,rfl,al⟩
    ·have av:u 3=_:=c 3;clear c G F s;simp only[av];refine ai ?_;exact aw _ _ rfl ⟨A,2,none⟩ rfl nm.cells _ (fun j x D=>by rw[Addr.add_mid];exact N.aj (W.out.name j x D) (fun x=>x)) Tryz.underlying106 rfl aT ⟨_,rfl,al⟩
    ·have p:u 0=_:=c 0;have ax:u 4=_:=c 4;clear c G F s;simp only[p,ax];refine ai ?_;go_simp;refine(U.out _).mono ?_;rintro e aG⟨rfl,f4⟩;exact⟨_,rfl,f4.bJ,rfl,trivial⟩
    ·have aA:u 5=_:=c 5;clear c G F s;simp only[aA];refine ai ?_;go_simp;exact⟨_,rfl,al⟩
   ·intro u w' N c s;have k6:u 6=_:=c 6 (by omega);clear c s;simp only[bm,bp,bw,bC,ar,Act.put,bD,bE,bF,cZ,da,Nat.reduceAdd,Nat.zero_add,k6];have k:=af N;clear N k6;by_cases p:z=0
    ·have t0:=Ie p;have J:=af p;clear p;go_wp2;go_ret;refine⟨_,rfl,Q.out.trans (o.out.trans k.out), .inl ⟨A,v,rfl,?_,?_⟩⟩;·rw[←m.out,Tr.bI,rY _ _ (fun y E=>?_),fi,if_pos (by simp only;rw[←f.out];exact J.out)];have e:=ca.eq n nm (by rw[←f.out];exact J.out);rw[e];exact gj (g.out.2.2.1 y E)
     ·have e:=ca.eq n nm (by rw[←f.out];exact J.out);rw[e];exact W.out.ao k.out
    ·have t0:=sL p;have J:=af p;by_cases B:z<0
     ·have t1:decide (z<0)=true:=decide_eq_true B;have H1:=af B;have aE:=k.out.aj ae.out (fun x=>x);clear p;go_wp2;go_roundw;case rel=>
       refine⟨ad,l,rfl,V.out.ao k.out,g.out.1,fun x D=>L.out x (by simp[Tr.bI,D]),?_,o.out.trans k.out⟩;rw[←m.out,Tr.bI,xm _ _ (fun y E=>?_)];rcases List.mem_cons.1 E with rfl|E;·have:=H1.out;rw[f.out]at this;exact this
       ·have:=H1.out;rw[f.out]at this;exact ca.trans _ _ _ this (g.out.2.2.2 y E)
      case measure=>
       rw[rj (V.out.ao k.out),K.out];simp only[Tr.cF];omega
     ·have t1:decide (z<0)=false:=decide_eq_false B;have H1:=af B;have aF:=k.out.aj ak.out (fun x=>x);clear p;go_wp2;go_roundw;case rel=>
       refine⟨ra,r,rfl,X.out.ao k.out,g.out.2.1,fun x D=>L.out x (by simp[Tr.bI,D]),?_,o.out.trans k.out⟩;have aC:0<bP n nm:=by have B:=J.out;have T:=H1.out;rw[f.out]at B T;omega
       rw[←m.out,Tr.bI,rY _ _ (fun y E=>?_),fi,if_neg (by simp only;omega)];exact gj (ca.trans _ _ _ (g.out.2.2.1 y E) (lk aC))
      case measure=>
       rw[rj (X.out.ao k.out),K.out];simp only[Tr.cF];omega
end Go.Proofs.YtphjagkehiklkaaGreatDoor
