/- Texts. -/
import Derived.Test.YtphjagkehiklkaaGreatDoorEK05
set_option linter.unusedVariables false
set_option linter.unusedSimpArgs false
set_option maxRecDepth 100000
set_option maxHeartbeats 4000000
namespace Go.Proofs.YtphjagkehiklkaaGreatDoor
open Proofs.Tryz Go.RowKit Go.Shelf
attribute[local go_sem]Oper.semAt_some
theorem wJ(s:ByteArray)(w:World):Calls prog 179 #[.string s] w λr w'=>r= .returned (.func (.func 182) #[] #[.pointer (some ⟨w.heap.size,0,none⟩)])/\Fr Nothing w w'/\aq w' w.heap.size 9 #[.string s]:=by
 go_enter func179,ntmps179;go_wp2_with(refine aD rfl 9 (.tmp 0) rfl #[.string s] rfl ?_);intro w1 n1;have a:=af n1;clear n1;go_wp2;go_ret;exact⟨rfl,a.out.fr,a.out.aF⟩
theorem uj{ws:List (Nat×(World->Prop))}{M:World->Prop}(h:∀x∈ws,x.2=M){d:Nat->Bool}{w:World}(a:dx ws M d w):M w:=by
 induction ws with
 |nil=>exact a
 |cons x r f=>
  obtain⟨p,b⟩:=x;have e:b=M:=h _ List.mem_cons_self;subst e;unfold dx at a;split at a;·exact f (λy c=>h y (List.mem_cons_of_mem _ c)) a
  ·exact a
theorem wH:∀(n at_:Nat)(l:List UInt8),(dz n at_ l).length<=n+1
 |0,_,_=>by simp[dz]
 |n+1,at_,l=>by
  rw[dz];simp only;split;·simp
  ·split;·simp
   ·split;·simp
    ·have:=wH n (at_+(dF 7 l).length+1) (l.drop ((dF 7 l).length+1));simp only[List.length_cons];omega
theorem wG(s:ByteArray):(gC s).length<=9:=by
 unfold gC;split;·simp
 ·exact wH 8 0 _
theorem KP.put(W:World)(l:Nat)(f b:Obj)(h:W.heap[l]? =some f)(d:f.isCells=false):KP W (W.putObj l b):=
 KP.fr (Fr.grown (grownBy_putObj' W l b)) (λg t cs _ a e=>by
  have c:g=l:=by simpa using e
  subst c;unfold aq at a;rw[a]at h;cases h;simp[Obj.isCells]at d)
structure NO(a w3 W:World):Prop where
 fr:Fr Nothing a W
 kp:KP w3 W
theorem nM{A B:World}{row:Option Nat}{N:Nat}(f:A.grownBy B row)(i:∀r,row=some r->N<=r/\∃j:Obj,A.heap[r]? =some j/\j.isCells=false):
  Fr (λk=>some k=row) A B/\KP A B/\(∀g t cs,aq A g t cs->aq B g t cs):=by
 have b:Fr (λk=>some k=row) A B:=Fr.grown f;have a:∀g t cs,aq A g t cs->aq B g t cs:=λg t cs a=>a.fr b (λe=>by
  obtain⟨_,j,c,d⟩:=i g e.symm;unfold aq at a;rw[a]at c;cases c;simp[Obj.isCells]at d);exact⟨b,λg t cs _ h=>a g t cs h,a⟩
def BO:Op->Bool
 | .alloc _=>true
 |_=>false
theorem Mq(w:World):(zeroValue 41).run prog w= .ok (.string ByteArray.empty) w:=by kernel_rfl
theorem Mp(w:World):(zeroValue 3).run prog w= .ok (.int .i64 0) w:=by kernel_rfl
theorem Mo(w:World):(zeroValue 34).run prog w= .ok (.int .i64 0) w:=by kernel_rfl
theorem zD:(prog.info? 41).map (·.size)=some 1:=by kernel_rfl
theorem zB:(prog.info? 3).map (·.size)=some 1:=by kernel_rfl
theorem zA:(prog.info? 34).map (·.size)=some 1:=by kernel_rfl
structure rH(b w3:World)(g2 g3 g4:Nat)(W:World):Prop where
 fr:Fr Nothing b W
 kp:KP w3 W
 b2:∃n,aq W g2 41 #[.string n]
 b3:∃a,aq W g3 3 #[.int .i64 a]
 b4:∃k,aq W g4 34 #[.int .i64 k]
theorem rH.later{b w3 A B:World}{g2 g3 g4:Nat}(h:rH b w3 g2 g3 g4 A)(f:Fr Nothing A B):rH b w3 g2 g3 g4 B:=
 ⟨h.fr.trans f,h.kp.trans (KP.fr f (λ_ _ _ _ _ x=>x)),by obtain⟨n,a⟩:=h.b2;exact⟨n,a.fr f id⟩,by obtain⟨n,a⟩:=h.b3;exact⟨n,a.fr f id⟩,by obtain⟨n,a⟩:=h.b4;exact⟨n,a.fr f id⟩⟩
theorem rH.grown{c w3 A B:World}{g2 g3 g4:Nat}{row:Option Nat}{N:Nat}(h:rH c w3 g2 g3 g4 A)(g:A.grownBy B row)(d:∀r,row=some r->N<=r/\∃l:Obj,A.heap[r]? =some l/\l.isCells=false)(hN:c.heap.size<=N):rH c w3 g2 g3 g4 B:=by
 obtain⟨f,j,b⟩:=nM g d;exact⟨h.fr.aw f (λi k e=>by have:=(d i e.symm).1;omega),h.kp.trans j,by obtain⟨n,a⟩:=h.b2;exact⟨n,b _ _ _ a⟩,by obtain⟨n,a⟩:=h.b3;exact⟨n,b _ _ _ a⟩,by obtain⟨n,a⟩:=h.b4;exact⟨n,b _ _ _ a⟩⟩
theorem eK{P:Program}(w:World)(g:Nat)(t ty:TypeId)(v:Value)(d:aq w g t #[v])(a:(P.info? ty).map (·.size)=some 1)(b:(isAgg ty).run P w= .ok false w):
  (loadVar ty ⟨g,0,none⟩).run P w= .ok v w:=by
 have c:w.cell? ⟨g,0,none⟩=some v:=d.cell 0;simp[loadVar,b,go_sem,c]
theorem pQ(tmps:Array Value)(w:World)(g2 g3 g4:Nat)(n:ByteArray)(a k:Int)
  (e:tmps.getD 2 undef= .pointer (some ⟨g2,0,none⟩))(f:tmps.getD 3 undef= .pointer (some ⟨g3,0,none⟩))(g:tmps.getD 4 undef= .pointer (some ⟨g4,0,none⟩))
  (b2:aq w g2 41 #[.string n])(b3:aq w g3 3 #[.int .i64 a])(b4:aq w g4 34 #[.int .i64 k]):
  (results Tryz.f174 tmps).run prog w= .ok (.tuple #[.string n, .int .i64 a, .int .i64 k]) w:=by
 have b:tmps[2]?.getD undef= .pointer (some ⟨g2,0,none⟩):=by simpa using e
 have c:tmps[3]?.getD undef= .pointer (some ⟨g3,0,none⟩):=by simpa using f
 have d:tmps[4]?.getD undef= .pointer (some ⟨g4,0,none⟩):=by simpa using g
 simp[results,results174,b,c,d,asAddr,eK w g2 _ _ _ b2 zD (Tryz.isAgg41 w),eK w g3 _ _ _ b3 zB (Tryz.isAgg3 w),eK w g4 _ _ _ b4 zA (Tryz.isAgg34 w)]
def Ld(w:World)(s:ByteArray)(r:Ending)(w':World):Prop:=∃n a k,r= .returned (.tuple #[.string n, .int .i64 a, .int .i64 k])/\(k==0)=dj s/\Fr Nothing w w'
theorem Du(s:ByteArray)(w:World)(bq:s.size<=1099511627776):Calls prog 174 #[.string s] w (Ld w s):=by
 have bv:=af bq;clear bq;refine(callsIn_wide (n:=6)).1 (callsIn_of_wp_marks func174 rfl trivial (wpIn_wide.2 ?_) rfl);simp only[ntmps174,List.size_toArray,List.length_cons,List.length_nil,Nat.reduceAdd,Nat.reduceSub,Array.replicate_succ,Array.replicate_zero,List.push_toArray,List.append_toArray,List.nil_append,List.cons_append];go_wp2_with(refine an rfl 41 rfl (.string ByteArray.empty) Mq #[.string ByteArray.empty] rfl ?_);intro a3 ac;have az:=af ac.fr;have O:=af ac.aF;have bl:Sz w w.heap.size:=Nat.le_refl _;clear ac;generalize w.heap.size=g2 at*;go_wp2_with(refine an rfl 3 rfl (.int .i64 0) Mp #[.int .i64 0] rfl ?_);intro aO nb;have R:=af (az.out.trans nb.fr);have av:=af (O.out.fr nb.fr id);have P:=af nb.aF;have bm:Sz w a3.heap.size:=az.out.size;clear nb O az;generalize a3.heap.size=g3 at*;go_wp2_with(refine an rfl 34 rfl (.int .i64 0) Mo #[.int .i64 0] rfl ?_);intro w2 aI;have a7:=af (R.out.trans aI.fr);have L:=af (av.out.fr aI.fr id);have M:=af (P.out.fr aI.fr id);have N:=af aI.aF;have bn:Sz w aO.heap.size:=R.out.size;clear aI av P R;generalize aO.heap.size=g4 at*;have a6:Hid (rH w w2 g2 g3 g4 w2):=⟨a7.out,KP.refl _,⟨_,L.out⟩,⟨_,M.out⟩,⟨_,N.out⟩⟩;have NE:Hid (g2≠g3/\g2≠g4/\g3≠g4):=by
  refine⟨?_,?_,?_⟩<;>(rintro rfl);·have v:=L.out;have c:=M.out;unfold aq at v c;rw[v]at c;cases c
  ·have v:=L.out;have c:=N.out;unfold aq at v c;rw[v]at c;cases c
  ·have v:=M.out;have c:=N.out;unfold aq at v c;rw[v]at c;cases c
 clear L M N a7;go_wp2_with fail;refine(wJ s _).mono ?_;rintro r w3⟨rfl,f3,b3⟩;have ay:=af (a6.out.later f3);have bt:=af b3;clear f3 b3 a6;generalize w2.heap.size=gs at*;go_wp2_with fail;refine(wpIn_wide (n:=6)).1 ?_;refine wpIn_rangeFunc_ownH rfl (by omega) (gf:=182) (lb:=#[.pointer (some ⟨gs,0,none⟩)]) rfl trivial (enters_of func182 (by kernel_rfl) rfl)
  (r8 5 gs s w3 bv.out bt.out) (λh k=>h.trans k) (λW l o bM _ U aG _=>KP.put W l o bM U aG) (Below.refl _ _) (λ_=>rfl)
  (λpre W=>rH w w2 g2 g3 g4 W/\∀y∈pre,y.e=0) (λaW pre W=>rH w w2 g2 g3 g4 W/\∃x∈pre,x.e≠0/\aq W g4 34 #[.int .i64 x.e]/\aW= .ret) (λpre A B row h ak am=>⟨h.1.grown ak am ay.out.fr.size,h.2⟩) (λaW pre A B row h ak am=>by obtain⟨v,x,aN,X,z,aG⟩:=h;exact⟨v.grown ak am ay.out.fr.size,x,aN,X,(nM ak am).2.2 _ _ _ z,aG⟩) ⟨ay.out,by simp⟩
  (λx aV W=>∃g,aV=({tmps:=#[.string s,undef, .pointer (some ⟨g2,0,none⟩), .pointer (some ⟨g3,0,none⟩), .pointer (some ⟨g4,0,none⟩), .pointer (some ⟨g,0,none⟩), .string s, .func (.func 182) #[] #[.pointer (some ⟨gs,0,none⟩)], .agg #[.int .i64 x.ord, .int .i64 x.at_, .int .i64 x.e],undef,undef,undef,undef,undef,undef,undef,undef],defers:=[]}:Act)/\aq W g 270 (bN x))
  (λx aV _ A B row h ak am=>by
   obtain⟨g,e,z⟩:=h;exact⟨g,e,(nM ak am).2.2 _ _ _ z⟩)
  ?assign ?body ?done ?stop;case assign=>
  intro l pre x W K J S;have bu:=af S;have aA:=af J;clear S J;gi_wp2_with(refine cD BO rfl (by kernel_rfl) ?_);go_wp2_with(refine an rfl 270 rfl (.agg oF) uN oF rfl ?_);intro a3 ac;have az:=af ac.fr;have bs:=af ac.aF;have bz:Sz W W.heap.size:=Nat.le_refl _;clear ac;generalize W.heap.size=g at*;go_wp2_with(refine ai rfl 270 (.tmp 5) _ rfl g (bN x) rfl rfl _ _ bs.out cy rfl (dk x) ?_);intro aO bb bA;have R:Fr Nothing W aO:=az.out.aw bA (λi aM e=>by have ah:i=g:=e;have:=bz;unfold Sz at this;omega);refine⟨?_,rfl⟩;refine bu.out _ _ ⟨R.size,λk o _ U _=>(R.block k (Array.getElem?_eq_some_iff.1 U).1 id).trans U⟩ (KP.fr R (λ_ _ _ _ _ x=>x)) (⟨aA.out.1.later R,aA.out.2⟩) ⟨g,rfl,bb⟩
 case body=>
  rintro bQ pre x aV W bJ a0 J⟨g,rfl,p⟩a1;have aA:=af J;have Q:=af J.1;have a4:=af p;have bR:W.cell? ⟨g,2,none⟩=some (.int .i64 x.e):=p.cell 2;have ba:Hid (¬(g=g2\/g=g3)):=by
   rintro(rfl|rfl);·obtain⟨n,b⟩:=J.1.b2;unfold aq at p b;rw[p]at b;cases b
   ·obtain⟨n,b⟩:=J.1.b3;unfold aq at p b;rw[p]at b;cases b
  clear J p a1 bJ a0;by_cases X:x.e=0
  ·have a2:((x.e:Int)==0)=true:=by rw[beq_iff_eq];omega
   gi_wp2;refine⟨KeepsFrom.refl _ _,KP.refl _,aA.out.1,?_⟩;intro y bL;rcases List.mem_append.1 bL with h|h;·exact aA.out.2 y h
   ·rw[List.mem_singleton.1 h];exact X
  ·have a2:((x.e:Int)==0)=false:=by rw[beq_eq_false_iff_ne];omega
   have aR:=af X;gi_wp2;refine pV 6 (λk=>k=g2\/k=g3) [Is (.pointer (some ⟨g,1,none⟩)),Is (.int .i64 x.at_),Is (.pointer (some ⟨g,2,none⟩)),Is (.int .i64 x.e),(λ_ _=>True),(λ_ _=>True)] [(4,(λW'=>(∃n,aq W' g2 41 #[.string n])/\(∃a,aq W' g3 3 #[.int .i64 a])/\∃k,aq W' g4 34 #[.int .i64 k])),(5,(λW'=>(∃n,aq W' g2 41 #[.string n])/\(∃a,aq W' g3 3 #[.int .i64 a])/\∃k,aq W' g4 34 #[.int .i64 k]))] (λW'=>(∃n,aq W' g2 41 #[.string n])/\(∃a,aq W' g3 3 #[.int .i64 a])/\∃k,aq W' g4 34 #[.int .i64 k]) (λi j=>i==4&&j==5) (by kernel_rfl) (by kernel_rfl) (by kernel_rfl) (by kernel_rfl) (by kernel_rfl) ⟨Is.ag _,Is.ag _,Is.ag _,Is.ag _,λ_ _ _ _ _ h=>h,λ_ _ _ _ _ h=>h,trivial⟩ ⟨(λ_ _ _ m h=>⟨(by obtain⟨a,f⟩:=h.1;exact⟨a,f.fr m id⟩),(by obtain⟨a,f⟩:=h.2.1;exact⟨a,f.fr m id⟩),(by obtain⟨a,f⟩:=h.2.2;exact⟨a,f.fr m id⟩)⟩),(λ_ _ _ m h=>⟨(by obtain⟨a,f⟩:=h.1;exact⟨a,f.fr m id⟩),(by obtain⟨a,f⟩:=h.2.1;exact⟨a,f.fr m id⟩),(by obtain⟨a,f⟩:=h.2.2;exact⟨a,f.fr m id⟩)⟩),trivial⟩ (λ_ _ _ m h=>⟨(by obtain⟨a,f⟩:=h.1;exact⟨a,f.fr m id⟩),(by obtain⟨a,f⟩:=h.2.1;exact⟨a,f.fr m id⟩),(by obtain⟨a,f⟩:=h.2.2;exact⟨a,f.fr m id⟩)⟩) ⟨Q.out.b2,Q.out.b3,Q.out.b4⟩ ?_ ?_
   ·refine⟨?_,?_,?_,?_,?_,?_,trivial⟩;all_goals intro u w' d m C ap ao Y
    all_goals simp only[bC,bD,bE,bF,ar,Act.put,bG,bH,bI,Nat.reduceAdd,Nat.zero_add]
    ·clear C ap ao Y;refine aj ?_;go_simp;exact⟨_,rfl,al⟩
    ·have bB:u 0=_:=C 0;clear C ap ao Y;simp only[bB];refine aj ?_;have q:w'.cell? ⟨g,1,none⟩=some _:=(a4.out.fr m ba.out).cell 1;go_simp;exact⟨_,rfl,al⟩
    ·clear C ap ao Y;refine aj ?_;go_simp;exact⟨_,rfl,al⟩
    ·have c:u 2=_:=C 2;clear C ap ao Y;simp only[c];refine aj ?_;have q:w'.cell? ⟨g,2,none⟩=some _:=(a4.out.fr m ba.out).cell 2;go_simp;exact⟨_,rfl,al⟩
    ·clear C ap ao;refine aj ?_;obtain⟨⟨n,c⟩,G,H⟩:=uj (by simp) Y;refine lY 41 (.tmp 2) _ rfl g2 0 (.string ByteArray.empty) rfl rfl rfl zD _ _ #[.string ByteArray.empty] c (by simp) rfl ?_;intro aP ae F;refine⟨_,rfl,F.mono (λi _ h=> .inl h),trivial,⟨_,ae⟩,?_,?_⟩;·obtain⟨a,f⟩:=G;exact⟨a,f.fr F (λe=>NE.out.1 e.symm)⟩
     ·obtain⟨a,f⟩:=H;exact⟨a,f.fr F (λe=>NE.out.2.1 e.symm)⟩
    ·have v:u 1=_:=C 1;clear C ap ao;simp only[v];refine aj ?_;obtain⟨c,⟨n,G⟩,H⟩:=uj (by simp) Y;refine lY 3 (.tmp 3) _ rfl g3 0 (.int .i64 x.at_) rfl rfl rfl zB _ _ #[.int .i64 x.at_] G (by simp) rfl ?_;intro aP ae F;refine⟨_,rfl,F.mono (λi _ h=> .inr h),trivial,?_,⟨_,ae⟩,?_⟩;·obtain⟨a,f⟩:=c;exact⟨a,f.fr F (λe=>NE.out.1 e)⟩
     ·obtain⟨a,f⟩:=H;exact⟨a,f.fr F (λe=>NE.out.2.2 e.symm)⟩
   ·intro u w' m C Y;have br:u 3=_:=C 3 (by omega);obtain⟨c,G,k,H⟩:=Y;have aS:=af c;have aT:=af G;have aU:=af H;have bw:=af m;clear C c G H m;simp only[bC,bD,bE,bF,ar,Act.put,bG,bH,bI,dt,du,Nat.reduceAdd,Nat.zero_add,br];clear br;go_wp2_with(refine aZ rfl 34 (.tmp 4) _ rfl g4 0 (.int .i64 x.e) rfl rfl rfl zA _ _ #[.int .i64 x.e] aU.out (by simp) rfl ?_);intro aP ae F;have Z:Fr (λk=>k=g2\/k=g3\/k=g4) W aP:=(bw.out.mono (λi _ h=>h.elim .inl (λh=> .inr (.inl h)))).trans (F.mono (λi _ h=> .inr (.inr h)));have a5:∀k,k=g2\/k=g3\/k=g4->∃t cs,aq W k t cs/\t≠9/\t≠270:=by
     rintro k(rfl|rfl|rfl);·obtain⟨n,b⟩:=Q.out.b2;exact⟨_,_,b,by decide,by decide⟩
     ·obtain⟨n,b⟩:=Q.out.b3;exact⟨_,_,b,by decide,by decide⟩
     ·obtain⟨n,b⟩:=Q.out.b4;exact⟨_,_,b,by decide,by decide⟩
    have bx:KP W aP:=KP.fr Z (λq t cs bK z aH=>by
     obtain⟨bO,cs',hb',v,c⟩:=a5 q aH;unfold aq at z hb';rw[z]at hb';cases hb';rcases bK with rfl|rfl;·exact v rfl
     ·exact c rfl);refine⟨?_,rfl⟩;gi_wp2;refine⟨⟨Z.size,λq o bP U aG=>(Z.block q (Array.getElem?_eq_some_iff.1 U).1 (λaH=>?_)).trans U⟩,⟨⟨?_,Q.out.kp.trans bx,?_,?_,⟨_,ae⟩⟩,x,by simp,aR.out,ae,rfl⟩⟩;·obtain⟨bO,cs',hb',_,_⟩:=a5 q aH;unfold aq at hb';rw[U]at hb';cases hb';simp[Obj.isCells]at aG
    ·exact Q.out.fr.aw Z (λi aM e=>by
      have c:=bl;have G:=bm;have H:=bn;unfold Sz at c G H;omega)
    ·obtain⟨n,b⟩:=aS.out;exact⟨n,b.fr F (λe=>NE.out.2.1 e)⟩
    ·obtain⟨n,b⟩:=aT.out;exact⟨n,b.fr F (λe=>NE.out.2.2 e)⟩
 case done=>
  rintro D xs W aD rfl J S;obtain⟨I,T⟩:=J;have E:Fr (λk=>some k=some D) W (W.putObj D (.deferred none)):=Fr.grown (grownBy_putObj' W D _);have aa:=af S;have aX:Hid (dj s=true):=by
   simp only[Hid,dj,List.all_eq_true,beq_iff_eq];exact T
  obtain⟨n,b2⟩:=I.b2;obtain⟨a,b3⟩:=I.b3;obtain⟨k,b4⟩:=I.b4;have O:=af b2;have P:=af b3;have ax:=af b4;have ad:=af I;have aQ:=af aD;clear E I b2 b3 b4 aD S T;go_wp2_with(refine aZ rfl 41 (.tmp 2) _ rfl g2 0 (.string s) rfl rfl rfl zD _ _ #[.string s] O.out (by simp) rfl ?_);intro bS bo aJ;have bg:=af (P.out.fr aJ (λe=>NE.out.1 e.symm));have bh:=af (ax.out.fr aJ (λe=>NE.out.2.1 e.symm));have bf:=af bo;have a8:=af aJ;clear bo aJ O P ax;go_wp2_with(refine aZ rfl 3 (.tmp 3) _ rfl g3 0 (.int .i64 0) rfl rfl rfl zB _ _ #[.int .i64 0] bg.out (by simp) rfl ?_);intro bT aC aK;have bi:=af (bf.out.fr aK (λe=>NE.out.1 e));have bk:=af (bh.out.fr aK (λe=>NE.out.2.2 e.symm));have bj:=af aC;have a9:=af aK;clear aC aK bf bg bh;go_wp2_with(refine aZ rfl 34 (.tmp 4) _ rfl g4 0 (.int .i64 0) rfl rfl rfl zA _ _ #[.int .i64 0] bk.out (by simp) rfl ?_);intro au bp aL;have bc:=af (bi.out.fr aL (λe=>NE.out.2.1 e));have bd:=af (bj.out.fr aL (λe=>NE.out.2.2 e));have be:=af bp;have Z:Hid (Fr (λk=>k=g2\/k=g3\/k=g4) W au):=((a8.out.mono (λi _ h=> .inl h)).trans (a9.out.mono (λi _ h=> .inr (.inl h)))).trans (aL.mono (λi _ h=> .inr (.inr h)));have aB:Hid (au.heap[D]? =some (.deferred (some []))):=by
   refine(Z.out.block D (Array.getElem?_eq_some_iff.1 aa.out).1 (λaH=>?_)).trans aa.out;have aY:=aa.out;rcases aH with rfl|rfl|rfl;·obtain⟨n,b⟩:=ad.out.b2;unfold aq at b;rw[aY]at b;cases b
   ·obtain⟨n,b⟩:=ad.out.b3;unfold aq at b;rw[aY]at b;cases b
   ·obtain⟨n,b⟩:=ad.out.b4;unfold aq at b;rw[aY]at b;cases b
  clear bp aL a8 a9 aa bi bj bk;go_wp2;refine⟨by simp, .inl ⟨_,_,rfl,run_takeDeferred aB.out,?_⟩⟩;have E:Fr (λk=>some k=some D) au (au.putObj D (.deferred none)):=Fr.grown (grownBy_putObj' au D _);have ab:∀g t cs,aq au g t cs->¬(some g=some D):=λg t cs z e=>by
   have ah:g=D:=by simpa using e
   subst ah;unfold aq at z;rw[aB.out]at z;cases z
  refine⟨_,pQ _ _ g2 g3 g4 s 0 0 rfl rfl rfl (bc.out.fr E (ab _ _ _ bc.out)) (bd.out.fr E (ab _ _ _ bd.out)) (be.out.fr E (ab _ _ _ be.out)),⟨_,_,_,rfl,?_,?_⟩⟩;·rw[aX.out];rfl
  ·refine(ad.out.fr.aw Z.out (λi aM e=>?_)).aw E (λi aM e=>?_);·have c:=bl;have G:=bm;have H:=bn;unfold Sz at c G H;omega
   ·have ah:i=D:=by simpa using e
    have:=aQ.out;have:=ay.out.fr.size;omega
 case stop=>
  rintro D aW pre W aD V⟨I,x,aN,X,aE,rfl⟩S;have aa:=af S;have aQ:=af aD;have aX:Hid (dj s=false):=by
   simp only[Hid];rw[Bool.eq_false_iff];intro h;rw[dj,List.all_eq_true]at h;have:=h x (V.subset aN);simp only[beq_iff_eq]at this;exact X this
  obtain⟨n,b2⟩:=I.b2;obtain⟨a,b3⟩:=I.b3;have ad:=af I;have aR:=af X;have O:=af b2;have P:=af b3;have ax:=af aE;clear I b2 b3 aE X S aD V aN;gi_wp2;refine⟨by simp, .inl ⟨_,_,rfl,run_takeDeferred aa.out,?_⟩⟩;have E:Fr (λk=>some k=some D) W (W.putObj D (.deferred none)):=Fr.grown (grownBy_putObj' W D _);have ab:∀g t cs,aq W g t cs->¬(some g=some D):=λg t cs z e=>by
   have ah:g=D:=by simpa using e
   subst ah;unfold aq at z;rw[aa.out]at z;cases z
  refine⟨_,pQ _ _ g2 g3 g4 n a x.e rfl rfl rfl (O.out.fr E (ab _ _ _ O.out)) (P.out.fr E (ab _ _ _ P.out)) (ax.out.fr E (ab _ _ _ ax.out)),⟨_,_,_,rfl,?_,?_⟩⟩;·rw[aX.out,beq_eq_false_iff_ne];have:=aR.out;omega
  ·refine ad.out.fr.aw E (λi aM e=>?_);have ah:i=D:=by simpa using e
   have:=aQ.out;have:=ay.out.fr.size;omega
theorem oe(s:ByteArray)(w:World)(g:s.size<=1099511627776):Calls prog 151 #[.string s] w (aM w (.bool (dj s))):=by
 have b:=af (Du s w g);go_enter func151,ntmps151;go_wp2_with fail;refine b.out.mono ?_;rintro e w1⟨n,a,k,rfl,c,f1⟩;have f:=af c;have d:=af f1;clear c f1 b;go_wp2;go_ret;rw[f.out];exact⟨rfl,d.out⟩
end Go.Proofs.YtphjagkehiklkaaGreatDoor
namespace Go.Proofs.YtphjagkehiklkaaGreatDoor
open Proofs.Tryz Go.RowKit Go.Shelf
attribute[local go_sem]Oper.semAt_some
structure pa{α:Type}(a w3:World)(g2:Nat)(b e:TypeId)(sz:Nat)(jF:List α->Nat)(cells:List α->List Value)(pre:List α)(W:World):Prop where
 fr:Fr Nothing a W
 kn:KP w3 W
 row:∃v,aq W g2 b #[v]/\W.ownsRow 0 e sz v (jF pre) (cells pre)/\∀k,v.ownBlock=some k->a.heap.size<=k/\k≠g2
theorem pa.jb{α:Type}{q w3:World}{g2:Nat}{r e:TypeId}{sz B:Nat}{jF:List α->Nat}{cells:List α->List Value}(s:g2<B)(x:q.heap.size<=B):OwnFrom B (pa q w3 g2 r e sz jF cells):=by
 intro pre X Y row h u n;have b:∀k,k<B->some k≠row:=λk p e=>by have:=(n k e.symm).1;omega
 have j:Fr (λk=>some k=row) X Y:=Fr.grown u;obtain⟨v,ku,a,w⟩:=h.row;refine⟨h.fr.aw j (λi y e=>absurd e (b i (by omega))),h.kn.trans (KP.fr j (λg t cs _ o e=>?_)),⟨v,ku.fr j (λe=>b _ s e),aP a j (λk p e=>?_),w⟩⟩;·obtain⟨_,z,d,l⟩:=n g e.symm;unfold aq at o;rw[o]at d;cases d;simp[Obj.isCells]at l
 ·obtain⟨_,z,d,l⟩:=n k e.symm;obtain⟨c,f,m⟩:=cT a p;rw[m]at d;cases d;simp[Obj.isCells]at l
theorem pa.same{α:Type}{f w3 W X:World}{g2:Nat}{d e:TypeId}{sz:Nat}{jF:List α->Nat}{cells:List α->List Value}{pre a:List α}(h:pa f w3 g2 d e sz jF cells pre W)(c:Fr Nothing W X)(g:jF a=jF pre)(i:cells a=cells pre):pa f w3 g2 d e sz jF cells a X:=by
 obtain⟨v,ku,b,j⟩:=h.row;refine⟨h.fr.trans c,h.kn.trans (KP.fr c (λ_ _ _ _ _ x=>x)),⟨v,ku.fr c id,?_,j⟩⟩;rw[g,i];exact aP b c (λ_ _ x=>x)
theorem pa.step{α:Type}{l w3 W X s j:World}{g2 B:Nat}{m e:TypeId}{sz:Nat}{jF:List α->Nat}{cells:List α->List Value}{pre b:List α}{v v2:Value}
  (w:pa l w3 g2 m e sz jF cells pre W)(D:g2<B)(E:l.heap.size<=B)(H:l.heap.size<=g2)(n:m≠9/\m≠270)(he:e≠9/\e≠270)(x:aq W g2 m #[v])
  (d:W.ownsRow 0 e sz v (jF pre) (cells pre))(a:∀k,v.ownBlock=some k->l.heap.size<=k/\k≠g2)
  (z:Fr Nothing W X)(u:bT e sz X v s v2 (jF b) (cells b))(f3:Fr (λk=>k=g2) s j)(b3:aq j g2 m #[v2]):
  KeepsFrom B W j/\KP W j/\pa l w3 g2 m e sz jF cells b j:=by
 have s1:l.heap.size<=W.heap.size:=w.fr.size;have s2:W.heap.size<=X.heap.size:=z.size;have J:g2<W.heap.size:=x.lt;have o:∀k,v2.ownBlock=some k->l.heap.size<=k/\k≠g2:=λk y=>by
  rcases u.eL k y with h|h;·exact a k h
  ·constructor<;>omega
 have F:Fr (λk=>k=g2\/v.ownBlock=some k) W j:=by
  have C:Fr (λk=>k=g2\/v.ownBlock=some k) W s:=(z.bR).trans (u.fr.mono (λi _ h=> .inr h));exact C.trans (f3.mono (λi _ h=> .inl h))
 have K:KP W j:=KP.fr F (λg t cs A p h=>by
  unfold aq at p x;rcases h with rfl|h;·rw[x]at p;cases p;exact A.elim n.1 n.2
  ·obtain⟨c,f,q⟩:=cT d h;rw[q]at p;cases p;exact A.elim he.1 he.2);refine⟨⟨F.size,λk L _ q G=>?_⟩,K,?_,w.kn.trans K,?_⟩
 ·refine(F.block k (Array.getElem?_eq_some_iff.1 q).1 ?_).trans q;rintro(rfl|h);·omega
  ·obtain⟨c,f,r⟩:=cT d h;rw[q]at r;cases r;simp[Obj.isCells]at G
 ·refine w.fr.aw F (λi I h=>?_);rcases h with h|h;·omega
  ·have:=(a i h).1;omega
 ·exact⟨v2,b3,aP u.own f3 (λk y e=>(o k y).2 e),o⟩
theorem GH(w:World):(zeroValue 251).run prog w= .ok (.slice none 0 0) w:=by kernel_rfl
theorem qo:(prog.info? 251).map (·.size)=some 1:=by kernel_rfl
theorem sS:(prog.info? 3).map (λi=>(i.zero,i.size,i.bytes))=some (some (.int .i64 0),1,8):=by kernel_rfl
theorem xy(tmps:Array Value)(w:World)(g2:Nat)(v:Value)(b:tmps.getD 2 undef= .pointer (some ⟨g2,0,none⟩))(b2:aq w g2 251 #[v]):
  (results Tryz.f166 tmps).run prog w= .ok v w:=by
 have a:tmps[2]?.getD undef= .pointer (some ⟨g2,0,none⟩):=by simpa using b
 simp[results,results166,a,asAddr,eK w g2 _ _ _ b2 qo (Tryz.isAgg251 w)]
def Nt(p:Part):Value:= .int .i64 (p.ord:Int)
def ET(a:List Part):List Value:=a.map Nt
structure rE(a w3:World)(g2 g3:Nat)(pre:List Part)(W:World):Prop where
 row:pa a w3 g3 251 3 1 List.length ET pre W
 res:∃v,aq W g2 251 #[v]
 eL:∀v,aq W g3 251 #[v]->v.ownBlock≠some g2
theorem rE.later{b w3 A B:World}{g2 g3:Nat}{pre:List Part}(h:rE b w3 g2 g3 pre A)(f:Fr Nothing A B)(c:g3<A.heap.size):rE b w3 g2 g3 pre B:=
 ⟨h.row.same f rfl rfl,by obtain⟨v,d⟩:=h.res;exact⟨v,d.fr f id⟩,λv a=>h.eL v (by
  have e:=f.block g3 c id;unfold aq at a⊢;rw[<-e];exact a)⟩
theorem rE.jb{g w3:World}{g2 g3 N:Nat}(i:g3<N)(hN:g.heap.size<=N):OwnFrom N (rE g w3 g2 g3):=by
 intro pre A B row h d f;obtain⟨j,_,c⟩:=nM d f;refine⟨pa.jb i hN pre A B row h.row d f,by obtain⟨v,b⟩:=h.res;exact⟨v,c _ _ _ b⟩,λv b=>h.eL v ?_⟩;obtain⟨k,a,_⟩:=h.row.row;have e:=c _ _ _ a;unfold aq at b e a⊢;rw[e]at b;cases b;exact a
def Kj:Op->Bool
 | .load t _=>t==251
 |_=>false
def Kk:Op->Bool
 | .store t _ _=>t==251
 |_=>false
def Nj(w:World)(s:ByteArray)(r:Ending)(w':World):Prop:=∃v,r= .returned v/\bT 3 1 w (.slice none 0 0) w' v (jK s).length ((jK s).map (Value.int .i64))
theorem qs(s:ByteArray)(w:World)(aS:s.size<=1099511627776)(P:dj s=true):Calls prog 166 #[.string s] w (Nj w s):=by
 obtain⟨i0,aC,ad,aH,aI⟩:=info_parts sS;have a1:=af aS;have a2:=af P;clear aS P;refine(callsIn_wide (n:=6)).1 (callsIn_of_wp_marks func166 rfl trivial (wpIn_wide.2 ?_) rfl);simp only[ntmps166,List.size_toArray,List.length_cons,List.length_nil,Nat.reduceAdd,Nat.reduceSub,Array.replicate_succ,Array.replicate_zero,List.push_toArray,List.append_toArray,List.nil_append,List.cons_append];go_wp2_with(refine an rfl 251 rfl (.slice none 0 0) GH #[.slice none 0 0] rfl ?_);intro ah M;have T:=af M.fr;have p:=af M.aF;have a5:Sz w w.heap.size:=Nat.le_refl _;clear M;generalize w.heap.size=g2 at*;go_wp2_with(refine an rfl 251 rfl (.slice none 0 0) GH #[.slice none 0 0] rfl ?_);intro w2 nb;have G:=af (T.out.trans nb.fr);have R:=af (p.out.fr nb.fr id);have F:=af nb.aF;have aN:Sz w ah.heap.size:=T.out.size;have au:Hid (g2<ah.heap.size):=p.out.lt;clear nb p T;generalize ah.heap.size=g3 at*;have aL:Hid (rE w w2 g2 g3 [] w2):=⟨⟨G.out,KP.refl _,_,F.out,⟨rfl, .inl ⟨rfl,rfl⟩⟩,λk L=>by simp[Value.ownBlock]at L⟩,⟨_,R.out⟩,λv m=>by
  have h:=F.out;unfold aq at h m;rw[h]at m;cases m;simp[Value.ownBlock]⟩;have ae:Hid (g3<w2.heap.size):=F.out.lt;clear F R G;go_wp2_with fail;refine(wJ s _).mono ?_;rintro r w3⟨rfl,f3,b3⟩;have am:Hid (rE w w2 g2 g3 [] w3):=aL.out.later f3 ae.out;have aX:=af b3;have S:Hid (w2.heap.size<=w3.heap.size):=f3.size;clear f3 b3 aL;generalize w2.heap.size=gs at*;go_wp2_with fail;refine(wpIn_wide (n:=6)).1 ?_;refine wpIn_rangeFunc_ownH rfl (by omega) (gf:=182) (lb:=#[.pointer (some ⟨gs,0,none⟩)]) rfl trivial (enters_of func182 (by kernel_rfl) rfl)
  (r8 5 gs s w3 a1.out aX.out) (λh k=>h.trans k) (λW l o bd _ ho Z _=>KP.put W l o bd ho Z) (Below.refl _ _) (λ_=>rfl)
  (rE w w2 g2 g3) (λ_ pre _=>∃x∈pre,x.e≠0) (rE.jb (Nat.lt_of_lt_of_le ae.out S.out) am.out.row.fr.size) (λ_ _ _ _ _ h _ _=>h) am.out
  (λx ax W=>∃g,ax=({tmps:=#[.string s,undef, .pointer (some ⟨g2,0,none⟩), .pointer (some ⟨g3,0,none⟩), .pointer (some ⟨g,0,none⟩), .string s, .func (.func 182) #[] #[.pointer (some ⟨gs,0,none⟩)], .agg #[.int .i64 x.ord, .int .i64 x.at_, .int .i64 x.e],undef,undef,undef,undef,undef,undef,undef,undef,undef],defers:=[]}:Act)/\aq W g 270 (bN x))
  (λx ax _ A B row h a8 ba=>by
   obtain⟨g,e,m⟩:=h;exact⟨g,e,(nM a8 ba).2.2 _ _ _ m⟩)
  ?assign ?body ?done ?stop;case assign=>
  intro l pre x W K j O;have a0:=af O;have N:=af j;clear O j;gi_wp2_with(refine cD BO rfl (by kernel_rfl) ?_);go_wp2_with(refine an rfl 270 rfl (.agg oF) uN oF rfl ?_);intro ah M;have T:=af M.fr;have aW:=af M.aF;have a4:Sz W W.heap.size:=Nat.le_refl _;clear M;generalize W.heap.size=g at*;go_wp2_with(refine ai rfl 270 (.tmp 4) _ rfl g (bN x) rfl rfl _ _ aW.out cy rfl (dk x) ?_);intro bf bb a6;have G:Fr Nothing W bf:=T.out.aw a6 (λi aR e=>by have J:i=g:=e;have:=a4;unfold Sz at this;omega);refine⟨?_,rfl⟩;refine a0.out _ _ ⟨G.size,λk o _ ho _=>(G.block k (Array.getElem?_eq_some_iff.1 ho).1 id).trans ho⟩ (KP.fr G (λ_ _ _ _ _ x=>x)) (N.out.later G (by obtain⟨v,m,_,_⟩:=N.out.row.row;exact m.lt)) ⟨g,rfl,bb⟩
 case body=>
  rintro bj pre x ax W a9 aD j⟨g,rfl,C⟩aa;have N:=af j;have bg:=af C;have bk:W.cell? ⟨g,0,none⟩=some (.int .i64 x.ord):=C.cell 0;have bl:W.cell? ⟨g,2,none⟩=some (.int .i64 x.e):=C.cell 2;obtain⟨v2,z⟩:=j.res;obtain⟨v,b3,b,a⟩:=j.row.row;obtain⟨E,m1,I,rfl,H1,aY⟩:=aK b;have ag:=af (j.eL _ b3);have d:=af b;have u:=af a;have p:=af z;have F:=af b3;have c3:W.cell? ⟨g3,0,none⟩=some (.slice E m1 I):=b3.cell 0;have ao:Hid (pre.length<9):=Nat.lt_of_lt_of_le aa (wG s);clear j C aa a9 aD z b3 b a;by_cases aG:x.e=0
  ·have aJ:((x.e:Int)==0)=true:=by rw[beq_iff_eq];omega
   gi_wp2_with(refine cD Kj rfl (by kernel_rfl) ?_);go_wp2_with(at_builtin;refine cQ _ rfl _ _ 251 rfl 3 i0 (.int .i64 0) 1 8 underlying251 aC ad aH aI rfl (by omega) _ _ _ rfl d.out 1 _ _ rfl rfl rfl ?zA ?zB (by omega) ?_);case zA=>simp[Value.oneCell']
   case zB=>have:=ao.out;omega
   intro be aV aQ;have X:=af aQ;clear aQ;have al:Hid (aq aV g3 251 #[.slice E m1 I]):=F.out.fr X.out.fr (λe=>(u.out _ e).2 rfl);obtain⟨aj,m2,az,rfl,_,_⟩:=aK X.out.own;go_wp2_with(refine bW rfl 251 (.tmp 3) _ rfl g3 (.slice aj m2 az) rfl rfl rfl _ _ al.out qo ?_);intro y3 H f3;refine⟨?_,rfl⟩;have ar:bT 3 1 W (.slice E m1 I) aV (.slice aj m2 az) ((pre++[x]).length) (ET (pre++[x])):=by
    have h:=X.out;rw[aT,ET,List.map_append];exact h
   have y:=pa.step (v:= .slice E m1 I) (v2:= .slice aj m2 az) N.out.row ae.out (Nat.le_trans aN (Nat.le_of_lt ae.out)) aN (by decide) (by decide) F.out d.out u.out aA ar f3 H;have ak:aq y3 g2 251 #[v2]:=(p.out.fr X.out.fr ag.out).fr f3 (λe=>by have J:g2=g3:=e;have:=au.out;omega);have V:KeepsFrom w3.heap.size W y3:=⟨y.1.size,λq o ac ho Z=>y.1.same q o (Nat.le_trans S.out ac) ho Z⟩;refine⟨V,y.2.1,⟨y.2.2,⟨_,ak⟩,λv P e=>?_⟩⟩;unfold aq at P H;rw[H]at P;cases P;rcases X.out.eL _ e with h|h;·exact ag.out h
   ·have:=p.out.lt;omega
  ·have aJ:((x.e:Int)==0)=false:=by rw[beq_eq_false_iff_ne];omega
   have a3:=af aG;gi_wp2_with(refine cD Kk rfl (by kernel_rfl) ?_);go_wp2_with(refine bW rfl 251 (.tmp 2) _ rfl g2 (.slice none 0 0) rfl rfl rfl _ _ p.out qo ?_);intro Q ay Y;refine⟨?_,rfl⟩;gi_wp2;refine⟨⟨Y.size,λq o bi ho Z=>(Y.block q (Array.getElem?_eq_some_iff.1 ho).1 (λac=>?_)).trans ho⟩,x,by simp,a3.out⟩;have e:q=g2:=ac;subst e;have m:=p.out;unfold aq at m;rw[m]at ho;cases ho;simp[Obj.isCells]at Z
 case done=>
  rintro D xs W aB rfl j O;obtain⟨v2,z⟩:=j.res;obtain⟨v,b3,b,a⟩:=j.row.row;obtain⟨E,m1,I,rfl,H1,aY⟩:=aK b;have ap:=af O;have aZ:=af aB;have N:=af j;have ag:=af (j.eL _ b3);have d:=af b;have u:=af a;have p:=af z;have c3:W.cell? ⟨g3,0,none⟩=some (.slice E m1 I):=b3.cell 0;clear j aB O z b3 b a;go_wp2_with(refine bW rfl 251 (.tmp 2) _ rfl g2 (.slice E m1 I) rfl rfl rfl _ _ p.out qo ?_);intro Q ay Y;have aM:=af ay;have V:=af Y;have U:Hid (Q.heap[D]? =some (.deferred (some []))):=by
   refine(V.out.block D (Array.getElem?_eq_some_iff.1 ap.out).1 (λac=>?_)).trans ap.out;have a7:=ap.out;have e:D=g2:=ac;subst e;have aE:=p.out;unfold aq at aE;rw[a7]at aE;cases aE
  clear ay Y c3;go_wp2;refine⟨by simp, .inl ⟨_,_,rfl,run_takeDeferred U.out,?_⟩⟩;have av:Fr (λk=>some k=some D) Q (Q.putObj D (.deferred none)):=Fr.grown (grownBy_putObj' Q D _);have aU:∀g,(∃c t f,Q.heap[g]? =some (.cells c t f))->¬(some g=some D):=λg⟨c,t,f,m⟩e=>by
   have J:g=D:=by simpa using e
   subst J;rw[U.out]at m;cases m
  refine⟨_,xy _ _ g2 _ rfl (aM.out.fr av (aU g2 ⟨_,_,_,aM.out⟩)),⟨_,rfl,⟨?_,?_,λk L=> .inr (u.out k L).1⟩⟩⟩
  ·have aO:=aP d.out V.out (λk L e=>by have J:k=g2:=e;subst J;exact ag.out L);have z:=aP aO av (λk L e=>by
    obtain⟨c,f,ho⟩:=cT aO L;exact aU k ⟨_,_,_,ho⟩ e);rw[jK,List.length_map,List.map_map];exact z
  ·refine((N.out.row.fr.aw V.out (λi aR e=>?_)).aw av (λi aR e=>?_)).bR;·have J:i=g2:=e;have z:=a5;unfold Sz at z;omega
   ·have J:i=D:=by simpa using e
    have:=aZ.out;have:=am.out.row.fr.size;omega
 case stop=>
  rintro D bh pre W aB ab⟨x,bc,aG⟩O;have h:=a2.out;rw[dj,List.all_eq_true]at h;have:=h x (ab.subset bc);simp only[beq_iff_eq]at this;exact absurd this aG
end Go.Proofs.YtphjagkehiklkaaGreatDoor
namespace Go.Proofs.YtphjagkehiklkaaGreatDoor
open Proofs.Tryz Go.RowKit Go.Shelf
theorem JE(a b:Int):Ge a b=ec a b:=rfl
theorem AX(a b:ByteArray)(w:World):Calls prog 161 #[.string a, .string b] w (bJ w (.int .i64 (mq a b))):=by
 have c:=af (λa w=>Ev a w);have d:=af (vB a b);have key:∀r,mq a b=r->Calls prog 161 #[.string a, .string b] w (bJ w (.int .i64 r))->Calls prog 161 #[.string a, .string b] w (bJ w (.int .i64 (mq a b))):=λr h k=>by rw[h];exact k
 by_cases f:Op.bytesLess a.toList b.toList=true;·refine key (-1) (by rw[d.out,if_pos f]) ?_;clear key d;go_enter func161,ntmps161;go_wp2_with fail;refine(c.out a _).mono ?_;rintro e w'⟨rfl,rfl⟩;go_wp2_with fail;refine(c.out b _).mono ?_;rintro e w'⟨rfl,rfl⟩;go_wp2;go_ret;exact⟨rfl,rfl⟩
 ·have i:Op.bytesLess a.toList b.toList=false:=by simpa using f
  by_cases e:a=b
  ·subst e;refine key 0 (by rw[d.out,if_neg f,if_pos rfl]) ?_;clear key d;have g:(a.toList==a.toList)=true:=by simp
   go_enter func161,ntmps161;go_wp2_with fail;refine(c.out a _).mono ?_;rintro e w'⟨rfl,rfl⟩;go_wp2_with fail;refine(c.out a _).mono ?_;rintro e w'⟨rfl,rfl⟩;go_wp2;go_ret;exact⟨rfl,rfl⟩
  ·refine key 1 (by rw[d.out,if_neg f,if_neg e]) ?_;have g:(a.toList==b.toList)=false:=by rw[beq_eq_false_iff_ne];exactλh=>e (toList_inj h)
   clear key d e;go_enter func161,ntmps161;go_wp2_with fail;refine(c.out a _).mono ?_;rintro e w'⟨rfl,rfl⟩;go_wp2_with fail;refine(c.out b _).mono ?_;rintro e w'⟨rfl,rfl⟩;go_wp2;go_ret;exact⟨rfl,rfl⟩
theorem Io(a:ByteArray)(w:World):Calls prog 180 #[.string a] w (bJ w (.bool false)):=by
 go_enter func180,ntmps180;go_wp2;go_ret;exact⟨rfl,rfl⟩
theorem Ea(a b:ByteArray)(w:World):Calls prog 167 #[.string a, .string b] w (bJ w (.int .i64 (mq a b))):=by
 have c:=af (λa w=>Io a w);have d:=af (vB a b);have key:∀r,mq a b=r->Calls prog 167 #[.string a, .string b] w (bJ w (.int .i64 r))->Calls prog 167 #[.string a, .string b] w (bJ w (.int .i64 (mq a b))):=λr h k=>by rw[h];exact k
 by_cases f:Op.bytesLess a.toList b.toList=true;·refine key (-1) (by rw[d.out,if_pos f]) ?_;clear key d;go_enter func167,ntmps167;go_wp2_with fail;refine(c.out a _).mono ?_;rintro e w'⟨rfl,rfl⟩;go_wp2_with fail;refine(c.out b _).mono ?_;rintro e w'⟨rfl,rfl⟩;go_wp2;go_ret;exact⟨rfl,rfl⟩
 ·have i:Op.bytesLess a.toList b.toList=false:=by simpa using f
  by_cases e:a=b
  ·subst e;refine key 0 (by rw[d.out,if_neg f,if_pos rfl]) ?_;clear key d;have g:(a.toList==a.toList)=true:=by simp
   go_enter func167,ntmps167;go_wp2_with fail;refine(c.out a _).mono ?_;rintro e w'⟨rfl,rfl⟩;go_wp2_with fail;refine(c.out a _).mono ?_;rintro e w'⟨rfl,rfl⟩;go_wp2;go_ret;exact⟨rfl,rfl⟩
  ·refine key 1 (by rw[d.out,if_neg f,if_neg e]) ?_;have g:(a.toList==b.toList)=false:=by rw[beq_eq_false_iff_ne];exactλh=>e (toList_inj h)
   clear key d e;go_enter func167,ntmps167;go_wp2_with fail;refine(c.out a _).mono ?_;rintro e w'⟨rfl,rfl⟩;go_wp2_with fail;refine(c.out b _).mono ?_;rintro e w'⟨rfl,rfl⟩;go_wp2;go_ret;exact⟨rfl,rfl⟩
theorem Jt{x:Int}(h:x=0):(x==0)=true:=by subst h;rfl
theorem tJ{x:Int}(h:x≠0):(x==0)=false:=by rw[beq_eq_false_iff_ne];exact h
theorem AJ(x y z:Int):∀(k:Nat)(v:Int),([x,y,z])[k]? =some v->v≠0->(∀(j:Nat)(u:Int),j<k->([x,y,z])[j]? =some u->u=0)->bh x (bh y z)=v
 |0,v,a,c,b=>by
  obtain rfl:x=v:=by simpa using a
  simp[bh,c]
 |1,v,a,c,b=>by
  obtain rfl:y=v:=by simpa using a
  have:=b 0 x (by omega) rfl;simp[bh,this,c]
 |2,v,a,c,b=>by
  obtain rfl:z=v:=by simpa using a
  have d:=b 0 x (by omega) rfl;have e:=b 1 y (by omega) rfl;simp[bh,d,e]
 |k+3,v,a,_,_=>by simp at a
theorem zk(x y z:Int)(a:∀(j:Nat)(u:Int),j<3->([x,y,z])[j]? =some u->u=0):bh x (bh y z)=0:=by
 have b:=a 0 x (by omega) rfl;have c:=a 1 y (by omega) rfl;have d:=a 2 z (by omega) rfl;simp[bh,b,c,d]
theorem Rd.any{w:World}{S:Nat->Prop}{size n:Nat}{A:Option Addr}{xs:List Value}(h:Rd w S size A n xs):Rd w (λ_=>True) size A n xs:=
 ⟨h.1,λc=>by obtain⟨a,e,_,b⟩:=h.2 c;exact⟨a,e,trivial,b⟩⟩
theorem Eb(x y z:Int)(g:Nat)(w:World)(h:aq w g 3 #[.int .i64 x, .int .i64 y, .int .i64 z]):Calls prog 132 #[.slice (some ⟨g,0,none⟩) 3 3] w (bJ w (.int .i64 (bh x (bh y z)))):=by
 have HB:=af h;have n:Hid (∀k:Nat,k<3->∃v:Int,([x,y,z])[k]? =some v/\w.cell? ⟨g,k,none⟩=some (.int .i64 v)):=λk f=>by
  match k,f with
  |0,_=>exact⟨x,rfl,h.cell 0⟩
  |1,_=>exact⟨y,rfl,h.cell 1⟩
  |2,_=>exact⟨z,rfl,h.cell 2⟩
 clear h;have o:Hid (∀(k:Nat)(v:Int),([x,y,z])[k]? =some v->v≠0->(∀(j:Nat)(u:Int),j<k->([x,y,z])[j]? =some u->u=0)->bh x (bh y z)=v):=λk v=>AJ x y z k v;have p:Hid ((∀(j:Nat)(u:Int),j<3->([x,y,z])[j]? =some u->u=0)->bh x (bh y z)=0):=zk x y z;generalize bh x (bh y z)=t at*;go_enter func132,ntmps132;go_wp2;go_loopw[8](λi wr=>∃k:Nat,k<=3/\(∀j u,j<k->([x,y,z])[j]? =some u->u=0)/\i= .int .i64 k/\w=wr)(λi _=>3-(intOf i).toNat);case atStart=>exact⟨0,by omega,λj u h=>by omega,rfl,rfl⟩
 case round=>
  obtain⟨k,f,m,rfl,rfl⟩:=hrel;have b:=af m;clear m;by_cases c:k<3
  ·have q:(k:Int)<3:=by omega
   obtain⟨v,l,r⟩:=n.out k c;have d:=af l;clear l;by_cases a:v=0
   ·subst a;go_wp2;go_roundw
    case rel=>exact⟨k+1,by omega,λj u s hu=>by
      by_cases e:j=k;·subst e;have:=d.out;rw[hu]at this;cases this;rfl
      ·exact b.out j u (by omega) hu,by go_num,trivial⟩
    case measure=>simp[intOf];omega
   ·have t1:=tJ a;obtain rfl:t=v:=o.out k v d.out a b.out;go_wp2;go_ret;exact⟨rfl,rfl⟩
  ·obtain rfl:k=3:=by omega
   obtain rfl:t=0:=p.out b.out;go_wp2;go_ret;exact⟨rfl,rfl⟩
theorem qb{α:Type}{c:α->α->Int}(h:gV c):∀(p a b:List α),cmpL c (p++a) (p++b)=cmpL c a b
 |[],_,_=>rfl
 |x::p,a,b=>by
  rw[List.cons_append,List.cons_append,cmpL,h.refl,bh,if_pos rfl];exact qb h p a b
theorem xc(xs r:List Int)(A B:Option Addr)(n m c d:Nat)(w:World)(D:Rd w (λ_=>True) 1 A n (xs.map (Value.int .i64)))(E:Rd w (λ_=>True) 1 B m (r.map (Value.int .i64)))(ad:n<=1099511627776)(W:m<=1099511627776):
  Calls prog 165 #[.slice A n c, .slice B m d] w (bJ w (.int .i64 (cmpL ec xs r))):=by
 have l1:xs.length=n:=by simpa using D.1
 have l2:r.length=m:=by simpa using E.1
 have V:Hid (∀k v,xs[k]? =some v->∃g,A=some g/\w.cell? (g.add k)=some (.int .i64 v)):=λk v y=>by
  have Q:=(List.getElem?_eq_some_iff.1 y).1;obtain⟨g,e,_,J⟩:=D.2 (by omega);exact⟨g,e,J k _ (by rw[List.getElem?_map,y];rfl)⟩
 have HB:Hid (∀k v,r[k]? =some v->∃g,B=some g/\w.cell? (g.add k)=some (.int .i64 v)):=λk v y=>by
  have Q:=(List.getElem?_eq_some_iff.1 y).1;obtain⟨g,e,_,J⟩:=E.2 (by omega);exact⟨g,e,J k _ (by rw[List.getElem?_map,y];rfl)⟩
 have N:=af l1;have C:=af l2;have U:=af (λa b w=>iT a b w);obtain⟨R,G⟩:∃R,R=cmpL ec xs r:=⟨_,rfl⟩;rw[<-G];have z:=af G;clear D E l1 l2 G;go_enter func165,ntmps165;go_wp2;go_loopw[11](λi wr=>∃k:Nat,k<=n/\(∃p a b,p.length=k/\xs=p++a/\r=p++b)/\i= .int .i64 k/\w=wr)(λi _=>n-(intOf i).toNat);case atStart=>exact⟨0,by omega,⟨[],xs,r,rfl,rfl,rfl⟩,rfl,rfl⟩
 case round=>
  obtain⟨k,Q,⟨p,a,b,hp,S,T⟩,rfl,rfl⟩:=hrel;have f:=af hp;have l:=af S;have j:=af T;clear hp S T;by_cases aa:k<n
  ·have ac:(k:Int)<(n:Int):=by omega
   have H:∃v s,a=v::s:=by
    cases a with
    |nil=>
     have h:=N.out;rw[l.out,List.append_nil,f.out]at h;omega
    |cons v s=>exact⟨v,s,rfl⟩
   obtain⟨v,s,rfl⟩:=H;obtain⟨g,rfl,Y⟩:=V.out k v (by rw[l.out,List.getElem?_append_right (by rw[f.out];omega),f.out,Nat.sub_self];rfl);by_cases K:k<m
   ·have P:(k:Int)<(m:Int):=by omega
    have F:decide ((m:Int)<=(k:Int))=false:=ct (by omega);have I:∃u o,b=u::o:=by
     cases b with
     |nil=>
      have h:=C.out;rw[j.out,List.append_nil,f.out]at h;omega
     |cons u o=>exact⟨u,o,rfl⟩
    obtain⟨u,o,rfl⟩:=I;obtain⟨ab,rfl,Z⟩:=HB.out k u (by rw[j.out,List.getElem?_append_right (by rw[f.out];omega),f.out,Nat.sub_self];rfl);go_wp2_with fail;refine(U.out v u _).mono ?_;rintro e w'⟨rfl,rfl⟩;have M:=af (JE v u);generalize Ge v u=O at*;by_cases q:O=0
    ·subst q;have L:Hid (v=u):=fm.eq v u M.out.symm;go_wp2;go_roundw;case rel=>exact⟨k+1,by omega,⟨p++[v],s,o,by rw[aT,f.out];rfl,by rw[l.out];simp,by rw[j.out,L.out];simp⟩,by go_num,trivial⟩
     case measure=>simp[intOf];omega
    ·have t1:=tJ q;obtain rfl:R=O:=by
      rw[z.out,l.out,j.out,qb fm,cmpL,<-M.out,bh,if_neg q]
     go_wp2;go_ret;exact⟨rfl,rfl⟩
   ·have F:decide ((m:Int)<=(k:Int))=true:=cX (by omega);have X:¬(k:Int)<(m:Int):=by omega
    have I:b=[]:=by
     have h:=congrArg List.length j.out;rw[C.out,aT,f.out]at h;exact List.length_eq_zero_iff.1 (by omega)
    subst I;obtain rfl:R=1:=by rw[z.out,l.out,j.out,qb fm];rfl
    go_wp2;go_ret;exact⟨rfl,rfl⟩
  ·obtain rfl:k=n:=by omega
   have H:a=[]:=by
    have h:=congrArg List.length l.out;rw[N.out,aT,f.out]at h;exact List.length_eq_zero_iff.1 (by omega)
   subst H;have t:Hid (R=cmpL ec [] b):=by simp only[Hid];rw[z.out,l.out,j.out,qb fm]
   have x:Hid (m=k+b.length):=by
    have h:=congrArg List.length j.out;rw[C.out,aT,f.out]at h;exact h
   by_cases K:k<m
   ·have P:(k:Int)<(m:Int):=by omega
    obtain rfl:R=-1:=by
     rw[t.out];cases b with
     |nil=>have:=x.out;simp at this;omega
     |cons u o=>rfl
    go_wp2;go_ret;exact⟨rfl,rfl⟩
   ·have P:¬(k:Int)<(m:Int):=by omega
    obtain rfl:R=0:=by
     rw[t.out];cases b with
     |nil=>rfl
     |cons u o=>have:=x.out;simp at this;omega
    go_wp2;go_ret;exact⟨rfl,rfl⟩
def lH(a b:ByteArray):Int:=if a=b then 0 else if dj a=true then(if dj b=true then cmpL ec (jK a) (jK b)else-1)else if dj b=true then 1 else mq a b
theorem yA(s:ByteArray):(jK s).length<=9:=by rw[jK,List.length_map];exact wG s
theorem lI(a b:ByteArray)(w:World)(p:a.size<=1099511627776)(q:b.size<=1099511627776):Calls prog 134 #[.string a, .string b] w (aM w (.int .i64 (lH a b))):=by
 by_cases e:a=b;·subst e;rw[show lH a a=0 by simp[lH]];refine(pF a w).mono ?_;rintro e w'⟨rfl,rfl⟩;exact aR
 ·have F:(a.toList==b.toList)=false:=by rw[beq_eq_false_iff_ne];exactλh=>e (toList_inj h)
  have j:=af (λw=>oe a w p);have k:=af (λw=>oe b w q);have u:=af (λw=>Ea a b w);have f:Hid (lH a b=if dj a=true then(if dj b=true then cmpL ec (jK a) (jK b)else-1)else if dj b=true then 1 else mq a b):=by simp only[Hid,lH];rw[if_neg e]
  have g:=af (λw h=>qs a w p h);have i:=af (λw h=>qs b w q h);have l:=af (yA a);have m:=af (yA b);generalize lH a b=G at*;generalize dj a=va at*;generalize dj b=r at*;clear e;go_enter func134,ntmps134;go_wp2_with fail;refine(j.out _).mono ?_;rintro e w1⟨rfl,f1⟩;have o:=af f1;clear f1;go_wp2_with fail;refine(k.out _).mono ?_;rintro e w2⟨rfl,f2⟩;have d:=af (o.out.trans f2);clear f2 o;cases va
  ·cases r;·go_wp2_with fail;refine(u.out _).mono ?_;rintro e w'⟨rfl,rfl⟩;go_wp2;go_ret;rw[f.out];exact⟨rfl,d.out⟩
   ·go_wp2;go_ret;rw[f.out];exact⟨rfl,d.out⟩
  ·cases r;·go_wp2;go_ret;rw[f.out];exact⟨rfl,d.out⟩
   ·go_wp2_with fail;refine(g.out _ (by first|rfl|trivial)).mono ?_;rintro e w3⟨v,rfl,c⟩;obtain⟨s,m1,C,rfl,H1,_⟩:=aK c.own;obtain rfl:=H1.out;have x:=af (d.out.trans c.ao);have A:=af (Rd.ia c.own);clear c;go_wp2_with fail;refine(i.out _ (by first|rfl|trivial)).mono ?_;rintro e E⟨v,rfl,c⟩;obtain⟨t,m2,D,rfl,z,_⟩:=aK c.own;obtain rfl:=z.out;have y:=af (x.out.trans c.ao);have B:=af (Rd.ia c.own);have n:=af (A.out.ao c.ao);clear c;go_wp2_with fail;refine(xc (jK a) (jK b) s t _ _ C D E n.out.any B.out.any (by have:=l.out;omega) (by have:=m.out;omega)).mono ?_;rintro e w'⟨rfl,rfl⟩;go_wp2;go_ret;rw[f.out];exact⟨rfl,y.out⟩
def bL(n m:aG):Int:=bh (ec n.kind m.kind) (bh (lH n.owner m.owner) (bh (ec n.number m.number) (bh (ec n.index m.index) (mq n.text m.text))))
theorem fi(n m:aG)(w:World)(N:n.owner.size<=1099511627776)(hm:m.owner.size<=1099511627776):Calls prog 128 #[.agg n.cells.toArray, .agg m.cells.toArray] w (aM w (.int .i64 (bL n m))):=by
 have U:Hid (∀w,Calls prog 133 #[.int .i64 n.kind, .int .i64 m.kind] w (bJ w (.int .i64 (ec n.kind m.kind)))):=λw=>iT _ _ w;have V:=af (λw=>lI n.owner m.owner w N hm);have W:Hid (∀w,Calls prog 133 #[.int .i64 n.number, .int .i64 m.number] w (bJ w (.int .i64 (ec n.number m.number)))):=λw=>iT _ _ w;have X:Hid (∀w,Calls prog 133 #[.int .i64 n.index, .int .i64 m.index] w (bJ w (.int .i64 (ec n.index m.index)))):=λw=>iT _ _ w;have Y:=af (λw=>AX n.text m.text w);have D:Hid (bL n m=bh (ec n.kind m.kind) (bh (lH n.owner m.owner) (bh (ec n.number m.number) (bh (ec n.index m.index) (mq n.text m.text))))):=rfl;generalize bL n m=R at*;generalize ec n.kind m.kind=z0 at*;generalize lH n.owner m.owner=z1 at*;generalize ec n.number m.number=z2 at*;generalize ec n.index m.index=z3 at*;generalize mq n.text m.text=z4 at*;clear N hm;go_enter func128,ntmps128;go_wp2_with(refine aD rfl 106 (.tmp 0) rfl n.cells.toArray rfl ?_);intro w1 n1;have E:=af n1;clear n1;generalize x:w.heap.size=k at*;have t:Hid (aq w1 k 106 n.cells.toArray):=by have h:=E.out.aF;rw[x]at h;exact h
 clear x;go_wp2_with(refine aD rfl 106 (.tmp 1) rfl m.cells.toArray rfl ?_);intro w2 n2;have B:=af n2;clear n2;generalize y:w1.heap.size=l at*;have i:Hid (aq w2 l 106 m.cells.toArray):=by have h:=B.out.aF;rw[y]at h;exact h
 clear y;have g:=af (t.out.fr B.out.fr id);have C:=af (E.out.fr.trans B.out.fr);have F:w2.cell? ⟨k,0,none⟩=some (.int .i64 n.kind):=g.out.cell 0;have H:w2.cell? ⟨l,0,none⟩=some (.int .i64 m.kind):=i.out.cell 0;have G:w2.cell? ⟨k,1,none⟩=some (.string n.owner):=g.out.cell 1;have I:w2.cell? ⟨l,1,none⟩=some (.string m.owner):=i.out.cell 1;clear E B t;go_wp2_with fail;refine(U.out _).mono ?_;rintro e w'⟨rfl,rfl⟩;by_cases q:z0=0
 ·have j:=af q;have t0:=Jt q;clear q;go_wp2_with fail;refine(V.out _).mono ?_;rintro e w3⟨rfl,f3⟩;have p:=af f3;clear f3 F H G I;by_cases r:z1=0
  ·have s:=af r;have t1:=Jt r;clear r;go_upto_region 7 with fail;refine ay 15 Nothing [Is (.pointer (some ⟨k,2,none⟩)),Is (.int .i64 n.number),Is (.pointer (some ⟨l,2,none⟩)),Is (.int .i64 m.number),Is (.int .i64 z2),Is (.pointer (some ⟨k,3,none⟩)),Is (.int .i64 n.index),Is (.pointer (some ⟨l,3,none⟩)),Is (.int .i64 m.index),Is (.int .i64 z3),Is (.pointer (some ⟨k,4,none⟩)),Is (.string n.text),Is (.pointer (some ⟨l,4,none⟩)),Is (.string m.text),Is (.int .i64 z4)] [] (λ_=>True) (λ_ _=>false) (by kernel_rfl) (by kernel_rfl) (by kernel_rfl) (by kernel_rfl) ⟨Is.ag _,Is.ag _,Is.ag _,Is.ag _,Is.ag _,Is.ag _,Is.ag _,Is.ag _,Is.ag _,Is.ag _,Is.ag _,Is.ag _,Is.ag _,Is.ag _,Is.ag _,trivial⟩ trivial (λ_ _ _ _ h=>h) trivial ?_ ?_
   ·refine⟨?_,?_,?_,?_,?_,?_,?_,?_,?_,?_,?_,?_,?_,?_,?_,trivial⟩;all_goals intro u w' d o a f c b
    all_goals simp only[bC,bD,bE,bF,ar,Act.put,bG,bH,bI,Nat.reduceAdd,Nat.zero_add]
    ·clear a f c b;refine aj ?_;go_simp;exact⟨_,rfl,al⟩
    ·have q:u 0=_:=a 0;clear a f c b;simp only[q];refine aj ?_;have v:w'.cell? ⟨k,2,none⟩=some (.int .i64 n.number):=(g.out.fr (p.out.trans o) id).cell 2;go_simp;exact⟨_,rfl,al⟩
    ·clear a f c b;refine aj ?_;go_simp;exact⟨_,rfl,al⟩
    ·have ad:u 2=_:=a 2;clear a f c b;simp only[ad];refine aj ?_;have v:w'.cell? ⟨l,2,none⟩=some (.int .i64 m.number):=(i.out.fr (p.out.trans o) id).cell 2;go_simp;exact⟨_,rfl,al⟩
    ·have r:u 1=_:=a 1;have ae:u 3=_:=a 3;clear a f c b;simp only[r,ae];refine aj ?_;go_simp;refine(W.out _).mono ?_;rintro e S⟨rfl,rfl⟩;exact⟨_,rfl,al⟩
    ·clear a f c b;refine aj ?_;go_simp;exact⟨_,rfl,al⟩
    ·have ah:u 5=_:=a 5;clear a f c b;simp only[ah];refine aj ?_;have v:w'.cell? ⟨k,3,none⟩=some (.int .i64 n.index):=(g.out.fr (p.out.trans o) id).cell 3;go_simp;exact⟨_,rfl,al⟩
    ·clear a f c b;refine aj ?_;go_simp;exact⟨_,rfl,al⟩
    ·have ak:u 7=_:=a 7;clear a f c b;simp only[ak];refine aj ?_;have v:w'.cell? ⟨l,3,none⟩=some (.int .i64 m.index):=(i.out.fr (p.out.trans o) id).cell 3;go_simp;exact⟨_,rfl,al⟩
    ·have ai:u 6=_:=a 6;have am:u 8=_:=a 8;clear a f c b;simp only[ai,am];refine aj ?_;go_simp;refine(X.out _).mono ?_;rintro e S⟨rfl,rfl⟩;exact⟨_,rfl,al⟩
    ·clear a f c b;refine aj ?_;go_simp;exact⟨_,rfl,al⟩
    ·have J:u 10=_:=a 10;clear a f c b;simp only[J];refine aj ?_;have v:w'.cell? ⟨k,4,none⟩=some (.string n.text):=(g.out.fr (p.out.trans o) id).cell 4;go_simp;exact⟨_,rfl,al⟩
    ·clear a f c b;refine aj ?_;go_simp;exact⟨_,rfl,al⟩
    ·have L:u 12=_:=a 12;clear a f c b;simp only[L];refine aj ?_;have v:w'.cell? ⟨l,4,none⟩=some (.string m.text):=(i.out.fr (p.out.trans o) id).cell 4;go_simp;exact⟨_,rfl,al⟩
    ·have K:u 11=_:=a 11;have M:u 13=_:=a 13;clear a f c b;simp only[K,M];refine aj ?_;go_simp;refine(Y.out _).mono ?_;rintro e S⟨rfl,rfl⟩;exact⟨_,rfl,al⟩
   ·intro u w' o a b;have P:u 4=_:=a 4 (by omega);have Q:u 9=_:=a 9 (by omega);have A:u 14=_:=a 14 (by omega);clear a b;simp only[bC,bD,bE,bF,ar,Act.put,bG,bH,bI,dt,du,Nat.reduceAdd,Nat.zero_add,P,Q,A];have aa:=af (C.out.trans (p.out.trans o));clear o P Q A;obtain⟨i0,an,O,z,ao⟩:=info_parts sS;have ab:Hid (¬3*i0.size>2^24):=by simp only[Hid];rw[z];omega
    have ac:Hid (¬3*i0.size=0):=by simp only[Hid];rw[z];omega
    go_wp2_with fail;have T:Hid (aq (w'.alloc (.cells #[.int .i64 z2, .int .i64 z3, .int .i64 z4] 3)) w'.heap.size 3 #[.int .i64 z2, .int .i64 z3, .int .i64 z4]):=aq.new _ _ _;have Z:=af (aa.out.trans ((Fr.refl Nothing w').alloc (.cells #[.int .i64 z2, .int .i64 z3, .int .i64 z4] 3)));refine(Eb z2 z3 z4 _ _ T.out).mono ?_;rintro e ap⟨rfl,rfl⟩;go_wp2;go_ret;rw[D.out,j.out,s.out];exact⟨rfl,Z.out⟩
  ·have t1:=tJ r;have s:=af r;clear r;go_wp2;go_ret;rw[D.out,j.out,bh,if_pos rfl,bh,if_neg s.out];exact⟨rfl,C.out.trans p.out⟩
 ·have t0:=tJ q;have j:=af q;clear q;go_wp2;go_ret;rw[D.out,bh,if_neg j.out];exact⟨rfl,C.out⟩
end Go.Proofs.YtphjagkehiklkaaGreatDoor
namespace Go.Proofs.YtphjagkehiklkaaGreatDoor
open Proofs.Tryz Go.RowKit
theorem pS{α:Type}(l:List α)(h:l≠[]):∃i x,l=i++[x]:=by
 rcases List.eq_nil_or_concat l with rfl|⟨i,b,rfl⟩;·exact absurd rfl h
 ·exact⟨i,b,by simp⟩
def oY(ds:List UInt8):Prop:=(∀b∈ds,mK b=true)/\ds≠[]/\ds[0]? ≠some 48
theorem vX{b:UInt8}(h:mK b=true):48<=b.toNat/\b.toNat<=57:=by simpa[mK]using h
theorem oY.init{i:List UInt8}{x:UInt8}(h:oY (i++[x]))(a:i≠[]):oY i:=by
 refine⟨λb c=>h.1 b (by simp[c]),a,λe=>h.2.2 ?_⟩;rw[List.getElem?_append_left (List.length_pos_iff.2 a)];exact e
theorem yy:∀(n:Nat)(ds:List UInt8),ds.length=n->oY ds->1<=fo ds:=by
 intro n;induction n with
 |zero=>intro ds h a;exact absurd (List.length_eq_zero_iff.1 h) a.2.1
 |succ n d=>
  intro ds h a;obtain⟨i,x,rfl⟩:=pS ds a.2.1;rw[mC];by_cases b:i=[];·subst b;have f:=vX (a.1 x (by simp));have c:x≠48:=λe=>a.2.2 (by rw[e];rfl);have g:x.toNat≠48:=λe=>c (UInt8.toNat_inj.1 e);omega
  ·have:=d i (by simpa using h) (a.init b);omega
theorem yx:∀(n:Nat)(ds es:List UInt8),ds.length=n->oY ds->oY es->fo ds=fo es->ds=es:=by
 intro n;induction n with
 |zero=>intro ds es h g;exact absurd (List.length_eq_zero_iff.1 h) g.2.1
 |succ n k=>
  intro ds es h c he e;obtain⟨i,x,rfl⟩:=pS ds c.2.1;obtain⟨j,y,rfl⟩:=pS es he.2.1;rw[mC,mC]at e;have l:=vX (c.1 x (by simp));have m:=vX (he.1 y (by simp));have f:x=y:=UInt8.toNat_inj.1 (by omega);have a:fo i=fo j:=by omega
  subst f;by_cases d:i=[]
  ·by_cases b:j=[];·rw[d,b]
   ·have:=yy _ j rfl (he.init b);rw[d]at a;simp[fo]at a;simp[fo]at this;omega
  ·by_cases b:j=[];·have:=yy _ i rfl (c.init d);rw[b]at a;simp[fo]at a;simp[fo]at this;omega
   ·rw[k i j (by simpa using h) (c.init d) (he.init b) a]
theorem El{c a:Nat}{l:List UInt8}(h:(cW c a l).1.e=0):oY (dF 7 l)/\(cW c a l).1.ord=fo (dF 7 l):=by
 simp only[cW]at h⊢;split at h;·simp at h
 ·rename_i f;rw[if_neg f];split at h;·simp at h
  ·rename_i g;rw[if_neg g];split at h;·simp at h
   ·rename_i b;rw[if_neg b];split at h;·simp at h
    ·rename_i d;rw[if_neg d];split at h;·simp at h
     ·rename_i i;rw[if_neg i];refine⟨⟨td 7 l,b,λe=>d ?_⟩,rfl⟩;have j:0<(dF 7 l).length:=List.length_pos_iff.2 b;rw[oH,List.getElem?_take_of_lt j]at e;exact e
theorem oG(n a:Nat)(l:List UInt8):dz n a l≠[]:=by
 cases n with
 |zero=>simp[dz]
 |succ n=>
  rw[dz];simp only;split;·simp
  ·split;·simp
   ·split<;>simp
theorem wI{n a:Nat}{l:List UInt8}(h:∀p∈dz (n+1) a l,p.e=0):
  oY (dF 7 l)/\((l=dF 7 l/\(dz (n+1) a l).map (·.ord)=[fo (dF 7 l)])\/
   ∃r,l=dF 7 l++46::r/\(dz (n+1) a l).map (·.ord)=fo (dF 7 l)::(dz n (a+(dF 7 l).length+1) r).map (·.ord)/\∀p∈dz n (a+(dF 7 l).length+1) r,p.e=0):=by
 rw[dz]at h⊢;simp only at h⊢;by_cases he:(cW (7-n) a l).1.e=0
 ·rw[if_neg (by simp[he])]at h⊢;obtain⟨i,g⟩:=El he;refine⟨i,?_⟩;have m:=lT 7 l;have f:=oH 7 l;by_cases b:l.length<=(dF 7 l).length;·rw[if_pos b];left;refine⟨?_,by simp[g]⟩;rw[List.take_of_length_le b]at f;exact f.symm
  ·rw[if_neg b]at h⊢;by_cases c:l[(dF 7 l).length]? =some 46;·rw[if_neg (by simp[c])]at h⊢;right;refine⟨l.drop ((dF 7 l).length+1),?_,by simp[g],λp j=>h p (by simp[j])⟩;obtain⟨d,k⟩:=List.getElem?_eq_some_iff.1 c;conv=>lhs;rw[<-List.take_append_drop (dF 7 l).length l,<-f,List.drop_eq_getElem_cons d,k]
   ·rw[if_pos c]at h;have:=h ⟨0,a+(dF 7 l).length,6⟩ (by simp);simp at this
 ·rw[if_pos he]at h;exact absurd (h _ (by simp)) he
theorem uf:∀(n a b:Nat)(l m:List UInt8),(∀p∈dz n a l,p.e=0)->(∀p∈dz n b m,p.e=0)->(dz n a l).map (·.ord)=(dz n b m).map (·.ord)->l=m
 |0,a,b,l,m,h,_,_=>by
  have:=h ⟨0,a,9⟩ (by simp[dz]);simp at this
 |n+1,a,b,l,m,h,k,e=>by
  obtain⟨g1,o⟩:=wI h;obtain⟨g2,i⟩:=wI k;rcases o with⟨g,f⟩|⟨r,g,f,q⟩
  ·rcases i with⟨d,c⟩|⟨s,d,c,j⟩;·rw[f,c]at e;rw[g,d];exact yx _ _ _ rfl g1 g2 (by simpa using e)
   ·rw[f,c]at e;simp only[List.cons.injEq]at e;exact absurd (List.map_eq_nil_iff.1 e.2.symm) (oG _ _ _)
  ·rcases i with⟨d,c⟩|⟨s,d,c,j⟩;·rw[f,c]at e;simp only[List.cons.injEq]at e;exact absurd (List.map_eq_nil_iff.1 e.2) (oG _ _ _)
   ·rw[f,c]at e;simp only[List.cons.injEq]at e;rw[g,d,yx _ _ _ rfl g1 g2 e.1,uf n _ _ r s q j e.2]
theorem ES{a b:ByteArray}(c:dj a=true)(d:dj b=true)(h:jK a=jK b):a=b:=by
 apply toList_inj;unfold dj at c d;rw[List.all_eq_true]at c d;simp only[beq_iff_eq]at c d;unfold jK at h;have hm:(gC a).map (·.ord)=(gC b).map (·.ord):=by
  have g:=congrArg (List.map Int.toNat) h;simpa[List.map_map,Function.comp_def]using g
 unfold gC at c d hm;by_cases f:a.size=0
 ·by_cases e:b.size=0;·rw[show a.toList=[]from List.length_eq_zero_iff.1 (by rw[fF];exact f),show b.toList=[]from List.length_eq_zero_iff.1 (by rw[fF];exact e)]
  ·rw[if_pos f,if_neg e]at hm;exact absurd (List.map_eq_nil_iff.1 hm.symm) (oG _ _ _)
 ·by_cases e:b.size=0;·rw[if_neg f,if_pos e]at hm;exact absurd (List.map_eq_nil_iff.1 hm) (oG _ _ _)
  ·rw[if_neg f]at c hm;rw[if_neg e]at d hm;exact uf 8 0 0 _ _ c d hm
def rW(a:ByteArray):(Int×List Int)×ByteArray:=if dj a=true then((0,jK a),ByteArray.empty)else((1,[]),a)
theorem Ip(a b:ByteArray)(h:rW a=rW b):a=b:=by
 unfold rW at h;split at h
 ·rename_i c;split at h;·rename_i d;simp only[Prod.mk.injEq,true_and,and_true]at h;exact ES c d h
  ·simp at h
 ·split at h;·simp at h
  ·simpa using h
def Gf(x y:(Int×List Int)×ByteArray):Int:=bh (bh (ec x.1.1 y.1.1) (cmpL ec x.1.2 y.1.2)) (mq x.2 y.2)
theorem AU:gV Gf:=((fm.lex (pg fm)).lex vA)
theorem Hk(a b:ByteArray):lH a b=Gf (rW a) (rW b):=by
 unfold lH;by_cases e:a=b;·subst e;rw[if_pos rfl,AU.refl]
 ·rw[if_neg e];unfold rW Gf;by_cases d:dj a=true
  ·rw[if_pos d,if_pos d];by_cases c:dj b=true
   ·rw[if_pos c,if_pos c];simp only[fm.refl,bh,if_true,vA.refl];split;·assumption
    ·rfl
   ·rw[if_neg c,if_neg c];rfl
  ·rw[if_neg d,if_neg d];by_cases c:dj b=true;·rw[if_pos c,if_pos c];rfl
   ·rw[if_neg c,if_neg c];simp only[fm.refl,bh,if_true,(pg fm).refl]
theorem AV:gV lH:=by
 have h:=AU.pull rW Ip;have e:lH=λa b=>Gf (rW a) (rW b):=by funext a b;exact Hk a b
 rw[e];exact h
def Ke(n:aG):Int×ByteArray×Int×Int×ByteArray:=(n.kind,n.owner,n.number,n.index,n.text)
theorem cp:gV bL:=by
 have h:=(fm.lex (AV.lex (fm.lex (fm.lex vA)))).pull Ke (λa b e=>by
  cases a;cases b;simpa[Ke]using e);exact h
end Go.Proofs.YtphjagkehiklkaaGreatDoor
namespace Go.Proofs.YtphjagkehiklkaaGreatDoor
open Proofs.Tryz Go.RowKit Go.Shelf
abbrev Ent:=aG×ByteArray
def cu(L:List Ent):Prop:=L.Pairwise (λa b=>bL a.1 b.1<0)
def dC(nm:aG)(v:ByteArray):List Ent->List Ent
 |[]=>[(nm,v)]
 |x::r=>if bL nm x.1<0 then(nm,v)::x::r else if bL nm x.1=0 then(nm,v)::r else x::dC nm v r
def dm(nm:aG):List Ent->List Ent
 |[]=>[]
 |x::r=>if bL nm x.1=0 then r else x::dm nm r
def fB(nm:aG):List Ent->Option ByteArray
 |[]=>none
 |x::r=>if bL nm x.1=0 then some x.2 else fB nm r
theorem Bt{nm:aG}{v:ByteArray}{x:Ent}(h:bL nm x.1<0):∀(L a:List Ent),dC nm v (L++x::a)=dC nm v L++x::a
 |[],a=>by simp[dC,h]
 |y::L,a=>by
  simp only[List.cons_append,dC];split;·rfl
  ·split;·rfl
   ·rw[Bt h L a];rfl
theorem my{nm:aG}{v:ByteArray}:∀(L M:List Ent),(∀y∈L,0<bL nm y.1)->dC nm v (L++M)=L++dC nm v M
 |[],_,_=>rfl
 |y::L,M,h=>by
  have b:=h y (by simp);simp only[List.cons_append,dC];rw[if_neg (by omega),if_neg (by omega),my L M (λz a=>h z (by simp[a]))]
theorem rO{nm:aG}:∀(L M:List Ent),(∀y∈L,0<bL nm y.1)->dm nm (L++M)=L++dm nm M
 |[],_,_=>rfl
 |y::L,M,h=>by
  have b:=h y (by simp);simp only[List.cons_append,dm];rw[if_neg (by omega),rO L M (λz a=>h z (by simp[a]))]
theorem sO{nm:aG}:∀(L M:List Ent),(∀y∈L,0<bL nm y.1)->fB nm (L++M)=fB nm M
 |[],_,_=>rfl
 |y::L,M,h=>by
  have b:=h y (by simp);simp only[List.cons_append,fB];rw[if_neg (by omega),sO L M (λz a=>h z (by simp[a]))]
theorem AY{nm:aG}:∀(L M:List Ent),(∀y∈M,bL nm y.1<0)->(∃v,(nm,v)∈L)->dm nm (L++M)=dm nm L++M
 |[],_,_,h=>by obtain⟨v,b⟩:=h;cases b
 |y::L,M,h,hm=>by
  simp only[List.cons_append,dm];by_cases e:bL nm y.1=0;·rw[if_pos e,if_pos e]
  ·rw[if_neg e,if_neg e,AY L M h,List.cons_append];obtain⟨v,b⟩:=hm;rcases List.mem_cons.1 b with a|a;·rw[<-a]at e;exact absurd (cp.refl nm) e
   ·exact⟨v,a⟩
theorem tX{nm:aG}:∀(M:List Ent),(∀y∈M,bL nm y.1<0)->fB nm M=none
 |[],_=>rfl
 |y::M,h=>by
  have b:=h y (by simp);rw[fB,if_neg (by omega),tX M (λz a=>h z (by simp[a]))]
theorem yk{nm:aG}:∀(L M:List Ent),(∀y∈M,bL nm y.1<0)->fB nm (L++M)=fB nm L
 |[],M,h=>tX M h
 |y::L,M,h=>by
  simp only[List.cons_append,fB];rw[yk L M h]
theorem vT{nm:aG}{v:ByteArray}:∀{L:List Ent},fB nm L=some v->(nm,v)∈L
 |[],h=>by simp[fB]at h
 |y::L,h=>by
  rw[fB]at h;split at h;·rename_i e;have a:=cp.eq _ _ e;simp only[Option.some.injEq]at h;rw[a,<-h];simp
  ·exact List.mem_cons_of_mem _ (vT h)
theorem cu.parts{L b:List Ent}{x:Ent}(h:cu (L++x::b)):cu L/\cu b/\(∀y∈L,bL y.1 x.1<0)/\(∀y∈b,bL x.1 y.1<0):=by
 unfold cu at h;rw[List.pairwise_append,List.pairwise_cons]at h;exact⟨h.1,h.2.1.2,λy a=>h.2.2 y a x (by simp),h.2.1.1⟩
theorem fT{a b:aG}(h:bL a b<0):0<bL b a:=by rw[cp.lG a b];omega
theorem ma{a b:aG}(h:0<bL a b):bL b a<0:=by rw[cp.lG a b];omega
theorem kC{nm:aG}{v:ByteArray}:∀{L:List Ent},cu L->cu (dC nm v L)/\∀x∈dC nm v L,x=(nm,v)\/x∈L
 |[],_=>by simp[dC,cu]
 |y::L,h=>by
  have b:=List.pairwise_cons.1 h;rw[dC];split
  ·rename_i c;refine⟨List.pairwise_cons.2 ⟨λz a=>?_,h⟩,λx d=>by simpa using d⟩;rcases List.mem_cons.1 a with rfl|a;·exact c
   ·exact cp.trans _ _ _ c (b.1 z a)
  ·split
   ·rename_i _ he;have e:=cp.eq _ _ he;refine⟨List.pairwise_cons.2 ⟨λz a=>?_,b.2⟩,λx d=>?_⟩;·simp only;rw[e];exact b.1 z a
    ·rcases List.mem_cons.1 d with h|h;·exact .inl h
     ·exact .inr (List.mem_cons_of_mem _ h)
   ·rename_i f he;obtain⟨i1,i2⟩:=kC (nm:=nm) (v:=v) b.2;refine⟨List.pairwise_cons.2 ⟨λz a=>?_,i1⟩,λx d=>?_⟩
    ·rcases i2 z a with rfl|a;·exact ma (by simp only;omega)
     ·exact b.1 z a
    ·rcases List.mem_cons.1 d with h|h;·exact .inr (by simp[h])
     ·rcases i2 x h with h|h;·exact .inl h
      ·exact .inr (List.mem_cons_of_mem _ h)
theorem qc{nm:aG}:∀(L:List Ent),(dm nm L).Sublist L
 |[]=> .slnil
 |y::L=>by
  rw[dm];split;·exact List.sublist_cons_self _ _
  ·exact(qc L).cons_cons _
theorem vJ{nm:aG}{L:List Ent}(h:cu L):cu (dm nm L):=h.sublist (qc L)
def jL(L:List Ent):Prop:=∀x∈L,x.1.owner.size<=1099511627776
def Ih(w:World):Value->Nat
 | .pointer (some a)=>match w.cell? ⟨a.block,8,none⟩with
  |some (.int _ h)=>h.toNat
  |_=>0
 |_=>0
theorem rT{w:World}{a:Option Addr}{t:Tr}(h:ck w a t):Ih w (.pointer a)=t.cO:=by
 cases t with
 |leaf=>
  obtain rfl:a=none:=h;rfl
 |node l nm v r=>
  obtain⟨g,d,ra,rfl,_,_,b⟩:=h;have c:w.cell? ⟨g,8,none⟩=some (.int .i64 ((Tr.node l nm v r).cO:Nat)):=b.cell 8;simp only[Ih,c,Int.toNat_natCast]
def Found(w:World)(nm:aG)(L:List Ent)(e:Ending)(w':World):Prop:=∃p,e= .returned (.pointer p)/\Fr Nothing w w'/\((∃g v,p=some ⟨g,0,none⟩/\fB nm L=some v/\Mid w' g nm v)\/(p=none/\fB nm L=none))
theorem yl(n:aG)(a:Option Addr)(t:Tr)(w:World)(hN:ck w a t)(H:cu t.bM)(Z:n.owner.size<=1099511627776)(aa:jL t.bM):
  Calls prog 108 #[.pointer a, .agg n.cells.toArray] w (Found w n t.bM):=by
 have ah:=af hN;have am:=af H;have ai:=af aa;have Q:=af Z;clear hN H Z aa;go_enter func108,ntmps108;go_wp2_with(refine aD rfl 106 (.tmp 1) rfl n.cells.toArray rfl ?_);intro w1 n1;have P:=af n1.fr;have L:=af n1.aF;clear n1;generalize w.heap.size=X at*;have an:Hid (aq w1 X 106 n.cells.toArray):=L.out;clear L;go_wp2;go_loopw[0](λi wr=>∃(b:Option Addr)(u:Tr),i= .pointer b/\ck wr b u/\cu u.bM/\jL u.bM/\fB n u.bM=fB n t.bM/\Fr Nothing w1 wr)(λi wr=>Ih wr i);case atStart=>exact⟨a,t,rfl,ah.out.ao P.out,am.out,ai.out,rfl,aA⟩
 case round=>
  obtain⟨b,u,rfl,hN,H,N,hF,q⟩:=hrel;have o:=af q;have m:=af hF;cases u with
  |leaf=>
   obtain rfl:b=none:=hN;clear H N hF q;go_wp2;go_ret;exact⟨_,rfl,P.out.trans o.out, .inr ⟨rfl,m.out.symm⟩⟩
  |node l nm v r=>
   have J:=af (rT hN);obtain⟨A,ac,ra,rfl,Y,ab,O⟩:=hN;have U:=af Y;have W:=af ab;have V:Hid (Mid wr A nm v):=Mid.of O;have ad:Hid (wr.cell? ⟨A,0,none⟩=some (.pointer ac)):=O.cell 0;have ae:Hid (wr.cell? ⟨A,1,none⟩=some (.pointer ra)):=O.cell 1;have g:=af (cu.parts H);have K:=af N;have R:=af (an.out.fr q id);have T:Hid (∀w',Calls prog 128 #[.agg n.cells.toArray, .agg nm.cells.toArray] w' (aM w' (.int .i64 (bL n nm)))):=λw'=>fi n nm w' Q.out (N (nm,v) (by simp[Tr.bM]));obtain⟨z,C⟩:∃z,z=bL n nm:=⟨_,rfl⟩;rw[<-C]at T;have f:=af C;clear Y ab O H N hF q C;go_upto_region 2 with fail;refine ay 7 Nothing [Is (.agg n.cells.toArray),Is (.pointer (some ⟨A,0,none⟩)),Is (.pointer (some ⟨A,0,none⟩)),Is (.pointer (some ⟨A,2,none⟩)),Is (.agg nm.cells.toArray),Is (.int .i64 z),Is (.int .i64 z)] [] (λ_=>True) (λ_ _=>false) (by kernel_rfl) (by kernel_rfl) (by kernel_rfl) (by kernel_rfl) ⟨Is.ag _,Is.ag _,Is.ag _,Is.ag _,Is.ag _,Is.ag _,Is.ag _,trivial⟩ trivial (λ_ _ _ _ h=>h) trivial ?_ ?_
   ·refine⟨?_,?_,?_,?_,?_,?_,?_,trivial⟩;all_goals intro u w' d M c G F s
    all_goals simp only[bC,bD,bE,bF,ar,Act.put,bG,bH,bI,Nat.reduceAdd,Nat.zero_add]
    ·clear c G F s;refine aj ?_;exact au _ _ rfl ⟨X,0,none⟩ rfl n.cells _ (λj x D=>by rw[Addr.add_mid,Nat.zero_add];exact(R.out.fr M id).cell j|>.trans (by rw[bP];exact D)) underlying106 rfl aW ⟨_,rfl,al⟩
    ·clear c G F s;refine aj ?_;go_simp;exact⟨_,rfl,al⟩
    ·have B:u 1=_:=c 1;clear c G F s;simp only[B];refine aj ?_;go_simp;exact⟨_,rfl,al⟩
    ·have S:u 2=_:=c 2;clear c G F s;simp only[S];refine aj ?_;go_simp;exact⟨_,rfl,al⟩
    ·have ap:u 3=_:=c 3;clear c G F s;simp only[ap];refine aj ?_;exact au _ _ rfl ⟨A,2,none⟩ rfl nm.cells _ (λj x D=>by rw[Addr.add_mid];exact M.ak (V.out.name j x D) id) underlying106 rfl aW ⟨_,rfl,al⟩
    ·have p:u 0=_:=c 0;have av:u 4=_:=c 4;clear c G F s;simp only[p,av];refine aj ?_;go_simp;refine(T.out _).mono ?_;rintro e aC⟨rfl,f4⟩;exact⟨_,rfl,f4.bR,rfl,trivial⟩
    ·have aw:u 5=_:=c 5;clear c G F s;simp only[aw];refine aj ?_;go_simp;exact⟨_,rfl,al⟩
   ·intro u w' M c s;have k6:u 6=_:=c 6 (by omega);clear c s;simp only[bC,bD,bE,bF,ar,Act.put,bG,bH,bI,dt,du,Nat.reduceAdd,Nat.zero_add,k6];have k:=af M;clear M k6;by_cases p:z=0
    ·have t0:=Jt p;have I:=af p;clear p;go_wp2;go_ret;refine⟨_,rfl,P.out.trans (o.out.trans k.out), .inl ⟨A,v,rfl,?_,?_⟩⟩;·rw[<-m.out,Tr.bM,sO _ _ (λy E=>?_),fB,if_pos (by simp only;rw[<-f.out];exact I.out)];have e:=cp.eq n nm (by rw[<-f.out];exact I.out);rw[e];exact fT (g.out.2.2.1 y E)
     ·have e:=cp.eq n nm (by rw[<-f.out];exact I.out);rw[e];exact V.out.ao k.out
    ·have t0:=tJ p;have I:=af p;by_cases B:z<0
     ·have t1:decide (z<0)=true:=decide_eq_true B;have H1:=af B;have az:=k.out.ak ad.out id;clear p;go_wp2;go_roundw;case rel=>
       refine⟨ac,l,rfl,U.out.ao k.out,g.out.1,λx D=>K.out x (by simp[Tr.bM,D]),?_,o.out.trans k.out⟩;rw[<-m.out,Tr.bM,yk _ _ (λy E=>?_)];rcases List.mem_cons.1 E with rfl|E;·have:=H1.out;rw[f.out]at this;exact this
       ·have:=H1.out;rw[f.out]at this;exact cp.trans _ _ _ this (g.out.2.2.2 y E)
      case measure=>
       rw[rT (U.out.ao k.out),J.out];simp only[Tr.cO];omega
     ·have t1:decide (z<0)=false:=decide_eq_false B;have H1:=af B;have aB:=k.out.ak ae.out id;clear p;go_wp2;go_roundw;case rel=>
       refine⟨ra,r,rfl,W.out.ao k.out,g.out.2.1,λx D=>K.out x (by simp[Tr.bM,D]),?_,o.out.trans k.out⟩;have ax:0<bL n nm:=by have B:=I.out;have S:=H1.out;rw[f.out]at B S;omega
       rw[<-m.out,Tr.bM,sO _ _ (λy E=>?_),fB,if_neg (by simp only;omega)];exact fT (cp.trans _ _ _ (g.out.2.2.1 y E) (ma ax))
      case measure=>
       rw[rT (W.out.ao k.out),J.out];simp only[Tr.cO];omega
end Go.Proofs.YtphjagkehiklkaaGreatDoor
namespace Go.Proofs.YtphjagkehiklkaaGreatDoor
open Proofs.Tryz Go.ChangeShapes Go.WideShapes Go.ChangeAt Go.RowKit Go.Deep
def Eu:List Int:=[1779033703,3144134277,1013904242,2773480762,1359893119,2600822924,528734635,1541459225]
def Bv:List Int:=tZ.map (λn:Nat=>(n:Int))
structure aG.jZ(n:aG):Prop where
 kind:-9223372036854775808<=n.kind/\n.kind<=9223372036854775807
 number:-9223372036854775808<=n.number/\n.number<=9223372036854775807
 index:-9223372036854775808<=n.index/\n.index<=9223372036854775807
 owner:n.owner.size<=9223372036854775807
 text:n.text.size<=9223372036854775807
structure CV.jZ(c:CV):Prop where
 nm:c.nm.jZ
 value:c.value.size<=9223372036854775807
theorem EN{H:Type}{enc:TypeId×Value->H}{w:World}{base:Nat}{sp:Nat->Bool}{held:Bool}{fuel:Nat}{l:List Value}{x:DataW H×List MemPlace}
  (h:DataW.trod enc prog w base sp held fuel 245 l=some x):∃n:aG,n.jZ/\l=n.cells:=by
 obtain⟨p,q,_,rfl,a,c,b⟩:=DataW.trod_struct underlying245 h;rw[AO]at a;match l,a with
 |[r,s,t,x3,u],_=>
  have g0:=b 0 _ rfl;have g1:=b 1 _ rfl;have g2:=b 2 _ rfl;have g3:=b 3 _ rfl;have g4:=b 4 _ rfl;match p,c with
  |[v,y,z,y3,y4],_=>
   simp[sI,sJ]at g0 g1 g2 g3 g4;obtain⟨a0,d,rfl,b0⟩:=DataW.trod_int underlying3 g0;obtain⟨o,e,rfl,b1⟩:=DataW.trod_string underlying9 g1;obtain⟨a2,f,rfl,b2⟩:=DataW.trod_int underlying3 g2;obtain⟨a3,g,rfl,b3⟩:=DataW.trod_int underlying3 g3;obtain⟨a4,i,rfl,b4⟩:=DataW.trod_string underlying9 g4;simp only[List.cons.injEq,and_true]at d e f g i;subst d e f g i;have j:=bounds_i64 b0;have k:=bounds_i64 b2;have m:=bounds_i64 b3;unfold maxLen at b1 b4;exact⟨⟨a0,o,a2,a3,a4⟩,⟨⟨j.1,j.2⟩,⟨k.1,k.2⟩,⟨m.1,m.2⟩,b1,b4⟩,rfl⟩
theorem Mc{H:Type}{enc:TypeId×Value->H}{w:World}{base:Nat}{sp:Nat->Bool}{held:Bool}{fuel:Nat}{l:List Value}{x:DataW H×List MemPlace}
  (h:DataW.trod enc prog w base sp held fuel 247 l=some x):∃c:CV,c.jZ/\l=c.cells:=by
 obtain⟨k,m,_,rfl,a,d,b⟩:=DataW.trod_struct underlying247 h;rw[Gd]at a;match l,a with
 |[o,p,q,x3,r,s,t],_=>
  have g0:=b 0 _ rfl;have g1:=b 1 _ rfl;have g2:=b 2 _ rfl;match k,d with
  |[u,v,y],_=>
   simp[AO,sJ,vw]at g0 g1 g2;obtain⟨n,j,i⟩:=EN g0;obtain⟨g,e,rfl,b1⟩:=DataW.trod_string underlying9 g1;obtain⟨a2,f,rfl⟩:=DataW.trod_bool underlying4 g2;simp only[List.cons.injEq,and_true]at e f;subst e f;unfold maxLen at b1;refine⟨⟨n,g,a2⟩,⟨j,b1⟩,?_⟩;rw[CV.cells,<-i];rfl
theorem wD{H:Type}{enc:TypeId×Value->H}{w:World}{fuel:Nat}{a:Option Addr}{len cap:Nat}{x:DataW H×List MemPlace}
  (h:DataW.trod enc prog w 0 (λ_=>true) true fuel 55 [.slice a len cap]=some x):
  ∃cs:List CV,CL w (Old w) a len cs/\(∀c∈cs,c.jZ)/\len<=cap/\cap<=9223372036854775807:=by
 rcases open_slice underlying55 h with⟨b,_⟩|⟨p,F,E,m,n,D,C,b,_,B,hm,g,_,o⟩;·simp only[List.cons.injEq,Value.slice.injEq,and_true]at b;obtain⟨rfl,rfl,rfl⟩:=b;exact⟨[],⟨Rd.none_,rfl⟩,by simp,Nat.le_refl _,Nat.zero_le _⟩
 ·simp only[List.cons.injEq,Value.slice.injEq,and_true]at b;obtain⟨rfl,rfl,rfl⟩:=b;simp only[if_true]at g;rw[Gd]at o;have f:∀i,i<len->∃c:CV,c.jZ/\∀j u,c.cells[j]? =some u->w.cell? ((p.add (i*7)).add j)=some u:=by
   intro i z;obtain⟨cs',t,k⟩:=o i (by omega);obtain⟨c,y,e⟩:=Mc k;obtain⟨_,v,d⟩:=World.cells?_some t;refine⟨c,y,λj u hu=>?_⟩;have A:j<7:=by
    have:=(List.getElem?_eq_some_iff.1 hu).1;simpa[CV.cells,aG.cells]using this
   rw[d j A,<-hu,<-e]
  obtain⟨l,q,r,s⟩:=zS CV.cells 7 CV.jZ (λc=>c.eM) (by omega) f;exact⟨l,⟨s,q⟩,r,B,by unfold maxLen at hm;exact hm⟩
end Go.Proofs.YtphjagkehiklkaaGreatDoor
