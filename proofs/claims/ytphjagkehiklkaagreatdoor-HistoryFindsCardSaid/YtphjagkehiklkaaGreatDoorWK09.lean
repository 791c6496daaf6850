/- Texts. -/
import Derived.Test.YtphjagkehiklkaaGreatDoorWK08
set_option linter.unusedVariables false
set_option linter.unusedSimpArgs false
set_option maxRecDepth 100000
set_option maxHeartbeats 4000000
namespace Go.Proofs.YtphjagkehiklkaaGreatDoor
open Go.RowKit Go.Shelf
attribute[local go_sem]Oper.semAt_some
theorem vT{n:Nat}{P:Program}{row:String}{args:Array Value}{w:World}{a:Value→World→Prop}(h:Rows P row args w a):RowsIn Fence.wide n P row args w a:=
 fun c cs _=>let⟨v,w',q,s⟩:=h c cs;⟨v,w',q,stepsIn_wide.2 s⟩
theorem zL{n:Nat}{P:Program}{q:Oper}{a:Act}{w:World}{K j:Act→World→Prop}{Q Q':Exit→Act→World→Prop}(l:gM q=true)(b:∀a w,K a w→j a w)(g:∀e a w,Q e a w→Q' e a w)(h:q.wp P a w K Q):
  q.wpIn Fence.wide n P a w j Q':=by
 refine⟨fun _ _=>trivial,?_⟩;rw[Oper.semAt_plain _ _ _ (sG l)];unfold Oper.wp at h;generalize(execOp a.eval q).run P w=x at*;have c:(Fence.wide.depth.isSome=true→1≤n):=fun h=>(by cases h);rcases x with⟨x,w'⟩|⟨x,w'⟩
 ·cases x with
  |value v=>exact b _ _ h
  |skip=>exact b _ _ h
  |defer d=>exact b _ _ h
  |enter f args=>
   refine⟨c,callsIn_wide.2 (Calls.mono h fun e i he=>?_)⟩;cases e with
   |returned v=>exact b _ _ he
   |panicked ch=>exact g _ _ _ he
   |outgrown=>obtain⟨k,w3,m⟩:=he;exact⟨k,w3,g _ _ _ m⟩
  |row p args=>exact⟨c,vT (h.mono fun v i o=>b _ _ o)⟩
  |_=>exact absurd h id
 ·cases x<;>first|exact g _ _ _ h|exact absurd h id
theorem km{n:Nat}{P:Program}{ops:Array Oper}{Q:Exit→Act→World→Prop}:∀{l:List Oper}{a:Act}{w:World},(l.all gM)=true→wpList P ops (fun e a w=>Q e a w∧e= .normal) l a w→wpListIn Fence.wide n P ops Q l a w
 |[],_,_,_,h=>h.1
 |g::rest,a,w,b,h=>by
  rw[List.all_cons,Bool.and_eq_true]at b;unfold wpList at h;unfold wpListIn;split
  ·rename_i hw;rw[if_pos hw]at h;rcases h with h|⟨_,f,w',c⟩;·exact zL b.1 (fun a w d=>km b.2 d) (fun _ _ _ c=>c.1) h
   ·exact absurd c.2 (by simp)
  ·rename_i hw;rw[if_neg hw]at h;exact⟨fun _ _=>trivial,km b.2 h⟩
theorem oo{n:Nat}{P:Program}{ops:Array Oper}{Q:Exit→Act→World→Prop}{d:Oper}{l:List Oper}{a:Act}{w:World}(f:Op→Bool)(b:f d.op=true)(c:((d::l).all gM)=true)(h:wpList P ops (fun e a w=>Q e a w∧e= .normal) (d::l) a w):wpListIn Fence.wide n P ops Q (d::l) a w:=
 km c h
theorem Cj(s:ByteArray)(k at_:Nat)(u:k≤8)(t:at_≤s.size)(P:Part)(E:Nat)(a:cR k at_ (s.toList.drop at_)=(P,E)):
  (P.e≠0∧dq (8-k) at_ (s.toList.drop at_)=[P])∨(P.e=0∧k<8∧at_≤E∧E≤s.size∧
   ((E=s.size∧dq (8-k) at_ (s.toList.drop at_)=[P])∨(∃b,∃h:E<s.size,s[E]=b∧b.toNat≠46∧dq (8-k) at_ (s.toList.drop at_)=[P,⟨0,E,6⟩])∨
    (∃b,∃h:E<s.size,s[E]=b∧b.toNat=46∧dq (8-k) at_ (s.toList.drop at_)=P::dq (8-(k+1)) (E+1) (s.toList.drop (E+1))))):=by
 have hlen:(s.toList.drop at_).length=s.size-at_:=by rw[List.length_drop,eW]
 have r:=kI 7 (s.toList.drop at_);have f:∀i b,(s.toList.drop at_)[i]? =some b→∃h:at_+i<s.size,s[at_+i]=b:=fun i b d=>by
  rw[List.getElem?_drop]at d;exact yt d
 have c:∀i,(s.toList.drop at_).drop i=s.toList.drop (at_+i):=fun i=>by rw[List.drop_drop]
 generalize s.toList.drop at_=l at*;by_cases o:k=8;·subst o;simp only[cR,if_true,Prod.mk.injEq]at a;obtain⟨rfl,rfl⟩:=a;exact .inl ⟨by simp,rfl⟩
 ·have p:8-k=(7-k)+1:=by omega
  rw[p,dq];simp only[show 7-(7-k)=k by omega,a];by_cases he:P.e=0
  ·rw[if_neg (by simp[he])];have j:E=at_+(dy 7 l).length:=by
    simp only[cR]at a;rw[if_neg o]at a;split at a;·simp only[Prod.mk.injEq]at a;rw[←a.1]at he;simp at he
    ·split at a;·simp only[Prod.mk.injEq]at a;rw[←a.1]at he;simp at he
     ·split at a;·simp only[Prod.mk.injEq]at a;rw[←a.1]at he;simp at he
      ·split at a;·simp only[Prod.mk.injEq]at a;rw[←a.1]at he;simp at he
       ·simp only[Prod.mk.injEq]at a;exact a.2.symm
   refine .inr ⟨he,by omega,by omega,by omega,?_⟩;by_cases m:l.length≤(dy 7 l).length;·rw[if_pos m];exact .inl ⟨by omega,rfl⟩
   ·rw[if_neg m];obtain⟨b,d⟩:∃b,l[(dy 7 l).length]? =some b:=⟨_,List.getElem?_eq_getElem (by omega)⟩;obtain⟨q,n⟩:=f _ _ d;rw[d];by_cases g:b=46
    ·rw[if_neg (by simp[g])];refine .inr (.inr ⟨b,by omega,?_,by rw[g];rfl,?_⟩);·subst j;exact n
     ·rw[c,←j,show at_+((dy 7 l).length+1)=E+1 by omega,show 7-k=8-(k+1)by omega]
    ·rw[if_pos (by simpa using g)];refine .inr (.inl ⟨b,by omega,?_,?_,?_⟩);·subst j;exact n
     ·intro h;exact g (UInt8.toNat_inj.1 h)
     ·rw[j]
  ·rw[if_pos he];exact .inl ⟨he,rfl⟩
def KP(A B:World):Prop:=∀g t cs,t=9∨t=270→aq A g t cs→aq B g t cs
theorem KP.refl(A:World):KP A A:=fun _ _ _ _ h=>h
theorem KP.trans{A B C:World}(h:KP A B)(k:KP B C):KP A C:=fun g t cs a b=>k g t cs a (h g t cs a b)
theorem KP.fr{A B:World}{T:Nat→Prop}(h:Fr T A B)(b:∀g t cs,t=9∨t=270→aq A g t cs→¬T g):KP A B:=fun g t cs c a=>a.fr h (b g t cs c a)
theorem KP.below{A B:World}(h:Below A.heap.size A B):KP A B:=fun g _ _ _ a=>(h.block g a.lt).trans a
def zJ:Op→Bool
 | .load t _=>t==9
 |_=>false
theorem rf(m B:Nat)(s:ByteArray)(w:World)(aJ:s.size≤1099511627776)(aE:aq w B 9 #[.string s]):
  SeqStopsK Fence.wide m Tryz.prog 182 #[.pointer (some ⟨B,0,none⟩)] (fun p:Part=>#[Value.agg #[.int .i64 p.ord, .int .i64 p.at_, .int .i64 p.e]]) KP (fun aW=>aW=fR s) (fun pre=>pre<+:fR s) (fR s).length w:=by
 intro l J aY W aG aF _ aI aD;have N:∀k:Nat,(Fence.wide.depth.isSome=true→1≤k):=fun k h=>by cases h
 have aN:=af aF;have ay:=af aI;have ax:=af aJ;have HB:Hid (aq W B 9 #[.string s]):=KP.below aG _ _ _ (.inl rfl) aE;have b0:W.cell? ⟨B,0,none⟩=some (.string s):=HB.out.cell 0;have ad:=af aD;clear aG aF aI aD aJ aE;by_cases C:s.size=0
 ·have o:Hid (fR s=[]):=by simp only[Hid];rw[fR,if_pos C]
  have am:s=ByteArray.empty:=by
   cases s with
   |mk d=>
    have aQ:d.size=0:=C;rw[show d=#[]from Array.eq_empty_of_size_eq_zero aQ];rfl
  subst am;clear C;refine callsIn_of_wp Tryz.func182 rfl trivial ?_ rfl;simp only[Tryz.ntmps182,List.size_toArray,List.length_cons,List.length_nil,Nat.reduceAdd,Nat.reduceSub,Array.replicate_succ,Array.replicate_zero,List.push_toArray,List.append_toArray,List.nil_append,List.cons_append];gi_wp2;refine wpIn_loop_once ?_;gi_wp2;go_end0;exact⟨⟨_,rfl⟩, .inl ⟨_,o.out.symm,ad.out⟩⟩
 ·have o:Hid (fR s=dq 8 0 s.toList):=by simp only[Hid];rw[fR,if_neg C]
  have aV:s.toList.isEmpty=false:=by
   rw[List.isEmpty_eq_false_iff];intro h;have:=congrArg List.length h;rw[eW]at this;exact C (by simpa using this)
  have ar:=af (fun at_ k w U ah=>Bo s at_ k w U ax.out ah);clear C;refine callsIn_of_wp Tryz.func182 rfl trivial ?_ rfl;simp only[Tryz.ntmps182,List.size_toArray,List.length_cons,List.length_nil,Nat.reduceAdd,Nat.reduceSub,Array.replicate_succ,Array.replicate_zero,List.push_toArray,List.append_toArray,List.nil_append,List.cons_append];gi_wp2;gi_loopw[3,4](fun i n wr=>∃(k at_:Nat)(pre:List Part),k≤8∧at_≤s.size∧fR s=pre++dq (8-k) at_ (s.toList.drop at_)∧pre.length=k∧i= .int .i64 (at_:Nat)∧n= .int .i64 (k:Nat)∧J pre wr∧KP W wr)(fun _ n _=>9-(intOf n).toNat);case atStart=>exact⟨0,0,[],by omega,by omega,by rw[o.out];rfl,rfl,rfl,rfl,ad.out,KP.refl _⟩
  case round=>
   obtain⟨k,at_,pre,X,V,R,Q,rfl,rfl,L,u⟩:=hrel;have F:=af L;have G:=af u;have a:=af R;have ac:=af Q;have aC:wr.cell? ⟨B,0,none⟩=some (.string s):=(u _ _ _ (.inl rfl) HB.out).cell 0;have t:=af (ar.out at_ k wr V X);obtain⟨P,E,v⟩:∃P E,cR k at_ (s.toList.drop at_)=(P,E):=⟨_,_,rfl⟩;have c:=af (Cj s k at_ X V P E v);rw[v]at t;have aX:=af V;have ab:=af X;clear L u R Q v ar b0 ad o V X;gi_wp2_with(refine oo zJ rfl (by kernel_rfl) ?_);go_wp2;gi_wp2_with(refine oo zJ rfl (by kernel_rfl) ?_);go_wp2_with fail;refine t.out.mono ?_;rintro e w1⟨rfl,f1⟩;have Z:=af f1;clear f1 aC t;go_wp2_with(refine ak rfl 270 rfl (.agg nO) tj nO rfl ?_);intro w2 ao;have au:=af (Z.out.trans ao.fr);have ap:=af ao.aH;have aO:Sz wr w1.heap.size:=Z.out.size;clear ao Z;generalize w1.heap.size=g1 at*;go_wp2_with(refine ai rfl 270 (.tmp 5) _ rfl g1 (bF P) rfl rfl _ _ ap.out cm rfl (dd _) ?_);intro w3 b3 f3;have aa:Hid (Fr ag wr w3):=au.out.aw f3 (fun i a1 e=>by have a0:i=g1:=e;have:=aO;unfold Sz at this;omega);have D:=af b3;clear b3 f3 au ap;go_wp2;have az:=af (aN.out pre wr w3 none F.out (Fr.IL aa.out) (fun r e=>by cases e));have aA:=af (G.out.trans (KP.fr aa.out (fun _ _ _ _ _ x=>x)));have q:pre.length<(fR s).length:=by
    rw[a.out,bh];have:0<(dq (8-k) at_ (s.toList.drop at_)).length:=by
     rcases c.out with⟨_,h⟩|⟨_,_,_,_,⟨_,h⟩|⟨_,_,_,_,h⟩|⟨_,_,_,_,h⟩⟩<;>(rw[h];simp)
    omega
   obtain⟨fn,tmps,assign,body,Y,M⟩:=ay.out pre P w3 az.out q;have H:=af M;have aT:w3.cell? ⟨g1,0,none⟩=some (.int .i64 P.ord):=D.out.cell 0;have aU:w3.cell? ⟨g1,1,none⟩=some (.int .i64 P.at_):=D.out.cell 1;have aK:w3.cell? ⟨g1,2,none⟩=some (.int .i64 P.e):=D.out.cell 2;clear M q az F G;gi_wp2;refine⟨N _,H.out.mono ?_⟩;clear H Y aT aU aK fn tmps assign body;rintro e A(⟨rfl,hJ4,y⟩|⟨rfl,S⟩)
   ·have z:=af hJ4;have aB:=af (aA.out.trans y);have aL:Hid (aq A g1 270 (bF P)):=y _ _ _ (.inr rfl) D.out;have aC:A.cell? ⟨B,0,none⟩=some (.string s):=(aB.out _ _ _ (.inl rfl) HB.out).cell 0;have aK:A.cell? ⟨g1,2,none⟩=some (.int .i64 P.e):=aL.out.cell 2;clear hJ4 y aA aa D;rcases c.out with⟨he,g⟩|⟨he,O,al,I,aP⟩
    ·have t1:((P.e:Int)==0)=false:=by rw[beq_eq_false_iff_ne];omega
     have j:=af g;have aR:¬P.e=0:=he;clear c g he;gi_wp2;refine bodyPost_ret (results_none rfl _ _ _) rfl ?_;exact⟨⟨_,rfl⟩, .inl ⟨_,by rw[a.out,j.out],z.out⟩⟩
    ·have t1:((P.e:Int)==0)=true:=by rw[beq_iff_eq];omega
     have aM:Hid (E≤s.size):=I;have av:=af O;have aS:P.e=0:=he;clear he al I O;rcases aP with⟨he,g⟩|⟨b,U,ah,aj,g⟩|⟨b,U,ah,aj,g⟩
     ·have t2:((E:Int)==(s.size:Int))=true:=by rw[beq_iff_eq];omega
      have j:=af g;clear c g he;gi_wp2;refine bodyPost_ret (results_none rfl _ _ _) rfl ?_;exact⟨⟨_,rfl⟩, .inl ⟨_,by rw[a.out,j.out],z.out⟩⟩
     ·have t2:((E:Int)==(s.size:Int))=false:=by rw[beq_eq_false_iff_ne];omega
      have t3:(E:Int)<(s.size:Int):=by omega
      have t4:(0:Int)≤(E:Int):=by omega
      have t5:((b.toNat:Int)==46)=false:=by rw[beq_eq_false_iff_ne];omega
      have j:=af g;have f:(pre++[P]).length<(fR s).length:=by rw[a.out,j.out];simp
      obtain⟨fn,tmps,assign,body,Y,M⟩:=ay.out (pre++[P]) ⟨0,E,6⟩ A z.out f;have H:=af M;have an:(Instr.yield l #[.agg #[.int .i64 0, .int .i64 (E:Int), .int .i64 6]]).run Tryz.prog A= .ok (.round l fn tmps assign body) A:=Y;clear c g aj M f Y;gi_wp2;refine⟨N _,H.out.mono ?_⟩;clear H an;rintro e aZ(⟨rfl,K,_⟩|⟨rfl,T⟩);·have ae:=af K;clear K;gi_wp2;refine bodyPost_ret (results_none rfl _ _ _) rfl ?_;exact⟨⟨_,rfl⟩, .inl ⟨_,by rw[a.out,j.out];simp,ae.out⟩⟩
      ·have ae:=af T;clear T;gi_wp2;refine bodyPost_ret (results_none rfl _ _ _) rfl ?_;exact⟨⟨_,rfl⟩, .inr ⟨_,by rw[a.out,j.out];simp,ae.out⟩⟩
     ·have t2:((E:Int)==(s.size:Int))=false:=by rw[beq_eq_false_iff_ne];omega
      have t3:(E:Int)<(s.size:Int):=by omega
      have t4:(0:Int)≤(E:Int):=by omega
      have t5:((b.toNat:Int)==46)=true:=by rw[beq_iff_eq];omega
      have t6:E≤1099511627776:=by have:=ax.out;omega
      have t7:k≤8:=ab.out;have j:=af g;have H1:=af U;clear c g aj;gi_wp2;go_roundw;case rel=>
       refine⟨k+1,E+1,pre++[P],by have:=av.out;omega,by have:=H1.out;omega,by rw[a.out,j.out];simp,by rw[bh,ac.out];rfl,by go_num,by go_num,z.out,aB.out⟩
      case measure=>have:=av.out;simp[intOf];omega
   ·have z:=af S;clear S;gi_wp2;refine bodyPost_ret (results_none rfl _ _ _) rfl ?_;refine⟨⟨_,rfl⟩, .inr ⟨_,?_,z.out⟩⟩;rw[a.out];rcases c.out with⟨_,h⟩|⟨_,_,_,_,⟨_,h⟩|⟨_,_,_,_,h⟩|⟨_,_,_,_,h⟩⟩<;>(rw[h];simp)
end Go.Proofs.YtphjagkehiklkaaGreatDoor
namespace Go.Proofs.YtphjagkehiklkaaGreatDoor
open Go.RowKit Go.Shelf
attribute[local go_sem]Oper.semAt_some
theorem uL(s:ByteArray)(w:World):Calls Tryz.prog 179 #[.string s] w fun r w'=>r= .returned (.func (.func 182) #[] #[.pointer (some ⟨w.heap.size,0,none⟩)])∧Fr ag w w'∧aq w' w.heap.size 9 #[.string s]:=by
 go_enter Tryz.func179,Tryz.ntmps179;go_wp2_with(refine aA rfl 9 (.tmp 0) rfl #[.string s] rfl ?_);intro w1 n1;have a:=af n1;clear n1;go_wp2;go_ret;exact⟨rfl,a.out.fr,a.out.aH⟩
theorem sN{ws:List (Nat×(World→Prop))}{M:World→Prop}(h:∀x∈ws,x.2=M){d:Nat→Bool}{w:World}(a:bX ws M d w):M w:=by
 induction ws with
 |nil=>exact a
 |cons x r f=>
  obtain⟨p,b⟩:=x;have e:b=M:=h _ List.mem_cons_self;subst e;unfold bX at a;split at a;·exact f (fun y c=>h y (List.mem_cons_of_mem _ c)) a
  ·exact a
theorem uJ:∀(n at_:Nat)(l:List UInt8),(dq n at_ l).length≤n+1
 |0,_,_=>by simp[dq]
 |n+1,at_,l=>by
  rw[dq];simp only;split;·simp
  ·split;·simp
   ·split;·simp
    ·have:=uJ n (at_+(dy 7 l).length+1) (l.drop ((dy 7 l).length+1));simp only[List.length_cons];omega
theorem uI(s:ByteArray):(fR s).length≤9:=by
 unfold fR;split;·simp
 ·exact uJ 8 0 _
theorem KP.put(W:World)(l:Nat)(f b:Obj)(h:W.heap[l]? =some f)(d:f.isCells=false):KP W (W.putObj l b):=
 KP.fr (Fr.grown (grownBy_putObj' W l b)) (fun g t cs _ a e=>by
  have c:g=l:=by simpa using e
  subst c;unfold aq at a;rw[a]at h;cases h;simp[Obj.isCells]at d)
structure Ku(a w3 W:World):Prop where
 fr:Fr ag a W
 kp:KP w3 W
theorem mM{A B:World}{row:Option Nat}{N:Nat}(f:A.grownBy B row)(i:∀r,row=some r→N≤r∧∃j:Obj,A.heap[r]? =some j∧j.isCells=false):
  Fr (fun k=>some k=row) A B∧KP A B∧(∀g t cs,aq A g t cs→aq B g t cs):=by
 have b:Fr (fun k=>some k=row) A B:=Fr.grown f;have a:∀g t cs,aq A g t cs→aq B g t cs:=fun g t cs a=>a.fr b (fun e=>by
  obtain⟨_,j,c,d⟩:=i g e.symm;unfold aq at a;rw[a]at c;cases c;simp[Obj.isCells]at d);exact⟨b,fun g t cs _ h=>a g t cs h,a⟩
def zI:Op→Bool
 | .alloc _=>true
 |_=>false
theorem Jr(w:World):(zeroValue 41).run Tryz.prog w= .ok (.string ByteArray.empty) w:=by kernel_rfl
theorem Jq(w:World):(zeroValue 3).run Tryz.prog w= .ok (.int .i64 0) w:=by kernel_rfl
theorem Jp(w:World):(zeroValue 34).run Tryz.prog w= .ok (.int .i64 0) w:=by kernel_rfl
theorem xY:(Tryz.prog.info? 41).map (·.size)=some 1:=by kernel_rfl
theorem xW:(Tryz.prog.info? 3).map (·.size)=some 1:=by kernel_rfl
theorem xV:(Tryz.prog.info? 34).map (·.size)=some 1:=by kernel_rfl
structure qG(b w3:World)(g2 g3 g4:Nat)(W:World):Prop where
 fr:Fr ag b W
 kp:KP w3 W
 b2:∃n,aq W g2 41 #[.string n]
 b3:∃a,aq W g3 3 #[.int .i64 a]
 b4:∃k,aq W g4 34 #[.int .i64 k]
theorem qG.later{b w3 A B:World}{g2 g3 g4:Nat}(h:qG b w3 g2 g3 g4 A)(f:Fr ag A B):qG b w3 g2 g3 g4 B:=
 ⟨h.fr.trans f,h.kp.trans (KP.fr f (fun _ _ _ _ _ x=>x)),by obtain⟨n,a⟩:=h.b2;exact⟨n,a.fr f (fun x=>x)⟩,by obtain⟨n,a⟩:=h.b3;exact⟨n,a.fr f (fun x=>x)⟩,by obtain⟨n,a⟩:=h.b4;exact⟨n,a.fr f (fun x=>x)⟩⟩
theorem qG.grown{c w3 A B:World}{g2 g3 g4:Nat}{row:Option Nat}{N:Nat}(h:qG c w3 g2 g3 g4 A)(g:A.grownBy B row)(d:∀r,row=some r→N≤r∧∃m:Obj,A.heap[r]? =some m∧m.isCells=false)(k:c.heap.size≤N):qG c w3 g2 g3 g4 B:=by
 obtain⟨f,j,b⟩:=mM g d;exact⟨h.fr.aw f (fun i l e=>by have:=(d i e.symm).1;omega),h.kp.trans j,by obtain⟨n,a⟩:=h.b2;exact⟨n,b _ _ _ a⟩,by obtain⟨n,a⟩:=h.b3;exact⟨n,b _ _ _ a⟩,by obtain⟨n,a⟩:=h.b4;exact⟨n,b _ _ _ a⟩⟩
theorem ep{P:Program}(w:World)(g:Nat)(t ty:TypeId)(v:Value)(d:aq w g t #[v])(a:(P.info? ty).map (·.size)=some 1)(b:(isAgg ty).run P w= .ok false w):
  (loadVar ty ⟨g,0,none⟩).run P w= .ok v w:=by
 have c:w.cell? ⟨g,0,none⟩=some v:=d.cell 0;simp[loadVar,b,go_sem,c]
theorem oT(tmps:Array Value)(w:World)(g2 g3 g4:Nat)(n:ByteArray)(a k:Int)
  (e:tmps.getD 2 undef= .pointer (some ⟨g2,0,none⟩))(f:tmps.getD 3 undef= .pointer (some ⟨g3,0,none⟩))(g:tmps.getD 4 undef= .pointer (some ⟨g4,0,none⟩))
  (b2:aq w g2 41 #[.string n])(b3:aq w g3 3 #[.int .i64 a])(b4:aq w g4 34 #[.int .i64 k]):
  (results Tryz.f174 tmps).run Tryz.prog w= .ok (.tuple #[.string n, .int .i64 a, .int .i64 k]) w:=by
 have b:tmps[2]?.getD undef= .pointer (some ⟨g2,0,none⟩):=by simpa using e
 have c:tmps[3]?.getD undef= .pointer (some ⟨g3,0,none⟩):=by simpa using f
 have d:tmps[4]?.getD undef= .pointer (some ⟨g4,0,none⟩):=by simpa using g
 simp[results,Tryz.results174,b,c,d,asAddr,ep w g2 _ _ _ b2 xY (Tryz.isAgg41 w),ep w g3 _ _ _ b3 xW (Tryz.isAgg3 w),ep w g4 _ _ _ b4 xV (Tryz.isAgg34 w)]
def Iz(w:World)(s:ByteArray)(r:Ending)(w':World):Prop:=∃n a k,r= .returned (.tuple #[.string n, .int .i64 a, .int .i64 k])∧(k==0)=dc s∧Fr ag w w'
theorem AH(s:ByteArray)(w:World)(br:s.size≤1099511627776):Calls Tryz.prog 174 #[.string s] w (Iz w s):=by
 have bw:=af br;clear br;refine(callsIn_wide (n:=6)).1 (callsIn_of_wp_marks Tryz.func174 rfl trivial (wpIn_wide.2 ?_) rfl);simp only[Tryz.ntmps174,List.size_toArray,List.length_cons,List.length_nil,Nat.reduceAdd,Nat.reduceSub,Array.replicate_succ,Array.replicate_zero,List.push_toArray,List.append_toArray,List.nil_append,List.cons_append];go_wp2_with(refine ak rfl 41 rfl (.string ByteArray.empty) Jr #[.string ByteArray.empty] rfl ?_);intro a4 ac;have aA:=af ac.fr;have O:=af ac.aH;have bm:Sz w w.heap.size:=Nat.le_refl _;clear ac;generalize w.heap.size=g2 at*;go_wp2_with(refine ak rfl 3 rfl (.int .i64 0) Jq #[.int .i64 0] rfl ?_);intro aP nb;have R:=af (aA.out.trans nb.fr);have av:=af (O.out.fr nb.fr (fun x=>x));have P:=af nb.aH;have bn:Sz w a4.heap.size:=aA.out.size;clear nb O aA;generalize a4.heap.size=g3 at*;go_wp2_with(refine ak rfl 34 rfl (.int .i64 0) Jp #[.int .i64 0] rfl ?_);intro w2 aJ;have a8:=af (R.out.trans aJ.fr);have L:=af (av.out.fr aJ.fr (fun x=>x));have M:=af (P.out.fr aJ.fr (fun x=>x));have N:=af aJ.aH;have bo:Sz w aP.heap.size:=R.out.size;clear aJ av P R;generalize aP.heap.size=g4 at*;have a7:Hid (qG w w2 g2 g3 g4 w2):=⟨a8.out,KP.refl _,⟨_,L.out⟩,⟨_,M.out⟩,⟨_,N.out⟩⟩;have NE:Hid (g2≠g3∧g2≠g4∧g3≠g4):=by
  refine⟨?_,?_,?_⟩<;>(rintro rfl);·have v:=L.out;have c:=M.out;unfold aq at v c;rw[v]at c;cases c
  ·have v:=L.out;have c:=N.out;unfold aq at v c;rw[v]at c;cases c
  ·have v:=M.out;have c:=N.out;unfold aq at v c;rw[v]at c;cases c
 clear L M N a8;go_wp2_with fail;refine(uL s _).mono ?_;rintro r w3⟨rfl,f3,b3⟩;have az:=af (a7.out.later f3);have bu:=af b3;clear f3 b3 a7;generalize w2.heap.size=gs at*;go_wp2_with fail;refine(wpIn_wide (n:=6)).1 ?_;refine wpIn_rangeFunc_ownH rfl (by omega) (gf:=182) (lb:=#[.pointer (some ⟨gs,0,none⟩)]) rfl trivial (enters_of Tryz.func182 (by kernel_rfl) rfl)
  (rf 5 gs s w3 bw.out bu.out) (fun h k=>h.trans k) (fun W l o bO _ U aG _=>KP.put W l o bO U aG) (Below.refl _ _) (fun _=>rfl)
  (fun pre W=>qG w w2 g2 g3 g4 W∧∀y∈pre,y.e=0) (fun aY pre W=>qG w w2 g2 g3 g4 W∧∃x∈pre,x.e≠0∧aq W g4 34 #[.int .i64 x.e]∧aY= .ret) (fun pre A B row h an ao=>⟨h.1.grown an ao az.out.fr.size,h.2⟩) (fun aY pre A B row h an ao=>by obtain⟨v,x,aO,X,z,aG⟩:=h;exact⟨v.grown an ao az.out.fr.size,x,aO,X,(mM an ao).2.2 _ _ _ z,aG⟩) ⟨az.out,by simp⟩
  (fun x aX W=>∃g,aX=({tmps:=#[.string s,undef, .pointer (some ⟨g2,0,none⟩), .pointer (some ⟨g3,0,none⟩), .pointer (some ⟨g4,0,none⟩), .pointer (some ⟨g,0,none⟩), .string s, .func (.func 182) #[] #[.pointer (some ⟨gs,0,none⟩)], .agg #[.int .i64 x.ord, .int .i64 x.at_, .int .i64 x.e],undef,undef,undef,undef,undef,undef,undef,undef],defers:=[]}:Act)∧aq W g 270 (bF x))
  (fun x aX _ A B row h an ao=>by
   obtain⟨g,e,z⟩:=h;exact⟨g,e,(mM an ao).2.2 _ _ _ z⟩)
  ?assign ?body ?done ?stop;case assign=>
  intro l pre x W K J S;have bv:=af S;have aB:=af J;clear S J;gi_wp2_with(refine cD zI rfl (by kernel_rfl) ?_);go_wp2_with(refine ak rfl 270 rfl (.agg nO) tj nO rfl ?_);intro a4 ac;have aA:=af ac.fr;have bt:=af ac.aH;have bA:Sz W W.heap.size:=Nat.le_refl _;clear ac;generalize W.heap.size=g at*;go_wp2_with(refine ai rfl 270 (.tmp 5) _ rfl g (bF x) rfl rfl _ _ bt.out cm rfl (dd x) ?_);intro aP bb bB;have R:Fr ag W aP:=aA.out.aw bB (fun i aN e=>by have am:i=g:=e;have:=bA;unfold Sz at this;omega);refine⟨?_,rfl⟩;refine bv.out _ _ ⟨R.size,fun k o _ U _=>(R.block k (Array.getElem?_eq_some_iff.1 U).1 (fun x=>x)).trans U⟩ (KP.fr R (fun _ _ _ _ _ x=>x)) (⟨aB.out.1.later R,aB.out.2⟩) ⟨g,rfl,bb⟩
 case body=>
  rintro bR pre x aX W bD a1 J⟨g,rfl,p⟩a2;have aB:=af J;have Q:=af J.1;have a5:=af p;have bS:W.cell? ⟨g,2,none⟩=some (.int .i64 x.e):=p.cell 2;have bc:Hid (¬(g=g2∨g=g3)):=by
   rintro(rfl|rfl);·obtain⟨n,b⟩:=J.1.b2;unfold aq at p b;rw[p]at b;cases b
   ·obtain⟨n,b⟩:=J.1.b3;unfold aq at p b;rw[p]at b;cases b
  clear J p a2 bD a1;by_cases X:x.e=0
  ·have a3:((x.e:Int)==0)=true:=by rw[beq_iff_eq];omega
   gi_wp2;refine⟨KeepsFrom.refl _ _,KP.refl _,aB.out.1,?_⟩;intro y bG;rcases List.mem_append.1 bG with h|h;·exact aB.out.2 y h
   ·rw[List.mem_singleton.1 h];exact X
  ·have a3:((x.e:Int)==0)=false:=by rw[beq_eq_false_iff_ne];omega
   have aS:=af X;gi_wp2;refine pa 6 (fun k=>k=g2∨k=g3) [Is (.pointer (some ⟨g,1,none⟩)),Is (.int .i64 x.at_),Is (.pointer (some ⟨g,2,none⟩)),Is (.int .i64 x.e),(fun _ _=>True),(fun _ _=>True)] [(4,(fun W'=>(∃n,aq W' g2 41 #[.string n])∧(∃a,aq W' g3 3 #[.int .i64 a])∧∃k,aq W' g4 34 #[.int .i64 k])),(5,(fun W'=>(∃n,aq W' g2 41 #[.string n])∧(∃a,aq W' g3 3 #[.int .i64 a])∧∃k,aq W' g4 34 #[.int .i64 k]))] (fun W'=>(∃n,aq W' g2 41 #[.string n])∧(∃a,aq W' g3 3 #[.int .i64 a])∧∃k,aq W' g4 34 #[.int .i64 k]) (fun i j=>i==4&&j==5) (by kernel_rfl) (by kernel_rfl) (by kernel_rfl) (by kernel_rfl) (by kernel_rfl) ⟨Is.ah _,Is.ah _,Is.ah _,Is.ah _,fun _ _ _ _ _ h=>h,fun _ _ _ _ _ h=>h,trivial⟩ ⟨(fun _ _ _ m h=>⟨(by obtain⟨a,f⟩:=h.1;exact⟨a,f.fr m (fun x=>x)⟩),(by obtain⟨a,f⟩:=h.2.1;exact⟨a,f.fr m (fun x=>x)⟩),(by obtain⟨a,f⟩:=h.2.2;exact⟨a,f.fr m (fun x=>x)⟩)⟩),(fun _ _ _ m h=>⟨(by obtain⟨a,f⟩:=h.1;exact⟨a,f.fr m (fun x=>x)⟩),(by obtain⟨a,f⟩:=h.2.1;exact⟨a,f.fr m (fun x=>x)⟩),(by obtain⟨a,f⟩:=h.2.2;exact⟨a,f.fr m (fun x=>x)⟩)⟩),trivial⟩ (fun _ _ _ m h=>⟨(by obtain⟨a,f⟩:=h.1;exact⟨a,f.fr m (fun x=>x)⟩),(by obtain⟨a,f⟩:=h.2.1;exact⟨a,f.fr m (fun x=>x)⟩),(by obtain⟨a,f⟩:=h.2.2;exact⟨a,f.fr m (fun x=>x)⟩)⟩) ⟨Q.out.b2,Q.out.b3,Q.out.b4⟩ ?_ ?_
   ·refine⟨?_,?_,?_,?_,?_,?_,trivial⟩;all_goals intro u w' d m C ar ap Y
    all_goals simp only[bH,bI,bJ,bK,ay,Act.put,bL,bM,bN,Nat.reduceAdd,Nat.zero_add]
    ·clear C ar ap Y;refine aj ?_;go_simp;exact⟨_,rfl,al⟩
    ·have bC:u 0=_:=C 0;clear C ar ap Y;simp only[bC];refine aj ?_;have q:w'.cell? ⟨g,1,none⟩=some _:=(a5.out.fr m bc.out).cell 1;go_simp;exact⟨_,rfl,al⟩
    ·clear C ar ap Y;refine aj ?_;go_simp;exact⟨_,rfl,al⟩
    ·have c:u 2=_:=C 2;clear C ar ap Y;simp only[c];refine aj ?_;have q:w'.cell? ⟨g,2,none⟩=some _:=(a5.out.fr m bc.out).cell 2;go_simp;exact⟨_,rfl,al⟩
    ·clear C ar ap;refine aj ?_;obtain⟨⟨n,c⟩,G,H⟩:=sN (by simp) Y;refine kN 41 (.tmp 2) _ rfl g2 0 (.string ByteArray.empty) rfl rfl rfl xY _ _ #[.string ByteArray.empty] c (by simp) rfl ?_;intro aQ ae F;refine⟨_,rfl,F.mono (fun i _ h=> .inl h),trivial,⟨_,ae⟩,?_,?_⟩;·obtain⟨a,f⟩:=G;exact⟨a,f.fr F (fun e=>NE.out.1 e.symm)⟩
     ·obtain⟨a,f⟩:=H;exact⟨a,f.fr F (fun e=>NE.out.2.1 e.symm)⟩
    ·have v:u 1=_:=C 1;clear C ar ap;simp only[v];refine aj ?_;obtain⟨c,⟨n,G⟩,H⟩:=sN (by simp) Y;refine kN 3 (.tmp 3) _ rfl g3 0 (.int .i64 x.at_) rfl rfl rfl xW _ _ #[.int .i64 x.at_] G (by simp) rfl ?_;intro aQ ae F;refine⟨_,rfl,F.mono (fun i _ h=> .inr h),trivial,?_,⟨_,ae⟩,?_⟩;·obtain⟨a,f⟩:=c;exact⟨a,f.fr F (fun e=>NE.out.1 e)⟩
     ·obtain⟨a,f⟩:=H;exact⟨a,f.fr F (fun e=>NE.out.2.2 e.symm)⟩
   ·intro u w' m C Y;have bs:u 3=_:=C 3 (by omega);obtain⟨c,G,k,H⟩:=Y;have aU:=af c;have aV:=af G;have aW:=af H;have bx:=af m;clear C c G H m;simp only[bH,bI,bJ,bK,ay,Act.put,bL,bM,bN,dD,dE,Nat.reduceAdd,Nat.zero_add,bs];clear bs;go_wp2_with(refine aT rfl 34 (.tmp 4) _ rfl g4 0 (.int .i64 x.e) rfl rfl rfl xV _ _ #[.int .i64 x.e] aW.out (by simp) rfl ?_);intro aQ ae F;have Z:Fr (fun k=>k=g2∨k=g3∨k=g4) W aQ:=(bx.out.mono (fun i _ h=>h.elim .inl (fun h=> .inr (.inl h)))).trans (F.mono (fun i _ h=> .inr (.inr h)));have a6:∀k,k=g2∨k=g3∨k=g4→∃t cs,aq W k t cs∧t≠9∧t≠270:=by
     rintro k(rfl|rfl|rfl);·obtain⟨n,b⟩:=Q.out.b2;exact⟨_,_,b,by decide,by decide⟩
     ·obtain⟨n,b⟩:=Q.out.b3;exact⟨_,_,b,by decide,by decide⟩
     ·obtain⟨n,b⟩:=Q.out.b4;exact⟨_,_,b,by decide,by decide⟩
    have bz:KP W aQ:=KP.fr Z (fun q t cs bE z aI=>by
     obtain⟨bP,cs',hb',v,c⟩:=a6 q aI;unfold aq at z hb';rw[z]at hb';cases hb';rcases bE with rfl|rfl;·exact v rfl
     ·exact c rfl);refine⟨?_,rfl⟩;gi_wp2;refine⟨⟨Z.size,fun q o bQ U aG=>(Z.block q (Array.getElem?_eq_some_iff.1 U).1 (fun aI=>?_)).trans U⟩,⟨⟨?_,Q.out.kp.trans bz,?_,?_,⟨_,ae⟩⟩,x,by simp,aS.out,ae,rfl⟩⟩;·obtain⟨bP,cs',hb',_,_⟩:=a6 q aI;unfold aq at hb';rw[U]at hb';cases hb';simp[Obj.isCells]at aG
    ·exact Q.out.fr.aw Z (fun i aN e=>by
      have c:=bm;have G:=bn;have H:=bo;unfold Sz at c G H;omega)
    ·obtain⟨n,b⟩:=aU.out;exact⟨n,b.fr F (fun e=>NE.out.2.1 e)⟩
    ·obtain⟨n,b⟩:=aV.out;exact⟨n,b.fr F (fun e=>NE.out.2.2 e)⟩
 case done=>
  rintro D xs W aE rfl J S;obtain⟨I,T⟩:=J;have E:Fr (fun k=>some k=some D) W (W.putObj D (.deferred none)):=Fr.grown (grownBy_putObj' W D _);have aa:=af S;have aZ:Hid (dc s=true):=by
   simp only[Hid,dc,List.all_eq_true,beq_iff_eq];exact T
  obtain⟨n,b2⟩:=I.b2;obtain⟨a,b3⟩:=I.b3;obtain⟨k,b4⟩:=I.b4;have O:=af b2;have P:=af b3;have ax:=af b4;have ad:=af I;have aR:=af aE;clear E I b2 b3 b4 aE S T;go_wp2_with(refine aT rfl 41 (.tmp 2) _ rfl g2 0 (.string s) rfl rfl rfl xY _ _ #[.string s] O.out (by simp) rfl ?_);intro bT bp aK;have bh:=af (P.out.fr aK (fun e=>NE.out.1 e.symm));have bi:=af (ax.out.fr aK (fun e=>NE.out.2.1 e.symm));have bg:=af bp;have a9:=af aK;clear bp aK O P ax;go_wp2_with(refine aT rfl 3 (.tmp 3) _ rfl g3 0 (.int .i64 0) rfl rfl rfl xW _ _ #[.int .i64 0] bh.out (by simp) rfl ?_);intro bU aD aL;have bj:=af (bg.out.fr aL (fun e=>NE.out.1 e));have bl:=af (bi.out.fr aL (fun e=>NE.out.2.2 e.symm));have bk:=af aD;have ba:=af aL;clear aD aL bg bh bi;go_wp2_with(refine aT rfl 34 (.tmp 4) _ rfl g4 0 (.int .i64 0) rfl rfl rfl xV _ _ #[.int .i64 0] bl.out (by simp) rfl ?_);intro au bq aM;have bd:=af (bj.out.fr aM (fun e=>NE.out.2.1 e));have be:=af (bk.out.fr aM (fun e=>NE.out.2.2 e));have bf:=af bq;have Z:Hid (Fr (fun k=>k=g2∨k=g3∨k=g4) W au):=((a9.out.mono (fun i _ h=> .inl h)).trans (ba.out.mono (fun i _ h=> .inr (.inl h)))).trans (aM.mono (fun i _ h=> .inr (.inr h)));have aC:Hid (au.heap[D]? =some (.deferred (some []))):=by
   refine(Z.out.block D (Array.getElem?_eq_some_iff.1 aa.out).1 (fun aI=>?_)).trans aa.out;have a0:=aa.out;rcases aI with rfl|rfl|rfl;·obtain⟨n,b⟩:=ad.out.b2;unfold aq at b;rw[a0]at b;cases b
   ·obtain⟨n,b⟩:=ad.out.b3;unfold aq at b;rw[a0]at b;cases b
   ·obtain⟨n,b⟩:=ad.out.b4;unfold aq at b;rw[a0]at b;cases b
  clear bq aM a9 ba aa bj bk bl;go_wp2;refine⟨by simp, .inl ⟨_,_,rfl,run_takeDeferred aC.out,?_⟩⟩;have E:Fr (fun k=>some k=some D) au (au.putObj D (.deferred none)):=Fr.grown (grownBy_putObj' au D _);have ab:∀g t cs,aq au g t cs→¬(some g=some D):=fun g t cs z e=>by
   have am:g=D:=by simpa using e
   subst am;unfold aq at z;rw[aC.out]at z;cases z
  refine⟨_,oT _ _ g2 g3 g4 s 0 0 rfl rfl rfl (bd.out.fr E (ab _ _ _ bd.out)) (be.out.fr E (ab _ _ _ be.out)) (bf.out.fr E (ab _ _ _ bf.out)),⟨_,_,_,rfl,?_,?_⟩⟩;·rw[aZ.out];rfl
  ·refine(ad.out.fr.aw Z.out (fun i aN e=>?_)).aw E (fun i aN e=>?_);·have c:=bm;have G:=bn;have H:=bo;unfold Sz at c G H;omega
   ·have am:i=D:=by simpa using e
    have:=aR.out;have:=az.out.fr.size;omega
 case stop=>
  rintro D aY pre W aE V⟨I,x,aO,X,aF,rfl⟩S;have aa:=af S;have aR:=af aE;have aZ:Hid (dc s=false):=by
   simp only[Hid];rw[Bool.eq_false_iff];intro h;rw[dc,List.all_eq_true]at h;have:=h x (V.subset aO);simp only[beq_iff_eq]at this;exact X this
  obtain⟨n,b2⟩:=I.b2;obtain⟨a,b3⟩:=I.b3;have ad:=af I;have aS:=af X;have O:=af b2;have P:=af b3;have ax:=af aF;clear I b2 b3 aF X S aE V aO;gi_wp2;refine⟨by simp, .inl ⟨_,_,rfl,run_takeDeferred aa.out,?_⟩⟩;have E:Fr (fun k=>some k=some D) W (W.putObj D (.deferred none)):=Fr.grown (grownBy_putObj' W D _);have ab:∀g t cs,aq W g t cs→¬(some g=some D):=fun g t cs z e=>by
   have am:g=D:=by simpa using e
   subst am;unfold aq at z;rw[aa.out]at z;cases z
  refine⟨_,oT _ _ g2 g3 g4 n a x.e rfl rfl rfl (O.out.fr E (ab _ _ _ O.out)) (P.out.fr E (ab _ _ _ P.out)) (ax.out.fr E (ab _ _ _ ax.out)),⟨_,_,_,rfl,?_,?_⟩⟩;·rw[aZ.out,beq_eq_false_iff_ne];have:=aS.out;omega
  ·refine ad.out.fr.aw E (fun i aN e=>?_);have am:i=D:=by simpa using e
   have:=aR.out;have:=az.out.fr.size;omega
theorem nf(s:ByteArray)(w:World)(g:s.size≤1099511627776):Calls Tryz.prog 151 #[.string s] w (aJ w (.bool (dc s))):=by
 have b:=af (AH s w g);go_enter Tryz.func151,Tryz.ntmps151;go_wp2_with fail;refine b.out.mono ?_;rintro e w1⟨n,a,k,rfl,c,f1⟩;have f:=af c;have d:=af f1;clear c f1 b;go_wp2;go_ret;rw[f.out];exact⟨rfl,d.out⟩
end Go.Proofs.YtphjagkehiklkaaGreatDoor
