/- Texts. -/
import Derived.LaidMore
import Derived.ProofKit
import Derived.Test.YtphjagkehiklkaaGreatDoorCards
import Derived.Test.YtphjagkehiklkaaGreatDoorUK07
set_option linter.unusedVariables false
set_option linter.unusedSimpArgs false
set_option maxRecDepth 100000
set_option maxHeartbeats 4000000
namespace Go.Proofs.YtphjagkehiklkaaGreatDoor
open Go.RowKit Go.Shelf
attribute[local go_sem]Oper.semAt_some
theorem uA{n:Nat}{P:Program}{row:String}{args:Array Value}{w:World}{a:Value→World→Prop}(h:Rows P row args w a):RowsIn Fence.wide n P row args w a:=
 fun c cs _=>let⟨v,w',q,s⟩:=h c cs;⟨v,w',q,stepsIn_wide.2 s⟩
theorem yy{n:Nat}{P:Program}{r:Oper}{a:Act}{w:World}{K j:Act→World→Prop}{Q Q':Exit→Act→World→Prop}(l:fN r=true)(b:∀a w,K a w→j a w)(g:∀e a w,Q e a w→Q' e a w)(h:r.wp P a w K Q):
  r.wpIn Fence.wide n P a w j Q':=by
 refine⟨fun _ _=>trivial,?_⟩;rw[Oper.semAt_plain _ _ _ (rB l)];unfold Oper.wp at h;generalize(execOp a.eval r).run P w=x at*;have c:(Fence.wide.depth.isSome=true→1≤n):=fun h=>(by cases h);rcases x with⟨x,w'⟩|⟨x,w'⟩
 ·cases x with
  |value v=>exact b _ _ h
  |skip=>exact b _ _ h
  |defer d=>exact b _ _ h
  |enter f args=>
   refine⟨c,callsIn_wide.2 (Calls.mono h fun e i he=>?_)⟩;cases e with
   |returned v=>exact b _ _ he
   |panicked ch=>exact g _ _ _ he
   |outgrown=>obtain⟨k,q,m⟩:=he;exact⟨k,q,g _ _ _ m⟩
  |row p args=>exact⟨c,uA (h.mono fun v i o=>b _ _ o)⟩
  |_=>exact absurd h id
 ·cases x<;>first|exact g _ _ _ h|exact absurd h id
theorem jM{n:Nat}{P:Program}{ops:Array Oper}{Q:Exit→Act→World→Prop}:∀{l:List Oper}{a:Act}{w:World},(l.all fN)=true→wpList P ops (fun e a w=>Q e a w∧e= .normal) l a w→wpListIn Fence.wide n P ops Q l a w
 |[],_,_,_,h=>h.1
 |g::rest,a,w,b,h=>by
  rw[List.all_cons,Bool.and_eq_true]at b;unfold wpList at h;unfold wpListIn;split
  ·rename_i hw;rw[if_pos hw]at h;rcases h with h|⟨_,f,w',c⟩;·exact yy b.1 (fun a w d=>jM b.2 d) (fun _ _ _ c=>c.1) h
   ·exact absurd c.2 (by simp)
  ·rename_i hw;rw[if_neg hw]at h;exact⟨fun _ _=>trivial,jM b.2 h⟩
theorem mR{n:Nat}{P:Program}{ops:Array Oper}{Q:Exit→Act→World→Prop}{d:Oper}{l:List Oper}{a:Act}{w:World}(f:Op→Bool)(b:f d.op=true)(c:((d::l).all fN)=true)(h:wpList P ops (fun e a w=>Q e a w∧e= .normal) (d::l) a w):wpListIn Fence.wide n P ops Q (d::l) a w:=
 jM c h
theorem At(s:ByteArray)(k at_:Nat)(u:k≤8)(t:at_≤s.size)(P:Part)(E:Nat)(a:ca k at_ (s.toList.drop at_)=(P,E)):
  (P.e≠0∧cM (8-k) at_ (s.toList.drop at_)=[P])∨(P.e=0∧k<8∧at_≤E∧E≤s.size∧
   ((E=s.size∧cM (8-k) at_ (s.toList.drop at_)=[P])∨(∃b,∃h:E<s.size,s[E]=b∧b.toNat≠46∧cM (8-k) at_ (s.toList.drop at_)=[P,⟨0,E,6⟩])∨
    (∃b,∃h:E<s.size,s[E]=b∧b.toNat=46∧cM (8-k) at_ (s.toList.drop at_)=P::cM (8-(k+1)) (E+1) (s.toList.drop (E+1))))):=by
 have hlen:(s.toList.drop at_).length=s.size-at_:=by rw[List.length_drop,ec]
 have r:=jZ 7 (s.toList.drop at_);have f:∀i b,(s.toList.drop at_)[i]? =some b→∃h:at_+i<s.size,s[at_+i]=b:=fun i b d=>by
  rw[List.getElem?_drop]at d;exact xl d
 have c:∀i,(s.toList.drop at_).drop i=s.toList.drop (at_+i):=fun i=>by rw[List.drop_drop]
 generalize s.toList.drop at_=l at*;by_cases o:k=8;·subst o;simp only[ca,if_true,Prod.mk.injEq]at a;obtain⟨rfl,rfl⟩:=a;exact .inl ⟨by simp,rfl⟩
 ·have p:8-k=(7-k)+1:=by omega
  rw[p,cM];simp only[show 7-(7-k)=k by omega,a];by_cases he:P.e=0
  ·rw[if_neg (by simp[he])];have j:E=at_+(cR 7 l).length:=by
    simp only[ca]at a;rw[if_neg o]at a;split at a;·simp only[Prod.mk.injEq]at a;rw[←a.1]at he;simp at he
    ·split at a;·simp only[Prod.mk.injEq]at a;rw[←a.1]at he;simp at he
     ·split at a;·simp only[Prod.mk.injEq]at a;rw[←a.1]at he;simp at he
      ·split at a;·simp only[Prod.mk.injEq]at a;rw[←a.1]at he;simp at he
       ·simp only[Prod.mk.injEq]at a;exact a.2.symm
   refine .inr ⟨he,by omega,by omega,by omega,?_⟩;by_cases m:l.length≤(cR 7 l).length;·rw[if_pos m];exact .inl ⟨by omega,rfl⟩
   ·rw[if_neg m];obtain⟨b,d⟩:∃b,l[(cR 7 l).length]? =some b:=⟨_,List.getElem?_eq_getElem (by omega)⟩;obtain⟨q,n⟩:=f _ _ d;rw[d];by_cases g:b=46
    ·rw[if_neg (by simp[g])];refine .inr (.inr ⟨b,by omega,?_,by rw[g];rfl,?_⟩);·subst j;exact n
     ·rw[c,←j,show at_+((cR 7 l).length+1)=E+1 by omega,show 7-k=8-(k+1)by omega]
    ·rw[if_pos (by simpa using g)];refine .inr (.inl ⟨b,by omega,?_,?_,?_⟩);·subst j;exact n
     ·intro h;exact g (UInt8.toNat_inj.1 h)
     ·rw[j]
  ·rw[if_pos he];exact .inl ⟨he,rfl⟩
def KP(A B:World):Prop:=∀g t cs,t=9∨t=270→ak A g t cs→ak B g t cs
theorem KP.refl(A:World):KP A A:=fun _ _ _ _ h=>h
theorem KP.trans{A B C:World}(h:KP A B)(k:KP B C):KP A C:=fun g t cs a b=>k g t cs a (h g t cs a b)
theorem KP.fr{A B:World}{T:Nat→Prop}(h:Fr T A B)(b:∀g t cs,t=9∨t=270→ak A g t cs→¬T g):KP A B:=fun g t cs c a=>a.fr h (b g t cs c a)
theorem KP.below{A B:World}(h:Below A.heap.size A B):KP A B:=fun g _ _ _ a=>(h.block g a.lt).trans a
def yu:Op→Bool
 | .load t _=>t==9
 |_=>false
theorem p9(m B:Nat)(s:ByteArray)(w:World)(aJ:s.size≤1099511627776)(aF:ak w B 9 #[.string s]):
  SeqStopsK Fence.wide m Tryz.prog 182 #[.pointer (some ⟨B,0,none⟩)] (fun p:Part=>#[Value.agg #[.int .i64 p.ord, .int .i64 p.at_, .int .i64 p.e]]) KP (fun aW=>aW=eS s) (fun pre=>pre<+:eS s) (eS s).length w:=by
 intro l J aY W aH aG _ aI aE;have O:∀k:Nat,(Fence.wide.depth.isSome=true→1≤k):=fun k h=>by cases h
 have aN:=Lib.hid aG;have ay:=Lib.hid aI;have ax:=Lib.hid aJ;have HB:Hid (ak W B 9 #[.string s]):=KP.below aH _ _ _ (.inl rfl) aF;have b0:W.cell? ⟨B,0,none⟩=some (.string s):=HB.out.cell 0;have ae:=Lib.hid aE;clear aH aG aI aE aJ aF;by_cases C:s.size=0
 ·have o:Hid (eS s=[]):=by simp only[Hid];rw[eS,if_pos C]
  have an:s=ByteArray.empty:=by
   cases s with
   |mk d=>
    have aQ:d.size=0:=C;rw[show d=#[]from Array.eq_empty_of_size_eq_zero aQ];rfl
  subst an;clear C;refine callsIn_of_wp Tryz.func182 rfl trivial ?_ rfl;simp only[Tryz.ntmps182,List.size_toArray,List.length_cons,List.length_nil,Nat.reduceAdd,Nat.reduceSub,Array.replicate_succ,Array.replicate_zero,List.push_toArray,List.append_toArray,List.nil_append,List.cons_append];gi_wp2;refine wpIn_loop_once ?_;gi_wp2;go_end0;exact⟨⟨_,rfl⟩, .inl ⟨_,o.out.symm,ae.out⟩⟩
 ·have o:Hid (eS s=cM 8 0 s.toList):=by simp only[Hid];rw[eS,if_neg C]
  have aV:s.toList.isEmpty=false:=by
   rw[List.isEmpty_eq_false_iff];intro h;have:=congrArg List.length h;rw[ec]at this;exact C (by simpa using this)
  have au:=Lib.hid (fun at_ k w V aj=>zP s at_ k w V ax.out aj);clear C;refine callsIn_of_wp Tryz.func182 rfl trivial ?_ rfl;simp only[Tryz.ntmps182,List.size_toArray,List.length_cons,List.length_nil,Nat.reduceAdd,Nat.reduceSub,Array.replicate_succ,Array.replicate_zero,List.push_toArray,List.append_toArray,List.nil_append,List.cons_append];gi_wp2;gi_loopw[3,4](fun i n wr=>∃(k at_:Nat)(pre:List Part),k≤8∧at_≤s.size∧eS s=pre++cM (8-k) at_ (s.toList.drop at_)∧pre.length=k∧i= .int .i64 (at_:Nat)∧n= .int .i64 (k:Nat)∧J pre wr∧KP W wr)(fun _ n _=>9-(intOf n).toNat);case atStart=>exact⟨0,0,[],by omega,by omega,by rw[o.out];rfl,rfl,rfl,rfl,ae.out,KP.refl _⟩
  case round=>
   obtain⟨k,at_,pre,Y,X,S,R,rfl,rfl,M,u⟩:=hrel;have G:=Lib.hid M;have H:=Lib.hid u;have a:=Lib.hid S;have ad:=Lib.hid R;have aD:wr.cell? ⟨B,0,none⟩=some (.string s):=(u _ _ _ (.inl rfl) HB.out).cell 0;have t:=Lib.hid (au.out at_ k wr X Y);obtain⟨P,E,v⟩:∃P E,ca k at_ (s.toList.drop at_)=(P,E):=⟨_,_,rfl⟩;have c:=Lib.hid (At s k at_ Y X P E v);rw[v]at t;have aX:=Lib.hid X;have ac:=Lib.hid Y;clear M u S R v au b0 ae o X Y;gi_wp2_with(refine mR yu rfl (by kernel_rfl) ?_);go_wp2;gi_wp2_with(refine mR yu rfl (by kernel_rfl) ?_);go_wp2_with fail;refine t.out.mono ?_;rintro e w1⟨rfl,f1⟩;have aa:=Lib.hid f1;clear f1 aD t;go_wp2_with(refine ai rfl 270 rfl (.agg mA) se mA rfl ?_);intro w2 aq;have av:=Lib.hid (aa.out.trans aq.fr);have ar:=Lib.hid aq.az;have aO:Sz wr w1.heap.size:=aa.out.size;clear aq aa;generalize w1.heap.size=g1 at*;go_wp2_with(refine ah rfl 270 (.tmp 5) _ rfl g1 (aZ P) rfl rfl _ _ ar.out bG rfl (cD _) ?_);intro D b3 f3;have ab:Hid (Fr af wr D):=av.out.ao f3 (fun i a2 e=>by have a1:i=g1:=e;have:=aO;unfold Sz at this;omega);have F:=Lib.hid b3;clear b3 f3 av ar;go_wp2;have aA:=Lib.hid (aN.out pre wr D none G.out (Fr.Gs ab.out) (fun r e=>by cases e));have aB:=Lib.hid (H.out.trans (KP.fr ab.out (fun _ _ _ _ _ x=>x)));have q:pre.length<(eS s).length:=by
    rw[a.out,List.length_append];have:0<(cM (8-k) at_ (s.toList.drop at_)).length:=by
     rcases c.out with⟨_,h⟩|⟨_,_,_,_,⟨_,h⟩|⟨_,_,_,_,h⟩|⟨_,_,_,_,h⟩⟩<;>(rw[h];simp)
    omega
   obtain⟨fn,tmps,assign,body,Z,N⟩:=ay.out pre P D aA.out q;have I:=Lib.hid N;have aT:D.cell? ⟨g1,0,none⟩=some (.int .i64 P.ord):=F.out.cell 0;have aU:D.cell? ⟨g1,1,none⟩=some (.int .i64 P.at_):=F.out.cell 1;have aK:D.cell? ⟨g1,2,none⟩=some (.int .i64 P.e):=F.out.cell 2;clear N q aA G H;gi_wp2;refine⟨O _,I.out.mono ?_⟩;clear I Z aT aU aK fn tmps assign body;rintro e A(⟨rfl,K,y⟩|⟨rfl,T⟩)
   ·have z:=Lib.hid K;have aC:=Lib.hid (aB.out.trans y);have aL:Hid (ak A g1 270 (aZ P)):=y _ _ _ (.inr rfl) F.out;have aD:A.cell? ⟨B,0,none⟩=some (.string s):=(aC.out _ _ _ (.inl rfl) HB.out).cell 0;have aK:A.cell? ⟨g1,2,none⟩=some (.int .i64 P.e):=aL.out.cell 2;clear K y aB ab F;rcases c.out with⟨he,g⟩|⟨he,Q,am,hE2,aP⟩
    ·have t1:((P.e:Int)==0)=false:=by rw[beq_eq_false_iff_ne];omega
     have j:=Lib.hid g;have aR:¬P.e=0:=he;clear c g he;gi_wp2;refine bodyPost_ret (results_none rfl _ _ _) rfl ?_;exact⟨⟨_,rfl⟩, .inl ⟨_,by rw[a.out,j.out],z.out⟩⟩
    ·have t1:((P.e:Int)==0)=true:=by rw[beq_iff_eq];omega
     have aM:Hid (E≤s.size):=hE2;have aw:=Lib.hid Q;have aS:P.e=0:=he;clear he am hE2 Q;rcases aP with⟨he,g⟩|⟨b,V,aj,al,g⟩|⟨b,V,aj,al,g⟩
     ·have t2:((E:Int)==(s.size:Int))=true:=by rw[beq_iff_eq];omega
      have j:=Lib.hid g;clear c g he;gi_wp2;refine bodyPost_ret (results_none rfl _ _ _) rfl ?_;exact⟨⟨_,rfl⟩, .inl ⟨_,by rw[a.out,j.out],z.out⟩⟩
     ·have t2:((E:Int)==(s.size:Int))=false:=by rw[beq_eq_false_iff_ne];omega
      have t3:(E:Int)<(s.size:Int):=by omega
      have t4:(0:Int)≤(E:Int):=by omega
      have t5:((b.toNat:Int)==46)=false:=by rw[beq_eq_false_iff_ne];omega
      have j:=Lib.hid g;have f:(pre++[P]).length<(eS s).length:=by rw[a.out,j.out];simp
      obtain⟨fn,tmps,assign,body,Z,N⟩:=ay.out (pre++[P]) ⟨0,E,6⟩ A z.out f;have I:=Lib.hid N;have ap:(Instr.yield l #[.agg #[.int .i64 0, .int .i64 (E:Int), .int .i64 6]]).run Tryz.prog A= .ok (.round l fn tmps assign body) A:=Z;clear c g al N f Z;gi_wp2;refine⟨O _,I.out.mono ?_⟩;clear I ap;rintro e a0(⟨rfl,L,_⟩|⟨rfl,U⟩);·have ag:=Lib.hid L;clear L;gi_wp2;refine bodyPost_ret (results_none rfl _ _ _) rfl ?_;exact⟨⟨_,rfl⟩, .inl ⟨_,by rw[a.out,j.out];simp,ag.out⟩⟩
      ·have ag:=Lib.hid U;clear U;gi_wp2;refine bodyPost_ret (results_none rfl _ _ _) rfl ?_;exact⟨⟨_,rfl⟩, .inr ⟨_,by rw[a.out,j.out];simp,ag.out⟩⟩
     ·have t2:((E:Int)==(s.size:Int))=false:=by rw[beq_eq_false_iff_ne];omega
      have t3:(E:Int)<(s.size:Int):=by omega
      have t4:(0:Int)≤(E:Int):=by omega
      have t5:((b.toNat:Int)==46)=true:=by rw[beq_iff_eq];omega
      have t6:E≤1099511627776:=by have:=ax.out;omega
      have t7:k≤8:=ac.out;have j:=Lib.hid g;have H1:=Lib.hid V;clear c g al;gi_wp2;go_roundw;case rel=>
       refine⟨k+1,E+1,pre++[P],by have:=aw.out;omega,by have:=H1.out;omega,by rw[a.out,j.out];simp,by rw[List.length_append,ad.out];rfl,by go_num,by go_num,z.out,aC.out⟩
      case measure=>have:=aw.out;simp[intOf];omega
   ·have z:=Lib.hid T;clear T;gi_wp2;refine bodyPost_ret (results_none rfl _ _ _) rfl ?_;refine⟨⟨_,rfl⟩, .inr ⟨_,?_,z.out⟩⟩;rw[a.out];rcases c.out with⟨_,h⟩|⟨_,_,_,_,⟨_,h⟩|⟨_,_,_,_,h⟩|⟨_,_,_,_,h⟩⟩<;>(rw[h];simp)
end Go.Proofs.YtphjagkehiklkaaGreatDoor
namespace Go.Proofs.YtphjagkehiklkaaGreatDoor
open Go.RowKit Go.Shelf
attribute[local go_sem]Oper.semAt_some
theorem tG(s:ByteArray)(w:World):Calls Tryz.prog 179 #[.string s] w fun r w'=>r= .returned (.func (.func 182) #[] #[.pointer (some ⟨w.heap.size,0,none⟩)])∧Fr af w w'∧ak w' w.heap.size 9 #[.string s]:=by
 go_enter Tryz.func179,Tryz.ntmps179;go_wp2_with(refine au rfl 9 (.tmp 0) rfl #[.string s] rfl ?_);intro w1 n1;have a:=Lib.hid n1;clear n1;go_wp2;go_ret;exact⟨rfl,a.out.fr,a.out.az⟩
theorem rK{ws:List (Nat×(World→Prop))}{M:World→Prop}(h:∀x∈ws,x.2=M){d:Nat→Bool}{w:World}(a:cI ws M d w):M w:=by
 induction ws with
 |nil=>exact a
 |cons x r f=>
  obtain⟨p,b⟩:=x;have e:b=M:=h _ List.mem_cons_self;subst e;unfold cI at a;split at a;·exact f (fun y c=>h y (List.mem_cons_of_mem _ c)) a
  ·exact a
theorem tE:∀(n at_:Nat)(l:List UInt8),(cM n at_ l).length≤n+1
 |0,_,_=>by simp[cM]
 |n+1,at_,l=>by
  rw[cM];simp only;split;·simp
  ·split;·simp
   ·split;·simp
    ·have:=tE n (at_+(cR 7 l).length+1) (l.drop ((cR 7 l).length+1));simp only[List.length_cons];omega
theorem tD(s:ByteArray):(eS s).length≤9:=by
 unfold eS;split;·simp
 ·exact tE 8 0 _
theorem KP.put(W:World)(l:Nat)(f b:Obj)(h:W.heap[l]? =some f)(d:f.isCells=false):KP W (W.putObj l b):=
 KP.fr (Fr.grown (grownBy_putObj' W l b)) (fun g t cs _ a e=>by
  have c:g=l:=by simpa using e
  subst c;unfold ak at a;rw[a]at h;cases h;simp[Obj.isCells]at d)
structure IK(a b W:World):Prop where
 fr:Fr af a W
 kp:KP b W
theorem lO{A B:World}{row:Option Nat}{N:Nat}(f:A.grownBy B row)(i:∀r,row=some r→N≤r∧∃j:Obj,A.heap[r]? =some j∧j.isCells=false):
  Fr (fun k=>some k=row) A B∧KP A B∧(∀g t cs,ak A g t cs→ak B g t cs):=by
 have b:Fr (fun k=>some k=row) A B:=Fr.grown f;have a:∀g t cs,ak A g t cs→ak B g t cs:=fun g t cs a=>a.fr b (fun e=>by
  obtain⟨_,j,c,d⟩:=i g e.symm;unfold ak at a;rw[a]at c;cases c;simp[Obj.isCells]at d);exact⟨b,fun g t cs _ h=>a g t cs h,a⟩
def yt:Op→Bool
 | .alloc _=>true
 |_=>false
theorem He(w:World):(zeroValue 41).run Tryz.prog w= .ok (.string ByteArray.empty) w:=by kernel_rfl
theorem Hd(w:World):(zeroValue 3).run Tryz.prog w= .ok (.int .i64 0) w:=by kernel_rfl
theorem Hc(w:World):(zeroValue 34).run Tryz.prog w= .ok (.int .i64 0) w:=by kernel_rfl
theorem wQ:(Tryz.prog.info? 41).map (·.size)=some 1:=by kernel_rfl
theorem wO:(Tryz.prog.info? 3).map (·.size)=some 1:=by kernel_rfl
theorem wN:(Tryz.prog.info? 34).map (·.size)=some 1:=by kernel_rfl
structure pD(b c:World)(g2 g3 g4:Nat)(W:World):Prop where
 fr:Fr af b W
 kp:KP c W
 b2:∃n,ak W g2 41 #[.string n]
 b3:∃a,ak W g3 3 #[.int .i64 a]
 b4:∃k,ak W g4 34 #[.int .i64 k]
theorem pD.later{b c A B:World}{g2 g3 g4:Nat}(h:pD b c g2 g3 g4 A)(f:Fr af A B):pD b c g2 g3 g4 B:=
 ⟨h.fr.trans f,h.kp.trans (KP.fr f (fun _ _ _ _ _ x=>x)),by obtain⟨n,a⟩:=h.b2;exact⟨n,a.fr f (fun x=>x)⟩,by obtain⟨n,a⟩:=h.b3;exact⟨n,a.fr f (fun x=>x)⟩,by obtain⟨n,a⟩:=h.b4;exact⟨n,a.fr f (fun x=>x)⟩⟩
theorem pD.grown{c f A B:World}{g2 g3 g4:Nat}{row:Option Nat}{N:Nat}(h:pD c f g2 g3 g4 A)(j:A.grownBy B row)(d:∀r,row=some r→N≤r∧∃o:Obj,A.heap[r]? =some o∧o.isCells=false)(l:c.heap.size≤N):pD c f g2 g3 g4 B:=by
 obtain⟨g,k,b⟩:=lO j d;exact⟨h.fr.ao g (fun i m e=>by have:=(d i e.symm).1;omega),h.kp.trans k,by obtain⟨n,a⟩:=h.b2;exact⟨n,b _ _ _ a⟩,by obtain⟨n,a⟩:=h.b3;exact⟨n,b _ _ _ a⟩,by obtain⟨n,a⟩:=h.b4;exact⟨n,b _ _ _ a⟩⟩
theorem dC{P:Program}(w:World)(g:Nat)(t ty:TypeId)(v:Value)(d:ak w g t #[v])(a:(P.info? ty).map (·.size)=some 1)(b:(isAgg ty).run P w= .ok false w):
  (loadVar ty ⟨g,0,none⟩).run P w= .ok v w:=by
 have c:w.cell? ⟨g,0,none⟩=some v:=d.cell 0;simp[loadVar,b,go_sem,c]
theorem nI(tmps:Array Value)(w:World)(g2 g3 g4:Nat)(n:ByteArray)(a k:Int)
  (e:tmps.getD 2 undef= .pointer (some ⟨g2,0,none⟩))(f:tmps.getD 3 undef= .pointer (some ⟨g3,0,none⟩))(g:tmps.getD 4 undef= .pointer (some ⟨g4,0,none⟩))
  (b2:ak w g2 41 #[.string n])(b3:ak w g3 3 #[.int .i64 a])(b4:ak w g4 34 #[.int .i64 k]):
  (results Tryz.f174 tmps).run Tryz.prog w= .ok (.tuple #[.string n, .int .i64 a, .int .i64 k]) w:=by
 have b:tmps[2]?.getD undef= .pointer (some ⟨g2,0,none⟩):=by simpa using e
 have c:tmps[3]?.getD undef= .pointer (some ⟨g3,0,none⟩):=by simpa using f
 have d:tmps[4]?.getD undef= .pointer (some ⟨g4,0,none⟩):=by simpa using g
 simp[results,Tryz.results174,b,c,d,asAddr,dC w g2 _ _ _ b2 wQ (Tryz.isAgg41 w),dC w g3 _ _ _ b3 wO (Tryz.isAgg3 w),dC w g4 _ _ _ b4 wN (Tryz.isAgg34 w)]
def Gj(w:World)(s:ByteArray)(r:Ending)(w':World):Prop:=∃n a k,r= .returned (.tuple #[.string n, .int .i64 a, .int .i64 k])∧(k==0)=cC s∧Fr af w w'
theorem zo(s:ByteArray)(w:World)(bp:s.size≤1099511627776):Calls Tryz.prog 174 #[.string s] w (Gj w s):=by
 have bu:=Lib.hid bp;clear bp;refine(callsIn_wide (n:=6)).1 (callsIn_of_wp_marks Tryz.func174 rfl trivial (wpIn_wide.2 ?_) rfl);simp only[Tryz.ntmps174,List.size_toArray,List.length_cons,List.length_nil,Nat.reduceAdd,Nat.reduceSub,Array.replicate_succ,Array.replicate_zero,List.push_toArray,List.append_toArray,List.nil_append,List.cons_append];go_wp2_with(refine ai rfl 41 rfl (.string ByteArray.empty) He #[.string ByteArray.empty] rfl ?_);intro a2 ae;have ax:=Lib.hid ae.fr;have R:=Lib.hid ae.az;have bk:Sz w w.heap.size:=Nat.le_refl _;clear ae;generalize w.heap.size=g2 at*;go_wp2_with(refine ai rfl 3 rfl (.int .i64 0) Hd #[.int .i64 0] rfl ?_);intro aN nb;have U:=Lib.hid (ax.out.trans nb.fr);have au:=Lib.hid (R.out.fr nb.fr (fun x=>x));have S:=Lib.hid nb.az;have bl:Sz w a2.heap.size:=ax.out.size;clear nb R ax;generalize a2.heap.size=g3 at*;go_wp2_with(refine ai rfl 34 rfl (.int .i64 0) Hc #[.int .i64 0] rfl ?_);intro w2 aG;have a6:=Lib.hid (U.out.trans aG.fr);have O:=Lib.hid (au.out.fr aG.fr (fun x=>x));have P:=Lib.hid (S.out.fr aG.fr (fun x=>x));have Q:=Lib.hid aG.az;have bm:Sz w aN.heap.size:=U.out.size;clear aG au S U;generalize aN.heap.size=g4 at*;have a5:Hid (pD w w2 g2 g3 g4 w2):=⟨a6.out,KP.refl _,⟨_,O.out⟩,⟨_,P.out⟩,⟨_,Q.out⟩⟩;have NE:Hid (g2≠g3∧g2≠g4∧g3≠g4):=by
  refine⟨?_,?_,?_⟩<;>(rintro rfl);·have z:=O.out;have c:=P.out;unfold ak at z c;rw[z]at c;cases c
  ·have z:=O.out;have c:=Q.out;unfold ak at z c;rw[z]at c;cases c
  ·have z:=P.out;have c:=Q.out;unfold ak at z c;rw[z]at c;cases c
 clear O P Q a6;go_wp2_with fail;refine(tG s _).mono ?_;rintro r bH⟨rfl,f3,b3⟩;have aw:=Lib.hid (a5.out.later f3);have bs:=Lib.hid b3;clear f3 b3 a5;generalize w2.heap.size=gs at*;go_wp2_with fail;refine(wpIn_wide (n:=6)).1 ?_;refine wpIn_rangeFunc_ownH rfl (by omega) (gf:=182) (lb:=#[.pointer (some ⟨gs,0,none⟩)]) rfl trivial (enters_of Tryz.func182 (by kernel_rfl) rfl)
  (p9 5 gs s bH bu.out bs.out) (fun h k=>h.trans k) (fun W l o bE _ Y aE _=>KP.put W l o bE Y aE) (Below.refl _ _) (fun _=>rfl)
  (fun pre W=>pD w w2 g2 g3 g4 W∧∀y∈pre,y.e=0) (fun aV pre W=>pD w w2 g2 g3 g4 W∧∃x∈pre,x.e≠0∧ak W g4 34 #[.int .i64 x.e]∧aV= .ret) (fun pre A B row h ap aq=>⟨h.1.grown ap aq aw.out.fr.size,h.2⟩) (fun aV pre A B row h ap aq=>by obtain⟨z,x,aL,aa,C,aE⟩:=h;exact⟨z.grown ap aq aw.out.fr.size,x,aL,aa,(lO ap aq).2.2 _ _ _ C,aE⟩) ⟨aw.out,by simp⟩
  (fun x aU W=>∃g,aU=({tmps:=#[.string s,undef, .pointer (some ⟨g2,0,none⟩), .pointer (some ⟨g3,0,none⟩), .pointer (some ⟨g4,0,none⟩), .pointer (some ⟨g,0,none⟩), .string s, .func (.func 182) #[] #[.pointer (some ⟨gs,0,none⟩)], .agg #[.int .i64 x.ord, .int .i64 x.at_, .int .i64 x.e],undef,undef,undef,undef,undef,undef,undef,undef],defers:=[]}:Act)∧ak W g 270 (aZ x))
  (fun x aU _ A B row h ap aq=>by
   obtain⟨g,e,C⟩:=h;exact⟨g,e,(lO ap aq).2.2 _ _ _ C⟩)
  ?assign ?body ?done ?stop;case assign=>
  intro l pre x W K N V;have bt:=Lib.hid V;have ay:=Lib.hid N;clear V N;gi_wp2_with(refine bN yt rfl (by kernel_rfl) ?_);go_wp2_with(refine ai rfl 270 rfl (.agg mA) se mA rfl ?_);intro a2 ae;have ax:=Lib.hid ae.fr;have br:=Lib.hid ae.az;have bx:Sz W W.heap.size:=Nat.le_refl _;clear ae;generalize W.heap.size=g at*;go_wp2_with(refine ah rfl 270 (.tmp 5) _ rfl g (aZ x) rfl rfl _ _ br.out bG rfl (cD x) ?_);intro aN bb bz;have U:Fr af W aN:=ax.out.ao bz (fun i aK e=>by have am:i=g:=e;have:=bx;unfold Sz at this;omega);refine⟨?_,rfl⟩;refine bt.out _ _ ⟨U.size,fun k o _ Y _=>(U.block k (Array.getElem?_eq_some_iff.1 Y).1 (fun x=>x)).trans Y⟩ (KP.fr U (fun _ _ _ _ _ x=>x)) (⟨ay.out.1.later U,ay.out.2⟩) ⟨g,rfl,bb⟩
 case body=>
  rintro bJ pre x aU W bB aY N⟨g,rfl,v⟩a0;have ay:=Lib.hid N;have T:=Lib.hid N.1;have a3:=Lib.hid v;have bK:W.cell? ⟨g,2,none⟩=some (.int .i64 x.e):=v.cell 2;have a9:Hid (¬(g=g2∨g=g3)):=by
   rintro(rfl|rfl);·obtain⟨n,b⟩:=N.1.b2;unfold ak at v b;rw[v]at b;cases b
   ·obtain⟨n,b⟩:=N.1.b3;unfold ak at v b;rw[v]at b;cases b
  clear N v a0 bB aY;by_cases aa:x.e=0
  ·have a1:((x.e:Int)==0)=true:=by rw[beq_iff_eq];omega
   gi_wp2;refine⟨KeepsFrom.refl _ _,KP.refl _,ay.out.1,?_⟩;intro y bD;rcases List.mem_append.1 bD with h|h;·exact ay.out.2 y h
   ·rw[List.mem_singleton.1 h];exact aa
  ·have a1:((x.e:Int)==0)=false:=by rw[beq_eq_false_iff_ne];omega
   have aQ:=Lib.hid aa;gi_wp2;refine nP 6 (fun k=>k=g2∨k=g3) [Is (.pointer (some ⟨g,1,none⟩)),Is (.int .i64 x.at_),Is (.pointer (some ⟨g,2,none⟩)),Is (.int .i64 x.e),(fun _ _=>True),(fun _ _=>True)] [(4,(fun W'=>(∃n,ak W' g2 41 #[.string n])∧(∃a,ak W' g3 3 #[.int .i64 a])∧∃k,ak W' g4 34 #[.int .i64 k])),(5,(fun W'=>(∃n,ak W' g2 41 #[.string n])∧(∃a,ak W' g3 3 #[.int .i64 a])∧∃k,ak W' g4 34 #[.int .i64 k]))] (fun W'=>(∃n,ak W' g2 41 #[.string n])∧(∃a,ak W' g3 3 #[.int .i64 a])∧∃k,ak W' g4 34 #[.int .i64 k]) (fun i j=>i==4&&j==5) (by kernel_rfl) (by kernel_rfl) (by kernel_rfl) (by kernel_rfl) (by kernel_rfl) ⟨Is.ag _,Is.ag _,Is.ag _,Is.ag _,fun _ _ _ _ _ h=>h,fun _ _ _ _ _ h=>h,trivial⟩ ⟨(fun _ _ _ m h=>⟨(by obtain⟨a,f⟩:=h.1;exact⟨a,f.fr m (fun x=>x)⟩),(by obtain⟨a,f⟩:=h.2.1;exact⟨a,f.fr m (fun x=>x)⟩),(by obtain⟨a,f⟩:=h.2.2;exact⟨a,f.fr m (fun x=>x)⟩)⟩),(fun _ _ _ m h=>⟨(by obtain⟨a,f⟩:=h.1;exact⟨a,f.fr m (fun x=>x)⟩),(by obtain⟨a,f⟩:=h.2.1;exact⟨a,f.fr m (fun x=>x)⟩),(by obtain⟨a,f⟩:=h.2.2;exact⟨a,f.fr m (fun x=>x)⟩)⟩),trivial⟩ (fun _ _ _ m h=>⟨(by obtain⟨a,f⟩:=h.1;exact⟨a,f.fr m (fun x=>x)⟩),(by obtain⟨a,f⟩:=h.2.1;exact⟨a,f.fr m (fun x=>x)⟩),(by obtain⟨a,f⟩:=h.2.2;exact⟨a,f.fr m (fun x=>x)⟩)⟩) ⟨T.out.b2,T.out.b3,T.out.b4⟩ ?_ ?_
   ·refine⟨fun u w' d m hR I H E=>?_,fun u w' d m hR I H E=>?_,fun u w' d m hR I H E=>?_,fun u w' d m hR I H E=>?_,fun u w' d m hR I H E=>?_,fun u w' d m hR I H E=>?_,trivial⟩;all_goals simp only[List.take_succ_cons,List.take_zero,List.map_cons,List.map_nil,an,Act.put,List.setIfInBounds_toArray,List.set_cons_zero,List.set_cons_succ,Nat.reduceAdd,Nat.zero_add]
    ·clear hR I H E;refine .inl ⟨by kernel_rfl,?_⟩;go_simp;exact⟨_,rfl,Fr.refl _ _,rfl,trivial⟩
    ·have bA:u 0=_:=hR 0 (by kernel_rfl);clear hR I H E;simp only[bA];refine .inl ⟨by kernel_rfl,?_⟩;have q:w'.cell? ⟨g,1,none⟩=some _:=(a3.out.fr m a9.out).cell 1;go_simp;exact⟨_,rfl,Fr.refl _ _,rfl,trivial⟩
    ·clear hR I H E;refine .inl ⟨by kernel_rfl,?_⟩;go_simp;exact⟨_,rfl,Fr.refl _ _,rfl,trivial⟩
    ·have c:u 2=_:=hR 2 (by kernel_rfl);clear hR I H E;simp only[c];refine .inl ⟨by kernel_rfl,?_⟩;have q:w'.cell? ⟨g,2,none⟩=some _:=(a3.out.fr m a9.out).cell 2;go_simp;exact⟨_,rfl,Fr.refl _ _,rfl,trivial⟩
    ·clear hR I H;refine .inl ⟨by kernel_rfl,?_⟩;obtain⟨⟨n,c⟩,J,L⟩:=rK (by simp) E;refine gP 41 (.tmp 2) _ rfl g2 0 (.string ByteArray.empty) rfl rfl rfl wQ _ _ #[.string ByteArray.empty] c (by simp) rfl ?_;intro aO al G;refine⟨_,rfl,G.mono (fun i _ h=> .inl h),trivial,⟨_,al⟩,?_,?_⟩;·obtain⟨a,f⟩:=J;exact⟨a,f.fr G (fun e=>NE.out.1 e.symm)⟩
     ·obtain⟨a,f⟩:=L;exact⟨a,f.fr G (fun e=>NE.out.2.1 e.symm)⟩
    ·have z:u 1=_:=hR 1 (by kernel_rfl);clear hR I H;simp only[z];refine .inl ⟨by kernel_rfl,?_⟩;obtain⟨c,⟨n,J⟩,L⟩:=rK (by simp) E;refine gP 3 (.tmp 3) _ rfl g3 0 (.int .i64 x.at_) rfl rfl rfl wO _ _ #[.int .i64 x.at_] J (by simp) rfl ?_;intro aO al G;refine⟨_,rfl,G.mono (fun i _ h=> .inr h),trivial,?_,⟨_,al⟩,?_⟩;·obtain⟨a,f⟩:=c;exact⟨a,f.fr G (fun e=>NE.out.1 e)⟩
     ·obtain⟨a,f⟩:=L;exact⟨a,f.fr G (fun e=>NE.out.2.2 e.symm)⟩
   ·intro u w' m hR E;have bq:u 3=_:=hR 3 (by omega);obtain⟨c,J,k,L⟩:=E;have aR:=Lib.hid c;have aS:=Lib.hid J;have aT:=Lib.hid L;have bv:=Lib.hid m;clear hR c J L m;simp only[List.take_succ_cons,List.take_zero,List.map_cons,List.map_nil,an,Act.put,List.setIfInBounds_toArray,List.set_cons_zero,List.set_cons_succ,List.drop_succ_cons,List.drop_zero,Nat.reduceAdd,Nat.zero_add,bq];clear bq;go_wp2_with(refine aM rfl 34 (.tmp 4) _ rfl g4 0 (.int .i64 x.e) rfl rfl rfl wN _ _ #[.int .i64 x.e] aT.out (by simp) rfl ?_);intro aO al G;have ab:Fr (fun k=>k=g2∨k=g3∨k=g4) W aO:=(bv.out.mono (fun i _ h=>h.elim .inl (fun h=> .inr (.inl h)))).trans (G.mono (fun i _ h=> .inr (.inr h)));have a4:∀k,k=g2∨k=g3∨k=g4→∃t cs,ak W k t cs∧t≠9∧t≠270:=by
     rintro k(rfl|rfl|rfl);·obtain⟨n,b⟩:=T.out.b2;exact⟨_,_,b,by decide,by decide⟩
     ·obtain⟨n,b⟩:=T.out.b3;exact⟨_,_,b,by decide,by decide⟩
     ·obtain⟨n,b⟩:=T.out.b4;exact⟨_,_,b,by decide,by decide⟩
    have bw:KP W aO:=KP.fr ab (fun q t cs bC C aF=>by
     obtain⟨bF,cs',p,z,c⟩:=a4 q aF;unfold ak at C p;rw[C]at p;cases p;rcases bC with rfl|rfl;·exact z rfl
     ·exact c rfl);refine⟨?_,rfl⟩;gi_wp2;refine⟨⟨ab.size,fun q o bI Y aE=>(ab.block q (Array.getElem?_eq_some_iff.1 Y).1 (fun aF=>?_)).trans Y⟩,⟨⟨?_,T.out.kp.trans bw,?_,?_,⟨_,al⟩⟩,x,by simp,aQ.out,al,rfl⟩⟩;·obtain⟨bF,cs',p,_,_⟩:=a4 q aF;unfold ak at p;rw[Y]at p;cases p;simp[Obj.isCells]at aE
    ·exact T.out.fr.ao ab (fun i aK e=>by
      have c:=bk;have J:=bl;have L:=bm;unfold Sz at c J L;omega)
    ·obtain⟨n,b⟩:=aR.out;exact⟨n,b.fr G (fun e=>NE.out.2.1 e)⟩
    ·obtain⟨n,b⟩:=aS.out;exact⟨n,b.fr G (fun e=>NE.out.2.2 e)⟩
 case done=>
  rintro D xs W aC rfl N V;obtain⟨M,X⟩:=N;have F:Fr (fun k=>some k=some D) W (W.putObj D (.deferred none)):=Fr.grown (grownBy_putObj' W D _);have ac:=Lib.hid V;have aW:Hid (cC s=true):=by
   simp only[Hid,cC,List.all_eq_true,beq_iff_eq];exact X
  obtain⟨n,b2⟩:=M.b2;obtain⟨a,b3⟩:=M.b3;obtain⟨k,b4⟩:=M.b4;have R:=Lib.hid b2;have S:=Lib.hid b3;have av:=Lib.hid b4;have aj:=Lib.hid M;have aP:=Lib.hid aC;clear F M b2 b3 b4 aC V X;go_wp2_with(refine aM rfl 41 (.tmp 2) _ rfl g2 0 (.string s) rfl rfl rfl wQ _ _ #[.string s] R.out (by simp) rfl ?_);intro bL bn aH;have bf:=Lib.hid (S.out.fr aH (fun e=>NE.out.1 e.symm));have bg:=Lib.hid (av.out.fr aH (fun e=>NE.out.2.1 e.symm));have be:=Lib.hid bn;have a7:=Lib.hid aH;clear bn aH R S av;go_wp2_with(refine aM rfl 3 (.tmp 3) _ rfl g3 0 (.int .i64 0) rfl rfl rfl wO _ _ #[.int .i64 0] bf.out (by simp) rfl ?_);intro bM aB aI;have bh:=Lib.hid (be.out.fr aI (fun e=>NE.out.1 e));have bj:=Lib.hid (bg.out.fr aI (fun e=>NE.out.2.2 e.symm));have bi:=Lib.hid aB;have a8:=Lib.hid aI;clear aB aI be bf bg;go_wp2_with(refine aM rfl 34 (.tmp 4) _ rfl g4 0 (.int .i64 0) rfl rfl rfl wN _ _ #[.int .i64 0] bj.out (by simp) rfl ?_);intro ar bo aJ;have ba:=Lib.hid (bh.out.fr aJ (fun e=>NE.out.2.1 e));have bc:=Lib.hid (bi.out.fr aJ (fun e=>NE.out.2.2 e));have bd:=Lib.hid bo;have ab:Hid (Fr (fun k=>k=g2∨k=g3∨k=g4) W ar):=((a7.out.mono (fun i _ h=> .inl h)).trans (a8.out.mono (fun i _ h=> .inr (.inl h)))).trans (aJ.mono (fun i _ h=> .inr (.inr h)));have aA:Hid (ar.heap[D]? =some (.deferred (some []))):=by
   refine(ab.out.block D (Array.getElem?_eq_some_iff.1 ac.out).1 (fun aF=>?_)).trans ac.out;have aX:=ac.out;rcases aF with rfl|rfl|rfl;·obtain⟨n,b⟩:=aj.out.b2;unfold ak at b;rw[aX]at b;cases b
   ·obtain⟨n,b⟩:=aj.out.b3;unfold ak at b;rw[aX]at b;cases b
   ·obtain⟨n,b⟩:=aj.out.b4;unfold ak at b;rw[aX]at b;cases b
  clear bo aJ a7 a8 ac bh bi bj;go_wp2;refine⟨by simp, .inl ⟨_,_,rfl,run_takeDeferred aA.out,?_⟩⟩;have F:Fr (fun k=>some k=some D) ar (ar.putObj D (.deferred none)):=Fr.grown (grownBy_putObj' ar D _);have ad:∀g t cs,ak ar g t cs→¬(some g=some D):=fun g t cs C e=>by
   have am:g=D:=by simpa using e
   subst am;unfold ak at C;rw[aA.out]at C;cases C
  refine⟨_,nI _ _ g2 g3 g4 s 0 0 rfl rfl rfl (ba.out.fr F (ad _ _ _ ba.out)) (bc.out.fr F (ad _ _ _ bc.out)) (bd.out.fr F (ad _ _ _ bd.out)),⟨_,_,_,rfl,?_,?_⟩⟩;·rw[aW.out];rfl
  ·refine(aj.out.fr.ao ab.out (fun i aK e=>?_)).ao F (fun i aK e=>?_);·have c:=bk;have J:=bl;have L:=bm;unfold Sz at c J L;omega
   ·have am:i=D:=by simpa using e
    have:=aP.out;have:=aw.out.fr.size;omega
 case stop=>
  rintro D aV pre W aC Z⟨M,x,aL,aa,aD,rfl⟩V;have ac:=Lib.hid V;have aP:=Lib.hid aC;have aW:Hid (cC s=false):=by
   simp only[Hid];rw[Bool.eq_false_iff];intro h;rw[cC,List.all_eq_true]at h;have:=h x (Z.subset aL);simp only[beq_iff_eq]at this;exact aa this
  obtain⟨n,b2⟩:=M.b2;obtain⟨a,b3⟩:=M.b3;have aj:=Lib.hid M;have aQ:=Lib.hid aa;have R:=Lib.hid b2;have S:=Lib.hid b3;have av:=Lib.hid aD;clear M b2 b3 aD aa V aC Z aL;gi_wp2;refine⟨by simp, .inl ⟨_,_,rfl,run_takeDeferred ac.out,?_⟩⟩;have F:Fr (fun k=>some k=some D) W (W.putObj D (.deferred none)):=Fr.grown (grownBy_putObj' W D _);have ad:∀g t cs,ak W g t cs→¬(some g=some D):=fun g t cs C e=>by
   have am:g=D:=by simpa using e
   subst am;unfold ak at C;rw[ac.out]at C;cases C
  refine⟨_,nI _ _ g2 g3 g4 n a x.e rfl rfl rfl (R.out.fr F (ad _ _ _ R.out)) (S.out.fr F (ad _ _ _ S.out)) (av.out.fr F (ad _ _ _ av.out)),⟨_,_,_,rfl,?_,?_⟩⟩;·rw[aW.out,beq_eq_false_iff_ne];have:=aQ.out;omega
  ·refine aj.out.fr.ao F (fun i aK e=>?_);have am:i=D:=by simpa using e
   have:=aP.out;have:=aw.out.fr.size;omega
theorem lZ(s:ByteArray)(w:World)(g:s.size≤1099511627776):Calls Tryz.prog 151 #[.string s] w (aH w (.bool (cC s))):=by
 have b:=Lib.hid (zo s w g);go_enter Tryz.func151,Tryz.ntmps151;go_wp2_with fail;refine b.out.mono ?_;rintro e w1⟨n,a,k,rfl,c,f1⟩;have f:=Lib.hid c;have d:=Lib.hid f1;clear c f1 b;go_wp2;go_ret;rw[f.out];exact⟨rfl,d.out⟩
end Go.Proofs.YtphjagkehiklkaaGreatDoor
namespace Go.Proofs.YtphjagkehiklkaaGreatDoor
open Go.ChangeShapes Go.WideShapes Go.ChangeAt Go.RowKit
theorem nY:Tryz.prog.cellsOf 3=1:=by kernel_rfl
theorem nZ:Tryz.prog.cellsOf 9=1:=by kernel_rfl
theorem sI:Tryz.prog.cellsOf 4=1:=by kernel_rfl
theorem uQ:Tryz.prog.cellsOf 189=6:=by kernel_rfl
theorem zD:Tryz.prog.cellsOf 190=126:=by kernel_rfl
theorem uY:Tryz.prog.globalNamed "replevin/object.usages"=some 0:=by kernel_rfl
theorem AS:(Tryz.prog.globals[0]?).map (·.type)=some 190:=by kernel_rfl
def fM.datum{H:Type}(u:fM):DataW H:= .agg [.lit (.string u.word.data.toList), .lit (.bool u.owner), .lit (.bool u.number), .lit (.bool u.index), .lit (.bool u.text), .lit (.int .i64 u.aJ)]
theorem D2:(Rows.laid_replevin_object_usages:DataW Unit)= .agg (fQ.map fM.datum):=by kernel_rfl
theorem Dx{H:Type}{enc:TypeId×Value→H}{w:World}{base:Nat}{sp:Nat→Bool}{held:Bool}{fuel:Nat}{l:List Value}{u:fM}{x:DataW H×List MemPlace}(m:x.1=u.datum)
  (h:DataW.trod enc Tryz.prog w base sp held fuel 189 l=some x):l=u.cells:=by
 obtain⟨s,v,_,rfl,b,c,a⟩:=DataW.trod_struct Tryz.underlying189 h;rw[uQ]at b;match l,b with
 |[y,z,A,x3,B,C],_=>
  have g0:=a 0 _ rfl;have g1:=a 1 _ rfl;have g2:=a 2 _ rfl;have g3:=a 3 _ rfl;have g4:=a 4 _ rfl;have g5:=a 5 _ rfl;match s,c with
  |[D,E,F,y3,y4,G],_=>
   simp[nY,nZ,sI]at g0 g1 g2 g3 g4 g5;obtain⟨a0,d,rfl,_⟩:=DataW.trod_string Tryz.underlying9 g0;obtain⟨t,e,rfl⟩:=DataW.trod_bool Tryz.underlying4 g1;obtain⟨a2,f,rfl⟩:=DataW.trod_bool Tryz.underlying4 g2;obtain⟨a3,g,rfl⟩:=DataW.trod_bool Tryz.underlying4 g3;obtain⟨a4,i,rfl⟩:=DataW.trod_bool Tryz.underlying4 g4;obtain⟨a5,j,rfl,_⟩:=DataW.trod_int Tryz.underlying3 g5;simp only[List.cons.injEq,and_true]at d e f g i j;subst d e f g i j;simp only[fM.datum,List.map_cons,List.map_nil,DataW.agg.injEq,List.cons.injEq,DataW.lit.injEq,Lit.string.injEq,Lit.bool.injEq,Lit.int.injEq,and_true,true_and]at m;obtain⟨k,n,o,p,q,r⟩:=m;have hw:a0=u.word:=by
    cases a0;cases hu:u.word;rw[hu]at k;simpa[Array.toList_inj]using k
   rw[fM.cells,hw,n,o,p,q,r]
theorem BO{W:World}{rest:List (String×DataW Unit)}(h:laidMet Tryz.prog (("replevin/object.usages",Rows.laid_replevin_object_usages)::rest) W):dy W:=by
 obtain⟨z,⟨y,A,cs,fuel,p,q,c,e,b,r,_,_⟩,_⟩:=h;obtain rfl:=Option.some.inj (uY.symm.trans c);obtain rfl:=Option.some.inj (AS.symm.trans e);obtain⟨xs,m,_,i,w,x,s⟩:=DataW.trod_array Tryz.underlying190 r;rw[zD]at w;refine⟨fun k u n j v f=>?_⟩;have d:k<21:=by
  have:=(List.getElem?_eq_some_iff.1 n).1;simpa[fQ]using this
 have g:=s k d;rw[uQ,List.getElem?_eq_getElem (by omega)]at g;have a:(xs[k]).1=u.datum:=by
  rw[D2]at i;simp only[Prod.mk.injEq,DataW.agg.injEq]at i;have l:=congrArg (·[k]?) i.1;simp only[List.getElem?_map,n,Option.map_some,List.getElem?_eq_getElem (show k<xs.length by omega),Option.some.injEq]at l;exact l.symm
 have o:=Dx a g;have t:j<6:=by
  have:=(List.getElem?_eq_some_iff.1 f).1;simpa[fM.cells]using this
 refine World.var?_cell uY b (k*6+j)|>.trans ?_;rw[←o,List.getElem?_take_of_lt t,List.getElem?_drop]at f;simpa using f
end Go.Proofs.YtphjagkehiklkaaGreatDoor
