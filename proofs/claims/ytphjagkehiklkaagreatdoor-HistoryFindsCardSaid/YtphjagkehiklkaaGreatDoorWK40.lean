/- Texts. -/
import Derived.Test.YtphjagkehiklkaaGreatDoorWK34
import Derived.Test.YtphjagkehiklkaaGreatDoorWK35
set_option linter.unusedVariables false
set_option linter.unusedSimpArgs false
set_option maxRecDepth 100000
set_option maxHeartbeats 4000000
namespace Go.Proofs.YtphjagkehiklkaaGreatDoor
open Go.RowKit
theorem KW(w:World)(s:Nat)(t:Tr)(h:Ei w s t):Calls Tryz.prog 95 #[.pointer (some ⟨s,0,none⟩)] w (aY w (.int .i64 (t.bytes:Nat))):=by
 obtain⟨a,b,d⟩:=h;have f:=af (qI w a t d);have c:w.cell? ⟨s,0,none⟩=some (.pointer a):=b.cell 0;clear b d;go_enter Tryz.func95,Tryz.ntmps95;go_wp2_with fail;refine f.out.mono ?_;rintro e w'⟨rfl,rfl⟩;go_wp2;go_ret;exact⟨rfl,rfl⟩
end Go.Proofs.YtphjagkehiklkaaGreatDoor
namespace Go.Proofs.YtphjagkehiklkaaGreatDoor
open Go.RowKit Go.Shelf
attribute[local go_sem]Oper.semAt_some
def Lx{w:World}(x:Gm w):Array Value:=#[.pointer (some ⟨x.1.g,0,none⟩)]
def Md(w:World)(b a:List (Gm w)→World→Prop)(pre xs:List (Gm w))(e:Ending)(W':World):Prop:=
 (e= .returned (.bool true)∧b (pre++xs) W'∧KN w W')∨(e= .returned (.bool false)∧∃q,q<+:xs∧a (pre++q) W')
theorem L0(l N:Nat)(w:World)(J p:List (Gm w)→World→Prop)
  (hY:∀m pre x W,J pre W→KN w W→pre.length<N→YieldAt Fence.wide m Tryz.prog l (Lx x) W fun e W'=>(e= .returned (.bool true)∧J (pre++[x]) W'∧KN W W')∨(e= .returned (.bool false)∧p (pre++[x]) W'))
  {a:Option Addr}{t:Tr}{L:List (Gm w)}(h:Ord w a t L):
  ∀(m:Nat)(pre:List (Gm w))(W:World),J pre W→KN w W→pre.length+L.length≤N→
   CallsIn Fence.wide m Tryz.prog 170 #[.pointer a, .func (.yield l) #[] #[]] W (Md w J p pre L):=by
 induction h with
 |leaf=>
  intro m pre W r i _;refine callsIn_of_wp Tryz.func170 rfl trivial ?_ rfl;simp only[Tryz.ntmps170,List.size_toArray,List.length_cons,List.length_nil,Nat.reduceAdd,Nat.reduceSub,Array.replicate_succ,Array.replicate_zero,List.push_toArray,List.append_toArray,List.nil_append,List.cons_append];gi_wp2_with(refine kl rfl ?_);go_ret;exact .inl ⟨rfl,by simpa using r,i⟩
 |@node ad ae nm v g Y ra L R aa ab I x X C D=>
  intro m pre W r i P;have d:∀k:Nat,(Fence.wide.depth.isSome=true→1≤k):=fun k h=>by cases h
  rw[bh,List.length_cons]at P;have n:Lx x=#[Value.pointer (some ⟨g,0,none⟩)]:=by rw[Lx,X]
  have y:∀b,J (pre++L) b→KN w b→YieldAt Fence.wide (m-1) Tryz.prog l #[.pointer (some ⟨g,0,none⟩)] b fun e c=>
    (e= .returned (.bool true)∧J (pre++L++[x]) c∧KN b c)∨(e= .returned (.bool false)∧p (pre++L++[x]) c):=fun b F H=>by
   have:=hY (m-1) (pre++L) x b F H (by simp;omega);rw[n]at this;exact this
  have A:=af ((C (m-1) pre W r i (by omega)).mono (R':=fun e b=>
    (e= .returned (.bool true)∧KN w b∧YieldAt Fence.wide (m-1) Tryz.prog l #[.pointer (some ⟨g,0,none⟩)] b fun e c=>
     (e= .returned (.bool true)∧J (pre++L++[x]) c∧KN b c)∨(e= .returned (.bool false)∧p (pre++L++[x]) c))∨
    (e= .returned (.bool false)∧∃q,q<+:L∧p (pre++q) b))
   (fun e b h=>h.elim (fun⟨he,V,j⟩=> .inl ⟨he,j,y b V j⟩) .inr));have B:=af (fun W r i=>D (m-1) (pre++L++[x]) W r i (by simp;omega));have T:W.cell? ⟨g,0,none⟩=some (.pointer Y):=(i _ _ I).cell 0;have HB:=af I;clear y C D hY P I n;refine callsIn_of_wp Tryz.func170 rfl trivial ?_ rfl;simp only[Tryz.ntmps170,List.size_toArray,List.length_cons,List.length_nil,Nat.reduceAdd,Nat.reduceSub,Array.replicate_succ,Array.replicate_zero,List.push_toArray,List.append_toArray,List.nil_append,List.cons_append];gi_wp2_with((try refine⟨trivial,d _,?_⟩);gi_at_call 170;refine A.out.mono ?_;clear A;rintro e b(⟨rfl,f,fn,tmps,assign,body,ac,Q⟩|⟨rfl,q,n,K⟩))
  ·have o:=af f;have U:b.cell? ⟨g,1,none⟩=some (.pointer ra):=(f _ _ HB.out).cell 1;clear f T;refine⟨d _,?_⟩;refine Q.mono ?_;clear Q;rintro e c(⟨rfl,s,u⟩|⟨rfl,M⟩)
   ·have j:=o.out.trans u;have S:=af j;have E:=af s;have U:c.cell? ⟨g,1,none⟩=some (.pointer ra):=(j _ _ HB.out).cell 1;clear j u s o;gi_wp2_with((try refine⟨trivial,d _,?_⟩);gi_at_call 170;refine(B.out _ E.out S.out).mono ?_;clear B;rintro e Z(⟨rfl,G,hk3⟩|⟨rfl,q,n,O⟩));·go_ret;exact .inl ⟨rfl,by simpa[List.append_assoc]using G,hk3⟩
    ·go_ret;exact .inr ⟨rfl,L++x::q,by
      obtain⟨z,rfl⟩:=n;exact⟨z,by simp⟩,by simpa[List.append_assoc]using O⟩
   ·gi_wp2_with(refine kl rfl ?_);go_ret;exact .inr ⟨rfl,L++[x],by exact⟨R,by simp⟩,by simpa[List.append_assoc]using M⟩
  ·refine⟨fun _ h=>(by cases h),?_⟩;gi_wp2_with(refine kl rfl ?_);go_ret;exact .inr ⟨rfl,q,n.trans (List.prefix_append _ _),K⟩
theorem Lh(m B s:Nat)(a:Option Addr)(t:Tr)(w:World)(L:List (Gm w))(r:Ord w a t L)(f:aq w B 25 #[.pointer (some ⟨s,0,none⟩)])(i:aq w s 174 #[.pointer a]):
  SeqStopsK Fence.wide m Tryz.prog 169 #[.pointer (some ⟨B,0,none⟩)] (fun x:Gm w=>#[Value.pointer (some ⟨x.1.g,0,none⟩)]) KN (fun C=>C=L) (fun pre=>pre<+:L) L.length w:=by
 intro l G n W c _ _ u o;have d:∀k:Nat,(Fence.wide.depth.isSome=true→1≤k):=fun k h=>by cases h
 have j:=L0 l L.length w G n (fun m pre x W v _ y=>YieldAt.jF rfl m (u pre x W v y)) r (m-1) [] W o (KN.below c) (by simp);have E:W.cell? ⟨B,0,none⟩=some (.pointer (some ⟨s,0,none⟩)):=(c.cell (p:=⟨B,0,none⟩) f.lt).trans (f.cell 0);have F:W.cell? ⟨s,0,none⟩=some (.pointer a):=(c.cell (p:=⟨s,0,none⟩) i.lt).trans (i.cell 0);refine callsIn_of_wp Tryz.func169 rfl trivial ?_ rfl;simp only[Tryz.ntmps169,List.size_toArray,List.length_cons,List.length_nil,Nat.reduceAdd,Nat.reduceSub,Array.replicate_succ,Array.replicate_zero,List.push_toArray,List.append_toArray,List.nil_append,List.cons_append];gi_wp2_with((try refine⟨trivial,d _,?_⟩);gi_at_call 170;refine j.mono ?_;clear j;rintro e D(⟨rfl,b,_⟩|⟨rfl,q,z,A⟩));·go_end0;exact⟨⟨_,rfl⟩, .inl ⟨_,rfl,by simpa using b⟩⟩
 ·go_end0;exact⟨⟨_,rfl⟩, .inr ⟨q,z,by simpa using A⟩⟩
end Go.Proofs.YtphjagkehiklkaaGreatDoor
namespace Go.Proofs.YtphjagkehiklkaaGreatDoor
open Go.RowKit Go.Shelf
attribute[local go_sem]Oper.semAt_some
theorem Mb:(Tryz.prog.info? 172).map (fun i=>(i.zero,i.size,i.bytes))=some (some (.pointer none),1,8):=by kernel_rfl
theorem Lp:(Tryz.prog.info? 219).map (·.size)=some 1:=by kernel_rfl
theorem Mg(w:World):(zeroValue 219).run Tryz.prog w= .ok (.slice none 0 0) w:=by kernel_rfl
end Go.Proofs.YtphjagkehiklkaaGreatDoor
namespace Go.Proofs.YtphjagkehiklkaaGreatDoor
open Go.RowKit Go.Shelf
attribute[local go_sem]Oper.semAt_some
def Li{w:World}(a:List (Gm w)):List Value:=a.map (fun y=>JA y.1)
def Me(w:World)(t:Tr)(r:Ending)(w':World):Prop:=∃v,∃L:List Nd,r= .returned v∧bW 172 1 w (.slice none 0 0) w' v t.size (L.map JA)∧L.map (fun x:Nd=>(x.nm,x.v))=t.bC∧∀x∈L,oe w' x
theorem Ld(s:Nat)(t:Tr)(w:World)(H:Ei w s t)(O:t.size≤1048576):Calls Tryz.prog 139 #[.pointer (some ⟨s,0,none⟩)] w (fun r w'=>Me w t r w'):=by
  obtain⟨i0,I,hz0',P,Q⟩:=info_parts Mb;have aL:=af (fun w=>qg (some ⟨s,0,none⟩) w);have au:=af O;have ap:=af H;clear H O;refine(callsIn_wide (n:=6)).1 (callsIn_of_wp_marks Tryz.func139 rfl trivial (wpIn_wide.2 ?_) rfl);simp only[Tryz.ntmps139,List.size_toArray,List.length_cons,List.length_nil,Nat.reduceAdd,Nat.reduceSub,Array.replicate_succ,Array.replicate_zero,List.push_toArray,List.append_toArray,List.nil_append,List.cons_append];have B:Hid (Calls Tryz.prog 94 #[.pointer (some ⟨s,0,none⟩)] w (aY w (.int .i64 (t.size:Nat)))):=yF w s t ap.out;go_wp2_with fail;refine B.out.mono ?_;rintro e a9⟨rfl,rfl⟩;have a4:=au.out;clear B;go_wp2_with(at_make;refine wpList_make_own _ rfl _ _ 219 rfl 0 172 i0 (.pointer none) 1 Tryz.underlying219 I hz0' P _ _ _ t.size rfl rfl rfl ?zA ?zB (Nat.zero_le _) ?_);case zA=>rw[Q];omega
  case zB=>unfold maxLen;omega
  intro R ra aC;have Y:Hid (Fr ag w R):=(Fr.grown aC).mono (fun _ _ e=>by cases e);have aA:=af ra;have F:Hid (w.heap.size<R.heap.size):=Jd ra rfl;have ad:Sz w w.heap.size:=Nat.le_refl _;clear ra aC a4;generalize w.heap.size=g0 at*;go_wp2_with(refine ak rfl 219 rfl (.slice none 0 0) Mg #[.slice none 0 0] rfl ?_);intro a6 nb;have ao:Hid (Fr ag w a6):=Y.out.trans nb.fr;have aB:=af (aQ aA.out nb.fr (fun _ _ x=>x));have am:=af nb.aH;have E:Sz w R.heap.size:=Y.out.size;have NE:Hid (g0<R.heap.size):=F.out;clear nb Y aA F;generalize R.heap.size=g2 at*;go_wp2_with(refine bY rfl 219 (.tmp 3) _ rfl g2 (.slice (some ⟨g0,0,none⟩) 0 t.size) rfl rfl rfl _ _ am.out Lp ?_);intro w2 b2 f2;have aj:=af b2;have an:Hid (Fr ag w w2):=ao.out.aw f2 (fun i a2 e=>by have S:i=g2:=e;have:=E;unfold Sz at this;omega);have az:=af (aQ aB.out f2 (fun k g e=>by
    have S:k=g2:=e;simp[Value.ownBlock]at g;have:=NE.out;omega));have aZ:Hid (∀k,(Value.slice (some ⟨g0,0,none⟩) 0 t.size).ownBlock=some k→w.heap.size≤k∧k≠g2):=fun k g=>by
    simp[Value.ownBlock]at g;subst g;exact⟨ad,by have:=NE.out;omega⟩
  clear b2 f2 ao aB am;go_wp2_with fail;refine(aL.out _).mono ?_;rintro r w3⟨rfl,f3,b3⟩;have C:=af (an.out.trans f3);have al:=af (aj.out.fr f3 (fun x=>x));have aX:=af (aQ az.out f3 (fun _ _ x=>x));have aM:=af b3;have LT:Hid (g2<w3.heap.size):=al.out.lt;clear f3 b3 an aj az;generalize w2.heap.size=gs at*;obtain⟨a3,N,M⟩:=ap.out.ar C.out;obtain⟨L,ah⟩:=Ord.of M;have ax:=af ah.bC;have ay:Hid (L.length=t.size):=by
    have h:=congrArg List.length ax.out;have a0:L.length=t.size:=by simpa[Tr.cM]using h
    exact a0
  have aR:=af ah;have Z:=af N;clear N M ah;go_wp2_with fail;refine(wpIn_wide (n:=6)).1 ?_;refine wpIn_rangeFunc_ownG rfl (by omega) (gf:=169) (lb:=#[.pointer (some ⟨gs,0,none⟩)]) rfl trivial (enters_of Tryz.func169 (by kernel_rfl) rfl)
    (Lh 5 gs s a3 t w3 L aR.out aM.out Z.out) (fun h k=>h.trans k) (fun W l o a5 _ U a1 _=>KN.put W l o a5 U a1) (Below.refl _ _) (fun _=>rfl)
    (si w w3 g2 219 172 1 (fun ai:List (Gm w3)=>ai.length) (Li (w:=w3))) (fun _ _ _=>False) (si.iV LT.out C.out.size) (fun _ _ _ _ _ h _ _=>h.elim)
    ⟨C.out,KN.refl _,_,al.out,aX.out,aZ.out⟩ ?zE ?assign ?body ?done ?stop;case assign=>
    intro l x W K G;gi_wp2;exact G
  case body=>
    rintro a8 pre x W T J;have aO:=af T;have aP:=af J;obtain⟨_,d,⟨v,gg,a,b⟩⟩:=T;obtain⟨u,m1,zA,rfl,H1,aN⟩:=aU a;have m:=af a;have j:=af b;have z:=af gg;have q:=gg.cell 0;simp only[bR,List.getElem?_cons_zero]at q;have aW:=af (x.2.kn d).lA;obtain⟨⟨aE,aI,aJ⟩,V⟩:=x;simp only at aW⊢;clear gg a b J d;gi_wp2_with(refine cD (lC 219) rfl (by kernel_rfl) ?_);go_wp2_with(at_builtin;refine da _ rfl _ _ 219 rfl 172 i0 (.pointer none) 1 8 Tryz.underlying219 I hz0' P Q rfl (by omega) _ _ _ rfl m.out 1 _ _ rfl rfl rfl ?zC ?zD (by omega) ?_);case zC=>simp[Value.oneCell']
    case zD=>have:=aP.out;have:=ay.out;have:=au.out;omega
    intro v2 aK aF;have aa:=af aF;clear aF;have A:Hid (aq aK g2 219 #[.slice u m1 zA]):=z.out.fr aa.out.fr (fun e=>(j.out _ e).2 rfl);obtain⟨X,m2,zB,rfl,_,_⟩:=aU aa.out.own;go_wp2_with(refine bY rfl 219 (.tmp 3) _ rfl g2 (.slice X m2 zB) rfl rfl rfl _ _ A.out Lp ?_);intro y3 b3 f3;refine⟨?_,rfl⟩;have ab:bW 172 1 W (.slice u m1 zA) aK (.slice X m2 zB) ((pre++[(⟨⟨aE,aI,aJ⟩,V⟩:Gm w3)]).length) (Li (pre++[(⟨⟨aE,aI,aJ⟩,V⟩:Gm w3)])):=by
      have h:=aa.out;rw[bh,Li,List.map_append];exact h
    have p:=si.step (v:= .slice u m1 zA) (v2:= .slice X m2 zB) aO.out LT.out C.out.size E (by decide) (by decide) z.out m.out j.out aD ab f3 b3;exact⟨p.1,p.2.1,p.2.2⟩
  case done=>
    rintro D xs W ae rfl T G;obtain⟨aG,d,⟨v,gg,a,b⟩⟩:=T;obtain⟨u,m1,zA,rfl,H1,aN⟩:=aU a;have ac:Fr (fun k=>some k=some D) W (W.putObj D (.deferred none)):=Fr.grown (grownBy_putObj' W D _);have av:=af G;have aS:Hid (Fr ag w (W.putObj D (.deferred none))):=aG.aw ac (fun i a2 e=>by have S:i=D:=(by simpa using e);have:=C.out.size;have:=ae;omega);have aT:Hid (KN w3 (W.putObj D (.deferred none))):=d.trans (KN.put W D _ _ G rfl);have aV:Hid ((W.putObj D (.deferred none)).ownsRow 0 172 1 (.slice u m1 zA) ((fun ai:List (Gm w3)=>ai.length) xs) ((Li (w:=w3)) xs)):=
      aQ a ac (fun k g e=>by
            have S:k=D:=by simpa using e
            subst S;obtain⟨c,f,U⟩:=cX a g;rw[av.out]at U;cases U);have j:Hid (∀k,(Value.slice u m1 zA).ownBlock=some k→w.heap.size≤k):=fun k g=>(b k g).1;have q:=gg.cell 0;simp only[bR,List.getElem?_cons_zero]at q;clear ac aG gg a b ae G d;go_wp2;refine⟨by simp, .inl ⟨_,_,rfl,run_takeDeferred av.out,?_⟩⟩;refine⟨_,results_tmp Tryz.results139 _ _ _,?_⟩;refine⟨_,xs.map (·.1),rfl,⟨?_,aS.out.bP,fun k g=> .inr (j.out k g)⟩,?_,fun x V=>?_⟩;· have h:=aV.out;rw[ay.out]at h;rw[List.map_map];exact h
    · rw[List.map_map];exact ax.out
    · obtain⟨y,_,rfl⟩:=List.mem_map.1 V;exact y.2.kn aT.out
  case stop=>
    rintro D a7 pre W ae _ h;exact h.elim
end Go.Proofs.YtphjagkehiklkaaGreatDoor
namespace Go.Proofs.YtphjagkehiklkaaGreatDoor
open Go.RowKit Go.Shelf
theorem LF(a b:ByteArray):(a==b)=true↔a=b:=by
 constructor;·intro h;have c:(a.data==b.data)=true:=h;exact ByteArray.ext (by simpa using c)
 ·rintro rfl;have c:(a.data==a.data)=true:=by simp
  exact c
theorem LY(a b:ByteArray):(a.toList==b.toList)=(a==b):=by
 rw[Bool.eq_iff_iff,LF,beq_iff_eq,ByteArray.toList_eq,ByteArray.toList_eq];constructor;·intro h;exact ByteArray.ext (Array.toList_inj.1 h)
 ·rintro rfl;rfl
def KJ(x:Ent):CV:=⟨x.1,ByteArray.empty,true⟩
def Kz(y:Ent):CV:=⟨y.1,y.2,false⟩
def Ky:List Ent→List Ent→List CV
 |[],[]=>[]
 |x::a,[]=>KJ x::Ky a []
 |[],y::b=>Kz y::Ky [] b
 |x::a,y::b=>if cT x.1 y.1<0 then KJ x::Ky a (y::b)else if 0<cT x.1 y.1 then Kz y::Ky (x::a) b else if(x.2==y.2)=true then Ky a b else Kz y::Ky a b
termination_by a b=>a.length+b.length
theorem KE:∀a b:List Ent,(Ky a b).length≤a.length+b.length
 |[],[]=>by rw[Ky];exact Nat.le_refl _
 |x::a,[]=>by
  have h:=KE a [];rw[Ky];simp only[List.length_cons,List.length_nil]at h⊢;omega
 |[],y::b=>by
  have h:=KE [] b;rw[Ky];simp only[List.length_cons,List.length_nil]at h⊢;omega
 |x::a,y::b=>by
  have c:=KE a (y::b);have d:=KE (x::a) b;have e:=KE a b;rw[Ky];simp only[List.length_cons]at c d⊢;split;·simp only[List.length_cons];omega
  ·split;·simp only[List.length_cons];omega
   ·split;·omega
    ·simp only[List.length_cons];omega
termination_by a b=>a.length+b.length
theorem KU:∀a:List Ent,Ky a a=[]
 |[]=>by rw[Ky]
 |x::a=>by
  have h:=cU.refl x.1;rw[Ky,if_neg (by omega),if_neg (by omega),if_pos ((LF _ _).2 rfl),KU a]
theorem KV(c:CV):∀u∈c.cells,u.oneCell'=true:=fun u hu=>by
 have h:=c.one;rw[Array.all_eq_true_iff_forall_mem]at h;exact h u (by simpa using hu)
theorem KZ(y:Ent):Tryz.prog.built 119 [(0, .agg y.1.cells.toArray),(1, .string y.2)]=some (Kz y).cells.toArray:=by kernel_rfl
theorem Ln(x:Ent):Tryz.prog.built 119 [(0, .agg x.1.cells.toArray),(2, .bool true)]=some (KJ x).cells.toArray:=by kernel_rfl
def LD(w:World)(D:List CV)(e:Ending)(w':World):Prop:=∃v,e= .returned v∧bW 119 7 w (.slice none 0 0) w' v D.length (D.flatMap CV.cells)
def KL:Value→Nat
 | .slice _ n _=>n
 |_=>0
theorem PL.head{w:World}{A:Option Addr}{n c:Nat}{x:Nd}{L:List Nd}(h:PL w A n c (x::L)):∃a,A=some a∧w.cell? a=some (.pointer (some ⟨x.g,0,none⟩))∧0<n:=by
 have b:0<n:=by have:=h.len;simp only[List.length_cons]at this;omega
 obtain⟨a,e,_,d⟩:=h.rd.2 b;exact⟨a,e,by have q:=d 0 _ rfl;simpa[Addr.add,JA]using q,b⟩
theorem oe.ptr{w:World}{x:Nd}(h:oe w x):AJ w (some ⟨x.g,0,none⟩):=by
 obtain⟨a,b,c,d,e,f⟩:=h;exact .inr ⟨_,_,rfl,f⟩
theorem cE.ptr{w:World}:∀{a:Option Addr}{t:Tr},cE w a t→AJ w a
 |_, .leaf,h=> .inl h
 |_, .node _ _ _ _,⟨g,_,_,e,_,_,b⟩=> .inr ⟨g,_,e,b⟩
theorem Lq:(Tryz.prog.info? 177).map (·.size)=some 11:=by kernel_rfl
theorem Lo(a f:Option Addr)(w:World)(p:AJ w a)(l:AJ w f):(Op.equal 172 (.pointer a) (.pointer f)).run Tryz.prog w= .ok (decide (a=f)) w:=by
 have c:=Tryz.underlying172;obtain⟨j,n,s⟩:∃j,Tryz.prog.info? 177=some j∧j.size=11:=by
  have h:=Lq;cases o:Tryz.prog.info? 177 with
  |none=>rw[o]at h;cases h
  |some j=>rw[o]at h;exact⟨j,rfl,by simpa using h⟩
 have r:j.size≠0:=by omega
 have h:∀d:Nat,(Op.equalIn (d+1) 172 (.pointer a) (.pointer f)).run Tryz.prog w= .ok (decide (a=f)) w:=fun d=>by
  rcases p with rfl|⟨g,cs,rfl,q⟩
  ·rcases l with rfl|⟨i,cs',rfl,b⟩;·simp[Op.equalIn,run_underlying c]
   ·simp[Op.equalIn,run_underlying c]
  ·rcases l with rfl|⟨i,cs',rfl,b⟩;·simp[Op.equalIn,run_underlying c]
   ·by_cases m:g=i;·subst m;simp[Op.equalIn,run_underlying c,sizeOf,typeInfo,n,run_sameAddr_same]
    ·have k:(⟨g,0,none⟩:Addr)≠⟨i,0,none⟩:=fun e=>m (by cases e;rfl);simp[Op.equalIn,run_underlying c,sizeOf,typeInfo,n,r,run_sameAddr_other w k q b]
 simp[Op.equal,Op.maxDepth,h 9999]
theorem Ma(a c:Option Addr)(w:World)(d:AJ w a)(e:AJ w c)(b:Bool)(f:decide (a=c)=b):(binOp .eql 172 (.pointer a) (.pointer c)).run Tryz.prog w= .ok (.bool b) w:=by
 simp only[binOp];simp[Lo a c w d e,f]
theorem K6(a c:Option Addr)(w:World)(d:AJ w a)(e:AJ w c)(b:Bool)(f:decide (a=c)=!b):(binOp .neq 172 (.pointer a) (.pointer c)).run Tryz.prog w= .ok (.bool b) w:=by
 simp only[binOp];simp[Lo a c w d e,f]
theorem cE.uniq{w:World}:∀{a:Option Addr}{t k:Tr},cE w a t→cE w a k→t=k
 |_, .leaf, .leaf,_,_=>rfl
 |_, .leaf, .node _ _ _ _,h,⟨_,_,_,e,_⟩=>by cases h;cases e
 |_, .node _ _ _ _, .leaf,⟨_,_,_,e,_⟩,h=>by cases h;cases e
 |_, .node l nm v r, .node s b y x,⟨g,u,ra,e,n,o,p⟩,⟨A,i,j,m,c,d,f⟩=>by
  subst e;cases m;have q:rO u ra (.node l nm v r)=rO i j (.node s b y x):=by
   have h:=p.symm.trans f;simpa using h
  obtain⟨z,a2,a3,a4,a5⟩:=nm;obtain⟨b1,b2,b3,b4,b5⟩:=b;simp only[rO,aK.cells,List.cons_append,List.nil_append,List.cons.injEq,Value.pointer.injEq,Value.int.injEq,Value.string.injEq,true_and]at q;obtain⟨rfl,rfl,rfl,rfl,rfl,rfl,rfl,rfl,_⟩:=q;rw[n.uniq c,o.uniq d]
theorem LH{x:Nd}{ra rb:List Nd}(h:rb=[]∨∃y r,rb=y::r∧cT x.nm y.nm<0):Ky ((x::ra).map Ka) (rb.map Ka)=KJ (Ka x)::Ky (ra.map Ka) (rb.map Ka):=by
 rcases h with rfl|⟨y,r,rfl,h⟩;·rw[List.map_cons,List.map_nil,Ky]
 ·rw[List.map_cons,List.map_cons,Ky,if_pos (show cT (Ka x).1 (Ka y).1<0 from h)]
theorem LG{y:Nd}{ra rb:List Nd}(h:ra=[]∨∃x r,ra=x::r∧0<cT x.nm y.nm):Ky (ra.map Ka) ((y::rb).map Ka)=Kz (Ka y)::Ky (ra.map Ka) (rb.map Ka):=by
 rcases h with rfl|⟨x,r,rfl,h⟩;·rw[List.map_cons,List.map_nil,Ky]
 ·rw[List.map_cons,List.map_cons,Ky,if_neg (show¬cT (Ka x).1 (Ka y).1<0 by show¬cT x.nm y.nm<0;omega),if_pos (show 0<cT (Ka x).1 (Ka y).1 from h)]
theorem Lc{x y:Nd}{ra rb:List Nd}(a:cT x.nm y.nm=0)(h:(x.v==y.v)=true):Ky ((x::ra).map Ka) ((y::rb).map Ka)=Ky (ra.map Ka) (rb.map Ka):=by
 rw[List.map_cons,List.map_cons,Ky,if_neg (show¬cT (Ka x).1 (Ka y).1<0 by show¬cT x.nm y.nm<0;omega),if_neg (show¬0<cT (Ka x).1 (Ka y).1 by show¬0<cT x.nm y.nm;omega),if_pos (show((Ka x).2==(Ka y).2)=true from h)]
theorem Lw{x y:Nd}{ra rb:List Nd}(a:cT x.nm y.nm=0)(h:(x.v==y.v)=false):Ky ((x::ra).map Ka) ((y::rb).map Ka)=Kz (Ka y)::Ky (ra.map Ka) (rb.map Ka):=by
 rw[List.map_cons,List.map_cons,Ky,if_neg (show¬cT (Ka x).1 (Ka y).1<0 by show¬cT x.nm y.nm<0;omega),if_neg (show¬0<cT (Ka x).1 (Ka y).1 by show¬0<cT x.nm y.nm;omega),if_neg (show¬((Ka x).2==(Ka y).2)=true by show¬(x.v==y.v)=true;rw[h];decide)]
theorem LX{w:World}{g:Nat}{n m:aK}{u v:ByteArray}(h:Mid w g n u)(k:Mid w g m v):n=m∧u=v:=by
 have e:u=v:=by
  have a:=h.val;rw[k.val]at a;simpa using a.symm
 refine⟨?_,e⟩;have b:∀j x y,n.cells[j]? =some x→m.cells[j]? =some y→x=y:=fun j x y o p=>by
  have a:=h.name j x o;rw[k.name j y p]at a;simpa using a.symm
 obtain⟨q,a2,a3,a4,a5⟩:=n;obtain⟨b1,b2,b3,b4,b5⟩:=m;have c:=b 0 _ _ rfl rfl;have d:=b 1 _ _ rfl rfl;have f:=b 2 _ _ rfl rfl;have i:=b 3 _ _ rfl rfl;have l:=b 4 _ _ rfl rfl;simp only[Value.int.injEq,Value.string.injEq,true_and]at c d f i l;rw[c,d,f,i,l]
def Mf(w1:World)(D:List CV)(cs a b:Value)(wr:World):Prop:=∃(A:Option Addr)(c e:Nat)(ra:List Nd)(B:Option Addr)(d f:Nat)(rb:List Nd)(done:List CV),a= .slice A c e∧b= .slice B d f∧PL w1 A c e ra∧PL w1 B d f rb∧
 done++Ky (ra.map Ka) (rb.map Ka)=D∧bW 119 7 w1 (.slice none 0 0) wr cs done.length (done.flatMap CV.cells)
theorem Lb{p a:List Ent}{x:Ent}(h:∀y∈p,cT y.1 x.1<0):dz x.1 (p++x::a)=p++a:=by
 rw[uc p _ (fun y b=>jG (h y b)),dz,if_pos (cU.refl _)]
theorem Lr{p a:List Ent}{x y:Ent}(h:∀z∈p,cT z.1 y.1<0)(b:cT y.1 x.1<0):dY y.1 y.2 (p++x::a)=(p++[y])++x::a:=by
 rw[qV p _ (fun z c=>jG (h z c)),dY,if_pos b,List.append_assoc];rfl
theorem LU{p:List Ent}{y:Ent}(h:∀z∈p,cT z.1 y.1<0):dY y.1 y.2 p=p++[y]:=by
 have e:=qV (nm:=y.1) (v:=y.2) p [] (fun z a=>jG (h z a));rw[List.append_nil]at e;rw[e];rfl
theorem LS{p a:List Ent}{x y:Ent}(h:∀z∈p,cT z.1 y.1<0)(b:cT y.1 x.1=0):dY y.1 y.2 (p++x::a)=(p++[y])++a:=by
 rw[qV p _ (fun z c=>jG (h z c)),dY,if_neg (by omega),if_pos b,List.append_assoc];rfl
theorem fF.glue{p a b:List Ent}{y:Ent}(e:fF (p++a))(f:fF (p++y::b))(h:∀z∈a,cT y.1 z.1<0):fF ((p++[y])++a):=by
 obtain⟨_,g,i⟩:=List.pairwise_append.1 e;obtain⟨j,_,k,_⟩:=fF.parts f;refine List.pairwise_append.2 ⟨List.pairwise_append.2 ⟨j,List.pairwise_singleton _ _,fun z d u hu=>?_⟩,g,fun z d u hu=>?_⟩;·rw[List.mem_singleton]at hu;rw[hu];exact k z d
 ·rcases List.mem_append.1 d with c|c;·exact i z c u hu
  ·rw[List.mem_singleton]at c;rw[c];exact h u hu
theorem fF.gone{p a:List Ent}{x:Ent}(h:fF (p++x::a)):fF (p++a):=h.sublist ((List.Sublist.refl p).append (List.sublist_cons_self x a))
theorem KM:∀(a b p:List Ent),fF (p++a)→fF (p++b)→mr (Ky a b) (p++a)=p++b
 |[],[],p,_,_=>by rw[Ky];rfl
 |x::a,[],p,d,c=>by
  obtain⟨_,_,q,_⟩:=fF.parts d;rw[Ky];show mr (Ky a []) (dz x.1 (p++x::a))=_;rw[Lb q];exact KM a [] p d.gone c
 |[],y::b,p,d,c=>by
  obtain⟨_,_,q,_⟩:=fF.parts c;rw[Ky];show mr (Ky [] b) (dY y.1 y.2 (p++[]))=_;rw[List.append_nil,LU q];have h:=KM [] b (p++[y]) (fF.glue d c (fun z i=>by cases i)) (by rw[List.append_assoc];exact c);rw[List.append_nil,List.append_assoc]at h;exact h
 |x::a,y::b,p,d,c=>by
  obtain⟨_,u,r,k⟩:=fF.parts d;obtain⟨_,v,l,lb⟩:=fF.parts c;rw[Ky];split;next=>
   show mr (Ky a (y::b)) (dz x.1 (p++x::a))=_;rw[Lb r];exact KM a (y::b) p d.gone c
  next s=>
   split;next n=>
    have g:=mI n;show mr (Ky (x::a) b) (dY y.1 y.2 (p++x::a))=_;rw[Lr l g];have j:∀z∈x::a,cT y.1 z.1<0:=fun z i=>by
     rcases List.mem_cons.1 i with rfl|h;·exact g
     ·exact cU.trans _ _ _ g (k z h)
    have h:=KM (x::a) b (p++[y]) (fF.glue d c j) (by rw[List.append_assoc];exact c);rw[h,List.append_assoc];rfl
   next t=>
    have he:cT x.1 y.1=0:=by omega
    have f:x.1=y.1:=cU.eq _ _ he;have g:cT y.1 x.1=0:=by rw[f];exact cU.refl _
    have m:fF ((p++[y])++a):=fF.glue d.gone c (fun z i=>by rw[←f];exact k z i);have h:=KM a b (p++[y]) m (by rw[List.append_assoc];exact c);rw[List.append_assoc]at h;split;next o=>
     have e:x=y:=Prod.ext f ((LF _ _).1 o);rw[e];rw[List.append_assoc]at h;exact h
    next=>
     show mr (Ky a b) (dY y.1 y.2 (p++x::a))=_;rw[LS l g,List.append_assoc];rw[List.append_assoc]at h;exact h
termination_by a b=>a.length+b.length
theorem LQ{a b:List Ent}(c:fF a)(d:fF b):mr (Ky a b) a=b:=KM a b [] c d
theorem LJ{a b:List Ent}(c:fF a)(d:fF b):Ky a b=[]↔a=b:=⟨fun h=>by have e:=LQ c d;rw[h]at e;exact e,fun h=>by rw[h];exact KU b⟩
theorem Lu(w:World)(h b:Nat)(c:w.cell? ⟨h,0,none⟩=some (.pointer (some ⟨b,0,none⟩))):Calls Tryz.prog 47 #[.pointer (some ⟨h,0,none⟩)] w (aY w (.pointer (some ⟨b,0,none⟩))):=by
 have a:=af (kQ w h b c);go_enter Tryz.func47,Tryz.ntmps47;go_wp2_with fail;refine a.out.mono ?_;rintro e w'⟨rfl,rfl⟩;go_wp2;go_ret;exact⟨rfl,rfl⟩
def Lj(w:World)(L:List ActV)(e:Ending)(w':World):Prop:=∃g,e= .returned (.slice (some ⟨g,0,none⟩) L.length L.length)∧ko w' (.slice (some ⟨g,0,none⟩) L.length L.length) L∧Fr ag w w'∧w.heap.size≤g
structure Ls(w wr:World)(g n k:Nat)(L:List ActV):Prop where
 fr:Fr ag w wr
 lt:w.heap.size≤g
 row:∃(cs:List (List Value))(Z:List Value),aq wr g 46 (cs.flatten++Z).toArray∧cs.flatten.length=k*6∧Z.length=(n-k)*6∧eB wr cs (L.take k)
theorem K7(h:Nat)(E:List Ent)(L:List ActV)(T:Nat→Prop)(w:World)(aS:fK w h E L T)(aT:L.length≤65536)(aG:∀a∈L,a.reads.length≤1099511627776∧a.writes.length≤1099511627776):
  Calls Tryz.prog 48 #[.pointer (some ⟨h,0,none⟩)] w (Lj w L):=by
 obtain⟨b,s,g0,va,vk,K,A,c,mb,Q,rfl⟩:=aS;obtain⟨d,p,J⟩:=Q.kW;obtain⟨V,n1,zB,rfl,H1,_⟩:=aU p;obtain⟨i0,O,ap,U,au⟩:=info_parts xi;have aa:Hid (∀j,j<L.length→∃I m a,V=some I∧L[j]? =some a∧df w m a∧m.length=6∧∀i x,m[i]? =some x→w.cell? ((I.add (j*6)).add i)=some x):=fun j am=>xz p J H1.out am;have G:Hid (n1=L.length∧n1≤65536):=by have:=H1.out;exact⟨this,by omega⟩
 have ay:=af (kQ w h b (Q.aH.cell 0));have aY:w.cell? ⟨h,1,none⟩=some (.slice V n1 zB):=Q.aH.cell 1;have ah:Hid (∀W,Fr ag w W→W.cell? ⟨h,1,none⟩=some (.slice V n1 zB)):=fun W f=>(Q.aH.fr f (fun x=>x)).cell 1;have aM:=af aG;clear Q p J H1 aT aG;go_enter Tryz.func48,Tryz.ntmps48;go_wp2_with fail;refine ay.out.mono ?_;rintro e w'⟨rfl,rfl⟩;clear ay;go_wp2_with(at_make;refine wpList_make_full _ rfl _ _ 26 rfl 0 46 i0 fH 6 Tryz.underlying26 O ap U _ _ _ _ n1 rfl rfl rfl rfl ?zB ?zH (Nat.zero_le _) ?_);case zB=>rw[au];have:=G.out;omega
 case zH=>unfold maxLen;have:=G.out;omega
 intro w1 S N;have ac:Hid (Fr ag w w1):=(Fr.grown N).mono (fun k _ X=>by cases X);have aA:Hid (∃Z:List Value,aq w1 w.heap.size 46 Z.toArray∧Z.length=n1*6):=by
  rcases S.2 with⟨R,_⟩|⟨a0,cap,cur,R,_,u,_,_,ao,_⟩;·cases R
  ·cases R;exact⟨cur.toList,by rw[Array.toArray_toList];exact u,by rw[Array.length_toList];exact ao⟩
 have n:Hid (w.heap.size≤w.heap.size):=Nat.le_refl _;generalize aE:w.heap.size=g at*;have aB:Hid (Ls w w1 g n1 0 L):=by
  obtain⟨Z,u,aW⟩:=aA.out;exact⟨ac.out,by rw[aE];exact Nat.le_refl _,[],Z,by simpa using u,by simp,by simpa using aW,by simp[eB]⟩
 have av:w1.cell? ⟨h,1,none⟩=some (.slice V n1 zB):=ah.out _ ac.out;clear S N aA ac aY aE n;go_wp2;go_loopw[19](fun i wr=>∃k:Nat,k≤n1∧i= .int .i64 (k:Int)∧Ls w wr g n1 k L)(fun i _=>n1-(intOf i).toNat);case atStart=>exact⟨0,Nat.zero_le _,rfl,aB.out⟩
 case round=>
  obtain⟨k,X,rfl,aD⟩:=hrel;have r:=af aD;have aL:=af X;clear aD X aB av;by_cases C:k<n1
  ·have t0:decide ((k:Int)<(n1:Int))=true:=dh (by omega);obtain⟨I,m,a,rfl,B,z,l,o⟩:=aa.out k (by have:=G.out;omega);have i1:(k:Int)<(n1:Int):=by omega
   have i2:(0:Int)≤(k:Int):=by omega
   have aC:Hid ((Tryz.prog.info? 46).map (·.size)=some m.length):=by rw[Hid,l];exact bZ
   have aj:Hid ((Tryz.prog.info? 46).map (·.size)=some m.toArray.size):=by rw[Hid,List.size_toArray,l];exact bZ
   have ai:Hid (6=m.toArray.size):=by rw[Hid,List.size_toArray,l]
   have F:Hid (∀i x,m[i]? =some x→wr.cell? ((I.add (k*6)).add i)=some x):=fun i x zC=>r.out.fr.an (o i x zC) (fun x=>x);have aP:=af (ActV.one z);have aI:Hid (∀W,Fr ag w W→df W m a):=fun W f=>z.ar f;have aN:Hid (L.take (k+1)=L.take k++[a]):=by rw[Hid,List.take_add_one,B,Option.toList_some]
   have H:=af (aM.out a (List.mem_of_getElem? B));have a3:IntKind.i64.wrap ((k:Int)+1)=(k:Int)+1:=IntWalk.i64_in _ (by have:=G.out;omega);have n:=af C;clear o z l B C;go_wp2_with(refine aF rfl 46 (.tmp 22) rfl (I.add (k*6)) rfl m _ ?zA Tryz.underlying46 rfl aC.out (bj.go ?zF));case zA=>exact F.out
   unfold bj;go_wp2_with(refine Ak rfl rfl rfl 46 5 rfl rfl (.tmp 21) rfl _ rfl fH oc #[.int .i64 0, .int .i64 0, .int .i64 0, .string ByteArray.empty, .slice none 0 0, .slice none 0 0] rfl (.int .i64 (k:Int)) m.toArray (fun _=>rfl) (fun _=>rfl) (fun _=>rfl) aj.out ai.out aP.out ?_);intro w2 g5 M _ b2 f2;have ax:=af b2;have az:=af f2;have aK:=af M;clear b2 f2 M F;have ak:Hid (∀j x,m[j]? =some x→w2.cell? ((⟨g5,0,none⟩:Addr).add j)=some x):=fE ax.out;go_wp2_with(refine aF rfl 46 (.tmp 5) rfl ⟨g5,0,none⟩ rfl m _ ?zD Tryz.underlying46 rfl aC.out (bj.go ?zG));case zD=>first|exact ak.out|exact fun j x zC=>by have q:=ak.out j x zC;rw[Addr.add_mid,Nat.zero_add]at q;exact q
   unfold bj;go_wp2_with fail;refine(sw a m w2 (aI.out _ (r.out.fr.trans az.out)) H.out.1 H.out.2).mono ?_;rintro e w3⟨cs,rfl,t,f3,P⟩;have aJ:=af t;have Y:=af (az.out.trans f3);obtain⟨d,Z,u,l,D,zA⟩:=r.out.row;have HB:=af (u.fr Y.out (fun x=>x));have ab:=af (eB.cN Y.out (fJ.nothing _) zA);have ae:Hid (d.flatten.length=k*6∧Z.length=(n1-k)*6∧cs.length=6):=⟨l,D,t.len⟩;have al:Hid (∀v∈cs,v.oneCell'=true):=fun v R=>by
    have q:=ActV.one t;rw[List.all_toArray,List.all_eq_true]at q;exact q v R
   have ad:Hid (k*6+cs.length≤(d.flatten++Z).length):=by
    have:=ae.out;have:=n.out;simp only[Hid,bh];omega
   clear t f3 P u l D zA ak ax;go_wp2_with(refine sW rfl 46 (.tmp 28) (.tmp 27) rfl g (k*6) ?zC i0 O cs rfl (by rw[ae.out.2.2,U]) al.out 46 (d.flatten++Z) HB.out ad.out (bj.go ?zE));case zC=>first|rfl|simp[Addr.add_mid]
   unfold bj;intro aX b4 f4;have aO:Hid (Ls w aX g n1 (k+1) L):=by
    have a2:=ae.out;have y:fJ w3 (fun j=>j=g):=fJ.of (fun j am=>⟨46,(show j=g from am)▸HB.out.ty,by decide,by decide,by decide⟩);refine⟨(r.out.fr.trans Y.out).aw f4 (fun i a1 e=>by have aZ:i=g:=e;have:=r.out.lt;omega),r.out.lt,d++[cs],Z.drop 6,?_,?_,?_,?_⟩
    ·have aQ:(d.flatten++Z).take (k*6)=d.flatten:=by rw[List.take_append_of_le_length (by omega),List.take_of_length_le (by omega)]
     have aR:(d.flatten++Z).drop (k*6+cs.length)=Z.drop 6:=by
      rw[List.drop_append,List.drop_of_length_le (by omega),List.nil_append];congr 1;omega
     have e:(d.flatten++Z).take (k*6)++(cs++(d.flatten++Z).drop (k*6+cs.length))=(d++[cs]).flatten++Z.drop 6:=by
      rw[aQ,aR];simp
     first|rw[e]at b4|rw[List.append_assoc,e]at b4
     exact b4
    ·simp only[List.flatten_append,bh,List.flatten_cons,List.flatten_nil,List.append_nil];omega
    ·rw[List.length_drop];omega
    ·rw[aN.out];exact eB.snoc (eB.cN f4 y ab.out) (aJ.out.cN f4 y)
   clear b4 f4;go_wp2;go_roundw;case rel=>exact⟨k+1,by have:=n.out;omega,by go_num,aO.out⟩
   case measure=>simp[intOf];have:=n.out;omega
  ·have t0:decide ((k:Int)<(n1:Int))=false:=ct (by omega);obtain rfl:k=n1:=by have:=aL.out;omega
   clear C;go_wp2;go_ret;obtain⟨d,Z,u,l,D,zA⟩:=r.out.row;obtain rfl:Z=[]:=List.length_eq_zero_iff.1 (by omega);rw[List.append_nil]at u;have aV:=G.out;rw[List.take_of_length_le (by omega)]at zA;have e:=aV.1;subst e;exact⟨g,rfl,⟨d,⟨by rw[l], .inr ⟨g,L.length,d.flatten.toArray,rfl,Nat.zero_le _,u,Nat.le_refl _,by unfold maxLen;omega,by rw[List.size_toArray,l],by rw[List.toList_toArray];exact List.take_of_length_le (by omega)⟩⟩,zA⟩,r.out.fr,r.out.lt⟩
end Go.Proofs.YtphjagkehiklkaaGreatDoor
