/- Texts. -/
import Derived.Test.YtphjagkehiklkaaGreatDoorEK13
set_option linter.unusedVariables false
set_option linter.unusedSimpArgs false
set_option maxRecDepth 100000
set_option maxHeartbeats 4000000
namespace Go.Proofs.YtphjagkehiklkaaGreatDoor.Lt
open Proofs.Tryz Go.RowKit Go.ChangeShapes Go.WideShapes Go.Deep
theorem AN:prog.cellsOf 141=8:=by kernel_rfl
theorem xV:prog.cellsOf 242=64:=by kernel_rfl
theorem vu:prog.cellsOf 140=1:=by kernel_rfl
theorem qP:prog.globalNamed "replevin/sha256.initial"=some 1:=by kernel_rfl
theorem uq:(prog.globals[1]?).map (·.type)=some 141:=by kernel_rfl
theorem oy:prog.globalNamed "replevin/sha256.constants"=some 2:=by kernel_rfl
theorem qF:(prog.globals[2]?).map (·.type)=some 242:=by kernel_rfl
def Eu:List Int:=[1779033703,3144134277,1013904242,2773480762,1359893119,2600822924,528734635,1541459225]
def Bv:List Int:=tZ.map (λn:Nat=>(n:Int))
end Go.Proofs.YtphjagkehiklkaaGreatDoor.Lt
namespace Go.Proofs.YtphjagkehiklkaaGreatDoor.Lt
open Proofs.Tryz Go.RowKit
theorem oM{P:Program}{l:Oper}{a:Act}{w:World}{K:Act->World->Prop}{Q:Exit->Act->World->Prop}(ty:TypeId)(x y:Operand)(f:l.op= .store ty x y)
  (g:Nat)(cells:Array Value)(i:a.eval x= .pointer (some ⟨g,0,none⟩))(j:a.eval y= .agg cells)
  (t:TypeId)(b:Array Value)(c:aq w g t b)(e:(P.info? ty).map (·.size)=some cells.size)
  (hold:b.size=cells.size)(d:cells.all (·.oneCell')=true)
  (h:∀w',aq w' g t cells->Fr (λk=>k=g) w w'->K (a.put l.dst undef) w'):l.wp P a w K Q:=
 wp_store_row ty x y f g cells i j t b c e hold d (h _ (iM c) ((Fr.refl (λk=>k=g) w).setRow (λ_=>rfl) cells))
structure tF(w w3:World)(ty:TypeId)(a:Array Value)(X Y:Array Value)(g5 g10 g11:Nat):Prop where
 fr:Fr Nothing w w3
 b5:aq w3 g5 ty a
 iR:aq w3 g10 ty X
 ku:aq w3 g11 ty Y
 lo:w.heap.size<=g5
 l1:g5<g10
 l2:g10<g11
theorem tF.of{w w1 w2 w3:World}{ty:TypeId}{d:Array Value}(c:dN w w1 ty d)(a:dN w1 w2 ty aH)(b:dN w2 w3 ty aH):tF w w3 ty d aH aH w.heap.size w1.heap.size w2.heap.size:=
 ⟨c.fr.trans (a.fr.trans b.fr),(c.aF.fr a.fr id).fr b.fr id,a.aF.fr b.fr id,b.aF,Nat.le_refl _,by rw[c.size];omega,by rw[a.size];omega⟩
theorem lW{P:Program}{op:Oper}{a:Act}{w:World}{K:Act->World->Prop}{Q:Exit->Act->World->Prop}(t:TypeId)(c:op.op= .alloc t)(z:Value)(d:∀w,(zeroValue t).run P w= .ok z w)(cells:Array Value)(b:z.cells=cells)
  (h:∀w',dN w w' t cells->K (a.put op.dst (.pointer (some ⟨w.heap.size,0,none⟩))) w'):op.wp P a w K Q:=by
 subst b;unfold Oper.wp execOp;simp only[c,Instr.alloc,Sem.run_bind,d,newVar,newRow,run_newObj_alloc,Sem.run_pure,Result.andThen_ok];exact h _ (dN.alloc w t z.cells)
theorem tF.kl{w w3 d:World}{ty:TypeId}{c X Y:Array Value}{g5 g10 g11 g:Nat}(h:tF w w3 ty c X Y g5 g10 g11)(a:Fr (λk=>k=g) w3 d)(f:g11<g):tF w d ty c X Y g5 g10 g11:=by
 have:=h.l1;have:=h.l2;have:=h.lo;exact⟨h.fr.aw a (λi j e=>by have b:i=g:=e;omega),h.b5.fr a (λe=>by have b:g5=g:=e;omega),h.iR.fr a (λe=>by have b:g10=g:=e;omega),h.ku.fr a (λe=>by have b:g11=g:=e;omega),h.lo,h.l1,h.l2⟩
theorem tF.later{w w3 c:World}{ty:TypeId}{b X Y:Array Value}{g5 g10 g11:Nat}(h:tF w w3 ty b X Y g5 g10 g11)(a:Fr Nothing w3 c):tF w c ty b X Y g5 g10 g11:=
 ⟨h.fr.trans a,h.b5.fr a id,h.iR.fr a id,h.ku.fr a id,h.lo,h.l1,h.l2⟩
def gQ:List UInt8:=List.replicate 32 0
theorem kV:gQ.length=32:=rfl
theorem sj:(aC gQ).toArray=aH:=by kernel_rfl
theorem kg{P:Program}{ops:Array Oper}{rest:List Oper}{e:Oper}{a:Act}{w:World}{Q:Exit->Act->World->Prop}(c:e.guard=none)(t:TypeId)(d:e.op= .build t #[])(cells:Array Value)
  (b:P.built t []=some cells)(h:wpList P ops Q rest (a.put e.dst (.agg cells)) w):wpList P ops Q (e::rest) a w:=
 wpList_buildTo c t #[] d cells (by simpa using b) h
theorem fI(n lo a:Int)(w:World):Calls prog 89 #[.int .i64 n, .int .i64 lo, .int .i64 a] w (bJ w (.bool (decide (lo<=n/\n<=a)))):=by
 by_cases b:lo<=n
 ·have t1:decide (lo<=n)=true:=decide_eq_true b;by_cases c:n<=a;·have t2:decide (n<=a)=true:=decide_eq_true c;rw[decide_eq_true ⟨b,c⟩];go_enter func89,ntmps89;go_wp2;go_ret;exact⟨rfl,rfl⟩
  ·have t2:decide (n<=a)=false:=decide_eq_false c;rw[ct (λh=>c h.2)];go_enter func89,ntmps89;go_wp2;go_ret;exact⟨rfl,rfl⟩
 ·have t1:decide (lo<=n)=false:=decide_eq_false b;rw[ct (λh=>b h.1)];go_enter func89,ntmps89;go_wp2;go_ret;exact⟨rfl,rfl⟩
theorem FJ:aH.size=32:=by kernel_rfl
theorem yJ:aH.all (·.oneCell')=true:=by kernel_rfl
theorem rJ:prog.built 38 []=some aH:=by kernel_rfl
theorem zE:(prog.info? 38).map (·.size)=some aH.size:=by rw[FJ];exact fC
theorem uw{P:Program}{op:Oper}{a:Act}{w:World}{K:Act->World->Prop}{Q:Exit->Act->World->Prop}(t:TypeId)(parts:Array (Nat×Operand))(c:op.op= .build t parts)(cells:Array Value)
  (b:P.built t (parts.map λ(i,x)=>(i,a.eval x)).toList=some cells)(h:K (a.put op.dst (.agg cells)) w):op.wp P a w K Q:=
 wp_build t parts c (by rw[b];rfl) (by rw[b];exact h)
end Go.Proofs.YtphjagkehiklkaaGreatDoor.Lt
namespace Go.Proofs.YtphjagkehiklkaaGreatDoor.Lt
open Proofs.Tryz Go.RowKit Go.Shelf
attribute[local go_sem]Oper.semAt_some
def bV(index n:Nat):List Bool:=
 if a:2<=n/\aU n<n/\1<=aU n then
  (if index<aU n then bV index (aU n)++[true]else bV (index-aU n) (n-aU n)++[false])
 else[]
termination_by n
decreasing_by all_goals omega
theorem uo(index:Nat):bV index 1=[]:=by rw[bV,dif_neg (by omega)]
theorem sf{index n:Nat}(b:2<=n)(d:n<=1099511627776)(h:index<aU n):bV index n=bV index (aU n)++[true]:=by
 obtain⟨a,_,c⟩:=dG n b d;rw[bV,dif_pos ⟨b,a,c⟩,if_pos h]
theorem qD{index n:Nat}(b:2<=n)(d:n<=1099511627776)(h:¬index<aU n):bV index n=bV (index-aU n) (n-aU n)++[false]:=by
 obtain⟨a,_,c⟩:=dG n b d;rw[bV,dif_pos ⟨b,a,c⟩,if_neg h]
theorem RoundIn.jM{F:Fence}(a:F.depth=none){m b:Nat}{P:Program}{l:Nat}{f:FuncId}{tmps:Array Value}{assign body:Code}{w:World}{e:Ending->World->Prop}
  (h:RoundIn F m P l f tmps assign body w e):RoundIn F b P l f tmps assign body w e:=⟨h.1,λc cs _=>h.2 c cs (λd h=>by rw[a]at h;cases h)⟩
theorem YieldAt.jM{F:Fence}(b:F.depth=none){m:Nat}(d:Nat){P:Program}{l:Nat}{args:Array Value}{W:World}{e:Ending->World->Prop}(h:YieldAt F m P l args W e):YieldAt F d P l args W e:=by
 obtain⟨fn,tmps,assign,body,c,a⟩:=h;exact⟨fn,tmps,assign,body,c,RoundIn.jM b a⟩
def Jc(b a:List Bool->World->Prop)(pre xs:List Bool)(e:Ending)(W':World):Prop:=
 (e= .returned (.bool true)/\b (pre++xs) W')\/(e= .returned (.bool false)/\∃q,q<+:xs/\a (pre++q) W')
theorem Hj(l N:Nat)(I g:List Bool->World->Prop)
  (v:∀m pre x W,I pre W->pre.length<N->YieldAt Fence.wide m prog l #[.bool x] W λe W'=>(e= .returned (.bool true)/\I (pre++[x]) W')\/(e= .returned (.bool false)/\g (pre++[x]) W'))(n:Nat):
  ∀(m index:Nat)(pre:List Bool)(W:World),index<n->n<=1048576->I pre W->pre.length+(bV index n).length<=N->
   CallsIn Fence.wide m prog 158 #[.int .i64 index, .int .i64 n, .func (.yield l) #[] #[]] W (Jc I g pre (bV index n)):=by
 induction n using Nat.strongRecOn with
 |_ n y=>
  intro m index pre W C F i hN;have b:∀k:Nat,(Fence.wide.depth.isSome=true->1<=k):=λk h=>by cases h
  by_cases e:n=1;·subst e;rw[uo];refine callsIn_of_wp func158 rfl trivial ?_ rfl;simp only[ntmps158,List.size_toArray,List.length_cons,List.length_nil,Nat.reduceAdd,Nat.reduceSub,Array.replicate_succ,Array.replicate_zero,List.push_toArray,List.append_toArray,List.nil_append,List.cons_append];gi_wp2;go_ret;exact .inl ⟨rfl,by simpa using i⟩
  ·obtain⟨E,_,G⟩:=dG n (by omega) (by omega);have u:=af (λw=>ny n w (by omega) (by omega));have t1:((n:Int)==1)=false:=by rw[beq_eq_false_iff_ne];omega
   by_cases hm:index<aU n
   ·have t2:decide ((index:Int)<((aU n:Nat):Int))=true:=cX (by omega);have s:=sf (by omega) (by omega) hm;rw[s]at hN⊢;rw[aT]at hN;have d:∀a,I (pre++bV index (aU n)) a->YieldAt Fence.wide (m-1) prog l #[.bool true] a λe c=>
      (e= .returned (.bool true)/\I (pre++bV index (aU n)++[true]) c)\/(e= .returned (.bool false)/\g (pre++bV index (aU n)++[true]) c):=λa j=>
     v (m-1) _ true a j (by simp at hN⊢;omega);have f:=af (λW(i:I pre W)=>(y (aU n) E (m-1) index pre W hm (by omega) i (by omega)).mono (R':=λe a=>
      (e= .returned (.bool true)/\YieldAt Fence.wide (m-1) prog l #[.bool true] a λe c=>
       (e= .returned (.bool true)/\I (pre++bV index (aU n)++[true]) c)\/(e= .returned (.bool false)/\g (pre++bV index (aU n)++[true]) c))\/
      (e= .returned (.bool false)/\∃q,q<+:bV index (aU n)/\g (pre++q) a))
     (λe a h=>h.elim (λ⟨he,A⟩=> .inl ⟨he,d a A⟩) .inr));clear d y v s hN;generalize z:bV index (aU n)=S at*;clear z;generalize aU n=k at*;refine callsIn_of_wp func158 rfl trivial ?_ rfl;simp only[ntmps158,List.size_toArray,List.length_cons,List.length_nil,Nat.reduceAdd,Nat.reduceSub,Array.replicate_succ,Array.replicate_zero,List.push_toArray,List.append_toArray,List.nil_append,List.cons_append]
    gi_wp2_with(first
     |((try refine⟨trivial,b _,?_⟩);gi_at_call 121;refine(callsIn_wide.2 (u.out _)).mono ?_;clear u;rintro e w1⟨rfl,rfl⟩)
     |((try refine⟨trivial,b _,?_⟩);gi_at_call 158;refine(f.out _ i).mono ?_;clear f;rintro e a(⟨rfl,fn,tmps,assign,body,D,t⟩|⟨rfl,q,B,p⟩))
     |((try refine⟨b _,?_⟩);(try refine⟨trivial,b _,?_⟩);refine t.mono ?_;clear t;rintro e c(⟨rfl,o⟩|⟨rfl,r⟩)));·go_ret;exact .inl ⟨rfl,by simpa[List.append_assoc]using o⟩
    ·go_ret;exact .inr ⟨rfl,S++[true],List.prefix_refl _,by simpa[List.append_assoc]using r⟩
    ·refine⟨λ_ h=>(by cases h),?_⟩;gi_wp2;go_ret;exact .inr ⟨rfl,q,B.trans (List.prefix_append _ _),p⟩
   ·have t2:decide ((index:Int)<((aU n:Nat):Int))=false:=ct (by omega);have s:=qD (by omega) (by omega) hm;rw[s]at hN⊢;rw[aT]at hN;have s1:(index:Int)-((aU n:Nat):Int)=((index-aU n:Nat):Int):=by omega
    have s2:(n:Int)-((aU n:Nat):Int)=((n-aU n:Nat):Int):=by omega
    have d:∀a,I (pre++bV (index-aU n) (n-aU n)) a->YieldAt Fence.wide (m-1) prog l #[.bool false] a λe c=>
      (e= .returned (.bool true)/\I (pre++bV (index-aU n) (n-aU n)++[false]) c)\/(e= .returned (.bool false)/\g (pre++bV (index-aU n) (n-aU n)++[false]) c):=λa j=>
     v (m-1) _ false a j (by simp at hN⊢;omega);have f:=af (λW(i:I pre W)=>(y (n-aU n) (by omega) (m-1) (index-aU n) pre W (by omega) (by omega) i (by omega)).mono (R':=λe a=>
      (e= .returned (.bool true)/\YieldAt Fence.wide (m-1) prog l #[.bool false] a λe c=>
       (e= .returned (.bool true)/\I (pre++bV (index-aU n) (n-aU n)++[false]) c)\/(e= .returned (.bool false)/\g (pre++bV (index-aU n) (n-aU n)++[false]) c))\/
      (e= .returned (.bool false)/\∃q,q<+:bV (index-aU n) (n-aU n)/\g (pre++q) a))
     (λe a h=>h.elim (λ⟨he,A⟩=> .inl ⟨he,d a A⟩) .inr));clear d y v s hN;generalize z:bV (index-aU n) (n-aU n)=S at*;clear z;have b1:index-aU n<=1048576:=by omega
    have b2:n-aU n<=1048576:=by omega
    generalize index-aU n=i2 at*;generalize n-aU n=H at*;generalize aU n=k at*;refine callsIn_of_wp func158 rfl trivial ?_ rfl;simp only[ntmps158,List.size_toArray,List.length_cons,List.length_nil,Nat.reduceAdd,Nat.reduceSub,Array.replicate_succ,Array.replicate_zero,List.push_toArray,List.append_toArray,List.nil_append,List.cons_append]
    gi_wp2_with(first
     |((try refine⟨trivial,b _,?_⟩);gi_at_call 121;refine(callsIn_wide.2 (u.out _)).mono ?_;clear u;rintro e w1⟨rfl,rfl⟩)
     |((try refine⟨trivial,b _,?_⟩);gi_at_call 158;refine(f.out _ i).mono ?_;clear f;rintro e a(⟨rfl,fn,tmps,assign,body,D,t⟩|⟨rfl,q,B,p⟩))
     |((try refine⟨b _,?_⟩);(try refine⟨trivial,b _,?_⟩);refine t.mono ?_;clear t;rintro e c(⟨rfl,o⟩|⟨rfl,r⟩)));·go_ret;exact .inl ⟨rfl,by simpa[List.append_assoc]using o⟩
    ·go_ret;exact .inr ⟨rfl,S++[false],List.prefix_refl _,by simpa[List.append_assoc]using r⟩
    ·refine⟨λ_ h=>(by cases h),?_⟩;gi_wp2;go_ret;exact .inr ⟨rfl,q,B.trans (List.prefix_append _ _),p⟩
theorem zZ(m c d index n:Nat)(w:World)(y:c<w.heap.size)(B:d<w.heap.size)(ci:w.cell? ⟨c,0,none⟩=some (.int .i64 index))(t:w.cell? ⟨d,0,none⟩=some (.int .i64 n))(i:index<n)(j:n<=1048576):
  SeqStopsK Fence.wide m prog 157 #[.pointer (some ⟨c,0,none⟩), .pointer (some ⟨d,0,none⟩)] (λx:Bool=>#[Value.bool x]) (λ_ _=>True) (λE=>E=bV index n) (λpre=>pre<+:bV index n) (bV index n).length w:=by
 intro l I s W o _ _ v u;have g:∀k:Nat,(Fence.wide.depth.isSome=true->1<=k):=λk h=>by cases h
 have r:=Hj l (bV index n).length I s (λm pre x W z A=>YieldAt.jM rfl m (YieldAt.mono (v pre x W z A) λe W' h=>h.elim (λ⟨a,b,_⟩=> .inl ⟨a,b⟩) .inr)) n (m-1) index [] W i j u (by simp);have G:=(o.cell (p:=⟨c,0,none⟩) y).trans ci;have H:=(o.cell (p:=⟨d,0,none⟩) B).trans t;refine callsIn_of_wp func157 rfl trivial ?_ rfl;simp only[ntmps157,List.size_toArray,List.length_cons,List.length_nil,Nat.reduceAdd,Nat.reduceSub,Array.replicate_succ,Array.replicate_zero,List.push_toArray,List.append_toArray,List.nil_append,List.cons_append];gi_wp2_with((try refine⟨trivial,g _,?_⟩);gi_at_call 158;refine r.mono ?_;clear r;rintro e F(⟨rfl,f⟩|⟨rfl,q,C,D⟩));·go_end0;exact⟨⟨_,rfl⟩, .inl ⟨_,rfl,by simpa using f⟩⟩
 ·go_end0;exact⟨⟨_,rfl⟩, .inr ⟨q,C,by simpa using D⟩⟩
theorem Fu(index n:Int)(w:World):Calls prog 123 #[.int .i64 index, .int .i64 n] w λe w'=>e= .returned (.func (.func 157) #[] #[.pointer (some ⟨w.heap.size,0,none⟩), .pointer (some ⟨w.heap.size+1,0,none⟩)])/\w'=(w.alloc (.cells #[.int .i64 index] 3)).alloc (.cells #[.int .i64 n] 3):=by
 go_enter func123,ntmps123;go_wp2;go_ret;exact⟨rfl,rfl⟩
end Go.Proofs.YtphjagkehiklkaaGreatDoor.Lt
namespace Go.Proofs.YtphjagkehiklkaaGreatDoor.Lt
open Proofs.Tryz Go.RowKit
def oJ(s:List UInt8×List (List UInt8×List UInt8))(b:Bool)(d:List UInt8):List UInt8×List (List UInt8×List UInt8):=
 (cS (if b then s.1 else d) (if b then d else s.1),s.2++[(if b then s.1 else d,if b then d else s.1)])
def dI(leaf:List UInt8)(pre:List Bool)(path:List (List UInt8)):List UInt8×List (List UInt8×List UInt8):=(pre.zip path).foldl (λs x=>oJ s x.1 x.2) (leaf,[])
theorem IK(leaf:List UInt8)(path:List (List UInt8)):dI leaf [] path=(leaf,[]):=rfl
theorem yK:∀(pre:List Bool)(path:List (List UInt8))(b:Bool)(d:List UInt8),path[pre.length]? =some d->(pre++[b]).zip path=pre.zip path++[(b,d)]
 |[],d'::path,b,d,h=>by simp at h;simp[h]
 |[],[],b,d,h=>by simp at h
 |x::pre,[],b,d,h=>by simp at h
 |x::pre,y::path,b,d,h=>by
  have a:path[pre.length]? =some d:=by simpa using h
  simp[yK pre path b d a]
theorem mF(leaf:List UInt8)(pre:List Bool)(path:List (List UInt8))(b:Bool)(d:List UInt8)(h:path[pre.length]? =some d):dI leaf (pre++[b]) path=oJ (dI leaf pre path) b d:=by
 unfold dI;rw[yK pre path b d h,List.foldl_append];rfl
structure yZ(s:List UInt8×List (List UInt8×List UInt8))(n:Nat):Prop where
 root:s.1.length=32
 count:s.2.length=n
 each:∀p∈s.2,p.1.length=32/\p.2.length=32
theorem yZ.step{s:List UInt8×List (List UInt8×List UInt8)}{n:Nat}(h:yZ s n)(b:Bool)(d:List UInt8)(c:d.length=32):yZ (oJ s b d) (n+1):=by
 refine⟨eT _ _,by simp[oJ,h.count],λp a=>?_⟩;simp only[oJ,List.mem_append,List.mem_singleton]at a;rcases a with a|rfl;·exact h.each p a
 ·cases b;·exact⟨c,h.root⟩
  ·exact⟨h.root,c⟩
theorem wV(leaf:List UInt8)(e:leaf.length=32)(path:List (List UInt8))(he:∀d∈path,d.length=32):∀(k:Nat)(pre:List Bool),pre.length=k->k<=path.length->yZ (dI leaf pre path) k
 |0,pre,h,_=>by
  obtain rfl:=List.eq_nil_of_length_eq_zero h;exact⟨e,rfl,λp f=>by cases f⟩
 |k+1,pre,h,g=>by
  rcases List.eq_nil_or_concat pre with rfl|⟨c,b,rfl⟩;·simp at h
  ·rw[List.concat_eq_append]at h⊢;rw[aT,List.length_singleton]at h;have a:c.length<path.length:=by omega
   rw[mF leaf c path b path[c.length] (List.getElem?_eq_getElem a)];exact(wV leaf e path he k c (by omega) (by omega)).step b _ (he _ (List.getElem_mem a))
def nC(p:List UInt8×List UInt8):List Value:=aC p.1++aC p.2
theorem yg(d:List UInt8):∀u∈aC d,u.oneCell'=true:=λu hu=>j6 d u hu
theorem EU(p:List UInt8×List UInt8):∀u∈nC p,u.oneCell'=true:=λu hu=>by
 rcases List.mem_append.1 hu with h|h;·exact yg _ u h
 ·exact yg _ u h
def dq(leaf:List UInt8)(index n:Int)(path:List (List UInt8)):List UInt8×List (List UInt8×List UInt8)×Int:=
 if 1<=n/\n<=1048576/\0<=index/\index<n then
  (if path.length=(bV index.toNat n.toNat).length then((dI leaf (bV index.toNat n.toNat) path).1,(dI leaf (bV index.toNat n.toNat) path).2,0)else(gQ,[],35))
 else(gQ,[],2)
theorem Fh{w:World}{g:Nat}{t:TypeId}{L d:List Value}(h:aq w g t (L++d).toArray)(c:L.length=32):w.rangeAt g 0 L/\w.rangeAt g 32 d:=by
 refine⟨λj v a=>?_,λj v a=>?_⟩;·have b:=(List.getElem?_eq_some_iff.1 a).1;rw[Nat.zero_add,h.cell,bP,List.getElem?_append_left b];exact a
 ·rw[h.cell,bP,List.getElem?_append_right (by omega),c,show 32+j-32=j by omega];exact a
theorem tT(l r:List UInt8)(b:l.length=32)(g:r.length=32)(w:World)(hT:bU w):Calls prog 124 #[.agg (aC l++aC r).toArray] w (aM w (bj (cS l r))):=by
 have h:Hid (∀w',Fr Nothing w w'->Calls prog 122 #[.agg (aC l).toArray, .agg (aC r).toArray] w' (aM w' (.agg (aC (cS l r)).toArray))):=λw' E=>lZ l r b g w' (hT.ao E);have D:Hid (dL (aC (cS l r)).toArray):=dL.of (eT l r);have c:Hid ((aC l).length=32):=by simp[Hid,aC,b]
 have y:Hid ((prog.info? 38).map (·.size)=some (aC l).length):=by rw[aC,List.length_map,b];exact fC
 have z:Hid ((prog.info? 38).map (·.size)=some (aC r).length):=by rw[aC,List.length_map,g];exact fC
 unfold bj;change Calls _ _ _ _ (aM w (.agg (aC (cS l r)).toArray));clear hT b g;generalize aC (cS l r)=NV at*;generalize aC l=k at*;generalize aC r=m at*;have ty:=underlying38;go_enter func124,ntmps124;go_wp2_with(refine aD rfl 139 (.tmp 0) rfl _ rfl ?_);intro w1 n1;have d:=af n1;clear n1;go_wp2_with(refine an rfl 38 rfl bp jn aH rfl ?_);intro w2 n;have f:=af n;clear n;have t:Hid (aq w2 w.heap.size 139 (k++m).toArray):=d.out.aF.fr f.out.fr id;have j:Hid (Fr Nothing w w2):=d.out.fr.trans f.out.fr;have A:Hid (w.heap.size<w1.heap.size):=by have:=d.out.size;simp only[Hid];omega
 obtain⟨o,q⟩:=Fh t.out c.out;generalize a:w.heap.size=g0 at*;go_wp2_with(first|(refine wpList_load_mid rfl 38 (.tmp 3) rfl g0 0 rfl k _ o ty rfl y.out ?_)|(refine wpList_load_mid rfl 38 (.tmp 5) rfl g0 32 rfl m _ q ty rfl z.out ?_)|fail);refine(h.out _ j.out).mono ?_;rintro e w3⟨rfl,f3⟩;have u:=af (f.out.aF.fr f3 id);have v:=af (j.out.trans f3);have x:=af a;clear f3 o q h a;go_wp2_with(refine ai rfl 38 (.tmp 2) _ rfl w1.heap.size NV.toArray rfl rfl _ _ u.out D.out.info D.out.zero D.out.one ?_);intro s b4 f4;have B:=af b4;have C:Hid (Fr Nothing w s):=v.out.aw f4 (λi G e=>by have F:i=w1.heap.size:=e;have:=A.out;have:=x.out;omega);clear b4 f4;go_wp2;exact bodyPost_ret (results_cell_row (fn:=Tryz.f124) (p:=2) (ty:=38) results124 _ s _ 38 NV.toArray (0,0) _ rfl B.out underlying38 rfl D.out.info) rfl ⟨rfl,C.out⟩
end Go.Proofs.YtphjagkehiklkaaGreatDoor.Lt
namespace Go.Proofs.YtphjagkehiklkaaGreatDoor.Lt
open Proofs.Tryz Go.RowKit Go.Shelf
attribute[local go_sem]Oper.semAt_some
theorem bW{P:Program}{ops:Array Oper}{rest:List Oper}{m:Oper}{a:Act}{w:World}{Q:Exit->Act->World->Prop}(c:m.guard=none)(ty:TypeId)(x y:Operand)(i:m.op= .store ty x y)
  (g:Nat)(v:Value)(j:a.eval x= .pointer (some ⟨g,0,none⟩))(l:a.eval y=v)(e:v.oneCell'=true)
  (t:TypeId)(b:Value)(d:aq w g t #[b])(f:(P.info? ty).map (·.size)=some 1)
  (h:∀w',aq w' g t #[v]->Fr (λk=>k=g) w w'->wpList P ops Q rest (a.put m.dst undef) w'):wpList P ops Q (m::rest) a w:=by
 subst l;exact wpList_store_one c ty x y i g j e t b d f (h _ (iM d) ((Fr.refl (λk=>k=g) w).setRow (λ_=>rfl) _))
theorem eK{P:Program}(w:World)(g:Nat)(t ty:TypeId)(v:Value)(d:aq w g t #[v])(a:(P.info? ty).map (·.size)=some 1)(b:(isAgg ty).run P w= .ok false w):
  (loadVar ty ⟨g,0,none⟩).run P w= .ok v w:=by
 have c:w.cell? ⟨g,0,none⟩=some v:=d.cell 0;simp[loadVar,b,go_sem,c]
theorem mV:(prog.info? 135).map (·.size)=some 1:=by kernel_rfl
theorem ql:(prog.info? 34).map (·.size)=some 1:=by kernel_rfl
theorem GC(w:World):(zeroValue 135).run prog w= .ok (.slice none 0 0) w:=by kernel_rfl
theorem KV(w:World):(zeroValue 34).run prog w= .ok (.int .i64 0) w:=by kernel_rfl
theorem isAgg82(w:World):(isAgg 135).run prog w= .ok false w:=by kernel_rfl
theorem isAgg26(w:World):(isAgg 34).run prog w= .ok false w:=by kernel_rfl
theorem jd(tmps:Array Value)(w:World)(g8 g9 g10:Nat)(cs:Array Value)(v:Value)(k:Int)
  (e:tmps.getD 8 undef= .pointer (some ⟨g8,0,none⟩))(f:tmps.getD 9 undef= .pointer (some ⟨g9,0,none⟩))(b:tmps.getD 10 undef= .pointer (some ⟨g10,0,none⟩))
  (b8:aq w g8 38 cs)(g:(prog.info? 38).map (·.size)=some cs.size)(b9:aq w g9 135 #[v])(iR:aq w g10 34 #[.int .i64 k]):
  (results Tryz.f77 tmps).run prog w= .ok (.tuple #[.agg cs,v, .int .i64 k]) w:=by
 have c:tmps[8]?.getD undef= .pointer (some ⟨g8,0,none⟩):=by simpa using e
 have d:tmps[9]?.getD undef= .pointer (some ⟨g9,0,none⟩):=by simpa using f
 have a:tmps[10]?.getD undef= .pointer (some ⟨g10,0,none⟩):=by simpa using b
 simp[results,results77,c,d,a,asAddr,run_loadVar_row w g8 38 38 cs (0,0) _ b8 underlying38 rfl g,eK w g9 _ _ v b9 mV (isAgg82 w),eK w g10 _ _ _ iR ql (isAgg26 w)]
def kP(w:World)(V:List UInt8×List (List UInt8×List UInt8)×Int)(e:Ending)(w':World):Prop:=
 ∃v,e= .returned (.tuple #[bj V.1,v, .int .i64 V.2.2])/\bT 139 64 w (.slice none 0 0) w' v V.2.1.length (V.2.1.flatMap nC)
theorem kP.none{w w':World}{k:Int}(h:Fr Nothing w w'):kP w (gQ,[],k) (.returned (.tuple #[bj gQ, .slice none 0 0, .int .i64 k])) w':=
 ⟨_,rfl,⟨⟨rfl, .inl ⟨rfl,rfl⟩⟩,h.bR,λ_ a=> .inl a⟩⟩
structure mM(w w':World)(len:Nat)(A:Option Addr)(c:Nat)(a:List Value)(g4 g7 g8 g9 g10:Nat):Prop where
 fr:Fr Nothing w w'
 b4:aq w' g4 38 a.toArray
 b7:aq w' g7 31 #[.slice A len c]
 b8:aq w' g8 38 aH
 b9:aq w' g9 135 #[.slice none 0 0]
 iR:aq w' g10 34 #[.int .i64 0]
 o4:w.heap.size<=g4
 o7:g4<g7
 o8:g7<g8
 o9:g8<g9
 jJ:g9<g10
theorem mM.later{w w' b:World}{len:Nat}{A:Option Addr}{c:Nat}{d:List Value}{g4 g7 g8 g9 g10:Nat}(h:mM w w' len A c d g4 g7 g8 g9 g10)(a:Fr Nothing w' b):mM w b len A c d g4 g7 g8 g9 g10:=
 ⟨h.fr.trans a,h.b4.fr a id,h.b7.fr a id,h.b8.fr a id,h.b9.fr a id,h.iR.fr a id,h.o4,h.o7,h.o8,h.o9,h.jJ⟩
theorem mM.of{w w1 w2 w3 g i:World}{len:Nat}{A:Option Addr}{c:Nat}{h:List Value}(f:dN w w1 38 h.toArray)(e:dN w1 w2 31 #[.slice A len c])(d:dN w2 w3 38 aH)(a:dN w3 g 135 #[.slice none 0 0])(b:dN g i 34 #[.int .i64 0]):
  mM w i len A c h w.heap.size w1.heap.size w2.heap.size w3.heap.size g.heap.size:=by
 have j:=f.size;have k:=e.size;have l:=d.size;have m:=a.size;exact⟨f.fr.trans (e.fr.trans (d.fr.trans (a.fr.trans b.fr))),f.aF.fr (e.fr.trans (d.fr.trans (a.fr.trans b.fr))) id,e.aF.fr (d.fr.trans (a.fr.trans b.fr)) id,d.aF.fr (a.fr.trans b.fr) id,a.aF.fr b.fr id,b.aF,Nat.le_refl _,by omega,by omega,by omega,by omega⟩
theorem cT{w:World}{base:Nat}{e:TypeId}{size n k:Nat}{v:Value}{xs:List Value}(h:w.ownsRow base e size v n xs)(a:v.ownBlock=some k):∃f,w.heap[k]? =some f/\f.isCells=true:=by
 rcases h.2 with⟨rfl,_⟩|⟨d,b,cur,rfl,_,c,_⟩;·simp[Value.ownBlock]at a
 ·simp[Value.ownBlock]at a;subst a;exact⟨_,c,rfl⟩
structure rC(w1:World)(g11 g12 len:Nat)(leaf:List UInt8)(path:List (List UInt8))(pre:List Bool)(W:World):Prop where
 fr:Fr (λk=>k=g11\/k=g12) w1 W
 le:pre.length<=len
 row:∃v,aq W g11 135 #[v]/\W.ownsRow 0 139 64 v pre.length ((dI leaf pre path).2.flatMap nC)/\∀k,v.ownBlock=some k->w1.heap.size<=k
 root:aq W g12 38 (aC (dI leaf pre path).1).toArray
theorem rC.jb{w1:World}{g11 g12 len:Nat}{leaf:List UInt8}{path:List (List UInt8)}(d:g11<w1.heap.size)(f:g12<w1.heap.size):OwnFrom w1.heap.size (rC w1 g11 g12 len leaf path):=by
 intro pre A B row h p o;have a:∀k,k<w1.heap.size->some k≠row:=λk m e=>by have:=(o k e.symm).1;omega
 have c:Fr (λk=>some k=row) A B:=Fr.grown p;obtain⟨v,ku,b,r⟩:=h.row;refine⟨h.fr.aw c (λi q e=>absurd e (a i q)),h.le,⟨v,ku.fr c (λe=>a _ d e),aP b c (λk m e=>?_),r⟩,h.root.fr c (λe=>a _ f e)⟩;obtain⟨_,t,n,l⟩:=o k e.symm;obtain⟨s,j,g⟩:=cT b m;rw[j]at n;cases n;rw[g]at l;cases l
structure FU(w1:World)(g8 g9 g10 g11 g12:Nat)(W:World):Prop where
 fr:Fr (λk=>k=g8\/k=g9\/k=g10\/k=g11\/k=g12) w1 W
 b8:aq W g8 38 aH
 b9:aq W g9 135 #[.slice none 0 0]
 iR:aq W g10 34 #[.int .i64 35]
theorem FU.jb{w1:World}{g8 g9 g10 g11 g12:Nat}(d:g8<w1.heap.size)(f:g9<w1.heap.size)(c:g10<w1.heap.size)(C:Prop):OwnFrom w1.heap.size (λ(_:List Bool)W=>FU w1 g8 g9 g10 g11 g12 W/\C):=by
 intro pre A B row⟨h,g⟩j m;have a:∀k,k<w1.heap.size->some k≠row:=λk n e=>by have:=(m k e.symm).1;omega
 have b:Fr (λk=>some k=row) A B:=Fr.grown j;exact⟨⟨h.fr.aw b (λi l e=>absurd e (a i l)),h.b8.fr b (λe=>a _ d e),h.b9.fr b (λe=>a _ f e),h.iR.fr b (λe=>a _ c e)⟩,g⟩
theorem zL(leaf:List UInt8)(B:leaf.length=32)(index n:Int)(A:Option Addr)(len c:Nat)(w:World)(F:¬(1<=n/\n<=1048576/\0<=index/\index<n))(O:-9223372036854775808<=n/\n<=9223372036854775807):
  Calls prog 77 #[bj leaf, .int .i64 index, .int .i64 n, .slice A len c] w (kP w (gQ,[],2)):=by
 have D:Hid (∀w',Calls prog 89 #[.int .i64 n, .int .i64 1, .int .i64 1048576] w' (bJ w' (.bool (decide (1<=n/\n<=1048576))))):=λw'=>fI n 1 1048576 w';have H:Hid (∀w',Calls prog 89 #[.int .i64 index, .int .i64 0, .int .i64 (n-1)] w' (bJ w' (.bool (decide (0<=index/\index<=n-1))))):=λw'=>fI index 0 (n-1) w';have J:decide (1<=n/\n<=1048576)=false\/(decide (1<=n/\n<=1048576)=true/\decide (0<=index/\index<=n-1)=false):=by
  by_cases u:1<=n/\n<=1048576;·exact .inr ⟨decide_eq_true u,ct (λh=>F ⟨u.1,u.2,h.1,by omega⟩)⟩
  ·exact .inl (decide_eq_false u)
 have G:decide (1<=n/\n<=1048576)=true->IntKind.i64.wrap (n-1)=n-1:=λh=>IntWalk.i64_in _ (by have:=of_decide_eq_true h;omega);have d:Hid (dL (aC gQ).toArray):=dL.of kV;have I:Hid ((aC gQ).toArray=aH):=sj;have E:Hid (prog.built 38 []=some aH):=rJ;clear F B;have z:=af (λw'(h:Fr Nothing w w')=>kP.none (k:=2) h);unfold bj at*;simp only[show∀l:List UInt8,l.map bK=aC l fromλ_=>rfl]at*;rw[I.out]at d z;generalize aC leaf=N at*;generalize decide (1<=n/\n<=1048576)=P at*;generalize decide (0<=index/\index<=n-1)=Q at*;generalize hm:n-1=m at*;rcases J with rfl|⟨rfl,rfl⟩;·go_enter func77,ntmps77;go_wp2_with(refine aD rfl 38 (.tmp 0) rfl _ rfl ?_);intro w1 n1;have j:=af n1;clear n1;go_wp2_with(refine aD rfl 31 (.tmp 3) rfl _ rfl ?_);intro w2 t;have o:=af t;clear t;go_wp2_with(refine an rfl 38 rfl bp jn aH rfl ?_);intro w3 n3;have p:=af n3;clear n3;go_wp2_with(refine an rfl 135 rfl (.slice none 0 0) GC #[.slice none 0 0] rfl ?_);intro C n4;have q:=af n4;clear n4;go_wp2_with(refine an rfl 34 rfl (.int .i64 0) KV #[.int .i64 0] rfl ?_);intro K n5;have a:=af (mM.of j.out o.out p.out q.out n5);clear n5 j o p q;generalize r:w.heap.size=g4 at*;have f:=af r;clear r;generalize w1.heap.size=g7 at*;generalize w2.heap.size=g8 at*;generalize w3.heap.size=g9 at*;generalize C.heap.size=g10 at*;go_wp2_with fail;refine(D.out _).mono ?_;rintro e w'⟨rfl,rfl⟩;go_upto_region 2 with fail;refine wp_region_lit ?_;refine kg rfl 38 rfl aH E.out ?_;refine ai rfl 38 (.tmp 8) _ rfl g8 aH rfl rfl _ _ a.out.b8 d.out.info rfl d.out.one ?_;intro L b1 f1;refine bW rfl 135 (.tmp 9) _ rfl g9 (.slice none 0 0) rfl rfl rfl _ _ (a.out.b9.fr f1 (λe=>by have b:g9=g8:=e;have:=a.out.o9;omega)) mV ?_;intro M b2 f2;refine bW rfl 34 (.tmp 10) _ rfl g10 (.int .i64 2) rfl rfl rfl _ _ ((a.out.iR.fr f1 (λe=>by have b:g10=g8:=e;have:=a.out.o9;have:=a.out.jJ;omega)).fr f2 (λe=>by have b:g10=g9:=e;have:=a.out.jJ;omega)) ql ?_;intro x3 b3 f3;have v:=af ((b1.fr f2 (λe=>by have b:g8=g9:=e;have:=a.out.o9;omega)).fr f3 (λe=>by have b:g8=g10:=e;have:=a.out.o9;have:=a.out.jJ;omega));have x:=af (b2.fr f3 (λe=>by have b:g9=g10:=e;have:=a.out.jJ;omega));have g:=af b3;have y:Hid (Fr Nothing w x3):=((a.out.fr.aw f1 (λi s e=>by have b:i=g8:=e;have:=a.out.o4;have:=a.out.o7;have:=a.out.o8;have:=f.out;omega)).aw f2 (λi s e=>by have b:i=g9:=e;have:=a.out.o4;have:=a.out.o7;have:=a.out.o8;have:=a.out.o9;have:=f.out;omega)).aw f3 (λi s e=>by have b:i=g10:=e;have:=a.out.o4;have:=a.out.o7;have:=a.out.o8;have:=a.out.o9;have:=a.out.jJ;have:=f.out;omega);clear b1 b2 b3 f1 f2 f3;go_wp2;exact bodyPost_ret (jd _ x3 g8 g9 g10 aH _ 2 rfl rfl rfl v.out d.out.info x.out g.out) rfl (z.out _ y.out)
 ·go_enter func77,ntmps77;go_wp2_with(refine aD rfl 38 (.tmp 0) rfl _ rfl ?_);intro w1 n1;have j:=af n1;clear n1;go_wp2_with(refine aD rfl 31 (.tmp 3) rfl _ rfl ?_);intro w2 t;have o:=af t;clear t;go_wp2_with(refine an rfl 38 rfl bp jn aH rfl ?_);intro w3 n3;have p:=af n3;clear n3;go_wp2_with(refine an rfl 135 rfl (.slice none 0 0) GC #[.slice none 0 0] rfl ?_);intro C n4;have q:=af n4;clear n4;go_wp2_with(refine an rfl 34 rfl (.int .i64 0) KV #[.int .i64 0] rfl ?_);intro K n5;have a:=af (mM.of j.out o.out p.out q.out n5);clear n5 j o p q;generalize r:w.heap.size=g4 at*;have f:=af r;clear r;generalize w1.heap.size=g7 at*;generalize w2.heap.size=g8 at*;generalize w3.heap.size=g9 at*;generalize C.heap.size=g10 at*;go_wp2_with fail;refine(D.out _).mono ?_;rintro e w'⟨rfl,rfl⟩;go_wp2_with fail;refine(H.out _).mono ?_;rintro e w'⟨rfl,rfl⟩;go_upto_region 2 with fail;refine wp_region_lit ?_;refine kg rfl 38 rfl aH E.out ?_;refine ai rfl 38 (.tmp 8) _ rfl g8 aH rfl rfl _ _ a.out.b8 d.out.info rfl d.out.one ?_;intro L b1 f1;refine bW rfl 135 (.tmp 9) _ rfl g9 (.slice none 0 0) rfl rfl rfl _ _ (a.out.b9.fr f1 (λe=>by have b:g9=g8:=e;have:=a.out.o9;omega)) mV ?_;intro M b2 f2;refine bW rfl 34 (.tmp 10) _ rfl g10 (.int .i64 2) rfl rfl rfl _ _ ((a.out.iR.fr f1 (λe=>by have b:g10=g8:=e;have:=a.out.o9;have:=a.out.jJ;omega)).fr f2 (λe=>by have b:g10=g9:=e;have:=a.out.jJ;omega)) ql ?_;intro x3 b3 f3;have v:=af ((b1.fr f2 (λe=>by have b:g8=g9:=e;have:=a.out.o9;omega)).fr f3 (λe=>by have b:g8=g10:=e;have:=a.out.o9;have:=a.out.jJ;omega));have x:=af (b2.fr f3 (λe=>by have b:g9=g10:=e;have:=a.out.jJ;omega));have g:=af b3;have y:Hid (Fr Nothing w x3):=((a.out.fr.aw f1 (λi s e=>by have b:i=g8:=e;have:=a.out.o4;have:=a.out.o7;have:=a.out.o8;have:=f.out;omega)).aw f2 (λi s e=>by have b:i=g9:=e;have:=a.out.o4;have:=a.out.o7;have:=a.out.o8;have:=a.out.o9;have:=f.out;omega)).aw f3 (λi s e=>by have b:i=g10:=e;have:=a.out.o4;have:=a.out.o7;have:=a.out.o8;have:=a.out.o9;have:=a.out.jJ;have:=f.out;omega);clear b1 b2 b3 f1 f2 f3;go_wp2;exact bodyPost_ret (jd _ x3 g8 g9 g10 aH _ 2 rfl rfl rfl v.out d.out.info x.out g.out) rfl (z.out _ y.out)
def eZ:Array Value:=(aC gQ++aC gQ).toArray
theorem NK(w:World):(zeroValue 139).run prog w= .ok (.agg eZ) w:=by kernel_rfl
theorem MV:(prog.info? 139).map (λi=>(i.zero,i.size,i.bytes))=some (some (.agg eZ),64,64):=by kernel_rfl
theorem Gn:(prog.info? 139).map (·.size)=some 64:=by kernel_rfl
theorem zj(parts:List (Nat×Value)):prog.built 139 parts=Instr.fill ((#[(0,32),(32,32)]:Array (Nat×Nat))[·]?) eZ parts:=by kernel_rfl
theorem tK(X Y:List Value)(a:X.length=32)(b:Y.length=32):prog.built 139 [(0, .agg X.toArray),(1, .agg Y.toArray)]=some (X++Y).toArray:=by
 have h:=Ib X.toArray Y.toArray eZ (by simpa using a) (by simpa using b) rfl;rw[zj];simp only[Instr.fill,Nat.zero_mul,Nat.one_mul]at h⊢;exact h
theorem qh(cs b:Array Value)(n:Nat)(d:cs.size=n)(c:b.size=n):Instr.fill (λi=>some (i*n,n)) b [(0, .agg cs)]=some cs:=by
 have a:=mc cs b 0 (by omega);simp only[Instr.fill,Value.cells,d,c,Nat.zero_mul,Nat.zero_add,ne_eq,not_true_eq_false,decide_false,Bool.false_or,gt_iff_lt,Nat.lt_irrefl,Bool.false_eq_true,if_false];simp only[Nat.zero_add,List.take_zero,List.nil_append,d]at a;rw[List.drop_of_length_le (by simp[c]),List.append_nil]at a;rw[a]
theorem rC.step{w1 W X o p u j:World}{g11 g12 len:Nat}{leaf d:List UInt8}{path:List (List UInt8)}{pre:List Bool}{v v2:Value}{CV NV:List Value}(b:Bool)
  (w:rC w1 g11 g12 len leaf path pre W)(D:g11<w1.heap.size)(E:g12<w1.heap.size)(t:g11≠g12)(c:pre.length<len)(z:path[pre.length]? =some d)
  (f:W.ownsRow 0 139 64 v pre.length ((dI leaf pre path).2.flatMap nC))(a:∀k,v.ownBlock=some k->w1.heap.size<=k)
  (y:Fr Nothing W X)(r:bT 139 64 X v o v2 (pre.length+1) ((dI leaf pre path).2.flatMap nC++CV))(f3:Fr (λk=>k=g11) o p)(b3:aq p g11 135 #[v2])
  (f4:Fr Nothing p u)(f5:Fr (λk=>k=g12) u j)(b5:aq j g12 38 NV.toArray)
  (q:CV=nC (if b then(dI leaf pre path).1 else d,if b then d else(dI leaf pre path).1))(s:NV=aC (cS (if b then(dI leaf pre path).1 else d) (if b then d else(dI leaf pre path).1))):
  KeepsFrom w1.heap.size W j/\rC w1 g11 g12 len leaf path (pre++[b]) j:=by
 have s1:w1.heap.size<=W.heap.size:=w.fr.size;have s2:W.heap.size<=X.heap.size:=y.size;have H:∀k,v.ownBlock=some k->k<W.heap.size:=λk c=>by
  obtain⟨L,m,_⟩:=cT f c;exact(Array.getElem?_eq_some_iff.1 m).1
 have g:∀k,v2.ownBlock=some k->w1.heap.size<=k:=λk c=>by
  rcases r.eL k c with h|h;·exact a k h
  ·omega
 have F:Fr (λk=>k=g11\/k=g12\/v.ownBlock=some k) W j:=by
  have A:Fr (λk=>k=g11\/k=g12\/v.ownBlock=some k) W o:=(y.bR).trans (r.fr.mono (λi _ h=> .inr (.inr h)));have B:=A.trans (f3.mono (T':=λk=>k=g11\/k=g12\/v.ownBlock=some k) (λi _ h=> .inl h));exact(B.trans f4.bR).trans (f5.mono (λi _ h=> .inr (.inl h)))
 refine⟨⟨F.size,λk L I m G=>?_⟩,?_,?_,?_,?_⟩
 ·refine(F.block k (Array.getElem?_eq_some_iff.1 m).1 ?_).trans m;rintro(rfl|rfl|h);·omega
  ·omega
  ·obtain⟨K,n,l⟩:=cT f h;rw[m]at n;cases n;rw[G]at l;cases l
 ·refine w.fr.aw F (λi J h=>?_);rcases h with h|h|h;·exact .inl h
  ·exact .inr h
  ·have:=a i h;omega
 ·rw[aT,List.length_singleton];omega
 ·refine⟨v2,((b3.fr f4 id).fr f5 t),?_,g⟩;rw[aT,List.length_singleton,mF leaf pre path b d z];have e:(oJ (dI leaf pre path) b d).2.flatMap nC=(dI leaf pre path).2.flatMap nC++CV:=by
   rw[oJ,List.flatMap_append,q];simp
  rw[e];refine aP (aP (aP r.own f3 (λk c e=>?_)) f4 (λ_ _ x=>x)) f5 (λk c e=>?_);·have C:k=g11:=e;have:=g k c;omega
  ·have C:k=g12:=e;have:=g k c;omega
 ·rw[mF leaf pre path b d z];rw[s]at b5;exact b5
end Go.Proofs.YtphjagkehiklkaaGreatDoor.Lt
namespace Go.Proofs.YtphjagkehiklkaaGreatDoor.Lt
open Proofs.Tryz Go.RowKit Go.Shelf
attribute[local go_sem]Oper.semAt_some
theorem mM.kl{w w' b:World}{T:Nat->Prop}{len:Nat}{A:Option Addr}{c:Nat}{d:List Value}{g4 g7 g8 g9 g10:Nat}(h:mM w w' len A c d g4 g7 g8 g9 g10)(a:Fr T w' b)(hT:∀k,k<=g10->¬T k)(hw:∀i,i<w.heap.size->¬T i):mM w b len A c d g4 g7 g8 g9 g10:=by
 have:=h.o7;have:=h.o8;have:=h.o9;have:=h.jJ;exact⟨h.fr.aw a (λi f e=>absurd e (hw i f)),h.b4.fr a (hT _ (by omega)),h.b7.fr a (hT _ (by omega)),h.b8.fr a (hT _ (by omega)),h.b9.fr a (hT _ (by omega)),h.iR.fr a (hT _ (by omega)),h.o4,h.o7,h.o8,h.o9,h.jJ⟩
theorem xu{B:Nat}{T:Nat->Prop}{W W':World}(h:Fr T W W')(hT:∀k,T k->k<B):KeepsFrom B W W':=
 ⟨h.size,λk d c a _=>(h.block k (Array.getElem?_eq_some_iff.1 a).1 (λb=>by have:=hT k b;omega)).trans a⟩
def Ix(t:TypeId):Op->Bool
 | .build a _=>t==a
 |_=>false
def ln(t:TypeId):Op->Bool
 | .load a _=>t==a
 |_=>false
theorem cD{r n:Nat}{P:Program}{ops:Array Oper}{Q:Exit->Act->World->Prop}{d:Oper}{l:List Oper}{a:Act}{w:World}(f:Op->Bool)(b:f d.op=true)(c:((d::l).all iA)=true)(h:wpList P ops (λe a w=>Q e a w/\e= .normal) (d::l) a w):wpListIn (Fence.wide.inRound r) n P ops Q (d::l) a w:=
 jD c h
structure lA(CV:List Value):Prop where
 len:CV.length=64
 one:∀u∈CV,u.oneCell'=true
theorem lA.info{CV:List Value}(h:lA CV):(prog.info? 139).map (·.size)=some CV.toArray.size:=by
 rw[Gn,List.size_toArray,h.len]
theorem lA.zC{CV:List Value}(h:lA CV):(prog.info? 139).map (·.size)=some CV.length:=by rw[Gn,h.len]
theorem lA.all{CV:List Value}(h:lA CV):CV.toArray.all (·.oneCell')=true:=by
 rw[Array.all_eq_true_iff_forall_mem];intro u hu;exact h.one u (by simpa using hu)
theorem lA.of{a b:List UInt8}(c:a.length=32)(d:b.length=32):lA (aC a++aC b):=⟨by simp[aC,c,d],λu hu=>EU (a,b) u hu⟩
structure Mv(W X:World)(g14:Nat)(CV:List Value):Prop where
 fr:Fr Nothing W X
 AD:aq X g14 139 CV.toArray
 new:W.heap.size<=g14
theorem EJ(leaf:List UInt8)(bM:leaf.length=32)(index n:Nat)(cA:index<n)(dk:n<=1048576)(path:List (List UInt8))(len:Nat)(A:Option Addr)(c:Nat)(S:Nat->Prop)(w:World)(aT:gK w S A len path)(c2:len<=1048576)(hT:bU w):
  Calls prog 77 #[bj leaf, .int .i64 index, .int .i64 n, .slice A len c] w (kP w (dq leaf index n path)):=by
 have c9:Hid (∀w',Calls prog 89 #[.int .i64 n, .int .i64 1, .int .i64 1048576] w' (bJ w' (.bool true))):=by
  intro w';have h:=fI (n:Int) 1 1048576 w';rw[cX (by omega)]at h;exact h
 obtain⟨m,hm⟩:∃m:Nat,(n:Int)-1=(m:Int):=⟨n-1,by omega⟩;have da:Hid (∀w',Calls prog 89 #[.int .i64 index, .int .i64 0, .int .i64 m] w' (bJ w' (.bool true))):=by
  intro w';have h:=fI (index:Int) 0 (m:Int) w';rw[cX (by omega)]at h;exact h
 have dj:m<=1048576:=by omega
 have a2:Hid (dL (aC gQ).toArray):=dL.of kV;have cs:Hid ((aC gQ).toArray=aH):=sj;have cH:Hid (prog.built 38 []=some aH):=rJ;have DL:Hid (dL (aC leaf).toArray):=dL.of bM;have cq:Hid ((prog.info? 38).map (·.size)=some (aC leaf).length):=by rw[aC,List.length_map,bM];exact fC
 have dd:=af aT;have cM:=af hT;have ds:=af bM;have PL:=af aT.len;have cU:=af (λ(pre:List Bool)(h:pre.length<=len)=>wV leaf bM path aT.each pre.length pre rfl (by rw[aT.len];exact h));have NV:=af (show dq leaf index n path=(if path.length=(bV index n).length then((dI leaf (bV index n) path).1,(dI leaf (bV index n) path).2,0)else(gQ,[],35))from by
  unfold dq;rw[if_pos (by omega),Int.toNat_natCast,Int.toNat_natCast]);have cp:=af cA;have de:=af dk;obtain⟨i0,aU,aV,V,bO⟩:=info_parts MV;clear bM aT hT;rw[cs.out]at a2;change Calls _ _ #[.agg (aC leaf).toArray,_,_,_] _ _;have LE:Hid (aC leaf=aC leaf):=rfl;generalize bx:aC leaf=bq at*;have cr:=af bx;clear bx LE;refine(callsIn_wide (n:=6)).1 (callsIn_of_wp_marks func77 rfl trivial (wpIn_wide.2 ?_) rfl);simp only[ntmps77,List.size_toArray,List.length_cons,List.length_nil,Nat.reduceAdd,Nat.reduceSub,Array.replicate_succ,Array.replicate_zero,List.push_toArray,List.append_toArray,List.nil_append,List.cons_append];go_wp2_with(refine aD rfl 38 (.tmp 0) rfl _ rfl ?_);intro w1 n1;have cN:=af n1;clear n1;go_wp2_with(refine aD rfl 31 (.tmp 3) rfl _ rfl ?_);intro w2 c5;have cO:=af c5;clear c5;go_wp2_with(refine an rfl 38 rfl bp jn aH rfl ?_);intro w3 n3;have cP:=af n3;clear n3;go_wp2_with(refine an rfl 135 rfl (.slice none 0 0) GC #[.slice none 0 0] rfl ?_);intro cF n4;have cR:=af n4;clear n4;go_wp2_with(refine an rfl 34 rfl (.int .i64 0) KV #[.int .i64 0] rfl ?_);intro c6 n5;have cf:=af (mM.of cN.out cO.out cP.out cR.out n5);clear n5 cN cO cP cR;generalize aO:w.heap.size=g4 at*;have a5:=af aO;clear aO;generalize w1.heap.size=g7 at*;generalize w2.heap.size=g8 at*;generalize w3.heap.size=g9 at*;generalize cF.heap.size=g10 at*;go_wp2_with fail;refine(c9.out _).mono ?_;rintro e w'⟨rfl,rfl⟩;go_wp2_with fail;refine(da.out _).mono ?_;rintro e w'⟨rfl,rfl⟩;go_wp2_with(refine an rfl 135 rfl (.slice none 0 0) GC #[.slice none 0 0] rfl ?_);intro c7 n6;have cg:=af (cf.out.later n6.fr);have M:=af n6.aF;have cW:Hid (g10<c6.heap.size):=cf.out.iR.lt;have cV:=af n6.size;clear n6 cf;generalize c6.heap.size=g11 at*;generalize bN:c7.heap.size=g12 at*;have a6:=af bN;clear bN;go_wp2_with(first|(refine fj rfl 38 (.tmp 4) rfl g4 rfl _ bq cg.out.b4 _ underlying38 rfl cq.out ?_)|(refine an rfl 38 rfl bp jn aH rfl ?_));intro dl n7;have G:Hid (aq dl g12 38 aH):=by
  have h:=n7.aF;rw[a6.out]at h;exact h
 have cJ:=af n7.fr;have a3:=af (cg.out.later n7.fr);clear n7;rw[show c7.heap.size=g12 from a6.out];go_wp2_with(refine ai rfl 38 (.tmp 12) _ rfl g12 bq.toArray rfl rfl _ _ G.out DL.out.info DL.out.zero DL.out.one ?_);intro X b8 f8;have HNE:Hid (g10<g11/\g11<g12):=⟨cW.out,by have:=cV.out;omega⟩;have cI:Hid (mM w X len A c bq g4 g7 g8 g9 g10):=a3.out.kl f8 (λk L e=>by have g:k=g12:=e;have:=HNE.out;omega) (λi R e=>by have g:i=g12:=e;have:=HNE.out;have:=a3.out.o4;have:=a3.out.o7;have:=a3.out.o8;have:=a3.out.o9;have:=a3.out.jJ;have:=a5.out;omega);have Z:Hid (aq X g11 135 #[.slice none 0 0]):=(M.out.fr cJ.out id).fr f8 (λe=>by have g:g11=g12:=e;have:=HNE.out;omega);have ac:=af b8;clear b8 f8 M G cg a3 cJ cV a6 cW;go_wp2_with fail;refine(Fu index n X).mono ?_;rintro e Q⟨rfl,aL⟩;have bX:Hid (Fr Nothing X Q):=by subst aL;exact(aA.alloc _).alloc _
 have bS:Hid (Q.cell? ⟨X.heap.size,0,none⟩=some (.int .i64 index)):=by subst aL;exact((aq.new X 3 #[.int .i64 index]).alloc _).cell 0
 have bT:Hid (Q.cell? ⟨X.heap.size+1,0,none⟩=some (.int .i64 n)):=by
  subst aL;have h:=(aq.new (X.alloc (.cells #[.int .i64 index] 3)) 3 #[.int .i64 n]).cell 0;rw[show(X.alloc (.cells #[.int .i64 index] 3)).heap.size=X.heap.size+1 by simp]at h;exact h
 have bs:Hid (Q.heap.size=X.heap.size+2):=by subst aL;simp[Hid]
 clear aL;have s:=af (cI.out.later bX.out);have aa:=af (Z.out.fr bX.out id);have ad:=af (ac.out.fr bX.out id);have LT:Hid (g11<Q.heap.size/\g12<Q.heap.size):=⟨aa.out.lt,ad.out.lt⟩;clear cI Z ac bX;generalize X.heap.size=gs at*;go_wp2_with fail;refine(wpIn_wide (n:=6)).1 ?_;refine wpIn_rangeFunc_ownG rfl (by omega) (gf:=157) (lb:=#[.pointer (some ⟨gs,0,none⟩), .pointer (some ⟨gs+1,0,none⟩)]) rfl trivial (enters_of func157 (by kernel_rfl) rfl)
  (zZ 5 gs (gs+1) index n Q (by have:=bs.out;omega) (by have:=bs.out;omega) bS.out bT.out cp.out de.out) (λ_ _=>trivial) (λ_ _ _ _ _ _ _ _=>trivial) (Below.refl _ _) (λ_=>rfl)
  (rC Q g11 g12 len leaf path) (λb0 _ W=>FU Q g8 g9 g10 g11 g12 W/\(b0= .ret/\len<(bV index n).length))
  (rC.jb LT.out.1 LT.out.2) (λb0=>FU.jb (by have:=s.out.o9;have:=s.out.jJ;have:=HNE.out;have:=LT.out;omega) (by have:=s.out.jJ;have:=HNE.out;have:=LT.out;omega) (by have:=HNE.out;have:=LT.out;omega) (b0= .ret/\len<(bV index n).length))
  ⟨aA,Nat.zero_le _,⟨_,aa.out,⟨rfl, .inl ⟨rfl,rfl⟩⟩,λk L=>by simp[Value.ownBlock]at L⟩,by rw[IK];rw[cr.out];exact ad.out⟩ ?zA ?assign ?body ?done ?stop;case assign=>
  intro l x W K a8;gi_wp2;exact a8
 case body=>
  rintro dv pre x W b6 a9;have cL:=af b6;obtain⟨f,hle,⟨v,ku,C,B⟩,aE⟩:=b6;obtain⟨Y,m1,aG,rfl,H1,dc⟩:=aK C;have r:Hid (mM w W len A c bq g4 g7 g8 g9 g10):=s.out.kl f (λk L e=>by have g:k=g11\/k=g12:=e;have:=HNE.out;omega) (by rintro i R(rfl|rfl)<;>(have:=HNE.out;have:=a5.out;have:=s.out.o4;have:=s.out.o7;have:=s.out.o8;have:=s.out.o9;have:=s.out.jJ;omega));have bY:=af f;have M:=af ku;have G:=af aE;have t:=af C;have P:=af B;have be:=af hle;have bf:=af a9;have U:=ku.cell 0;have bu:=r.out.b7.cell 0;simp only[bP,List.getElem?_cons_zero]at U bu;have bZ:=af (cU.out pre hle);clear f ku aE C B a9 hle bS bT bs;by_cases L:m1=len
  ·have t1:((m1:Int)==(len:Int))=true:=by rw[beq_iff_eq];omega
   gi_wp2_with(refine cD (Ix 38) rfl (by kernel_rfl) ?_);refine kg rfl 38 rfl aH cH.out ?_;refine ai rfl 38 (.tmp 8) _ rfl g8 aH rfl rfl _ _ r.out.b8 a2.out.info rfl a2.out.one ?_;intro dp b1 f1;refine bW rfl 135 (.tmp 9) _ rfl g9 (.slice none 0 0) rfl rfl rfl _ _ (r.out.b9.fr f1 (λe=>by have g:g9=g8:=e;have:=r.out.o9;omega)) mV ?_;intro c8 b2 f2;refine bW rfl 34 (.tmp 10) _ rfl g10 (.int .i64 35) rfl rfl rfl _ _ ((r.out.iR.fr f1 (λe=>by have g:g10=g8:=e;have:=r.out.o9;have:=r.out.jJ;omega)).fr f2 (λe=>by have g:g10=g9:=e;have:=r.out.jJ;omega)) ql ?_;intro x3 b3 f3;have bi:=af ((b1.fr f2 (λe=>by have g:g8=g9:=e;have:=r.out.o9;omega)).fr f3 (λe=>by have g:g8=g10:=e;have:=r.out.o9;have:=r.out.jJ;omega));have bk:=af (b2.fr f3 (λe=>by have g:g9=g10:=e;have:=r.out.jJ;omega));have av:=af b3;refine⟨?_,rfl⟩;have df:Hid (KeepsFrom Q.heap.size W x3):=xu (T:=λk=>k=g8\/k=g9\/k=g10) (((f1.mono (λi _ e=> .inl e)).trans (f2.mono (λi _ e=> .inr (.inl e)))).trans (f3.mono (λi _ e=> .inr (.inr e)))) (by rintro k(rfl|rfl|rfl)<;>(have:=r.out.o9;have:=r.out.jJ;have:=HNE.out;have:=LT.out;omega));have aW:Hid (Fr (λk=>k=g8\/k=g9\/k=g10\/k=g11\/k=g12) Q x3):=(((bY.out.mono (T':=λk=>k=g8\/k=g9\/k=g10\/k=g11\/k=g12) (λi _ e=> .inr (.inr (.inr e)))).trans (f1.mono (λi _ e=> .inl e))).trans (f2.mono (λi _ e=> .inr (.inl e)))).trans (f3.mono (λi _ e=> .inr (.inr (.inl e))));clear b1 b2 b3 f1 f2 f3;gi_wp2;exact⟨df.out,⟨aW.out,bi.out,bk.out,av.out⟩,rfl,by have:=bf.out;have:=H1.out;omega⟩
  ·have cB:m1<len:=by have:=be.out;have:=H1.out;omega
   have t1:((m1:Int)==(len:Int))=false:=by rw[beq_eq_false_iff_ne];omega
   have dh:(m1:Int)<(len:Int):=by omega
   obtain⟨ba,d,rfl,_,c3,z,aJ⟩:=(dd.out.ao r.out.fr).at_ cB;have cK:=af aJ;have bg:=af c3;have p:=bZ.out.root;have bh:Hid ((prog.info? 38).map (·.size)=some (aC d).length):=by rw[aC,List.length_map,z];exact fC
   have aR:Hid ((prog.info? 38).map (·.size)=some (aC (dI leaf pre path).1).length):=by rw[aC,List.length_map,p];exact fC
   have cm:Hid (prog.built 139 [(0, .agg (aC d).toArray),(1, .agg (aC (dI leaf pre path).1).toArray)]=some (aC d++aC (dI leaf pre path).1).toArray):=tK _ _ (by simp[aC,z]) (by simp[aC,p]);have cn:Hid (prog.built 139 [(0, .agg (aC (dI leaf pre path).1).toArray),(1, .agg (aC d).toArray)]=some (aC (dI leaf pre path).1++aC d).toArray):=tK _ _ (by simp[aC,p]) (by simp[aC,z]);have H:Hid (lA (aC d++aC (dI leaf pre path).1)):=lA.of z p;have N:Hid (lA (aC (dI leaf pre path).1++aC d)):=lA.of p z;have a1:Hid (dL (aC (dI leaf pre path).1).toArray):=dL.of p;have aZ:Hid (dL (aC (cS d (dI leaf pre path).1)).toArray):=dL.of (eT _ _);have a0:Hid (dL (aC (cS (dI leaf pre path).1 d)).toArray):=dL.of (eT _ _);have cd:Hid (∀w',Fr Nothing w w'->Calls prog 124 #[.agg (aC d++aC (dI leaf pre path).1).toArray] w' (aM w' (.agg (aC (cS d (dI leaf pre path).1)).toArray))):=λw' f=>tT _ _ z p w' (cM.out.ao f);have ce:Hid (∀w',Fr Nothing w w'->Calls prog 124 #[.agg (aC (dI leaf pre path).1++aC d).toArray] w' (aM w' (.agg (aC (cS (dI leaf pre path).1 d)).toArray))):=λw' f=>tT _ _ p z w' (cM.out.ao f);have g1:Hid (¬1*i0.size>2^24):=by simp only[Hid];rw[V];omega
   have g2:Hid (¬1*i0.size=0):=by simp only[Hid];rw[V];omega
   generalize bB:aC d=F at*;generalize aI:aC (dI leaf pre path).1=y at*;generalize bz:aC (cS d (dI leaf pre path).1)=NV1 at*;generalize bA:aC (cS (dI leaf pre path).1 d)=NV2 at*;have bd:=af bB;have aQ:=af aI;have ch:=af bz;have ci:=af bA;clear bB aI bz bA aJ c3 z p;gi_wp2;refine oT 8 139 [λv=>v= .slice (some ba) len c,λv=>v= .slice Y m1 aG,λv=>v= .int .i64 m1,λv=>v= .pointer (some (ba.add (m1*32))),λv=>v= .agg F.toArray,λv=>v= .agg y.toArray,λv=>v= .agg (F++y).toArray,λ_=>True] [] [(7,eZ)] [] (by kernel_rfl) (by kernel_rfl) (by kernel_rfl) (by kernel_rfl) trivial ?_ ?_
   ·refine⟨λu w' f b E=>?_,λu w' f b E=>?_,λu w' f b E=>?_,λu w' f b E=>?_,λu w' f b E=>?_,λu w' f b E=>?_,λu w' f b E=>?_,λu w' f b=>?_,trivial⟩;all_goals simp only[bC,bD,bE,bF,ar,Act.put,bG,bH,bI,Nat.reduceAdd,Nat.zero_add]
    ·clear b E;refine aj ?_;have q:=f.ak bu id;go_simp;exact⟨_,rfl,gI⟩
    ·clear b E;refine aj ?_;have q:=f.ak U id;go_simp;exact⟨_,rfl,gI⟩
    ·have bv:u 1=_:=b 1 (by kernel_rfl);clear b E;simp only[bv];refine aj ?_;go_simp;exact⟨_,rfl,gI⟩
    ·have aO:u 0=_:=b 0 (by kernel_rfl);have cv:u 2=_:=b 2 (by kernel_rfl);clear b E;simp only[aO,cv];refine aj ?_;go_simp;exact⟨_,rfl,gI⟩
    ·have cw:u 3=_:=b 3 (by kernel_rfl);clear b E;simp only[cw];refine aj ?_;exact au _ _ rfl (ba.add (m1*32)) rfl F _ (λj v cC=>f.ak (cK.out j v cC) id) underlying38 rfl bh.out ⟨_,rfl,gI⟩
    ·clear b E;refine aj ?_;exact wp_load_mid _ _ rfl g12 0 rfl y _ (dE (G.out.fr f id)) underlying38 rfl aR.out ⟨_,rfl,gI⟩
    ·have cx:u 4=_:=b 4 (by kernel_rfl);have cy:u 5=_:=b 5 (by kernel_rfl);clear b E;simp only[cx,cy];refine aj ?_;exact uw 139 #[(0, .tmp 41),(1, .tmp 42)] rfl _ (by simp only[List.map_toArray,List.map_cons,List.map_nil];exact cm.out) ⟨_,rfl,gI⟩
    ·clear b;refine aj ?_;refine lW 139 rfl (.agg eZ) NK eZ rfl ?_;intro cF n4;exact⟨_,rfl,trivial,trivial,rfl,n4⟩
   ·intro u w' f b hN cz;have bw:u 6=_:=b 6 (by omega);obtain⟨g14,c1,bQ,AD⟩:=hN 7 eZ (by simp);have aX:aq w' g14 139 eZ:=AD;clear b hN cz AD;simp only[bC,bD,bE,bF,ar,Act.put,bG,bH,bI,dt,du,Nat.reduceAdd,Nat.zero_add,bw,c1];refine ai rfl 139 (.tmp 14) _ rfl g14 (F++y).toArray rfl rfl _ _ aX H.out.info (by rw[show eZ.size=64 from rfl,List.size_toArray,H.out.len]) H.out.all ?_;intro dm cY cZ;have I:Hid (Mv W dm g14 (F++y)):=⟨f.aw cZ (λi R e=>by have g:i=g14:=e;omega),cY,bQ⟩;clear f cY cZ aX bQ bw c1;refine⟨?_,rfl⟩;cases x
    ·have O:=(M.out.fr I.out.fr id).cell 0;simp only[bP,List.getElem?_cons_zero]at O;gi_wp2_with(refine cD (ln 139) rfl (by kernel_rfl) ?_);refine fj rfl 139 (.tmp 14) rfl g14 rfl _ (F++y) I.out.AD _ underlying139 rfl H.out.zC ?_;refine wpList_buildSlice rfl 135 139 1 #[(0, .tmp 53)] rfl (F++y).toArray i0 (.agg eZ) underlying135 aU aV g1.out g2.out ?b3 ?_;case b3=>
      simp only[List.map_toArray,List.map_cons,List.map_nil];rw[V];exact qh _ _ 64 (by rw[List.size_toArray,H.out.len]) (by simp)
     refine cQ _ rfl _ _ 135 rfl 139 i0 (.agg eZ) 64 64 underlying135 aU aV V bO rfl (by omega) _ _ _ rfl (aP t.out I.out.fr (λ_ _ x=>x)) 1 (F++y).toArray _ rfl rfl (by rw[List.size_toArray,H.out.len]) (λu hu=>H.out.one u (by simpa using hu)) (by have:=be.out;omega) (by omega) ?_;intro v2 cG a7;have aB:=af a7;obtain⟨cb,m2,cu,rfl,_,_⟩:=aK a7.own;clear a7;have aS:Hid (∀k,(Value.slice Y m1 aG).ownBlock=some k->Q.heap.size<=k/\k<W.heap.size):=λk L=>⟨P.out k L,by
      obtain⟨o,bc,_⟩:=cT t.out L;exact(Array.getElem?_eq_some_iff.1 bc).1⟩;have ab:Hid (aq cG g11 135 #[.slice Y m1 aG]):=(M.out.fr I.out.fr id).fr aB.out.fr (λe=>by have:=(aS.out _ e).1;have:=LT.out;omega);refine bW rfl 135 (.tmp 11) _ rfl g11 (.slice cb m2 cu) rfl rfl rfl _ _ ab.out mV ?_;intro y3 b3 f3;have cl:Hid (Fr Nothing w y3):=(((r.out.fr.trans I.out.fr).aw aB.out.fr (λi R e=>by have:=(aS.out _ e).1;have:=(s.out.fr.size);omega)).aw f3 (λi R e=>by have g:i=g11:=e;have:=HNE.out;have:=s.out.o4;have:=s.out.o7;have:=s.out.o8;have:=s.out.o9;have:=s.out.jJ;have:=a5.out;omega));have a4:Hid (Q.heap.size<=g14):=Nat.le_trans bY.out.size I.out.new;have am:Hid (aq y3 g14 139 (F++y).toArray):=(I.out.AD.fr aB.out.fr (λe=>by have:=(aS.out _ e).2;have:=I.out.new;omega)).fr f3 (λe=>by have g:g14=g11:=e;have:=a4.out;have:=LT.out;omega);have ae:Hid (aq y3 g12 38 y.toArray):=((G.out.fr I.out.fr id).fr aB.out.fr (λe=>by have:=(aS.out _ e).1;have:=LT.out;omega)).fr f3 (λe=>by have g:g12=g11:=e;have:=HNE.out;omega);have cc:=af b3;have cj:=af f3;clear b3 f3 O;refine⟨?_,rfl⟩;gi_wp2_with(refine cD (ln 139) rfl (by kernel_rfl) ?_);refine fj rfl 139 (.tmp 14) rfl g14 rfl _ (F++y) am.out _ underlying139 rfl H.out.zC ?_;go_wp2_with fail;refine(cd.out _ cl.out).mono ?_;rintro e y4⟨rfl,f4⟩;have ah:=af (ae.out.fr f4 id);have ck:=af f4;clear f4;go_wp2_with(refine ai rfl 38 (.tmp 12) _ rfl g12 NV1.toArray rfl rfl _ _ ah.out aZ.out.info (a1.out.size.trans aZ.out.size.symm) aZ.out.one ?_);intro dr b5 f5;refine⟨?_,rfl⟩;have az:=rC.step (NV:=NV1) false cL.out LT.out.1 LT.out.2 (by have:=HNE.out;omega) (by have:=H1.out;omega) (by have:=H1.out;rw[<-this];exact bg.out) t.out P.out I.out.fr aB.out cj.out cc.out ck.out f5 b5 (by rw[<-bd.out,<-aQ.out];rfl) (ch.out.symm);exact⟨az.1,trivial,az.2⟩
    ·gi_wp2;refine oT 7 139 [λv=>v= .agg y.toArray,λv=>v= .slice (some ba) len c,λv=>v= .slice Y m1 aG,λv=>v= .int .i64 m1,λv=>v= .pointer (some (ba.add (m1*32))),λv=>v= .agg F.toArray,λv=>v= .agg (y++F).toArray] [] [] [] (by kernel_rfl) (by kernel_rfl) (by kernel_rfl) (by kernel_rfl) trivial ?_ ?_
     ·refine⟨?_,?_,?_,?_,?_,?_,?_,trivial⟩;all_goals intro u w' f b E
      all_goals simp only[bC,bD,bE,bF,ar,Act.put,bG,bH,bI,Nat.reduceAdd,Nat.zero_add]
      ·clear b E;refine aj ?_;exact wp_load_mid _ _ rfl g12 0 rfl y _ (dE (G.out.fr (I.out.fr.trans f) id)) underlying38 rfl aR.out ⟨_,rfl,gI⟩
      ·clear b E;refine aj ?_;have q:=(I.out.fr.trans f).ak bu id;go_simp;exact⟨_,rfl,gI⟩
      ·clear b E;refine aj ?_;have q:=(I.out.fr.trans f).ak U id;go_simp;exact⟨_,rfl,gI⟩
      ·have cv:u 2=_:=b 2 (by kernel_rfl);clear b E;simp only[cv];refine aj ?_;go_simp;exact⟨_,rfl,gI⟩
      ·have bv:u 1=_:=b 1 (by kernel_rfl);have cw:u 3=_:=b 3 (by kernel_rfl);clear b E;simp only[bv,cw];refine aj ?_;go_simp;exact⟨_,rfl,gI⟩
      ·have cx:u 4=_:=b 4 (by kernel_rfl);clear b E;simp only[cx];refine aj ?_;exact au _ _ rfl (ba.add (m1*32)) rfl F _ (λj v cC=>(I.out.fr.trans f).ak (cK.out j v cC) id) underlying38 rfl bh.out ⟨_,rfl,gI⟩
      ·have aO:u 0=_:=b 0 (by kernel_rfl);have cy:u 5=_:=b 5 (by kernel_rfl);clear b E;simp only[aO,cy];refine aj ?_;exact uw 139 #[(0, .tmp 45),(1, .tmp 50)] rfl _ (by simp only[List.map_toArray,List.map_cons,List.map_nil];exact cn.out) ⟨_,rfl,gI⟩
     ·intro u w' f b hN cz;have bw:u 6=_:=b 6 (by omega);clear b hN cz;simp only[bC,bD,bE,bF,ar,Act.put,bG,bH,bI,dt,du,Nat.reduceAdd,Nat.zero_add,bw];refine ai rfl 139 (.tmp 14) _ rfl g14 (y++F).toArray rfl rfl _ _ (I.out.AD.fr f id) N.out.info (by rw[List.size_toArray,List.size_toArray,H.out.len,N.out.len]) N.out.all ?_;intro dn bb c0;have aN:Hid (Mv W dn g14 (y++F)):=⟨(I.out.fr.trans f).aw c0 (λi R e=>by have g:i=g14:=e;have:=I.out.new;omega),bb,I.out.new⟩;clear f bb c0 bw I;refine⟨?_,rfl⟩;have O:=(M.out.fr aN.out.fr id).cell 0;simp only[bP,List.getElem?_cons_zero]at O;gi_wp2_with(refine cD (ln 139) rfl (by kernel_rfl) ?_);refine fj rfl 139 (.tmp 14) rfl g14 rfl _ (y++F) aN.out.AD _ underlying139 rfl N.out.zC ?_;refine wpList_buildSlice rfl 135 139 1 #[(0, .tmp 53)] rfl (y++F).toArray i0 (.agg eZ) underlying135 aU aV g1.out g2.out ?b3 ?_;case b3=>
       simp only[List.map_toArray,List.map_cons,List.map_nil];rw[V];exact qh _ _ 64 (by rw[List.size_toArray,N.out.len]) (by simp)
      refine cQ _ rfl _ _ 135 rfl 139 i0 (.agg eZ) 64 64 underlying135 aU aV V bO rfl (by omega) _ _ _ rfl (aP t.out aN.out.fr (λ_ _ x=>x)) 1 (y++F).toArray _ rfl rfl (by rw[List.size_toArray,N.out.len]) (λu hu=>N.out.one u (by simpa using hu)) (by have:=be.out;omega) (by omega) ?_;intro v2 cG a7;have aB:=af a7;obtain⟨cb,m2,cu,rfl,_,_⟩:=aK a7.own;clear a7;have aS:Hid (∀k,(Value.slice Y m1 aG).ownBlock=some k->Q.heap.size<=k/\k<W.heap.size):=λk L=>⟨P.out k L,by
       obtain⟨o,bc,_⟩:=cT t.out L;exact(Array.getElem?_eq_some_iff.1 bc).1⟩;have ab:Hid (aq cG g11 135 #[.slice Y m1 aG]):=(M.out.fr aN.out.fr id).fr aB.out.fr (λe=>by have:=(aS.out _ e).1;have:=LT.out;omega);refine bW rfl 135 (.tmp 11) _ rfl g11 (.slice cb m2 cu) rfl rfl rfl _ _ ab.out mV ?_;intro y3 b3 f3;have cl:Hid (Fr Nothing w y3):=(((r.out.fr.trans aN.out.fr).aw aB.out.fr (λi R e=>by have:=(aS.out _ e).1;have:=(s.out.fr.size);omega)).aw f3 (λi R e=>by have g:i=g11:=e;have:=HNE.out;have:=s.out.o4;have:=s.out.o7;have:=s.out.o8;have:=s.out.o9;have:=s.out.jJ;have:=a5.out;omega));have a4:Hid (Q.heap.size<=g14):=Nat.le_trans bY.out.size aN.out.new;have am:Hid (aq y3 g14 139 (y++F).toArray):=(aN.out.AD.fr aB.out.fr (λe=>by have:=(aS.out _ e).2;have:=aN.out.new;omega)).fr f3 (λe=>by have g:g14=g11:=e;have:=a4.out;have:=LT.out;omega);have ae:Hid (aq y3 g12 38 y.toArray):=((G.out.fr aN.out.fr id).fr aB.out.fr (λe=>by have:=(aS.out _ e).1;have:=LT.out;omega)).fr f3 (λe=>by have g:g12=g11:=e;have:=HNE.out;omega);have cc:=af b3;have cj:=af f3;clear b3 f3 O;refine⟨?_,rfl⟩;gi_wp2_with(refine cD (ln 139) rfl (by kernel_rfl) ?_);refine fj rfl 139 (.tmp 14) rfl g14 rfl _ (y++F) am.out _ underlying139 rfl N.out.zC ?_;go_wp2_with fail;refine(ce.out _ cl.out).mono ?_;rintro e y4⟨rfl,f4⟩;have ah:=af (ae.out.fr f4 id);have ck:=af f4;clear f4;go_wp2_with(refine ai rfl 38 (.tmp 12) _ rfl g12 NV2.toArray rfl rfl _ _ ah.out a0.out.info (a1.out.size.trans a0.out.size.symm) a0.out.one ?_);intro dr b5 f5;refine⟨?_,rfl⟩;have az:=rC.step (NV:=NV2) true cL.out LT.out.1 LT.out.2 (by have:=HNE.out;omega) (by have:=H1.out;omega) (by have:=H1.out;rw[<-this];exact bg.out) t.out P.out aN.out.fr aB.out cj.out cc.out ck.out f5 b5 (by rw[<-bd.out,<-aQ.out];rfl) (ci.out.symm);exact⟨az.1,trivial,az.2⟩
 case done=>
  rintro D xs W aT rfl b6 a8;obtain⟨f,hle,⟨v,ku,C,B⟩,aE⟩:=b6;obtain⟨Y,m1,aG,rfl,H1,dc⟩:=aK C;have r:Hid (mM w W len A c bq g4 g7 g8 g9 g10):=s.out.kl f (λk L e=>by have g:k=g11\/k=g12:=e;have:=HNE.out;omega) (by rintro i R(rfl|rfl)<;>(have:=HNE.out;have:=a5.out;have:=s.out.o4;have:=s.out.o7;have:=s.out.o8;have:=s.out.o9;have:=s.out.jJ;omega));have bY:=af f;have M:=af ku;have G:=af aE;have t:=af C;have P:=af B;have be:=af hle;have co:=af aT;have ap:=af a8;have U:=ku.cell 0;have bu:=r.out.b7.cell 0;simp only[bP,List.getElem?_cons_zero]at U bu;have bZ:=af (cU.out (bV index n) hle);clear f ku aE C B hle bS bT bs aT a8;have a:Hid (w.heap.size<=g8/\g8<g9/\g9<g10/\g10<D):=by
   have:=HNE.out;have:=a5.out;have:=r.out.o4;have:=r.out.o7;have:=r.out.o8;have:=r.out.o9;have:=r.out.jJ;have:=LT.out;have:=co.out;simp only[Hid];omega
  by_cases L:m1<len
  ·have t1:decide ((m1:Int)<(len:Int))=true:=cX (by omega);go_upto_region 15 with fail;refine wp_region_lit ?_;refine kg rfl 38 rfl aH cH.out ?_;refine ai rfl 38 (.tmp 8) _ rfl g8 aH rfl rfl _ _ r.out.b8 a2.out.info rfl a2.out.one ?_;intro dp b1 f1;refine bW rfl 135 (.tmp 9) _ rfl g9 (.slice none 0 0) rfl rfl rfl _ _ (r.out.b9.fr f1 (λe=>by have g:g9=g8:=e;have:=r.out.o9;omega)) mV ?_;intro c8 b2 f2;refine bW rfl 34 (.tmp 10) _ rfl g10 (.int .i64 35) rfl rfl rfl _ _ ((r.out.iR.fr f1 (λe=>by have g:g10=g8:=e;have:=r.out.o9;have:=r.out.jJ;omega)).fr f2 (λe=>by have g:g10=g9:=e;have:=r.out.jJ;omega)) ql ?_;intro x3 b3 f3;have bi:=af ((b1.fr f2 (λe=>by have g:g8=g9:=e;have:=r.out.o9;omega)).fr f3 (λe=>by have g:g8=g10:=e;have:=r.out.o9;have:=r.out.jJ;omega));have bk:=af (b2.fr f3 (λe=>by have g:g9=g10:=e;have:=r.out.jJ;omega));have av:=af b3;have aW:Hid (Fr (λk=>k=g8\/k=g9\/k=g10) W x3):=((f1.mono (T':=λk=>k=g8\/k=g9\/k=g10) (λi _ e=> .inl e)).trans (f2.mono (λi _ e=> .inr (.inl e)))).trans (f3.mono (λi _ e=> .inr (.inr e)));have bo:Hid (x3.heap[D]? =some (.deferred (some []))):=(aW.out.block D (Array.getElem?_eq_some_iff.1 ap.out).1 (by have:=a.out;omega)).trans ap.out;clear b1 b2 b3 f1 f2 f3;have J:Fr (λk=>some k=some D) x3 (x3.putObj D (.deferred none)):=Fr.grown (grownBy_putObj' x3 D _);have bl:Hid (Fr Nothing w (x3.putObj D (.deferred none))):=(r.out.fr.aw aW.out (λi R e=>by have:=a.out;omega)).aw J (λi R e=>by have g:i=D:=(by simpa using e);have:=a.out;omega);have bm:=af (bi.out.fr J (λe=>by have g:g8=D:=(by simpa using e);have:=a.out;omega));have bn:=af (bk.out.fr J (λe=>by have g:g9=D:=(by simpa using e);have:=a.out;omega));have ax:=af (av.out.fr J (λe=>by have g:g10=D:=(by simpa using e);have:=a.out;omega));have br:=af (kP.none (k:=35) bl.out);rw[bj,show gQ.map bK=aC gQ from rfl,cs.out]at br;have bt:Hid (dq leaf index n path=(gQ,[],35)):=by
    simp only[Hid];rw[NV.out,if_neg (by rw[PL.out];have:=H1.out;omega)]
   clear J;go_wp2;refine⟨by simp, .inl ⟨_,_,rfl,run_takeDeferred bo.out,?_⟩⟩;exact⟨_,jd _ _ g8 g9 g10 aH _ 35 rfl rfl rfl bm.out a2.out.info bn.out ax.out,by rw[bt.out];exact br.out⟩
  ·have t1:decide ((m1:Int)<(len:Int))=false:=ct (by omega);have p:=bZ.out.root;have aR:Hid ((prog.info? 38).map (·.size)=some (aC (dI leaf (bV index n) path).1).length):=by rw[aC,List.length_map,p];exact fC
   have a1:Hid (dL (aC (dI leaf (bV index n) path).1).toArray):=dL.of p;have bt:Hid (dq leaf index n path=((dI leaf (bV index n) path).1,(dI leaf (bV index n) path).2,0)):=by
    simp only[Hid];rw[NV.out,if_pos (by rw[PL.out];have:=H1.out;have:=be.out;omega)]
   generalize aI:aC (dI leaf (bV index n) path).1=y at*;have aQ:=af aI;clear aI p;go_upto_region 16 with fail;refine ay 3 (λk=>k=g8) [Is (.agg y.toArray),Is (.slice Y m1 aG),λ_ _=>True] [(2,λw'=>aq w' g8 38 y.toArray)] (λw'=>aq w' g8 38 aH) (λ_ _=>false) (by kernel_rfl) (by kernel_rfl) (by kernel_rfl) (by kernel_rfl) ⟨Is.ag _,Is.ag _,λ_ _ _ _ _ h=>h,trivial⟩ ⟨λ_ _ _ f h=>h.fr f id,trivial⟩ (λ_ _ _ f h=>h.fr f id) r.out.b8 ?_ ?_
   ·refine⟨?_,?_,?_,trivial⟩;all_goals intro u w' d f b cE ca aY
    all_goals simp only[bC,bD,bE,bF,ar,Act.put,bG,bH,bI,Nat.reduceAdd,Nat.zero_add]
    ·clear b cE ca aY;refine aj ?_;exact wp_load_mid _ _ rfl g12 0 rfl y _ (dE (G.out.fr f (λe=>by have g:g12=g8:=e;have:=a.out;have:=HNE.out;omega))) underlying38 rfl aR.out ⟨_,rfl,al⟩
    ·clear b cE ca aY;refine aj ?_;have q:=f.ak U (λe=>by have g:g11=g8:=e;have:=a.out;have:=HNE.out;omega);go_simp;exact⟨_,rfl,al⟩
    ·have aO:u 0=_:=b 0 (by kernel_rfl);clear b;simp only[aO];refine aj ?_;have hN:aq w' g8 38 aH:=by rw[dx,if_neg (by rw[ca 2 (by kernel_rfl)];exact Bool.false_ne_true)]at aY;exact aY
     clear cE ca aY;refine oM 38 (.tmp 8) (.tmp 64) rfl g8 y.toArray rfl rfl _ _ hN a1.out.info a1.out.zero a1.out.one ?_;intro cF b4 f4;exact⟨_,rfl,f4,trivial,b4⟩
   ·intro u w' f b aY;have aO:u 0=_:=b 0 (by omega);have bv:u 1=_:=b 1 (by omega);clear b;have c4:aq w' g8 38 y.toArray:=aY;clear aY;simp only[bC,bD,bE,bF,ar,Act.put,bG,bH,bI,dt,du,Nat.zero_add,aO,bv];refine bW rfl 135 (.tmp 9) _ rfl g9 (.slice Y m1 aG) rfl rfl rfl _ _ (r.out.b9.fr f (λe=>by have g:g9=g8:=e;have:=a.out;omega)) mV ?_;intro c8 b2 f2;refine bW rfl 34 (.tmp 10) _ rfl g10 (.int .i64 0) rfl rfl rfl _ _ ((r.out.iR.fr f (λe=>by have g:g10=g8:=e;have:=a.out;omega)).fr f2 (λe=>by have g:g10=g9:=e;have:=a.out;omega)) ql ?_;intro x3 b3 f3;have bi:=af ((c4.fr f2 (λe=>by have g:g8=g9:=e;have:=a.out;omega)).fr f3 (λe=>by have g:g8=g10:=e;have:=a.out;omega));have bk:=af (b2.fr f3 (λe=>by have g:g9=g10:=e;have:=a.out;omega));have av:=af b3;have aW:Hid (Fr (λk=>k=g8\/k=g9\/k=g10) W x3):=((f.mono (T':=λk=>k=g8\/k=g9\/k=g10) (λi _ e=> .inl e)).trans (f2.mono (λi _ e=> .inr (.inl e)))).trans (f3.mono (λi _ e=> .inr (.inr e)));have bo:Hid (x3.heap[D]? =some (.deferred (some []))):=(aW.out.block D (Array.getElem?_eq_some_iff.1 ap.out).1 (by have:=a.out;omega)).trans ap.out;clear c4 b2 b3 f f2 f3;have J:Fr (λk=>some k=some D) x3 (x3.putObj D (.deferred none)):=Fr.grown (grownBy_putObj' x3 D _);have bl:Hid (Fr Nothing w (x3.putObj D (.deferred none))):=(r.out.fr.aw aW.out (λi R e=>by have:=a.out;omega)).aw J (λi R e=>by have g:i=D:=(by simpa using e);have:=a.out;omega);have bm:=af (bi.out.fr J (λe=>by have g:g8=D:=(by simpa using e);have:=a.out;omega));have bn:=af (bk.out.fr J (λe=>by have g:g9=D:=(by simpa using e);have:=a.out;omega));have ax:=af (av.out.fr J (λe=>by have g:g10=D:=(by simpa using e);have:=a.out;omega));have dg:Hid ((x3.putObj D (.deferred none)).ownsRow 0 139 64 (.slice Y m1 aG) (bV index n).length ((dI leaf (bV index n) path).2.flatMap nC)):=
     aP (aP t.out aW.out (λk L e=>by have:=P.out k L;have:=a.out;have:=LT.out;have:=HNE.out;omega)) J (λk L e=>by
      have g:k=D:=by simpa using e
      subst g;obtain⟨o,bc,di⟩:=cT t.out L;rw[ap.out]at bc;cases bc;cases di);have db:=af bZ.out.count;clear J;go_wp2;refine⟨by simp, .inl ⟨_,_,rfl,run_takeDeferred bo.out,?_⟩⟩;refine⟨_,jd _ _ g8 g9 g10 y.toArray _ 0 rfl rfl rfl bm.out a1.out.info bn.out ax.out,?_⟩;rw[bt.out];refine⟨.slice Y m1 aG,?_,⟨?_,bl.out.bR,λk L=> .inr (Nat.le_trans s.out.fr.size (P.out k L))⟩⟩;·rw[<-aQ.out];rfl
    ·simp only;rw[db.out];exact dg.out
 case stop=>
  rintro D b0 pre W aT _⟨bL,rfl,a9⟩a8;have a:Hid (w.heap.size<=g8/\g8<g9/\g9<g10/\g10<g11/\g11<g12/\g12<D):=by
   have:=HNE.out;have:=a5.out;have:=s.out.o4;have:=s.out.o7;have:=s.out.o8;have:=s.out.o9;have:=s.out.jJ;have:=LT.out;simp only[Hid];omega
  have bo:=af a8;have J:Fr (λk=>some k=some D) W (W.putObj D (.deferred none)):=Fr.grown (grownBy_putObj' W D _);have bl:Hid (Fr Nothing w (W.putObj D (.deferred none))):=(s.out.fr.aw bL.fr (λi R e=>by have:=a.out;omega)).aw J (λi R e=>by have g:i=D:=(by simpa using e);have:=a.out;omega);have bm:=af (bL.b8.fr J (λe=>by have g:g8=D:=(by simpa using e);have:=a.out;omega));have bn:=af (bL.b9.fr J (λe=>by have g:g9=D:=(by simpa using e);have:=a.out;omega));have ax:=af (bL.iR.fr J (λe=>by have g:g10=D:=(by simpa using e);have:=a.out;omega));have br:=af (kP.none (k:=35) bl.out);rw[bj,show gQ.map bK=aC gQ from rfl,cs.out]at br;have bt:Hid (dq leaf index n path=(gQ,[],35)):=by
   simp only[Hid];rw[NV.out,if_neg (by rw[PL.out];omega)]
  clear J bL a8 bS bT bs;gi_wp2;refine⟨by simp, .inl ⟨_,_,rfl,run_takeDeferred bo.out,?_⟩⟩;exact⟨_,jd _ _ g8 g9 g10 aH _ 35 rfl rfl rfl bm.out a2.out.info bn.out ax.out,by rw[bt.out];exact br.out⟩
end Go.Proofs.YtphjagkehiklkaaGreatDoor.Lt
namespace Go.Proofs.YtphjagkehiklkaaGreatDoor.Lt
open Proofs.Tryz Go.RowKit
theorem pH(leaf:List UInt8)(a:leaf.length=32)(index n:Int)(path:List (List UInt8))(he:∀d∈path,d.length=32):(dq leaf index n path).1.length=32:=by
 unfold dq;split
 ·split;·rename_i h;exact(wV leaf a path he _ _ rfl (by omega)).root
  ·exact kV
 ·exact kV
theorem oC(leaf:List UInt8)(d:leaf.length=32)(index n:Int)(e:-9223372036854775808<=n/\n<=9223372036854775807)(path:List (List UInt8))(len:Nat)(A:Option Addr)(c:Nat)(S:Nat->Prop)(w:World)(f:gK w S A len path)(a:len<=1048576)(hT:bU w):
  Calls prog 77 #[bj leaf, .int .i64 index, .int .i64 n, .slice A len c] w (kP w (dq leaf index n path)):=by
 by_cases h:1<=n/\n<=1048576/\0<=index/\index<n;·obtain⟨b,rfl⟩:∃b:Nat,n=b:=⟨n.toNat,by omega⟩;obtain⟨i',rfl⟩:∃i':Nat,index=i':=⟨index.toNat,by omega⟩;exact EJ leaf d i' b (by omega) (by omega) path len A c S w f a hT
 ·have:=zL leaf d index n A len c w h e;unfold dq;rw[if_neg h];exact this
theorem GM(leaf:List UInt8)(k:leaf.length=32)(index n:Int)(T:-9223372036854775808<=n/\n<=9223372036854775807)(path:List (List UInt8))(len:Nat)(A:Option Addr)(c:Nat)(S:Nat->Prop)(w:World)(y:gK w S A len path)(g:len<=1048576)(hT:bU w):
  Calls prog 58 #[bj leaf, .int .i64 index, .int .i64 n, .slice A len c] w (aM w (.tuple #[bj (dq leaf index n path).1, .int .i64 (dq leaf index n path).2.2])):=by
 have t:Hid (∀w',Fr Nothing w w'->Calls prog 77 #[bj leaf, .int .i64 index, .int .i64 n, .slice A len c] w' (kP w' (dq leaf index n path))):=λw' K=>oC leaf k index n T path len A c S w' (y.ao K) g (hT.ao K);have B:=pH leaf k index n path y.each;have u:Hid ((prog.info? 38).map (·.size)=some (aC leaf).length):=by rw[aC,List.length_map,k];exact fC
 unfold kP at t;generalize(dq leaf index n path).2.1=W at*;generalize(dq leaf index n path).2.2=E at*;generalize(dq leaf index n path).1=r at*;have a:Hid (dL (aC r).toArray):=dL.of B;have x:Hid ((prog.info? 38).map (·.size)=some (aC r).length):=by rw[aC,List.length_map,B];exact fC
 clear k y hT B;unfold bj at*;simp only[show∀l:List UInt8,l.map bK=aC l fromλ_=>rfl]at*;generalize aC leaf=R at*;generalize aC r=j at*;go_enter func58,ntmps58;go_wp2_with(refine aD rfl 38 (.tmp 0) rfl _ rfl ?_);intro w1 n1;have h:=af n1;clear n1;go_wp2_with(refine an rfl 38 rfl bp jn aH rfl ?_);intro w2 m;have C:=af (h.out.aF.fr m.fr id);have D:=af m.aF;have F:=af (h.out.fr.trans m.fr);have z1:Hid (w.heap.size<=w1.heap.size):=h.out.fr.size;clear m h;generalize J:w.heap.size=g4 at*;have G:=af J;clear J;generalize w1.heap.size=g8 at*;go_wp2_with(refine fj rfl 38 (.tmp 4) rfl g4 rfl _ R C.out _ underlying38 rfl u.out ?_);refine(t.out _ F.out).mono ?_;rintro e w3⟨v,rfl,z⟩;have M:=af (F.out.trans z.ao);have f:=af (D.out.fr z.ao id);clear z t D C;go_wp2_with(refine an rfl 38 rfl bp jn aH rfl ?_);intro X n4;have N:=af (M.out.trans n4.fr);have o:=af (f.out.fr n4.fr id);have b:=af n4.aF;have z2:Hid (g8<w3.heap.size):=f.out.lt;clear n4;generalize w3.heap.size=g10 at*;go_wp2_with(refine ai rfl 38 (.tmp 10) _ rfl g10 j.toArray rfl rfl _ _ b.out a.out.info a.out.zero a.out.one ?_);intro V b5 f5;have d:=af b5;have s:=af (o.out.fr f5 (λe=>by have I:g8=g10:=e;have:=z2.out;omega));have O:Hid (Fr Nothing w V):=N.out.aw f5 (λi U e=>by have I:i=g10:=e;have:=z2.out;have:=z1.out;have:=G.out;omega);clear b5 f5;go_wp2_with(first|(refine fj rfl 38 (.tmp 10) rfl g10 rfl _ j d.out _ underlying38 rfl x.out ?_)|(refine ai rfl 38 (.tmp 8) _ rfl g8 j.toArray rfl rfl _ _ s.out a.out.info a.out.zero a.out.one ?_));intro L H f6;have P:=af H;have Q:Hid (Fr Nothing w L):=O.out.aw f6 (λi U e=>by have I:i=g8:=e;have:=z1.out;have:=G.out;omega);clear H f6;go_wp2;exact bodyPost_ret (dX (fn:=Tryz.f58) (p:=8) (q:=9) (ty:=38) results58 _ L _ 38 j.toArray (0,0) _ rfl P.out underlying38 rfl a.out.info _ rfl) rfl ⟨rfl,Q.out⟩
def jL(n:Nat)(ds:List (List UInt8))(v:Value)(w:World):Prop:=∃A c,v= .slice A n c/\n<=c/\c<=9223372036854775807/\∃S,gK w S A n ds
theorem jL.of{w w':World}{v:Value}{n:Nat}{ds:List (List UInt8)}(h:bT 38 32 w (.slice none 0 0) w' v n (ds.flatMap aC))(f:ds.length=n)(he:∀d∈ds,d.length=32):jL n ds v w':=by
 obtain⟨A,c,rfl,e,a,b,_⟩:=gK.BJ h f he;exact⟨A,c,rfl,a,b,_,e⟩
theorem jL.ag{w:World}{n:Nat}{ds:List (List UInt8)}:∀v w' a,Fr Nothing w w'->Fr Nothing w' a->jL n ds v w'->jL n ds v a:=λ_ _ _ _ f⟨A,c,h,b,d,S,e⟩=>⟨A,c,h,b,d,S,e.ao f⟩
structure sx(w:World)(S:Nat->Prop)(A:Option Addr)(a:List DP):Prop where
 rd:Rd w S 64 A a.length (a.flatMap nC)
 each:∀p∈a,p.1.length=32/\p.2.length=32
 lt:∀k,S k->k<w.heap.size
theorem sx.ao{w w':World}{S:Nat->Prop}{A:Option Addr}{b:List DP}(h:sx w S A b)(a:Fr Nothing w w'):sx w' S A b:=⟨h.rd.ao a,h.each,λk c=>Nat.lt_of_lt_of_le (h.lt k c) a.size⟩
theorem sx.fr{w w':World}{S T:Nat->Prop}{A:Option Addr}{b:List DP}(h:sx w S A b)(a:Fr T w w')(c:∀k,S k->¬T k):sx w' S A b:=⟨h.rd.fr a c,h.each,λk d=>Nat.lt_of_lt_of_le (h.lt k d) a.size⟩
def Dc(b:Nat)(m:Nat)(path:List (List UInt8))(A:Option Addr)(c:Nat)(W:World):Prop:=
 m<=c/\c<=9223372036854775807/\(m=0\/∃g a,A=some ⟨g,0,none⟩/\b<=g/\aq W g 37 (path.flatMap aC++a).toArray)
theorem Dc.ao{b m:Nat}{path:List (List UInt8)}{A:Option Addr}{c:Nat}{w w':World}(j:Fr Nothing w w')(h:Dc b m path A c w):Dc b m path A c w':=by
 obtain⟨d,e,a⟩:=h;refine⟨d,e,?_⟩;rcases a with a|⟨g,l,f,k,i⟩;·exact .inl a
 ·exact .inr ⟨g,l,f,k,i.fr j id⟩
theorem Mm(a b:UInt8):bits .xor .u8 ((a.toNat:Nat):Int) ((b.toNat:Nat):Int)=(((a^^^b).toNat:Nat):Int):=by
 have c:=a.toNat_lt;have d:=b.toNat_lt;rw[u8_xor_nat _ _ (by omega) (by omega),UInt8.toNat_xor]
end Go.Proofs.YtphjagkehiklkaaGreatDoor.Lt
