/- Texts. -/
import Derived.Test.YtphjagkehiklkaaGreatDoorZK14
set_option linter.unusedVariables false
set_option linter.unusedSimpArgs false
set_option maxRecDepth 100000
set_option maxHeartbeats 4000000
namespace Go.Proofs.YtphjagkehiklkaaGreatDoor.Lt
open Go.RowKit Go.Shelf
attribute[local go_sem]Oper.semAt_some
def bR(index n:Nat):List Bool:=
 if a:2≤n∧aN n<n∧1≤aN n then
  (if index<aN n then bR index (aN n)++[true]else bR (index-aN n) (n-aN n)++[false])
 else[]
termination_by n
decreasing_by all_goals omega
theorem uu(index:Nat):bR index 1=[]:=by rw[bR,dif_neg (by omega)]
theorem sw{index n:Nat}(b:2≤n)(d:n≤1099511627776)(h:index<aN n):bR index n=bR index (aN n)++[true]:=by
 obtain⟨a,_,c⟩:=dD n b d;rw[bR,dif_pos ⟨b,a,c⟩,if_pos h]
theorem qI{index n:Nat}(b:2≤n)(d:n≤1099511627776)(h:¬index<aN n):bR index n=bR (index-aN n) (n-aN n)++[false]:=by
 obtain⟨a,_,c⟩:=dD n b d;rw[bR,dif_pos ⟨b,a,c⟩,if_neg h]
theorem RoundIn.jI{F:Fence}(a:F.depth=none){m b:Nat}{P:Program}{l:Nat}{f:FuncId}{tmps:Array Value}{assign body:Code}{w:World}{e:Ending→World→Prop}
  (h:RoundIn F m P l f tmps assign body w e):RoundIn F b P l f tmps assign body w e:=⟨h.1,fun c cs _=>h.2 c cs (fun d h=>by rw[a]at h;cases h)⟩
theorem YieldAt.jI{F:Fence}(b:F.depth=none){m:Nat}(d:Nat){P:Program}{l:Nat}{args:Array Value}{W:World}{e:Ending→World→Prop}(h:YieldAt F m P l args W e):YieldAt F d P l args W e:=by
 obtain⟨fn,tmps,assign,body,c,a⟩:=h;exact⟨fn,tmps,assign,body,c,RoundIn.jI b a⟩
def Jz(b a:List Bool→World→Prop)(pre xs:List Bool)(e:Ending)(W':World):Prop:=
 (e= .returned (.bool true)∧b (pre++xs) W')∨(e= .returned (.bool false)∧∃q,q<+:xs∧a (pre++q) W')
theorem Ia(l N:Nat)(J g:List Bool→World→Prop)
  (y:∀m pre x W,J pre W→pre.length<N→YieldAt Fence.wide m Tryz.prog l #[.bool x] W fun e W'=>(e= .returned (.bool true)∧J (pre++[x]) W')∨(e= .returned (.bool false)∧g (pre++[x]) W'))(n:Nat):
  ∀(m index:Nat)(pre:List Bool)(W:World),index<n→n≤1048576→J pre W→pre.length+(bR index n).length≤N→
   CallsIn Fence.wide m Tryz.prog 158 #[.int .i64 index, .int .i64 n, .func (.yield l) #[] #[]] W (Jz J g pre (bR index n)):=by
 induction n using Nat.strongRecOn with
 |_ n z=>
  intro m index pre W D G j i;have b:∀k:Nat,(Fence.wide.depth.isSome=true→1≤k):=fun k h=>by cases h
  by_cases e:n=1;·subst e;rw[uu];refine callsIn_of_wp Tryz.func158 rfl trivial ?_ rfl;simp only[Tryz.ntmps158,List.size_toArray,List.length_cons,List.length_nil,Nat.reduceAdd,Nat.reduceSub,Array.replicate_succ,Array.replicate_zero,List.push_toArray,List.append_toArray,List.nil_append,List.cons_append];gi_wp2;go_ret;exact .inl ⟨rfl,by simpa using j⟩
  ·obtain⟨F,_,H⟩:=dD n (by omega) (by omega);have v:=af (fun w=>nt n w (by omega) (by omega));have t1:((n:Int)==1)=false:=by rw[beq_eq_false_iff_ne];omega
   by_cases hm:index<aN n
   ·have t2:decide ((index:Int)<((aN n:Nat):Int))=true:=de (by omega);have t:=sw (by omega) (by omega) hm;rw[t]at i⊢;rw[aS]at i;have d:∀a,J (pre++bR index (aN n)) a→YieldAt Fence.wide (m-1) Tryz.prog l #[.bool true] a fun e c=>
      (e= .returned (.bool true)∧J (pre++bR index (aN n)++[true]) c)∨(e= .returned (.bool false)∧g (pre++bR index (aN n)++[true]) c):=fun a o=>
     y (m-1) _ true a o (by simp at i⊢;omega);have f:=af (fun W(j:J pre W)=>(z (aN n) F (m-1) index pre W hm (by omega) j (by omega)).mono (R':=fun e a=>
      (e= .returned (.bool true)∧YieldAt Fence.wide (m-1) Tryz.prog l #[.bool true] a fun e c=>
       (e= .returned (.bool true)∧J (pre++bR index (aN n)++[true]) c)∨(e= .returned (.bool false)∧g (pre++bR index (aN n)++[true]) c))∨
      (e= .returned (.bool false)∧∃q,q<+:bR index (aN n)∧g (pre++q) a))
     (fun e a h=>h.elim (fun⟨he,B⟩=> .inl ⟨he,d a B⟩) .inr));clear d z y t i;generalize A:bR index (aN n)=S at*;clear A;generalize aN n=k at*;refine callsIn_of_wp Tryz.func158 rfl trivial ?_ rfl;simp only[Tryz.ntmps158,List.size_toArray,List.length_cons,List.length_nil,Nat.reduceAdd,Nat.reduceSub,Array.replicate_succ,Array.replicate_zero,List.push_toArray,List.append_toArray,List.nil_append,List.cons_append]
    gi_wp2_with(first
     |((try refine⟨trivial,b _,?_⟩);gi_at_call 121;refine(callsIn_wide.2 (v.out _)).mono ?_;clear v;rintro e w1⟨rfl,rfl⟩)
     |((try refine⟨trivial,b _,?_⟩);gi_at_call 158;refine(f.out _ j).mono ?_;clear f;rintro e a(⟨rfl,fn,tmps,assign,body,E,u⟩|⟨rfl,q,C,r⟩))
     |((try refine⟨b _,?_⟩);(try refine⟨trivial,b _,?_⟩);refine u.mono ?_;clear u;rintro e c(⟨rfl,p⟩|⟨rfl,s⟩)));·go_ret;exact .inl ⟨rfl,by simpa[List.append_assoc]using p⟩
    ·go_ret;exact .inr ⟨rfl,S++[true],List.prefix_refl _,by simpa[List.append_assoc]using s⟩
    ·refine⟨fun _ h=>(by cases h),?_⟩;gi_wp2;go_ret;exact .inr ⟨rfl,q,C.trans (List.prefix_append _ _),r⟩
   ·have t2:decide ((index:Int)<((aN n:Nat):Int))=false:=cD (by omega);have t:=qI (by omega) (by omega) hm;rw[t]at i⊢;rw[aS]at i;have s1:(index:Int)-((aN n:Nat):Int)=((index-aN n:Nat):Int):=by omega
    have s2:(n:Int)-((aN n:Nat):Int)=((n-aN n:Nat):Int):=by omega
    have d:∀a,J (pre++bR (index-aN n) (n-aN n)) a→YieldAt Fence.wide (m-1) Tryz.prog l #[.bool false] a fun e c=>
      (e= .returned (.bool true)∧J (pre++bR (index-aN n) (n-aN n)++[false]) c)∨(e= .returned (.bool false)∧g (pre++bR (index-aN n) (n-aN n)++[false]) c):=fun a o=>
     y (m-1) _ false a o (by simp at i⊢;omega);have f:=af (fun W(j:J pre W)=>(z (n-aN n) (by omega) (m-1) (index-aN n) pre W (by omega) (by omega) j (by omega)).mono (R':=fun e a=>
      (e= .returned (.bool true)∧YieldAt Fence.wide (m-1) Tryz.prog l #[.bool false] a fun e c=>
       (e= .returned (.bool true)∧J (pre++bR (index-aN n) (n-aN n)++[false]) c)∨(e= .returned (.bool false)∧g (pre++bR (index-aN n) (n-aN n)++[false]) c))∨
      (e= .returned (.bool false)∧∃q,q<+:bR (index-aN n) (n-aN n)∧g (pre++q) a))
     (fun e a h=>h.elim (fun⟨he,B⟩=> .inl ⟨he,d a B⟩) .inr));clear d z y t i;generalize A:bR (index-aN n) (n-aN n)=S at*;clear A;have b1:index-aN n≤1048576:=by omega
    have b2:n-aN n≤1048576:=by omega
    generalize index-aN n=i2 at*;generalize n-aN n=I at*;generalize aN n=k at*;refine callsIn_of_wp Tryz.func158 rfl trivial ?_ rfl;simp only[Tryz.ntmps158,List.size_toArray,List.length_cons,List.length_nil,Nat.reduceAdd,Nat.reduceSub,Array.replicate_succ,Array.replicate_zero,List.push_toArray,List.append_toArray,List.nil_append,List.cons_append]
    gi_wp2_with(first
     |((try refine⟨trivial,b _,?_⟩);gi_at_call 121;refine(callsIn_wide.2 (v.out _)).mono ?_;clear v;rintro e w1⟨rfl,rfl⟩)
     |((try refine⟨trivial,b _,?_⟩);gi_at_call 158;refine(f.out _ j).mono ?_;clear f;rintro e a(⟨rfl,fn,tmps,assign,body,E,u⟩|⟨rfl,q,C,r⟩))
     |((try refine⟨b _,?_⟩);(try refine⟨trivial,b _,?_⟩);refine u.mono ?_;clear u;rintro e c(⟨rfl,p⟩|⟨rfl,s⟩)));·go_ret;exact .inl ⟨rfl,by simpa[List.append_assoc]using p⟩
    ·go_ret;exact .inr ⟨rfl,S++[false],List.prefix_refl _,by simpa[List.append_assoc]using s⟩
    ·refine⟨fun _ h=>(by cases h),?_⟩;gi_wp2;go_ret;exact .inr ⟨rfl,q,C.trans (List.prefix_append _ _),r⟩
theorem An(m c d index n:Nat)(w:World)(y:c<w.heap.size)(B:d<w.heap.size)(ci:w.cell? ⟨c,0,none⟩=some (.int .i64 index))(t:w.cell? ⟨d,0,none⟩=some (.int .i64 n))(i:index<n)(j:n≤1048576):
  SeqStopsK Fence.wide m Tryz.prog 157 #[.pointer (some ⟨c,0,none⟩), .pointer (some ⟨d,0,none⟩)] (fun x:Bool=>#[Value.bool x]) (fun _ _=>True) (fun E=>E=bR index n) (fun pre=>pre<+:bR index n) (bR index n).length w:=by
 intro l I s W o _ _ v u;have g:∀k:Nat,(Fence.wide.depth.isSome=true→1≤k):=fun k h=>by cases h
 have r:=Ia l (bR index n).length I s (fun m pre x W z A=>YieldAt.jI rfl m (YieldAt.mono (v pre x W z A) fun e W' h=>h.elim (fun⟨a,b,_⟩=> .inl ⟨a,b⟩) .inr)) n (m-1) index [] W i j u (by simp);have G:=(o.cell (p:=⟨c,0,none⟩) y).trans ci;have H:=(o.cell (p:=⟨d,0,none⟩) B).trans t;refine callsIn_of_wp Tryz.func157 rfl trivial ?_ rfl;simp only[Tryz.ntmps157,List.size_toArray,List.length_cons,List.length_nil,Nat.reduceAdd,Nat.reduceSub,Array.replicate_succ,Array.replicate_zero,List.push_toArray,List.append_toArray,List.nil_append,List.cons_append];gi_wp2_with((try refine⟨trivial,g _,?_⟩);gi_at_call 158;refine r.mono ?_;clear r;rintro e F(⟨rfl,f⟩|⟨rfl,q,C,D⟩));·go_end0;exact⟨⟨_,rfl⟩, .inl ⟨_,rfl,by simpa using f⟩⟩
 ·go_end0;exact⟨⟨_,rfl⟩, .inr ⟨q,C,by simpa using D⟩⟩
theorem Fy(index n:Int)(w:World):Calls Tryz.prog 123 #[.int .i64 index, .int .i64 n] w fun e w'=>e= .returned (.func (.func 157) #[] #[.pointer (some ⟨w.heap.size,0,none⟩), .pointer (some ⟨w.heap.size+1,0,none⟩)])∧w'=(w.alloc (.cells #[.int .i64 index] 3)).alloc (.cells #[.int .i64 n] 3):=by
 go_enter Tryz.func123,Tryz.ntmps123;go_wp2;go_ret;exact⟨rfl,rfl⟩
end Go.Proofs.YtphjagkehiklkaaGreatDoor.Lt
namespace Go.Proofs.YtphjagkehiklkaaGreatDoor.Lt
open Go.RowKit
def oQ(s:List UInt8×List (List UInt8×List UInt8))(b:Bool)(d:List UInt8):List UInt8×List (List UInt8×List UInt8):=
 (cR (if b then s.1 else d) (if b then d else s.1),s.2++[(if b then s.1 else d,if b then d else s.1)])
def dF(leaf:List UInt8)(pre:List Bool)(path:List (List UInt8)):List UInt8×List (List UInt8×List UInt8):=(pre.zip path).foldl (fun s x=>oQ s x.1 x.2) (leaf,[])
theorem Jc(leaf:List UInt8)(path:List (List UInt8)):dF leaf [] path=(leaf,[]):=rfl
theorem y7:∀(pre:List Bool)(path:List (List UInt8))(b:Bool)(d:List UInt8),path[pre.length]? =some d→(pre++[b]).zip path=pre.zip path++[(b,d)]
 |[],d'::path,b,d,h=>by simp at h;simp[h]
 |[],[],b,d,h=>by simp at h
 |x::pre,[],b,d,h=>by simp at h
 |x::pre,y::path,b,d,h=>by
  have a:path[pre.length]? =some d:=by simpa using h
  simp[y7 pre path b d a]
theorem mB(leaf:List UInt8)(pre:List Bool)(path:List (List UInt8))(b:Bool)(d:List UInt8)(h:path[pre.length]? =some d):dF leaf (pre++[b]) path=oQ (dF leaf pre path) b d:=by
 unfold dF;rw[y7 pre path b d h,List.foldl_append];rfl
structure zl(s:List UInt8×List (List UInt8×List UInt8))(n:Nat):Prop where
 root:s.1.length=32
 count:s.2.length=n
 each:∀p∈s.2,p.1.length=32∧p.2.length=32
theorem zl.step{s:List UInt8×List (List UInt8×List UInt8)}{n:Nat}(h:zl s n)(b:Bool)(d:List UInt8)(c:d.length=32):zl (oQ s b d) (n+1):=by
 refine⟨eM _ _,by simp[oQ,h.count],fun p a=>?_⟩;simp only[oQ,List.mem_append,List.mem_singleton]at a;rcases a with a|rfl;·exact h.each p a
 ·cases b;·exact⟨c,h.root⟩
  ·exact⟨h.root,c⟩
theorem xv(leaf:List UInt8)(e:leaf.length=32)(path:List (List UInt8))(he:∀d∈path,d.length=32):∀(k:Nat)(pre:List Bool),pre.length=k→k≤path.length→zl (dF leaf pre path) k
 |0,pre,h,_=>by
  obtain rfl:=List.eq_nil_of_length_eq_zero h;exact⟨e,rfl,fun p f=>by cases f⟩
 |k+1,pre,h,g=>by
  rcases List.eq_nil_or_concat pre with rfl|⟨c,b,rfl⟩;·simp at h
  ·rw[List.concat_eq_append]at h⊢;rw[aS,List.length_singleton]at h;have a:c.length<path.length:=by omega
   rw[mB leaf c path b path[c.length] (List.getElem?_eq_getElem a)];exact(xv leaf e path he k c (by omega) (by omega)).step b _ (he _ (List.getElem_mem a))
def oK(p:List UInt8×List UInt8):List Value:=aA p.1++aA p.2
theorem yz(d:List UInt8):∀u∈aA d,u.oneCell'=true:=fun u hu=>jg d u hu
theorem Fb(p:List UInt8×List UInt8):∀u∈oK p,u.oneCell'=true:=fun u hu=>by
 rcases List.mem_append.1 hu with h|h;·exact yz _ u h
 ·exact yz _ u h
def dp(leaf:List UInt8)(index n:Int)(path:List (List UInt8)):List UInt8×List (List UInt8×List UInt8)×Int:=
 if 1≤n∧n≤1048576∧0≤index∧index<n then
  (if path.length=(bR index.toNat n.toNat).length then((dF leaf (bR index.toNat n.toNat) path).1,(dF leaf (bR index.toNat n.toNat) path).2,0)else(gZ,[],35))
 else(gZ,[],2)
theorem Fm{w:World}{g:Nat}{t:TypeId}{L d:List Value}(h:aq w g t (L++d).toArray)(c:L.length=32):w.rangeAt g 0 L∧w.rangeAt g 32 d:=by
 refine⟨fun j v a=>?_,fun j v a=>?_⟩;·have b:=(List.getElem?_eq_some_iff.1 a).1;rw[Nat.zero_add,h.cell,bP,List.getElem?_append_left b];exact a
 ·rw[h.cell,bP,List.getElem?_append_right (by omega),c,show 32+j-32=j by omega];exact a
theorem tR(l r:List UInt8)(b:l.length=32)(g:r.length=32)(w:World)(n:bT w):Calls Tryz.prog 124 #[.agg (aA l++aA r).toArray] w (aH w (aY (cR l r))):=by
 have h:Hid (∀w',Fr ag w w'→Calls Tryz.prog 122 #[.agg (aA l).toArray, .agg (aA r).toArray] w' (aH w' (.agg (aA (cR l r)).toArray))):=fun w' G=>lR l r b g w' (n.ao G);have D:Hid (dI (aA (cR l r)).toArray):=dI.of (eM l r);have c:Hid ((aA l).length=32):=by simp[Hid,aA,b]
 have A:Hid ((Tryz.prog.info? 38).map (·.size)=some (aA l).length):=by rw[aA,List.length_map,b];exact fo
 have B:Hid ((Tryz.prog.info? 38).map (·.size)=some (aA r).length):=by rw[aA,List.length_map,g];exact fo
 unfold aY;change Calls _ _ _ _ (aH w (.agg (aA (cR l r)).toArray));clear n b g;generalize aA (cR l r)=NV at*;generalize aA l=k at*;generalize aA r=m at*;have ty:=Tryz.underlying38;go_enter Tryz.func124,Tryz.ntmps124;go_wp2_with(refine aB rfl 139 (.tmp 0) rfl _ rfl ?_);intro w1 n1;have d:=af n1;clear n1;go_wp2_with(refine an rfl 38 rfl aZ iR aD rfl ?_);intro w2 o;have f:=af o;clear o;have u:Hid (aq w2 w.heap.size 139 (k++m).toArray):=d.out.aE.fr f.out.fr (fun x=>x);have j:Hid (Fr ag w w2):=d.out.fr.trans f.out.fr;have C:Hid (w.heap.size<w1.heap.size):=by have:=d.out.size;simp only[Hid];omega
 obtain⟨q,s⟩:=Fm u.out c.out;generalize a:w.heap.size=g0 at*;go_wp2_with(first|(refine wpList_load_mid rfl 38 (.tmp 3) rfl g0 0 rfl k _ q ty rfl A.out ?_)|(refine wpList_load_mid rfl 38 (.tmp 5) rfl g0 32 rfl m _ s ty rfl B.out ?_)|fail);refine(h.out _ j.out).mono ?_;rintro e w3⟨rfl,f3⟩;have v:=af (f.out.aE.fr f3 (fun x=>x));have y:=af (j.out.trans f3);have z:=af a;clear f3 q s h a;go_wp2_with(refine ai rfl 38 (.tmp 2) _ rfl w1.heap.size NV.toArray rfl rfl _ _ v.out D.out.info D.out.zero D.out.one ?_);intro t b4 f4;have E:=af b4;have F:Hid (Fr ag w t):=y.out.aw f4 (fun i I e=>by have H:i=w1.heap.size:=e;have:=C.out;have:=z.out;omega);clear b4 f4;go_wp2;exact bodyPost_ret (results_cell_row (fn:=Tryz.f124) (p:=2) (ty:=38) Tryz.results124 _ t _ 38 NV.toArray (0,0) _ rfl E.out Tryz.underlying38 rfl D.out.info) rfl ⟨rfl,F.out⟩
end Go.Proofs.YtphjagkehiklkaaGreatDoor.Lt
namespace Go.Proofs.YtphjagkehiklkaaGreatDoor.Lt
open Go.RowKit Go.Shelf
attribute[local go_sem]Oper.semAt_some
theorem bS{P:Program}{ops:Array Oper}{rest:List Oper}{m:Oper}{a:Act}{w:World}{Q:Exit→Act→World→Prop}(c:m.guard=none)(ty:TypeId)(x y:Operand)(i:m.op= .store ty x y)
  (g:Nat)(v:Value)(j:a.eval x= .pointer (some ⟨g,0,none⟩))(l:a.eval y=v)(e:v.oneCell'=true)
  (t:TypeId)(b:Value)(d:aq w g t #[b])(f:(P.info? ty).map (·.size)=some 1)
  (h:∀w',aq w' g t #[v]→Fr (fun k=>k=g) w w'→wpList P ops Q rest (a.put m.dst undef) w'):wpList P ops Q (m::rest) a w:=by
 subst l;exact wpList_store_one c ty x y i g j e t b d f (h _ (iO d) ((Fr.refl (fun k=>k=g) w).setRow (fun _=>rfl) _))
theorem eF{P:Program}(w:World)(g:Nat)(t ty:TypeId)(v:Value)(d:aq w g t #[v])(a:(P.info? ty).map (·.size)=some 1)(b:(isAgg ty).run P w= .ok false w):
  (loadVar ty ⟨g,0,none⟩).run P w= .ok v w:=by
 have c:w.cell? ⟨g,0,none⟩=some v:=d.cell 0;simp[loadVar,b,go_sem,c]
theorem mR:(Tryz.prog.info? 135).map (·.size)=some 1:=by kernel_rfl
theorem qp:(Tryz.prog.info? 34).map (·.size)=some 1:=by kernel_rfl
theorem GU(w:World):(zeroValue 135).run Tryz.prog w= .ok (.slice none 0 0) w:=by kernel_rfl
theorem Lw(w:World):(zeroValue 34).run Tryz.prog w= .ok (.int .i64 0) w:=by kernel_rfl
theorem isAgg82(w:World):(isAgg 135).run Tryz.prog w= .ok false w:=by kernel_rfl
theorem isAgg26(w:World):(isAgg 34).run Tryz.prog w= .ok false w:=by kernel_rfl
theorem ja(tmps:Array Value)(w:World)(g8 g9 g10:Nat)(cs:Array Value)(v:Value)(k:Int)
  (e:tmps.getD 8 undef= .pointer (some ⟨g8,0,none⟩))(f:tmps.getD 9 undef= .pointer (some ⟨g9,0,none⟩))(b:tmps.getD 10 undef= .pointer (some ⟨g10,0,none⟩))
  (b8:aq w g8 38 cs)(g:(Tryz.prog.info? 38).map (·.size)=some cs.size)(b9:aq w g9 135 #[v])(iU:aq w g10 34 #[.int .i64 k]):
  (results Tryz.f77 tmps).run Tryz.prog w= .ok (.tuple #[.agg cs,v, .int .i64 k]) w:=by
 have c:tmps[8]?.getD undef= .pointer (some ⟨g8,0,none⟩):=by simpa using e
 have d:tmps[9]?.getD undef= .pointer (some ⟨g9,0,none⟩):=by simpa using f
 have a:tmps[10]?.getD undef= .pointer (some ⟨g10,0,none⟩):=by simpa using b
 simp[results,Tryz.results77,c,d,a,asAddr,run_loadVar_row w g8 38 38 cs (0,0) _ b8 Tryz.underlying38 rfl g,eF w g9 _ _ v b9 mR (isAgg82 w),eF w g10 _ _ _ iU qp (isAgg26 w)]
def kD(w:World)(V:List UInt8×List (List UInt8×List UInt8)×Int)(e:Ending)(w':World):Prop:=
 ∃v,e= .returned (.tuple #[aY V.1,v, .int .i64 V.2.2])∧bK 139 64 w (.slice none 0 0) w' v V.2.1.length (V.2.1.flatMap oK)
theorem kD.none{w w':World}{k:Int}(h:Fr ag w w'):kD w (gZ,[],k) (.returned (.tuple #[aY gZ, .slice none 0 0, .int .i64 k])) w':=
 ⟨_,rfl,⟨⟨rfl, .inl ⟨rfl,rfl⟩⟩,h.bO,fun _ a=> .inl a⟩⟩
structure mH(w w':World)(len:Nat)(A:Option Addr)(c:Nat)(a:List Value)(g4 g7 g8 g9 g10:Nat):Prop where
 fr:Fr ag w w'
 b4:aq w' g4 38 a.toArray
 b7:aq w' g7 31 #[.slice A len c]
 b8:aq w' g8 38 aD
 b9:aq w' g9 135 #[.slice none 0 0]
 iU:aq w' g10 34 #[.int .i64 0]
 o4:w.heap.size≤g4
 o7:g4<g7
 o8:g7<g8
 o9:g8<g9
 jD:g9<g10
theorem mH.later{w w' b:World}{len:Nat}{A:Option Addr}{c:Nat}{d:List Value}{g4 g7 g8 g9 g10:Nat}(h:mH w w' len A c d g4 g7 g8 g9 g10)(a:Fr ag w' b):mH w b len A c d g4 g7 g8 g9 g10:=
 ⟨h.fr.trans a,h.b4.fr a (fun x=>x),h.b7.fr a (fun x=>x),h.b8.fr a (fun x=>x),h.b9.fr a (fun x=>x),h.iU.fr a (fun x=>x),h.o4,h.o7,h.o8,h.o9,h.jD⟩
theorem mH.of{w w1 w2 w3 g i:World}{len:Nat}{A:Option Addr}{c:Nat}{h:List Value}(f:dm w w1 38 h.toArray)(e:dm w1 w2 31 #[.slice A len c])(d:dm w2 w3 38 aD)(a:dm w3 g 135 #[.slice none 0 0])(b:dm g i 34 #[.int .i64 0]):
  mH w i len A c h w.heap.size w1.heap.size w2.heap.size w3.heap.size g.heap.size:=by
 have j:=f.size;have k:=e.size;have l:=d.size;have m:=a.size;exact⟨f.fr.trans (e.fr.trans (d.fr.trans (a.fr.trans b.fr))),f.aE.fr (e.fr.trans (d.fr.trans (a.fr.trans b.fr))) (fun x=>x),e.aE.fr (d.fr.trans (a.fr.trans b.fr)) (fun x=>x),d.aE.fr (a.fr.trans b.fr) (fun x=>x),a.aE.fr b.fr (fun x=>x),b.aE,Nat.le_refl _,by omega,by omega,by omega,by omega⟩
theorem cS{w:World}{base:Nat}{e:TypeId}{size n k:Nat}{v:Value}{xs:List Value}(h:w.ownsRow base e size v n xs)(a:v.ownBlock=some k):∃f,w.heap[k]? =some f∧f.isCells=true:=by
 rcases h.2 with⟨rfl,_⟩|⟨d,b,cur,rfl,_,c,_⟩;·simp[Value.ownBlock]at a
 ·simp[Value.ownBlock]at a;subst a;exact⟨_,c,rfl⟩
structure rK(w1:World)(g11 g12 len:Nat)(leaf:List UInt8)(path:List (List UInt8))(pre:List Bool)(W:World):Prop where
 fr:Fr (fun k=>k=g11∨k=g12) w1 W
 le:pre.length≤len
 row:∃v,aq W g11 135 #[v]∧W.ownsRow 0 139 64 v pre.length ((dF leaf pre path).2.flatMap oK)∧∀k,v.ownBlock=some k→w1.heap.size≤k
 root:aq W g12 38 (aA (dF leaf pre path).1).toArray
theorem rK.iY{w1:World}{g11 g12 len:Nat}{leaf:List UInt8}{path:List (List UInt8)}(d:g11<w1.heap.size)(f:g12<w1.heap.size):OwnFrom w1.heap.size (rK w1 g11 g12 len leaf path):=by
 intro pre A B row h p o;have a:∀k,k<w1.heap.size→some k≠row:=fun k m e=>by have:=(o k e.symm).1;omega
 have c:Fr (fun k=>some k=row) A B:=Fr.grown p;obtain⟨v,kf,b,r⟩:=h.row;refine⟨h.fr.aw c (fun i q e=>absurd e (a i q)),h.le,⟨v,kf.fr c (fun e=>a _ d e),aL b c (fun k m e=>?_),r⟩,h.root.fr c (fun e=>a _ f e)⟩;obtain⟨_,t,n,l⟩:=o k e.symm;obtain⟨s,j,g⟩:=cS b m;rw[j]at n;cases n;rw[g]at l;cases l
structure Gl(w1:World)(g8 g9 g10 g11 g12:Nat)(W:World):Prop where
 fr:Fr (fun k=>k=g8∨k=g9∨k=g10∨k=g11∨k=g12) w1 W
 b8:aq W g8 38 aD
 b9:aq W g9 135 #[.slice none 0 0]
 iU:aq W g10 34 #[.int .i64 35]
theorem Gl.iY{w1:World}{g8 g9 g10 g11 g12:Nat}(d:g8<w1.heap.size)(f:g9<w1.heap.size)(c:g10<w1.heap.size)(C:Prop):OwnFrom w1.heap.size (fun(_:List Bool)W=>Gl w1 g8 g9 g10 g11 g12 W∧C):=by
 intro pre A B row⟨h,g⟩j m;have a:∀k,k<w1.heap.size→some k≠row:=fun k n e=>by have:=(m k e.symm).1;omega
 have b:Fr (fun k=>some k=row) A B:=Fr.grown j;exact⟨⟨h.fr.aw b (fun i l e=>absurd e (a i l)),h.b8.fr b (fun e=>a _ d e),h.b9.fr b (fun e=>a _ f e),h.iU.fr b (fun e=>a _ c e)⟩,g⟩
theorem zV(leaf:List UInt8)(B:leaf.length=32)(index n:Int)(A:Option Addr)(len c:Nat)(w:World)(F:¬(1≤n∧n≤1048576∧0≤index∧index<n))(O:-9223372036854775808≤n∧n≤9223372036854775807):
  Calls Tryz.prog 77 #[aY leaf, .int .i64 index, .int .i64 n, .slice A len c] w (kD w (gZ,[],2)):=by
 have D:Hid (∀w',Calls Tryz.prog 89 #[.int .i64 n, .int .i64 1, .int .i64 1048576] w' (bm w' (.bool (decide (1≤n∧n≤1048576))))):=fun w'=>fI n 1 1048576 w';have H:Hid (∀w',Calls Tryz.prog 89 #[.int .i64 index, .int .i64 0, .int .i64 (n-1)] w' (bm w' (.bool (decide (0≤index∧index≤n-1))))):=fun w'=>fI index 0 (n-1) w';have J:decide (1≤n∧n≤1048576)=false∨(decide (1≤n∧n≤1048576)=true∧decide (0≤index∧index≤n-1)=false):=by
  by_cases u:1≤n∧n≤1048576;·exact .inr ⟨decide_eq_true u,cD (fun h=>F ⟨u.1,u.2,h.1,by omega⟩)⟩
  ·exact .inl (decide_eq_false u)
 have G:decide (1≤n∧n≤1048576)=true→IntKind.i64.wrap (n-1)=n-1:=fun h=>IntWalk.i64_in _ (by have:=of_decide_eq_true h;omega);have d:Hid (dI (aA gZ).toArray):=dI.of kI;have I:Hid ((aA gZ).toArray=aD):=sD;have E:Hid (Tryz.prog.built 38 []=some aD):=pz;clear F B;have z:=af (fun w'(h:Fr ag w w')=>kD.none (k:=2) h);unfold aY at*;simp only[show∀l:List UInt8,l.map bN=aA l from fun _=>rfl]at*;rw[I.out]at d z;generalize aA leaf=N at*;generalize decide (1≤n∧n≤1048576)=P at*;generalize decide (0≤index∧index≤n-1)=Q at*;generalize hm:n-1=m at*;rcases J with rfl|⟨rfl,rfl⟩;·go_enter Tryz.func77,Tryz.ntmps77;go_wp2_with(refine aB rfl 38 (.tmp 0) rfl _ rfl ?_);intro w1 n1;have j:=af n1;clear n1;go_wp2_with(refine aB rfl 31 (.tmp 3) rfl _ rfl ?_);intro w2 t;have o:=af t;clear t;go_wp2_with(refine an rfl 38 rfl aZ iR aD rfl ?_);intro w3 n3;have p:=af n3;clear n3;go_wp2_with(refine an rfl 135 rfl (.slice none 0 0) GU #[.slice none 0 0] rfl ?_);intro C n4;have q:=af n4;clear n4;go_wp2_with(refine an rfl 34 rfl (.int .i64 0) Lw #[.int .i64 0] rfl ?_);intro K n5;have a:=af (mH.of j.out o.out p.out q.out n5);clear n5 j o p q;generalize r:w.heap.size=g4 at*;have f:=af r;clear r;generalize w1.heap.size=g7 at*;generalize w2.heap.size=g8 at*;generalize w3.heap.size=g9 at*;generalize C.heap.size=g10 at*;go_wp2_with fail;refine(D.out _).mono ?_;rintro e w'⟨rfl,rfl⟩;go_upto_region 2 with fail;refine wp_region_lit ?_;refine jV rfl 38 rfl aD E.out ?_;refine ai rfl 38 (.tmp 8) _ rfl g8 aD rfl rfl _ _ a.out.b8 d.out.info rfl d.out.one ?_;intro L b1 f1;refine bS rfl 135 (.tmp 9) _ rfl g9 (.slice none 0 0) rfl rfl rfl _ _ (a.out.b9.fr f1 (fun e=>by have b:g9=g8:=e;have:=a.out.o9;omega)) mR ?_;intro M b2 f2;refine bS rfl 34 (.tmp 10) _ rfl g10 (.int .i64 2) rfl rfl rfl _ _ ((a.out.iU.fr f1 (fun e=>by have b:g10=g8:=e;have:=a.out.o9;have:=a.out.jD;omega)).fr f2 (fun e=>by have b:g10=g9:=e;have:=a.out.jD;omega)) qp ?_;intro x3 b3 f3;have v:=af ((b1.fr f2 (fun e=>by have b:g8=g9:=e;have:=a.out.o9;omega)).fr f3 (fun e=>by have b:g8=g10:=e;have:=a.out.o9;have:=a.out.jD;omega));have x:=af (b2.fr f3 (fun e=>by have b:g9=g10:=e;have:=a.out.jD;omega));have g:=af b3;have y:Hid (Fr ag w x3):=((a.out.fr.aw f1 (fun i s e=>by have b:i=g8:=e;have:=a.out.o4;have:=a.out.o7;have:=a.out.o8;have:=f.out;omega)).aw f2 (fun i s e=>by have b:i=g9:=e;have:=a.out.o4;have:=a.out.o7;have:=a.out.o8;have:=a.out.o9;have:=f.out;omega)).aw f3 (fun i s e=>by have b:i=g10:=e;have:=a.out.o4;have:=a.out.o7;have:=a.out.o8;have:=a.out.o9;have:=a.out.jD;have:=f.out;omega);clear b1 b2 b3 f1 f2 f3;go_wp2;exact bodyPost_ret (ja _ x3 g8 g9 g10 aD _ 2 rfl rfl rfl v.out d.out.info x.out g.out) rfl (z.out _ y.out)
 ·go_enter Tryz.func77,Tryz.ntmps77;go_wp2_with(refine aB rfl 38 (.tmp 0) rfl _ rfl ?_);intro w1 n1;have j:=af n1;clear n1;go_wp2_with(refine aB rfl 31 (.tmp 3) rfl _ rfl ?_);intro w2 t;have o:=af t;clear t;go_wp2_with(refine an rfl 38 rfl aZ iR aD rfl ?_);intro w3 n3;have p:=af n3;clear n3;go_wp2_with(refine an rfl 135 rfl (.slice none 0 0) GU #[.slice none 0 0] rfl ?_);intro C n4;have q:=af n4;clear n4;go_wp2_with(refine an rfl 34 rfl (.int .i64 0) Lw #[.int .i64 0] rfl ?_);intro K n5;have a:=af (mH.of j.out o.out p.out q.out n5);clear n5 j o p q;generalize r:w.heap.size=g4 at*;have f:=af r;clear r;generalize w1.heap.size=g7 at*;generalize w2.heap.size=g8 at*;generalize w3.heap.size=g9 at*;generalize C.heap.size=g10 at*;go_wp2_with fail;refine(D.out _).mono ?_;rintro e w'⟨rfl,rfl⟩;go_wp2_with fail;refine(H.out _).mono ?_;rintro e w'⟨rfl,rfl⟩;go_upto_region 2 with fail;refine wp_region_lit ?_;refine jV rfl 38 rfl aD E.out ?_;refine ai rfl 38 (.tmp 8) _ rfl g8 aD rfl rfl _ _ a.out.b8 d.out.info rfl d.out.one ?_;intro L b1 f1;refine bS rfl 135 (.tmp 9) _ rfl g9 (.slice none 0 0) rfl rfl rfl _ _ (a.out.b9.fr f1 (fun e=>by have b:g9=g8:=e;have:=a.out.o9;omega)) mR ?_;intro M b2 f2;refine bS rfl 34 (.tmp 10) _ rfl g10 (.int .i64 2) rfl rfl rfl _ _ ((a.out.iU.fr f1 (fun e=>by have b:g10=g8:=e;have:=a.out.o9;have:=a.out.jD;omega)).fr f2 (fun e=>by have b:g10=g9:=e;have:=a.out.jD;omega)) qp ?_;intro x3 b3 f3;have v:=af ((b1.fr f2 (fun e=>by have b:g8=g9:=e;have:=a.out.o9;omega)).fr f3 (fun e=>by have b:g8=g10:=e;have:=a.out.o9;have:=a.out.jD;omega));have x:=af (b2.fr f3 (fun e=>by have b:g9=g10:=e;have:=a.out.jD;omega));have g:=af b3;have y:Hid (Fr ag w x3):=((a.out.fr.aw f1 (fun i s e=>by have b:i=g8:=e;have:=a.out.o4;have:=a.out.o7;have:=a.out.o8;have:=f.out;omega)).aw f2 (fun i s e=>by have b:i=g9:=e;have:=a.out.o4;have:=a.out.o7;have:=a.out.o8;have:=a.out.o9;have:=f.out;omega)).aw f3 (fun i s e=>by have b:i=g10:=e;have:=a.out.o4;have:=a.out.o7;have:=a.out.o8;have:=a.out.o9;have:=a.out.jD;have:=f.out;omega);clear b1 b2 b3 f1 f2 f3;go_wp2;exact bodyPost_ret (ja _ x3 g8 g9 g10 aD _ 2 rfl rfl rfl v.out d.out.info x.out g.out) rfl (z.out _ y.out)
def eX:Array Value:=(aA gZ++aA gZ).toArray
theorem NZ(w:World):(zeroValue 139).run Tryz.prog w= .ok (.agg eX) w:=by kernel_rfl
theorem Nl:(Tryz.prog.info? 139).map (fun i=>(i.zero,i.size,i.bytes))=some (some (.agg eX),64,64):=by kernel_rfl
theorem GC:(Tryz.prog.info? 139).map (·.size)=some 64:=by kernel_rfl
theorem zw(parts:List (Nat×Value)):Tryz.prog.built 139 parts=Instr.fill ((#[(0,32),(32,32)]:Array (Nat×Nat))[·]?) eX parts:=by kernel_rfl
theorem tL(X Y:List Value)(a:X.length=32)(b:Y.length=32):Tryz.prog.built 139 [(0, .agg X.toArray),(1, .agg Y.toArray)]=some (X++Y).toArray:=by
 have h:=Iv X.toArray Y.toArray eX (by simpa using a) (by simpa using b) rfl;rw[zw];simp only[Instr.fill,Nat.zero_mul,Nat.one_mul]at h⊢;exact h
theorem ql(cs b:Array Value)(n:Nat)(d:cs.size=n)(c:b.size=n):Instr.fill (fun i=>some (i*n,n)) b [(0, .agg cs)]=some cs:=by
 have a:=lT cs b 0 (by omega);simp only[Instr.fill,Value.cells,d,c,Nat.zero_mul,Nat.zero_add,ne_eq,not_true_eq_false,decide_false,Bool.false_or,gt_iff_lt,Nat.lt_irrefl,Bool.false_eq_true,if_false];simp only[Nat.zero_add,List.take_zero,List.nil_append,d]at a;rw[List.drop_of_length_le (by simp[c]),List.append_nil]at a;rw[a]
theorem rK.step{w1 W X o p u j:World}{g11 g12 len:Nat}{leaf d:List UInt8}{path:List (List UInt8)}{pre:List Bool}{v v2:Value}{CV NV:List Value}(b:Bool)
  (w:rK w1 g11 g12 len leaf path pre W)(D:g11<w1.heap.size)(E:g12<w1.heap.size)(t:g11≠g12)(c:pre.length<len)(z:path[pre.length]? =some d)
  (f:W.ownsRow 0 139 64 v pre.length ((dF leaf pre path).2.flatMap oK))(a:∀k,v.ownBlock=some k→w1.heap.size≤k)
  (y:Fr ag W X)(r:bK 139 64 X v o v2 (pre.length+1) ((dF leaf pre path).2.flatMap oK++CV))(f3:Fr (fun k=>k=g11) o p)(b3:aq p g11 135 #[v2])
  (f4:Fr ag p u)(f5:Fr (fun k=>k=g12) u j)(b5:aq j g12 38 NV.toArray)
  (q:CV=oK (if b then(dF leaf pre path).1 else d,if b then d else(dF leaf pre path).1))(s:NV=aA (cR (if b then(dF leaf pre path).1 else d) (if b then d else(dF leaf pre path).1))):
  KeepsFrom w1.heap.size W j∧rK w1 g11 g12 len leaf path (pre++[b]) j:=by
 have s1:w1.heap.size≤W.heap.size:=w.fr.size;have s2:W.heap.size≤X.heap.size:=y.size;have H:∀k,v.ownBlock=some k→k<W.heap.size:=fun k c=>by
  obtain⟨L,m,_⟩:=cS f c;exact(Array.getElem?_eq_some_iff.1 m).1
 have g:∀k,v2.ownBlock=some k→w1.heap.size≤k:=fun k c=>by
  rcases r.eG k c with h|h;·exact a k h
  ·omega
 have F:Fr (fun k=>k=g11∨k=g12∨v.ownBlock=some k) W j:=by
  have A:Fr (fun k=>k=g11∨k=g12∨v.ownBlock=some k) W o:=(y.bO).trans (r.fr.mono (fun i _ h=> .inr (.inr h)));have B:=A.trans (f3.mono (T':=fun k=>k=g11∨k=g12∨v.ownBlock=some k) (fun i _ h=> .inl h));exact(B.trans f4.bO).trans (f5.mono (fun i _ h=> .inr (.inl h)))
 refine⟨⟨F.size,fun k L I m G=>?_⟩,?_,?_,?_,?_⟩
 ·refine(F.block k (Array.getElem?_eq_some_iff.1 m).1 ?_).trans m;rintro(rfl|rfl|h);·omega
  ·omega
  ·obtain⟨K,n,l⟩:=cS f h;rw[m]at n;cases n;rw[G]at l;cases l
 ·refine w.fr.aw F (fun i J h=>?_);rcases h with h|h|h;·exact .inl h
  ·exact .inr h
  ·have:=a i h;omega
 ·rw[aS,List.length_singleton];omega
 ·refine⟨v2,((b3.fr f4 (fun x=>x)).fr f5 t),?_,g⟩;rw[aS,List.length_singleton,mB leaf pre path b d z];have e:(oQ (dF leaf pre path) b d).2.flatMap oK=(dF leaf pre path).2.flatMap oK++CV:=by
   rw[oQ,List.flatMap_append,q];simp
  rw[e];refine aL (aL (aL r.own f3 (fun k c e=>?_)) f4 (fun _ _ x=>x)) f5 (fun k c e=>?_);·have C:k=g11:=e;have:=g k c;omega
  ·have C:k=g12:=e;have:=g k c;omega
 ·rw[mB leaf pre path b d z];rw[s]at b5;exact b5
end Go.Proofs.YtphjagkehiklkaaGreatDoor.Lt
namespace Go.Proofs.YtphjagkehiklkaaGreatDoor.Lt
open Go.RowKit Go.Shelf
attribute[local go_sem]Oper.semAt_some
theorem mH.lA{w w' d:World}{T:Nat→Prop}{len:Nat}{A:Option Addr}{c:Nat}{f:List Value}{g4 g7 g8 g9 g10:Nat}(h:mH w w' len A c f g4 g7 g8 g9 g10)(a:Fr T w' d)(b:∀k,k≤g10→¬T k)(hw:∀i,i<w.heap.size→¬T i):mH w d len A c f g4 g7 g8 g9 g10:=by
 have:=h.o7;have:=h.o8;have:=h.o9;have:=h.jD;exact⟨h.fr.aw a (fun i g e=>absurd e (hw i g)),h.b4.fr a (b _ (by omega)),h.b7.fr a (b _ (by omega)),h.b8.fr a (b _ (by omega)),h.b9.fr a (b _ (by omega)),h.iU.fr a (b _ (by omega)),h.o4,h.o7,h.o8,h.o9,h.jD⟩
theorem xU{B:Nat}{T:Nat→Prop}{W W':World}(h:Fr T W W')(b:∀k,T k→k<B):KeepsFrom B W W':=
 ⟨h.size,fun k e d a _=>(h.block k (Array.getElem?_eq_some_iff.1 a).1 (fun c=>by have:=b k c;omega)).trans a⟩
def IT(t:TypeId):Op→Bool
 | .build a _=>t==a
 |_=>false
def kU(t:TypeId):Op→Bool
 | .load a _=>t==a
 |_=>false
theorem cj{r n:Nat}{P:Program}{ops:Array Oper}{Q:Exit→Act→World→Prop}{d:Oper}{l:List Oper}{a:Act}{w:World}(f:Op→Bool)(b:f d.op=true)(c:((d::l).all iD)=true)(h:wpList P ops (fun e a w=>Q e a w∧e= .normal) (d::l) a w):wpListIn (Fence.wide.inRound r) n P ops Q (d::l) a w:=
 jy c h
structure kZ(CV:List Value):Prop where
 len:CV.length=64
 one:∀u∈CV,u.oneCell'=true
theorem kZ.info{CV:List Value}(h:kZ CV):(Tryz.prog.info? 139).map (·.size)=some CV.toArray.size:=by
 rw[GC,List.size_toArray,h.len]
theorem kZ.zN{CV:List Value}(h:kZ CV):(Tryz.prog.info? 139).map (·.size)=some CV.length:=by rw[GC,h.len]
theorem kZ.all{CV:List Value}(h:kZ CV):CV.toArray.all (·.oneCell')=true:=by
 rw[Array.all_eq_true_iff_forall_mem];intro u hu;exact h.one u (by simpa using hu)
theorem kZ.of{a b:List UInt8}(c:a.length=32)(d:b.length=32):kZ (aA a++aA b):=⟨by simp[aA,c,d],fun u hu=>Fb (a,b) u hu⟩
structure MP(W X:World)(g14:Nat)(CV:List Value):Prop where
 fr:Fr ag W X
 AS:aq X g14 139 CV.toArray
 new:W.heap.size≤g14
theorem ES(leaf:List UInt8)(bQ:leaf.length=32)(index n:Nat)(cE:index<n)(dt:n≤1048576)(path:List (List UInt8))(len:Nat)(A:Option Addr)(c:Nat)(S:Nat→Prop)(w:World)(aU:gv w S A len path)(c5:len≤1048576)(c4:bT w):
  Calls Tryz.prog 77 #[aY leaf, .int .i64 index, .int .i64 n, .slice A len c] w (kD w (dp leaf index n path)):=by
 have dc:Hid (∀w',Calls Tryz.prog 89 #[.int .i64 n, .int .i64 1, .int .i64 1048576] w' (bm w' (.bool true))):=by
  intro w';have h:=fI (n:Int) 1 1048576 w';rw[de (by omega)]at h;exact h
 obtain⟨m,hm⟩:∃m:Nat,(n:Int)-1=(m:Int):=⟨n-1,by omega⟩;have dd:Hid (∀w',Calls Tryz.prog 89 #[.int .i64 index, .int .i64 0, .int .i64 m] w' (bm w' (.bool true))):=by
  intro w';have h:=fI (index:Int) 0 (m:Int) w';rw[de (by omega)]at h;exact h
 have ds:m≤1048576:=by omega
 have a5:Hid (dI (aA gZ).toArray):=dI.of kI;have cw:Hid ((aA gZ).toArray=aD):=sD;have cK:Hid (Tryz.prog.built 38 []=some aD):=pz;have ch:Hid (dI (aA leaf).toArray):=dI.of bQ;have cu:Hid ((Tryz.prog.info? 38).map (·.size)=some (aA leaf).length):=by rw[aA,List.length_map,bQ];exact fo
 have dh:=af aU;have cQ:=af c4;have dz:=af bQ;have PL:=af aU.len;have cX:=af (fun(pre:List Bool)(h:pre.length≤len)=>xv leaf bQ path aU.each pre.length pre rfl (by rw[aU.len];exact h));have NV:=af (show dp leaf index n path=(if path.length=(bR index n).length then((dF leaf (bR index n) path).1,(dF leaf (bR index n) path).2,0)else(gZ,[],35))from by
  unfold dp;rw[if_pos (by omega),Int.toNat_natCast,Int.toNat_natCast]);have ct:=af cE;have di:=af dt;obtain⟨i0,aV,aW,V,bV⟩:=info_parts Nl;clear bQ aU c4;rw[cw.out]at a5;change Calls _ _ #[.agg (aA leaf).toArray,_,_,_] _ _;have LE:Hid (aA leaf=aA leaf):=rfl;generalize bI:aA leaf=bt at*;have cv:=af bI;clear bI LE;refine(callsIn_wide (n:=6)).1 (callsIn_of_wp_marks Tryz.func77 rfl trivial (wpIn_wide.2 ?_) rfl);simp only[Tryz.ntmps77,List.size_toArray,List.length_cons,List.length_nil,Nat.reduceAdd,Nat.reduceSub,Array.replicate_succ,Array.replicate_zero,List.push_toArray,List.append_toArray,List.nil_append,List.cons_append];go_wp2_with(refine aB rfl 38 (.tmp 0) rfl _ rfl ?_);intro w1 n1;have cT:=af n1;clear n1;go_wp2_with(refine aB rfl 31 (.tmp 3) rfl _ rfl ?_);intro w2 c8;have cU:=af c8;clear c8;go_wp2_with(refine an rfl 38 rfl aZ iR aD rfl ?_);intro w3 n3;have cV:=af n3;clear n3;go_wp2_with(refine an rfl 135 rfl (.slice none 0 0) GU #[.slice none 0 0] rfl ?_);intro cI n4;have cW:=af n4;clear n4;go_wp2_with(refine an rfl 34 rfl (.int .i64 0) Lw #[.int .i64 0] rfl ?_);intro c9 n5;have ci:=af (mH.of cT.out cU.out cV.out cW.out n5);clear n5 cT cU cV cW;generalize aQ:w.heap.size=g4 at*;have a8:=af aQ;clear aQ;generalize w1.heap.size=g7 at*;generalize w2.heap.size=g8 at*;generalize w3.heap.size=g9 at*;generalize cI.heap.size=g10 at*;go_wp2_with fail;refine(dc.out _).mono ?_;rintro e w'⟨rfl,rfl⟩;go_wp2_with fail;refine(dd.out _).mono ?_;rintro e w'⟨rfl,rfl⟩;go_wp2_with(refine an rfl 135 rfl (.slice none 0 0) GU #[.slice none 0 0] rfl ?_);intro da n6;have ck:=af (ci.out.later n6.fr);have M:=af n6.aE;have cZ:Hid (g10<c9.heap.size):=ci.out.iU.lt;have cY:=af n6.size;clear n6 ci;generalize c9.heap.size=g11 at*;generalize bU:da.heap.size=g12 at*;have a9:=af bU;clear bU;go_wp2_with(first|(refine eZ rfl 38 (.tmp 4) rfl g4 rfl _ bt ck.out.b4 _ Tryz.underlying38 rfl cu.out ?_)|(refine an rfl 38 rfl aZ iR aD rfl ?_));intro du n7;have G:Hid (aq du g12 38 aD):=by
  have h:=n7.aE;rw[a9.out]at h;exact h
 have cM:=af n7.fr;have a6:=af (ck.out.later n7.fr);clear n7;rw[show da.heap.size=g12 from a9.out];go_wp2_with(refine ai rfl 38 (.tmp 12) _ rfl g12 bt.toArray rfl rfl _ _ G.out ch.out.info ch.out.zero ch.out.one ?_);intro X b8 f8;have HNE:Hid (g10<g11∧g11<g12):=⟨cZ.out,by have:=cY.out;omega⟩;have cL:Hid (mH w X len A c bt g4 g7 g8 g9 g10):=a6.out.lA f8 (fun k L e=>by have g:k=g12:=e;have:=HNE.out;omega) (fun i R e=>by have g:i=g12:=e;have:=HNE.out;have:=a6.out.o4;have:=a6.out.o7;have:=a6.out.o8;have:=a6.out.o9;have:=a6.out.jD;have:=a8.out;omega);have Z:Hid (aq X g11 135 #[.slice none 0 0]):=(M.out.fr cM.out (fun x=>x)).fr f8 (fun e=>by have g:g11=g12:=e;have:=HNE.out;omega);have ac:=af b8;clear b8 f8 M G ck a6 cM cY a9 cZ;go_wp2_with fail;refine(Fy index n X).mono ?_;rintro e Q⟨rfl,aO⟩;have bZ:Hid (Fr ag X Q):=by subst aO;exact(az.alloc _).alloc _
 have bX:Hid (Q.cell? ⟨X.heap.size,0,none⟩=some (.int .i64 index)):=by subst aO;exact((aq.new X 3 #[.int .i64 index]).alloc _).cell 0
 have bY:Hid (Q.cell? ⟨X.heap.size+1,0,none⟩=some (.int .i64 n)):=by
  subst aO;have h:=(aq.new (X.alloc (.cells #[.int .i64 index] 3)) 3 #[.int .i64 n]).cell 0;rw[show(X.alloc (.cells #[.int .i64 index] 3)).heap.size=X.heap.size+1 by simp]at h;exact h
 have bv:Hid (Q.heap.size=X.heap.size+2):=by subst aO;simp[Hid]
 clear aO;have s:=af (cL.out.later bZ.out);have aa:=af (Z.out.fr bZ.out (fun x=>x));have ad:=af (ac.out.fr bZ.out (fun x=>x));have LT:Hid (g11<Q.heap.size∧g12<Q.heap.size):=⟨aa.out.lt,ad.out.lt⟩;clear cL Z ac bZ;generalize X.heap.size=gs at*;go_wp2_with fail;refine(wpIn_wide (n:=6)).1 ?_;refine wpIn_rangeFunc_ownG rfl (by omega) (gf:=157) (lb:=#[.pointer (some ⟨gs,0,none⟩), .pointer (some ⟨gs+1,0,none⟩)]) rfl trivial (enters_of Tryz.func157 (by kernel_rfl) rfl)
  (An 5 gs (gs+1) index n Q (by have:=bv.out;omega) (by have:=bv.out;omega) bX.out bY.out ct.out di.out) (fun _ _=>trivial) (fun _ _ _ _ _ _ _ _=>trivial) (Below.refl _ _) (fun _=>rfl)
  (rK Q g11 g12 len leaf path) (fun ca _ W=>Gl Q g8 g9 g10 g11 g12 W∧(ca= .ret∧len<(bR index n).length))
  (rK.iY LT.out.1 LT.out.2) (fun ca=>Gl.iY (by have:=s.out.o9;have:=s.out.jD;have:=HNE.out;have:=LT.out;omega) (by have:=s.out.jD;have:=HNE.out;have:=LT.out;omega) (by have:=HNE.out;have:=LT.out;omega) (ca= .ret∧len<(bR index n).length))
  ⟨az,Nat.zero_le _,⟨_,aa.out,⟨rfl, .inl ⟨rfl,rfl⟩⟩,fun k L=>by simp[Value.ownBlock]at L⟩,by rw[Jc];rw[cv.out];exact ad.out⟩ ?zA ?assign ?body ?done ?stop;case assign=>
  intro l x W K bc;gi_wp2;exact bc
 case body=>
  rintro dB pre x W cb bd;have cO:=af cb;obtain⟨f,hle,⟨v,kf,C,B⟩,aJ⟩:=cb;obtain⟨Y,m1,aK,rfl,H1,dg⟩:=aG C;have r:Hid (mH w W len A c bt g4 g7 g8 g9 g10):=s.out.lA f (fun k L e=>by have g:k=g11∨k=g12:=e;have:=HNE.out;omega) (by rintro i R(rfl|rfl)<;>(have:=HNE.out;have:=a8.out;have:=s.out.o4;have:=s.out.o7;have:=s.out.o8;have:=s.out.o9;have:=s.out.jD;omega));have b0:=af f;have M:=af kf;have G:=af aJ;have t:=af C;have P:=af B;have bi:=af hle;have bj:=af bd;have U:=kf.cell 0;have bz:=r.out.b7.cell 0;simp only[bP,List.getElem?_cons_zero]at U bz;have b6:=af (cX.out pre hle);clear f kf aJ C B bd hle bX bY bv;by_cases L:m1=len
  ·have t1:((m1:Int)==(len:Int))=true:=by rw[beq_iff_eq];omega
   gi_wp2_with(refine cj (IT 38) rfl (by kernel_rfl) ?_);refine jV rfl 38 rfl aD cK.out ?_;refine ai rfl 38 (.tmp 8) _ rfl g8 aD rfl rfl _ _ r.out.b8 a5.out.info rfl a5.out.one ?_;intro dx b1 f1;refine bS rfl 135 (.tmp 9) _ rfl g9 (.slice none 0 0) rfl rfl rfl _ _ (r.out.b9.fr f1 (fun e=>by have g:g9=g8:=e;have:=r.out.o9;omega)) mR ?_;intro db b2 f2;refine bS rfl 34 (.tmp 10) _ rfl g10 (.int .i64 35) rfl rfl rfl _ _ ((r.out.iU.fr f1 (fun e=>by have g:g10=g8:=e;have:=r.out.o9;have:=r.out.jD;omega)).fr f2 (fun e=>by have g:g10=g9:=e;have:=r.out.jD;omega)) qp ?_;intro x3 b3 f3;have bn:=af ((b1.fr f2 (fun e=>by have g:g8=g9:=e;have:=r.out.o9;omega)).fr f3 (fun e=>by have g:g8=g10:=e;have:=r.out.o9;have:=r.out.jD;omega));have bo:=af (b2.fr f3 (fun e=>by have g:g9=g10:=e;have:=r.out.jD;omega));have ax:=af b3;refine⟨?_,rfl⟩;have dl:Hid (KeepsFrom Q.heap.size W x3):=xU (T:=fun k=>k=g8∨k=g9∨k=g10) (((f1.mono (fun i _ e=> .inl e)).trans (f2.mono (fun i _ e=> .inr (.inl e)))).trans (f3.mono (fun i _ e=> .inr (.inr e)))) (by rintro k(rfl|rfl|rfl)<;>(have:=r.out.o9;have:=r.out.jD;have:=HNE.out;have:=LT.out;omega));have aX:Hid (Fr (fun k=>k=g8∨k=g9∨k=g10∨k=g11∨k=g12) Q x3):=(((b0.out.mono (T':=fun k=>k=g8∨k=g9∨k=g10∨k=g11∨k=g12) (fun i _ e=> .inr (.inr (.inr e)))).trans (f1.mono (fun i _ e=> .inl e))).trans (f2.mono (fun i _ e=> .inr (.inl e)))).trans (f3.mono (fun i _ e=> .inr (.inr (.inl e))));clear b1 b2 b3 f1 f2 f3;gi_wp2;exact⟨dl.out,⟨aX.out,bn.out,bo.out,ax.out⟩,rfl,by have:=bj.out;have:=H1.out;omega⟩
  ·have cF:m1<len:=by have:=bi.out;have:=H1.out;omega
   have t1:((m1:Int)==(len:Int))=false:=by rw[beq_eq_false_iff_ne];omega
   have dn:(m1:Int)<(len:Int):=by omega
   obtain⟨be,d,rfl,_,c6,z,aN⟩:=(dh.out.ao r.out.fr).at_ cF;have cN:=af aN;have bk:=af c6;have p:=b6.out.root;have bl:Hid ((Tryz.prog.info? 38).map (·.size)=some (aA d).length):=by rw[aA,List.length_map,z];exact fo
   have aS:Hid ((Tryz.prog.info? 38).map (·.size)=some (aA (dF leaf pre path).1).length):=by rw[aA,List.length_map,p];exact fo
   have cq:Hid (Tryz.prog.built 139 [(0, .agg (aA d).toArray),(1, .agg (aA (dF leaf pre path).1).toArray)]=some (aA d++aA (dF leaf pre path).1).toArray):=tL _ _ (by simp[aA,z]) (by simp[aA,p]);have cr:Hid (Tryz.prog.built 139 [(0, .agg (aA (dF leaf pre path).1).toArray),(1, .agg (aA d).toArray)]=some (aA (dF leaf pre path).1++aA d).toArray):=tL _ _ (by simp[aA,p]) (by simp[aA,z]);have H:Hid (kZ (aA d++aA (dF leaf pre path).1)):=kZ.of z p;have N:Hid (kZ (aA (dF leaf pre path).1++aA d)):=kZ.of p z;have a4:Hid (dI (aA (dF leaf pre path).1).toArray):=dI.of p;have a2:Hid (dI (aA (cR d (dF leaf pre path).1)).toArray):=dI.of (eM _ _);have a3:Hid (dI (aA (cR (dF leaf pre path).1 d)).toArray):=dI.of (eM _ _);have cf:Hid (∀w',Fr ag w w'→Calls Tryz.prog 124 #[.agg (aA d++aA (dF leaf pre path).1).toArray] w' (aH w' (.agg (aA (cR d (dF leaf pre path).1)).toArray))):=fun w' f=>tR _ _ z p w' (cQ.out.ao f);have cg:Hid (∀w',Fr ag w w'→Calls Tryz.prog 124 #[.agg (aA (dF leaf pre path).1++aA d).toArray] w' (aH w' (.agg (aA (cR (dF leaf pre path).1 d)).toArray))):=fun w' f=>tR _ _ p z w' (cQ.out.ao f);have g1:Hid (¬1*i0.size>2^24):=by simp only[Hid];rw[V];omega
   have g2:Hid (¬1*i0.size=0):=by simp only[Hid];rw[V];omega
   generalize bL:aA d=F at*;generalize aM:aA (dF leaf pre path).1=y at*;generalize bJ:aA (cR d (dF leaf pre path).1)=NV1 at*;generalize bK:aA (cR (dF leaf pre path).1 d)=NV2 at*;have bh:=af bL;have aR:=af aM;have cl:=af bJ;have cm:=af bK;clear bL aM bJ bK aN c6 z p;gi_wp2;refine pc 8 139 [fun v=>v= .slice (some be) len c,fun v=>v= .slice Y m1 aK,fun v=>v= .int .i64 m1,fun v=>v= .pointer (some (be.add (m1*32))),fun v=>v= .agg F.toArray,fun v=>v= .agg y.toArray,fun v=>v= .agg (F++y).toArray,fun _=>True] [] [(7,eX)] [] (by kernel_rfl) (by kernel_rfl) (by kernel_rfl) (by kernel_rfl) trivial ?_ ?_
   ·refine⟨fun u w' f b E=>?_,fun u w' f b E=>?_,fun u w' f b E=>?_,fun u w' f b E=>?_,fun u w' f b E=>?_,fun u w' f b E=>?_,fun u w' f b E=>?_,fun u w' f b=>?_,trivial⟩;all_goals simp only[bw,bC,bD,bE,ar,Act.put,bF,bG,bH,Nat.reduceAdd,Nat.zero_add]
    ·clear b E;refine aj ?_;have q:=f.ak bz (fun x=>x);go_simp;exact⟨_,rfl,gO⟩
    ·clear b E;refine aj ?_;have q:=f.ak U (fun x=>x);go_simp;exact⟨_,rfl,gO⟩
    ·have bA:u 1=_:=b 1 (by kernel_rfl);clear b E;simp only[bA];refine aj ?_;go_simp;exact⟨_,rfl,gO⟩
    ·have aQ:u 0=_:=b 0 (by kernel_rfl);have cy:u 2=_:=b 2 (by kernel_rfl);clear b E;simp only[aQ,cy];refine aj ?_;go_simp;exact⟨_,rfl,gO⟩
    ·have cz:u 3=_:=b 3 (by kernel_rfl);clear b E;simp only[cz];refine aj ?_;exact au _ _ rfl (be.add (m1*32)) rfl F _ (fun j v cG=>f.ak (cN.out j v cG) (fun x=>x)) Tryz.underlying38 rfl bl.out ⟨_,rfl,gO⟩
    ·clear b E;refine aj ?_;exact wp_load_mid _ _ rfl g12 0 rfl y _ (dA (G.out.fr f (fun x=>x))) Tryz.underlying38 rfl aS.out ⟨_,rfl,gO⟩
    ·have cA:u 4=_:=b 4 (by kernel_rfl);have cB:u 5=_:=b 5 (by kernel_rfl);clear b E;simp only[cA,cB];refine aj ?_;exact uy 139 #[(0, .tmp 41),(1, .tmp 42)] rfl _ (by simp only[List.map_toArray,List.map_cons,List.map_nil];exact cq.out) ⟨_,rfl,gO⟩
    ·clear b;refine aj ?_;refine lP 139 rfl (.agg eX) NZ eX rfl ?_;intro cI n4;exact⟨_,rfl,trivial,trivial,rfl,n4⟩
   ·intro u w' f b bf cC;have bB:u 6=_:=b 6 (by omega);obtain⟨g14,c3,bW,AS⟩:=bf 7 eX (by simp);have a0:aq w' g14 139 eX:=AS;clear b bf cC AS;simp only[bw,bC,bD,bE,ar,Act.put,bF,bG,bH,dj,dk,Nat.reduceAdd,Nat.zero_add,bB,c3];refine ai rfl 139 (.tmp 14) _ rfl g14 (F++y).toArray rfl rfl _ _ a0 H.out.info (by rw[show eX.size=64 from rfl,List.size_toArray,H.out.len]) H.out.all ?_;intro dv c0 c1;have I:Hid (MP W dv g14 (F++y)):=⟨f.aw c1 (fun i R e=>by have g:i=g14:=e;omega),c0,bW⟩;clear f c0 c1 a0 bW bB c3;refine⟨?_,rfl⟩;cases x
    ·have O:=(M.out.fr I.out.fr (fun x=>x)).cell 0;simp only[bP,List.getElem?_cons_zero]at O;gi_wp2_with(refine cj (kU 139) rfl (by kernel_rfl) ?_);refine eZ rfl 139 (.tmp 14) rfl g14 rfl _ (F++y) I.out.AS _ Tryz.underlying139 rfl H.out.zN ?_;refine wpList_buildSlice rfl 135 139 1 #[(0, .tmp 53)] rfl (F++y).toArray i0 (.agg eX) Tryz.underlying135 aV aW g1.out g2.out ?b3 ?_;case b3=>
      simp only[List.map_toArray,List.map_cons,List.map_nil];rw[V];exact ql _ _ 64 (by rw[List.size_toArray,H.out.len]) (by simp)
     refine cP _ rfl _ _ 135 rfl 139 i0 (.agg eX) 64 64 Tryz.underlying135 aV aW V bV rfl (by omega) _ _ _ rfl (aL t.out I.out.fr (fun _ _ x=>x)) 1 (F++y).toArray _ rfl rfl (by rw[List.size_toArray,H.out.len]) (fun u hu=>H.out.one u (by simpa using hu)) (by have:=bi.out;omega) (by omega) ?_;intro v2 cJ ba;have aI:=af ba;obtain⟨cd,m2,cx,rfl,_,_⟩:=aG ba.own;clear ba;have aT:Hid (∀k,(Value.slice Y m1 aK).ownBlock=some k→Q.heap.size≤k∧k<W.heap.size):=fun k L=>⟨P.out k L,by
      obtain⟨o,bg,_⟩:=cS t.out L;exact(Array.getElem?_eq_some_iff.1 bg).1⟩;have ab:Hid (aq cJ g11 135 #[.slice Y m1 aK]):=(M.out.fr I.out.fr (fun x=>x)).fr aI.out.fr (fun e=>by have:=(aT.out _ e).1;have:=LT.out;omega);refine bS rfl 135 (.tmp 11) _ rfl g11 (.slice cd m2 cx) rfl rfl rfl _ _ ab.out mR ?_;intro y3 b3 f3;have cp:Hid (Fr ag w y3):=(((r.out.fr.trans I.out.fr).aw aI.out.fr (fun i R e=>by have:=(aT.out _ e).1;have:=(s.out.fr.size);omega)).aw f3 (fun i R e=>by have g:i=g11:=e;have:=HNE.out;have:=s.out.o4;have:=s.out.o7;have:=s.out.o8;have:=s.out.o9;have:=s.out.jD;have:=a8.out;omega));have a7:Hid (Q.heap.size≤g14):=Nat.le_trans b0.out.size I.out.new;have ap:Hid (aq y3 g14 139 (F++y).toArray):=(I.out.AS.fr aI.out.fr (fun e=>by have:=(aT.out _ e).2;have:=I.out.new;omega)).fr f3 (fun e=>by have g:g14=g11:=e;have:=a7.out;have:=LT.out;omega);have ae:Hid (aq y3 g12 38 y.toArray):=((G.out.fr I.out.fr (fun x=>x)).fr aI.out.fr (fun e=>by have:=(aT.out _ e).1;have:=LT.out;omega)).fr f3 (fun e=>by have g:g12=g11:=e;have:=HNE.out;omega);have ce:=af b3;have cn:=af f3;clear b3 f3 O;refine⟨?_,rfl⟩;gi_wp2_with(refine cj (kU 139) rfl (by kernel_rfl) ?_);refine eZ rfl 139 (.tmp 14) rfl g14 rfl _ (F++y) ap.out _ Tryz.underlying139 rfl H.out.zN ?_;go_wp2_with fail;refine(cf.out _ cp.out).mono ?_;rintro e y4⟨rfl,f4⟩;have am:=af (ae.out.fr f4 (fun x=>x));have co:=af f4;clear f4;go_wp2_with(refine ai rfl 38 (.tmp 12) _ rfl g12 NV1.toArray rfl rfl _ _ am.out a2.out.info (a4.out.size.trans a2.out.size.symm) a2.out.one ?_);intro dy b5 f5;refine⟨?_,rfl⟩;have aF:=rK.step (NV:=NV1) false cO.out LT.out.1 LT.out.2 (by have:=HNE.out;omega) (by have:=H1.out;omega) (by have:=H1.out;rw[←this];exact bk.out) t.out P.out I.out.fr aI.out cn.out ce.out co.out f5 b5 (by rw[←bh.out,←aR.out];rfl) (cl.out.symm);exact⟨aF.1,trivial,aF.2⟩
    ·gi_wp2;refine pc 7 139 [fun v=>v= .agg y.toArray,fun v=>v= .slice (some be) len c,fun v=>v= .slice Y m1 aK,fun v=>v= .int .i64 m1,fun v=>v= .pointer (some (be.add (m1*32))),fun v=>v= .agg F.toArray,fun v=>v= .agg (y++F).toArray] [] [] [] (by kernel_rfl) (by kernel_rfl) (by kernel_rfl) (by kernel_rfl) trivial ?_ ?_
     ·refine⟨?_,?_,?_,?_,?_,?_,?_,trivial⟩;all_goals intro u w' f b E
      all_goals simp only[bw,bC,bD,bE,ar,Act.put,bF,bG,bH,Nat.reduceAdd,Nat.zero_add]
      ·clear b E;refine aj ?_;exact wp_load_mid _ _ rfl g12 0 rfl y _ (dA (G.out.fr (I.out.fr.trans f) (fun x=>x))) Tryz.underlying38 rfl aS.out ⟨_,rfl,gO⟩
      ·clear b E;refine aj ?_;have q:=(I.out.fr.trans f).ak bz (fun x=>x);go_simp;exact⟨_,rfl,gO⟩
      ·clear b E;refine aj ?_;have q:=(I.out.fr.trans f).ak U (fun x=>x);go_simp;exact⟨_,rfl,gO⟩
      ·have cy:u 2=_:=b 2 (by kernel_rfl);clear b E;simp only[cy];refine aj ?_;go_simp;exact⟨_,rfl,gO⟩
      ·have bA:u 1=_:=b 1 (by kernel_rfl);have cz:u 3=_:=b 3 (by kernel_rfl);clear b E;simp only[bA,cz];refine aj ?_;go_simp;exact⟨_,rfl,gO⟩
      ·have cA:u 4=_:=b 4 (by kernel_rfl);clear b E;simp only[cA];refine aj ?_;exact au _ _ rfl (be.add (m1*32)) rfl F _ (fun j v cG=>(I.out.fr.trans f).ak (cN.out j v cG) (fun x=>x)) Tryz.underlying38 rfl bl.out ⟨_,rfl,gO⟩
      ·have aQ:u 0=_:=b 0 (by kernel_rfl);have cB:u 5=_:=b 5 (by kernel_rfl);clear b E;simp only[aQ,cB];refine aj ?_;exact uy 139 #[(0, .tmp 45),(1, .tmp 50)] rfl _ (by simp only[List.map_toArray,List.map_cons,List.map_nil];exact cr.out) ⟨_,rfl,gO⟩
     ·intro u w' f b bf cC;have bB:u 6=_:=b 6 (by omega);clear b bf cC;simp only[bw,bC,bD,bE,ar,Act.put,bF,bG,bH,dj,dk,Nat.reduceAdd,Nat.zero_add,bB];refine ai rfl 139 (.tmp 14) _ rfl g14 (y++F).toArray rfl rfl _ _ (I.out.AS.fr f (fun x=>x)) N.out.info (by rw[List.size_toArray,List.size_toArray,H.out.len,N.out.len]) N.out.all ?_;intro dw bb c2;have aP:Hid (MP W dw g14 (y++F)):=⟨(I.out.fr.trans f).aw c2 (fun i R e=>by have g:i=g14:=e;have:=I.out.new;omega),bb,I.out.new⟩;clear f bb c2 bB I;refine⟨?_,rfl⟩;have O:=(M.out.fr aP.out.fr (fun x=>x)).cell 0;simp only[bP,List.getElem?_cons_zero]at O;gi_wp2_with(refine cj (kU 139) rfl (by kernel_rfl) ?_);refine eZ rfl 139 (.tmp 14) rfl g14 rfl _ (y++F) aP.out.AS _ Tryz.underlying139 rfl N.out.zN ?_;refine wpList_buildSlice rfl 135 139 1 #[(0, .tmp 53)] rfl (y++F).toArray i0 (.agg eX) Tryz.underlying135 aV aW g1.out g2.out ?b3 ?_;case b3=>
       simp only[List.map_toArray,List.map_cons,List.map_nil];rw[V];exact ql _ _ 64 (by rw[List.size_toArray,N.out.len]) (by simp)
      refine cP _ rfl _ _ 135 rfl 139 i0 (.agg eX) 64 64 Tryz.underlying135 aV aW V bV rfl (by omega) _ _ _ rfl (aL t.out aP.out.fr (fun _ _ x=>x)) 1 (y++F).toArray _ rfl rfl (by rw[List.size_toArray,N.out.len]) (fun u hu=>N.out.one u (by simpa using hu)) (by have:=bi.out;omega) (by omega) ?_;intro v2 cJ ba;have aI:=af ba;obtain⟨cd,m2,cx,rfl,_,_⟩:=aG ba.own;clear ba;have aT:Hid (∀k,(Value.slice Y m1 aK).ownBlock=some k→Q.heap.size≤k∧k<W.heap.size):=fun k L=>⟨P.out k L,by
       obtain⟨o,bg,_⟩:=cS t.out L;exact(Array.getElem?_eq_some_iff.1 bg).1⟩;have ab:Hid (aq cJ g11 135 #[.slice Y m1 aK]):=(M.out.fr aP.out.fr (fun x=>x)).fr aI.out.fr (fun e=>by have:=(aT.out _ e).1;have:=LT.out;omega);refine bS rfl 135 (.tmp 11) _ rfl g11 (.slice cd m2 cx) rfl rfl rfl _ _ ab.out mR ?_;intro y3 b3 f3;have cp:Hid (Fr ag w y3):=(((r.out.fr.trans aP.out.fr).aw aI.out.fr (fun i R e=>by have:=(aT.out _ e).1;have:=(s.out.fr.size);omega)).aw f3 (fun i R e=>by have g:i=g11:=e;have:=HNE.out;have:=s.out.o4;have:=s.out.o7;have:=s.out.o8;have:=s.out.o9;have:=s.out.jD;have:=a8.out;omega));have a7:Hid (Q.heap.size≤g14):=Nat.le_trans b0.out.size aP.out.new;have ap:Hid (aq y3 g14 139 (y++F).toArray):=(aP.out.AS.fr aI.out.fr (fun e=>by have:=(aT.out _ e).2;have:=aP.out.new;omega)).fr f3 (fun e=>by have g:g14=g11:=e;have:=a7.out;have:=LT.out;omega);have ae:Hid (aq y3 g12 38 y.toArray):=((G.out.fr aP.out.fr (fun x=>x)).fr aI.out.fr (fun e=>by have:=(aT.out _ e).1;have:=LT.out;omega)).fr f3 (fun e=>by have g:g12=g11:=e;have:=HNE.out;omega);have ce:=af b3;have cn:=af f3;clear b3 f3 O;refine⟨?_,rfl⟩;gi_wp2_with(refine cj (kU 139) rfl (by kernel_rfl) ?_);refine eZ rfl 139 (.tmp 14) rfl g14 rfl _ (y++F) ap.out _ Tryz.underlying139 rfl N.out.zN ?_;go_wp2_with fail;refine(cg.out _ cp.out).mono ?_;rintro e y4⟨rfl,f4⟩;have am:=af (ae.out.fr f4 (fun x=>x));have co:=af f4;clear f4;go_wp2_with(refine ai rfl 38 (.tmp 12) _ rfl g12 NV2.toArray rfl rfl _ _ am.out a3.out.info (a4.out.size.trans a3.out.size.symm) a3.out.one ?_);intro dy b5 f5;refine⟨?_,rfl⟩;have aF:=rK.step (NV:=NV2) true cO.out LT.out.1 LT.out.2 (by have:=HNE.out;omega) (by have:=H1.out;omega) (by have:=H1.out;rw[←this];exact bk.out) t.out P.out aP.out.fr aI.out cn.out ce.out co.out f5 b5 (by rw[←bh.out,←aR.out];rfl) (cm.out.symm);exact⟨aF.1,trivial,aF.2⟩
 case done=>
  rintro D xs W aU rfl cb bc;obtain⟨f,hle,⟨v,kf,C,B⟩,aJ⟩:=cb;obtain⟨Y,m1,aK,rfl,H1,dg⟩:=aG C;have r:Hid (mH w W len A c bt g4 g7 g8 g9 g10):=s.out.lA f (fun k L e=>by have g:k=g11∨k=g12:=e;have:=HNE.out;omega) (by rintro i R(rfl|rfl)<;>(have:=HNE.out;have:=a8.out;have:=s.out.o4;have:=s.out.o7;have:=s.out.o8;have:=s.out.o9;have:=s.out.jD;omega));have b0:=af f;have M:=af kf;have G:=af aJ;have t:=af C;have P:=af B;have bi:=af hle;have cs:=af aU;have av:=af bc;have U:=kf.cell 0;have bz:=r.out.b7.cell 0;simp only[bP,List.getElem?_cons_zero]at U bz;have b6:=af (cX.out (bR index n) hle);clear f kf aJ C B hle bX bY bv aU bc;have a:Hid (w.heap.size≤g8∧g8<g9∧g9<g10∧g10<D):=by
   have:=HNE.out;have:=a8.out;have:=r.out.o4;have:=r.out.o7;have:=r.out.o8;have:=r.out.o9;have:=r.out.jD;have:=LT.out;have:=cs.out;simp only[Hid];omega
  by_cases L:m1<len
  ·have t1:decide ((m1:Int)<(len:Int))=true:=de (by omega);go_upto_region 15 with fail;refine wp_region_lit ?_;refine jV rfl 38 rfl aD cK.out ?_;refine ai rfl 38 (.tmp 8) _ rfl g8 aD rfl rfl _ _ r.out.b8 a5.out.info rfl a5.out.one ?_;intro dx b1 f1;refine bS rfl 135 (.tmp 9) _ rfl g9 (.slice none 0 0) rfl rfl rfl _ _ (r.out.b9.fr f1 (fun e=>by have g:g9=g8:=e;have:=r.out.o9;omega)) mR ?_;intro db b2 f2;refine bS rfl 34 (.tmp 10) _ rfl g10 (.int .i64 35) rfl rfl rfl _ _ ((r.out.iU.fr f1 (fun e=>by have g:g10=g8:=e;have:=r.out.o9;have:=r.out.jD;omega)).fr f2 (fun e=>by have g:g10=g9:=e;have:=r.out.jD;omega)) qp ?_;intro x3 b3 f3;have bn:=af ((b1.fr f2 (fun e=>by have g:g8=g9:=e;have:=r.out.o9;omega)).fr f3 (fun e=>by have g:g8=g10:=e;have:=r.out.o9;have:=r.out.jD;omega));have bo:=af (b2.fr f3 (fun e=>by have g:g9=g10:=e;have:=r.out.jD;omega));have ax:=af b3;have aX:Hid (Fr (fun k=>k=g8∨k=g9∨k=g10) W x3):=((f1.mono (T':=fun k=>k=g8∨k=g9∨k=g10) (fun i _ e=> .inl e)).trans (f2.mono (fun i _ e=> .inr (.inl e)))).trans (f3.mono (fun i _ e=> .inr (.inr e)));have bs:Hid (x3.heap[D]? =some (.deferred (some []))):=(aX.out.block D (Array.getElem?_eq_some_iff.1 av.out).1 (by have:=a.out;omega)).trans av.out;clear b1 b2 b3 f1 f2 f3;have J:Fr (fun k=>some k=some D) x3 (x3.putObj D (.deferred none)):=Fr.grown (grownBy_putObj' x3 D _);have bp:Hid (Fr ag w (x3.putObj D (.deferred none))):=(r.out.fr.aw aX.out (fun i R e=>by have:=a.out;omega)).aw J (fun i R e=>by have g:i=D:=(by simpa using e);have:=a.out;omega);have bq:=af (bn.out.fr J (fun e=>by have g:g8=D:=(by simpa using e);have:=a.out;omega));have br:=af (bo.out.fr J (fun e=>by have g:g9=D:=(by simpa using e);have:=a.out;omega));have aC:=af (ax.out.fr J (fun e=>by have g:g10=D:=(by simpa using e);have:=a.out;omega));have bu:=af (kD.none (k:=35) bp.out);rw[aY,show gZ.map bN=aA gZ from rfl,cw.out]at bu;have bx:Hid (dp leaf index n path=(gZ,[],35)):=by
    simp only[Hid];rw[NV.out,if_neg (by rw[PL.out];have:=H1.out;omega)]
   clear J;go_wp2;refine⟨by simp, .inl ⟨_,_,rfl,run_takeDeferred bs.out,?_⟩⟩;exact⟨_,ja _ _ g8 g9 g10 aD _ 35 rfl rfl rfl bq.out a5.out.info br.out aC.out,by rw[bx.out];exact bu.out⟩
  ·have t1:decide ((m1:Int)<(len:Int))=false:=cD (by omega);have p:=b6.out.root;have aS:Hid ((Tryz.prog.info? 38).map (·.size)=some (aA (dF leaf (bR index n) path).1).length):=by rw[aA,List.length_map,p];exact fo
   have a4:Hid (dI (aA (dF leaf (bR index n) path).1).toArray):=dI.of p;have bx:Hid (dp leaf index n path=((dF leaf (bR index n) path).1,(dF leaf (bR index n) path).2,0)):=by
    simp only[Hid];rw[NV.out,if_pos (by rw[PL.out];have:=H1.out;have:=bi.out;omega)]
   generalize aM:aA (dF leaf (bR index n) path).1=y at*;have aR:=af aM;clear aM p;go_upto_region 16 with fail;refine ay 3 (fun k=>k=g8) [Is (.agg y.toArray),Is (.slice Y m1 aK),fun _ _=>True] [(2,fun w'=>aq w' g8 38 y.toArray)] (fun w'=>aq w' g8 38 aD) (fun _ _=>false) (by kernel_rfl) (by kernel_rfl) (by kernel_rfl) (by kernel_rfl) ⟨Is.ah _,Is.ah _,fun _ _ _ _ _ h=>h,trivial⟩ ⟨fun _ _ _ f h=>h.fr f (fun x=>x),trivial⟩ (fun _ _ _ f h=>h.fr f (fun x=>x)) r.out.b8 ?_ ?_
   ·refine⟨?_,?_,?_,trivial⟩;all_goals intro u w' d f b cH cc a1
    all_goals simp only[bw,bC,bD,bE,ar,Act.put,bF,bG,bH,Nat.reduceAdd,Nat.zero_add]
    ·clear b cH cc a1;refine aj ?_;exact wp_load_mid _ _ rfl g12 0 rfl y _ (dA (G.out.fr f (fun e=>by have g:g12=g8:=e;have:=a.out;have:=HNE.out;omega))) Tryz.underlying38 rfl aS.out ⟨_,rfl,al⟩
    ·clear b cH cc a1;refine aj ?_;have q:=f.ak U (fun e=>by have g:g11=g8:=e;have:=a.out;have:=HNE.out;omega);go_simp;exact⟨_,rfl,al⟩
    ·have aQ:u 0=_:=b 0 (by kernel_rfl);clear b;simp only[aQ];refine aj ?_;have bf:aq w' g8 38 aD:=by rw[dq,if_neg (by rw[cc 2 (by kernel_rfl)];exact Bool.false_ne_true)]at a1;exact a1
     clear cH cc a1;refine oU 38 (.tmp 8) (.tmp 64) rfl g8 y.toArray rfl rfl _ _ bf a4.out.info a4.out.zero a4.out.one ?_;intro cI b4 f4;exact⟨_,rfl,f4,trivial,b4⟩
   ·intro u w' f b a1;have aQ:u 0=_:=b 0 (by omega);have bA:u 1=_:=b 1 (by omega);clear b;have c7:aq w' g8 38 y.toArray:=a1;clear a1;simp only[bw,bC,bD,bE,ar,Act.put,bF,bG,bH,dj,dk,Nat.zero_add,aQ,bA];refine bS rfl 135 (.tmp 9) _ rfl g9 (.slice Y m1 aK) rfl rfl rfl _ _ (r.out.b9.fr f (fun e=>by have g:g9=g8:=e;have:=a.out;omega)) mR ?_;intro db b2 f2;refine bS rfl 34 (.tmp 10) _ rfl g10 (.int .i64 0) rfl rfl rfl _ _ ((r.out.iU.fr f (fun e=>by have g:g10=g8:=e;have:=a.out;omega)).fr f2 (fun e=>by have g:g10=g9:=e;have:=a.out;omega)) qp ?_;intro x3 b3 f3;have bn:=af ((c7.fr f2 (fun e=>by have g:g8=g9:=e;have:=a.out;omega)).fr f3 (fun e=>by have g:g8=g10:=e;have:=a.out;omega));have bo:=af (b2.fr f3 (fun e=>by have g:g9=g10:=e;have:=a.out;omega));have ax:=af b3;have aX:Hid (Fr (fun k=>k=g8∨k=g9∨k=g10) W x3):=((f.mono (T':=fun k=>k=g8∨k=g9∨k=g10) (fun i _ e=> .inl e)).trans (f2.mono (fun i _ e=> .inr (.inl e)))).trans (f3.mono (fun i _ e=> .inr (.inr e)));have bs:Hid (x3.heap[D]? =some (.deferred (some []))):=(aX.out.block D (Array.getElem?_eq_some_iff.1 av.out).1 (by have:=a.out;omega)).trans av.out;clear c7 b2 b3 f f2 f3;have J:Fr (fun k=>some k=some D) x3 (x3.putObj D (.deferred none)):=Fr.grown (grownBy_putObj' x3 D _);have bp:Hid (Fr ag w (x3.putObj D (.deferred none))):=(r.out.fr.aw aX.out (fun i R e=>by have:=a.out;omega)).aw J (fun i R e=>by have g:i=D:=(by simpa using e);have:=a.out;omega);have bq:=af (bn.out.fr J (fun e=>by have g:g8=D:=(by simpa using e);have:=a.out;omega));have br:=af (bo.out.fr J (fun e=>by have g:g9=D:=(by simpa using e);have:=a.out;omega));have aC:=af (ax.out.fr J (fun e=>by have g:g10=D:=(by simpa using e);have:=a.out;omega));have dm:Hid ((x3.putObj D (.deferred none)).ownsRow 0 139 64 (.slice Y m1 aK) (bR index n).length ((dF leaf (bR index n) path).2.flatMap oK)):=
     aL (aL t.out aX.out (fun k L e=>by have:=P.out k L;have:=a.out;have:=LT.out;have:=HNE.out;omega)) J (fun k L e=>by
      have g:k=D:=by simpa using e
      subst g;obtain⟨o,bg,dr⟩:=cS t.out L;rw[av.out]at bg;cases bg;cases dr);have df:=af b6.out.count;clear J;go_wp2;refine⟨by simp, .inl ⟨_,_,rfl,run_takeDeferred bs.out,?_⟩⟩;refine⟨_,ja _ _ g8 g9 g10 y.toArray _ 0 rfl rfl rfl bq.out a4.out.info br.out aC.out,?_⟩;rw[bx.out];refine⟨.slice Y m1 aK,?_,⟨?_,bp.out.bO,fun k L=> .inr (Nat.le_trans s.out.fr.size (P.out k L))⟩⟩;·rw[←aR.out];rfl
    ·simp only;rw[df.out];exact dm.out
 case stop=>
  rintro D ca pre W aU _⟨bM,rfl,bd⟩bc;have a:Hid (w.heap.size≤g8∧g8<g9∧g9<g10∧g10<g11∧g11<g12∧g12<D):=by
   have:=HNE.out;have:=a8.out;have:=s.out.o4;have:=s.out.o7;have:=s.out.o8;have:=s.out.o9;have:=s.out.jD;have:=LT.out;simp only[Hid];omega
  have bs:=af bc;have J:Fr (fun k=>some k=some D) W (W.putObj D (.deferred none)):=Fr.grown (grownBy_putObj' W D _);have bp:Hid (Fr ag w (W.putObj D (.deferred none))):=(s.out.fr.aw bM.fr (fun i R e=>by have:=a.out;omega)).aw J (fun i R e=>by have g:i=D:=(by simpa using e);have:=a.out;omega);have bq:=af (bM.b8.fr J (fun e=>by have g:g8=D:=(by simpa using e);have:=a.out;omega));have br:=af (bM.b9.fr J (fun e=>by have g:g9=D:=(by simpa using e);have:=a.out;omega));have aC:=af (bM.iU.fr J (fun e=>by have g:g10=D:=(by simpa using e);have:=a.out;omega));have bu:=af (kD.none (k:=35) bp.out);rw[aY,show gZ.map bN=aA gZ from rfl,cw.out]at bu;have bx:Hid (dp leaf index n path=(gZ,[],35)):=by
   simp only[Hid];rw[NV.out,if_neg (by rw[PL.out];omega)]
  clear J bM bc bX bY bv;gi_wp2;refine⟨by simp, .inl ⟨_,_,rfl,run_takeDeferred bs.out,?_⟩⟩;exact⟨_,ja _ _ g8 g9 g10 aD _ 35 rfl rfl rfl bq.out a5.out.info br.out aC.out,by rw[bx.out];exact bu.out⟩
end Go.Proofs.YtphjagkehiklkaaGreatDoor.Lt
namespace Go.Proofs.YtphjagkehiklkaaGreatDoor.Lt
open Go.RowKit
theorem pN(leaf:List UInt8)(a:leaf.length=32)(index n:Int)(path:List (List UInt8))(he:∀d∈path,d.length=32):(dp leaf index n path).1.length=32:=by
 unfold dp;split
 ·split;·rename_i h;exact(xv leaf a path he _ _ rfl (by omega)).root
  ·exact kI
 ·exact kI
theorem oI(leaf:List UInt8)(d:leaf.length=32)(index n:Int)(e:-9223372036854775808≤n∧n≤9223372036854775807)(path:List (List UInt8))(len:Nat)(A:Option Addr)(c:Nat)(S:Nat→Prop)(w:World)(f:gv w S A len path)(a:len≤1048576)(g:bT w):
  Calls Tryz.prog 77 #[aY leaf, .int .i64 index, .int .i64 n, .slice A len c] w (kD w (dp leaf index n path)):=by
 by_cases h:1≤n∧n≤1048576∧0≤index∧index<n;·obtain⟨b,rfl⟩:∃b:Nat,n=b:=⟨n.toNat,by omega⟩;obtain⟨i',rfl⟩:∃i':Nat,index=i':=⟨index.toNat,by omega⟩;exact ES leaf d i' b (by omega) (by omega) path len A c S w f a g
 ·have:=zV leaf d index n A len c w h e;unfold dp;rw[if_neg h];exact this
theorem Hd(leaf:List UInt8)(k:leaf.length=32)(index n:Int)(V:-9223372036854775808≤n∧n≤9223372036854775807)(path:List (List UInt8))(len:Nat)(A:Option Addr)(c:Nat)(S:Nat→Prop)(w:World)(z:gv w S A len path)(g:len≤1048576)(L:bT w):
  Calls Tryz.prog 58 #[aY leaf, .int .i64 index, .int .i64 n, .slice A len c] w (aH w (.tuple #[aY (dp leaf index n path).1, .int .i64 (dp leaf index n path).2.2])):=by
 have t:Hid (∀w',Fr ag w w'→Calls Tryz.prog 77 #[aY leaf, .int .i64 index, .int .i64 n, .slice A len c] w' (kD w' (dp leaf index n path))):=fun w' M=>oI leaf k index n V path len A c S w' (z.ao M) g (L.ao M);have C:=pN leaf k index n path z.each;have u:Hid ((Tryz.prog.info? 38).map (·.size)=some (aA leaf).length):=by rw[aA,List.length_map,k];exact fo
 unfold kD at t;generalize(dp leaf index n path).2.1=Y at*;generalize(dp leaf index n path).2.2=E at*;generalize(dp leaf index n path).1=r at*;have a:Hid (dI (aA r).toArray):=dI.of C;have y:Hid ((Tryz.prog.info? 38).map (·.size)=some (aA r).length):=by rw[aA,List.length_map,C];exact fo
 clear k z L C;unfold aY at*;simp only[show∀l:List UInt8,l.map bN=aA l from fun _=>rfl]at*;generalize aA leaf=U at*;generalize aA r=j at*;go_enter Tryz.func58,Tryz.ntmps58;go_wp2_with(refine aB rfl 38 (.tmp 0) rfl _ rfl ?_);intro w1 n1;have h:=af n1;clear n1;go_wp2_with(refine an rfl 38 rfl aZ iR aD rfl ?_);intro w2 m;have D:=af (h.out.aE.fr m.fr (fun x=>x));have F:=af m.aE;have G:=af (h.out.fr.trans m.fr);have z1:Hid (w.heap.size≤w1.heap.size):=h.out.fr.size;clear m h;generalize K:w.heap.size=g4 at*;have H:=af K;clear K;generalize w1.heap.size=g8 at*;go_wp2_with(refine eZ rfl 38 (.tmp 4) rfl g4 rfl _ U D.out _ Tryz.underlying38 rfl u.out ?_);refine(t.out _ G.out).mono ?_;rintro e w3⟨v,rfl,B⟩;have O:=af (G.out.trans B.ao);have f:=af (F.out.fr B.ao (fun x=>x));clear B t F D;go_wp2_with(refine an rfl 38 rfl aZ iR aD rfl ?_);intro Z n4;have P:=af (O.out.trans n4.fr);have o:=af (f.out.fr n4.fr (fun x=>x));have b:=af n4.aE;have z2:Hid (g8<w3.heap.size):=f.out.lt;clear n4;generalize w3.heap.size=g10 at*;go_wp2_with(refine ai rfl 38 (.tmp 10) _ rfl g10 j.toArray rfl rfl _ _ b.out a.out.info a.out.zero a.out.one ?_);intro X b5 f5;have d:=af b5;have s:=af (o.out.fr f5 (fun e=>by have J:g8=g10:=e;have:=z2.out;omega));have Q:Hid (Fr ag w X):=P.out.aw f5 (fun i W e=>by have J:i=g10:=e;have:=z2.out;have:=z1.out;have:=H.out;omega);clear b5 f5;go_wp2_with(first|(refine eZ rfl 38 (.tmp 10) rfl g10 rfl _ j d.out _ Tryz.underlying38 rfl y.out ?_)|(refine ai rfl 38 (.tmp 8) _ rfl g8 j.toArray rfl rfl _ _ s.out a.out.info a.out.zero a.out.one ?_));intro N I f6;have R:=af I;have T:Hid (Fr ag w N):=Q.out.aw f6 (fun i W e=>by have J:i=g8:=e;have:=z1.out;have:=H.out;omega);clear I f6;go_wp2;exact bodyPost_ret (dB (fn:=Tryz.f58) (p:=8) (q:=9) (ty:=38) Tryz.results58 _ N _ 38 j.toArray (0,0) _ rfl R.out Tryz.underlying38 rfl a.out.info _ rfl) rfl ⟨rfl,T.out⟩
end Go.Proofs.YtphjagkehiklkaaGreatDoor.Lt
namespace Go.Proofs.YtphjagkehiklkaaGreatDoor
open Go.RowKit Go.Shelf
theorem tU:∀(L:List Ent),(∀x∈L,(mO x).length≤500)→(L.flatMap mO).length≤500*L.length
 |[],_=>by simp
 |x::L,h=>by
  have b:=h x (by simp);have c:=tU L (fun y a=>h y (by simp[a]));simp only[List.flatMap_cons,aS,List.length_cons];omega
theorem cE.NT{k:Nat}{L:List Ent}(h:cE k L):∀x∈L,(mO x).length≤500:=fun x a=>by
 have b:=h.owner x a;have c:=h.text x a;have d:=h.value x a;have e:=dW x.1;have f:=aU (cM x.1).length;have g:=aU (aQ x.2).length;have i:=aK x.2;simp only[mO,aV,aS];omega
theorem cE.rY{k:Nat}{L:List Ent}(h:cE k L):(dO L).length≤10+500*L.length∧1≤(dO L).length:=by
 have a:=tU L h.NT;have b:=aU L.length;have c:=rX 9 L.length;simp only[dO,aS];refine⟨by omega,?_⟩;show 1≤(dt 9 L.length).length+_;omega
theorem Ls(l:List UInt8):aQ ⟨l.toArray⟩=l:=rfl
def Dg(w:World)(l:List UInt8)(e:Ending)(w':World):Prop:=aH w (aY (eT l)) e w'
theorem Mw(l:List UInt8):eV ⟨l.toArray⟩=l:=rfl
theorem Hj(L:List Ent)(s:Nat)(w:World)(E:eJ w s L)(G:eh w)(F:bT w)(m:cE 24 L):
  Calls Tryz.prog 75 #[.pointer (some ⟨s,0,none⟩)] w (Dg w (dO L)):=by
 have y:Hid (∀w',Fr ag w w'→Calls Tryz.prog 102 #[.pointer (some ⟨s,0,none⟩)] w' (nF w' (dO L))):=fun w' f=>ym L s w' (E.ao f) (G.ao f) (m.small (by omega));have Q:=m.rY;have q:=m.len;obtain⟨x,j⟩:∃x:ByteArray,x=⟨(dO L).toArray⟩:=⟨_,rfl⟩;have r:x.size=(dO L).length:=by rw[j];simp[ByteArray.size]
 have z:Hid (∀w',Fr ag w w'→Calls Tryz.prog 27 #[.string x] w' (aH w' (aY (eT (dO L))))):=fun w' f=>by
  have h:=AH x w' (F.ao f) (by omega) (by omega);rw[j,Mw]at h;rw[j];exact h
 unfold Dg;have b:=iy (dO L);have M:=af j;generalize dO L=l at*;unfold aY at*;generalize eT l=c at*;have o:Hid ((c.map bN).toArray.size=32∧(c.map bN).toArray.all (·.oneCell')=true):=⟨by simp[b],mc c⟩;have C:Hid ((Tryz.prog.info? 37).map (·.size)=some (c.map bN).toArray.size):=by
  rw[o.out.1];exact GB
 generalize(c.map bN).toArray=D at*;clear E G F m Q q j r b;go_enter Tryz.func75,Tryz.ntmps75;go_wp2_with(refine an rfl 37 rfl aZ MU aD rfl ?_);intro w1 n1;have k:=af n1;clear n1;generalize H:w.heap.size=g at*;have B:=af H;clear H;have t:Hid (aq w1 g 37 aD):=by have h:=k.out.aE;rw[B.out]at h;exact h
 go_wp2_with fail;refine(y.out _ k.out.fr).mono ?_;rintro e w2⟨v,rfl,a⟩;obtain⟨R,U,P,rfl,A,_⟩:=aG a.own;have d:=kx w2 _ _ _ P _ (oX.rd a.own A.out);rw[←M.out]at d;have n:=af (k.out.fr.trans a.ao);have u:=af (t.out.fr a.ao (fun x=>x));clear a A y t k;go_wp2_with fail;refine(z.out _ n.out).mono ?_;rintro e w3⟨rfl,f3⟩;have K:=af (n.out.trans f3);have J:=af (u.out.fr f3 (fun x=>x));clear f3 z n u d;go_wp2_with(refine ai rfl 37 (.tmp 2) _ rfl g D rfl rfl _ _ J.out C.out (by rw[o.out.1];rfl) o.out.2 ?_);intro I b5 f5;have N:=af b5;have O:Hid (Fr ag w I):=K.out.aw f5 (fun i T e=>by have S:i=g:=e;have:=B.out;omega);clear b5 f5;go_wp2;exact bodyPost_ret (results_cell_row (fn:=Tryz.f75) (p:=2) (ty:=37) Tryz.results75 _ I _ 37 D (0,0) _ rfl N.out Tryz.underlying37 rfl C.out) rfl ⟨rfl,O.out⟩
end Go.Proofs.YtphjagkehiklkaaGreatDoor
