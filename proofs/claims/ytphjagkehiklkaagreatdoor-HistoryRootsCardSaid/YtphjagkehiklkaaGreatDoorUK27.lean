/- Texts. -/
import Derived.Test.YtphjagkehiklkaaGreatDoorUK26
set_option linter.unusedVariables false
set_option linter.unusedSimpArgs false
set_option maxRecDepth 100000
set_option maxHeartbeats 4000000
namespace Go.Proofs.YtphjagkehiklkaaGreatDoor.Lt
open Go.RowKit Go.Shelf
attribute[local go_sem]Oper.semAt_some
def bw(index n:Nat):List Bool:=
 if a:2≤n∧aI n<n∧1≤aI n then
  (if index<aI n then bw index (aI n)++[true]else bw (index-aI n) (n-aI n)++[false])
 else[]
termination_by n
decreasing_by all_goals omega
theorem rL(index:Nat):bw index 1=[]:=by rw[bw,dif_neg (by omega)]
theorem qd{index n:Nat}(b:2≤n)(d:n≤1099511627776)(h:index<aI n):bw index n=bw index (aI n)++[true]:=by
 obtain⟨a,_,c⟩:=cS n b d;rw[bw,dif_pos ⟨b,a,c⟩,if_pos h]
theorem oJ{index n:Nat}(b:2≤n)(d:n≤1099511627776)(h:¬index<aI n):bw index n=bw (index-aI n) (n-aI n)++[false]:=by
 obtain⟨a,_,c⟩:=cS n b d;rw[bw,dif_pos ⟨b,a,c⟩,if_neg h]
theorem RoundIn.iZ{F:Fence}(a:F.depth=none){m b:Nat}{P:Program}{l:Nat}{f:FuncId}{tmps:Array Value}{assign body:Code}{w:World}{e:Ending→World→Prop}
  (h:RoundIn F m P l f tmps assign body w e):RoundIn F b P l f tmps assign body w e:=⟨h.1,fun c cs _=>h.2 c cs (fun d h=>by rw[a]at h;cases h)⟩
theorem YieldAt.iZ{F:Fence}(b:F.depth=none){m:Nat}(d:Nat){P:Program}{l:Nat}{args:Array Value}{W:World}{e:Ending→World→Prop}(h:YieldAt F m P l args W e):YieldAt F d P l args W e:=by
 obtain⟨fn,tmps,assign,body,c,a⟩:=h;exact⟨fn,tmps,assign,body,c,RoundIn.iZ b a⟩
def Eg(b a:List Bool→World→Prop)(pre xs:List Bool)(e:Ending)(W':World):Prop:=
 (e= .returned (.bool true)∧b (pre++xs) W')∨(e= .returned (.bool false)∧∃q,q<+:xs∧a (pre++q) W')
theorem Cy(l N:Nat)(J g:List Bool→World→Prop)
  (y:∀m pre x W,J pre W→pre.length<N→YieldAt Fence.wide m Tryz.prog l #[.bool x] W fun e W'=>(e= .returned (.bool true)∧J (pre++[x]) W')∨(e= .returned (.bool false)∧g (pre++[x]) W'))(n:Nat):
  ∀(m index:Nat)(pre:List Bool)(W:World),index<n→n≤1048576→J pre W→pre.length+(bw index n).length≤N→
   CallsIn Fence.wide m Tryz.prog 158 #[.int .i64 index, .int .i64 n, .func (.yield l) #[] #[]] W (Eg J g pre (bw index n)):=by
 induction n using Nat.strongRecOn with
 |_ n z=>
  intro m index pre W D G j i;have b:∀k:Nat,(Fence.wide.depth.isSome=true→1≤k):=fun k h=>by cases h
  by_cases e:n=1;·subst e;rw[rL];refine callsIn_of_wp Tryz.func158 rfl trivial ?_ rfl;simp only[Tryz.ntmps158,List.size_toArray,List.length_cons,List.length_nil,Nat.reduceAdd,Nat.reduceSub,Array.replicate_succ,Array.replicate_zero,List.push_toArray,List.append_toArray,List.nil_append,List.cons_append];gi_wp2;go_ret;exact .inl ⟨rfl,by simpa using j⟩
  ·obtain⟨F,_,H⟩:=cS n (by omega) (by omega);have v:=Lib.hid (fun w=>lD n w (by omega) (by omega));have t1:((n:Int)==1)=false:=by rw[beq_eq_false_iff_ne];omega
   by_cases hm:index<aI n
   ·have t2:decide ((index:Int)<((aI n:Nat):Int))=true:=decide_eq_true (by omega);have t:=qd (by omega) (by omega) hm;rw[t]at i⊢;rw[List.length_append]at i;have d:∀a,J (pre++bw index (aI n)) a→YieldAt Fence.wide (m-1) Tryz.prog l #[.bool true] a fun e c=>
      (e= .returned (.bool true)∧J (pre++bw index (aI n)++[true]) c)∨(e= .returned (.bool false)∧g (pre++bw index (aI n)++[true]) c):=fun a o=>
     y (m-1) _ true a o (by simp at i⊢;omega);have f:=Lib.hid (fun W(j:J pre W)=>(z (aI n) F (m-1) index pre W hm (by omega) j (by omega)).mono (R':=fun e a=>
      (e= .returned (.bool true)∧YieldAt Fence.wide (m-1) Tryz.prog l #[.bool true] a fun e c=>
       (e= .returned (.bool true)∧J (pre++bw index (aI n)++[true]) c)∨(e= .returned (.bool false)∧g (pre++bw index (aI n)++[true]) c))∨
      (e= .returned (.bool false)∧∃q,q<+:bw index (aI n)∧g (pre++q) a))
     (fun e a h=>h.elim (fun⟨he,B⟩=> .inl ⟨he,d a B⟩) .inr));clear d z y t i;generalize A:bw index (aI n)=S at*;clear A;generalize aI n=k at*;refine callsIn_of_wp Tryz.func158 rfl trivial ?_ rfl;simp only[Tryz.ntmps158,List.size_toArray,List.length_cons,List.length_nil,Nat.reduceAdd,Nat.reduceSub,Array.replicate_succ,Array.replicate_zero,List.push_toArray,List.append_toArray,List.nil_append,List.cons_append]
    gi_wp2_with(first
     |((try refine⟨trivial,b _,?_⟩);gi_at_call 121;refine(callsIn_wide.2 (v.out _)).mono ?_;clear v;rintro e w1⟨rfl,rfl⟩)
     |((try refine⟨trivial,b _,?_⟩);gi_at_call 158;refine(f.out _ j).mono ?_;clear f;rintro e a(⟨rfl,fn,tmps,assign,body,E,u⟩|⟨rfl,q,C,r⟩))
     |((try refine⟨b _,?_⟩);(try refine⟨trivial,b _,?_⟩);refine u.mono ?_;clear u;rintro e c(⟨rfl,p⟩|⟨rfl,s⟩)));·go_ret;exact .inl ⟨rfl,by simpa[List.append_assoc]using p⟩
    ·go_ret;exact .inr ⟨rfl,S++[true],List.prefix_refl _,by simpa[List.append_assoc]using s⟩
    ·refine⟨fun _ h=>(by cases h),?_⟩;gi_wp2;go_ret;exact .inr ⟨rfl,q,C.trans (List.prefix_append _ _),r⟩
   ·have t2:decide ((index:Int)<((aI n:Nat):Int))=false:=decide_eq_false (by omega);have t:=oJ (by omega) (by omega) hm;rw[t]at i⊢;rw[List.length_append]at i;have s1:(index:Int)-((aI n:Nat):Int)=((index-aI n:Nat):Int):=by omega
    have s2:(n:Int)-((aI n:Nat):Int)=((n-aI n:Nat):Int):=by omega
    have d:∀a,J (pre++bw (index-aI n) (n-aI n)) a→YieldAt Fence.wide (m-1) Tryz.prog l #[.bool false] a fun e c=>
      (e= .returned (.bool true)∧J (pre++bw (index-aI n) (n-aI n)++[false]) c)∨(e= .returned (.bool false)∧g (pre++bw (index-aI n) (n-aI n)++[false]) c):=fun a o=>
     y (m-1) _ false a o (by simp at i⊢;omega);have f:=Lib.hid (fun W(j:J pre W)=>(z (n-aI n) (by omega) (m-1) (index-aI n) pre W (by omega) (by omega) j (by omega)).mono (R':=fun e a=>
      (e= .returned (.bool true)∧YieldAt Fence.wide (m-1) Tryz.prog l #[.bool false] a fun e c=>
       (e= .returned (.bool true)∧J (pre++bw (index-aI n) (n-aI n)++[false]) c)∨(e= .returned (.bool false)∧g (pre++bw (index-aI n) (n-aI n)++[false]) c))∨
      (e= .returned (.bool false)∧∃q,q<+:bw (index-aI n) (n-aI n)∧g (pre++q) a))
     (fun e a h=>h.elim (fun⟨he,B⟩=> .inl ⟨he,d a B⟩) .inr));clear d z y t i;generalize A:bw (index-aI n) (n-aI n)=S at*;clear A;have b1:index-aI n≤1048576:=by omega
    have b2:n-aI n≤1048576:=by omega
    generalize index-aI n=i2 at*;generalize n-aI n=I at*;generalize aI n=k at*;refine callsIn_of_wp Tryz.func158 rfl trivial ?_ rfl;simp only[Tryz.ntmps158,List.size_toArray,List.length_cons,List.length_nil,Nat.reduceAdd,Nat.reduceSub,Array.replicate_succ,Array.replicate_zero,List.push_toArray,List.append_toArray,List.nil_append,List.cons_append]
    gi_wp2_with(first
     |((try refine⟨trivial,b _,?_⟩);gi_at_call 121;refine(callsIn_wide.2 (v.out _)).mono ?_;clear v;rintro e w1⟨rfl,rfl⟩)
     |((try refine⟨trivial,b _,?_⟩);gi_at_call 158;refine(f.out _ j).mono ?_;clear f;rintro e a(⟨rfl,fn,tmps,assign,body,E,u⟩|⟨rfl,q,C,r⟩))
     |((try refine⟨b _,?_⟩);(try refine⟨trivial,b _,?_⟩);refine u.mono ?_;clear u;rintro e c(⟨rfl,p⟩|⟨rfl,s⟩)));·go_ret;exact .inl ⟨rfl,by simpa[List.append_assoc]using p⟩
    ·go_ret;exact .inr ⟨rfl,S++[false],List.prefix_refl _,by simpa[List.append_assoc]using s⟩
    ·refine⟨fun _ h=>(by cases h),?_⟩;gi_wp2;go_ret;exact .inr ⟨rfl,q,C.trans (List.prefix_append _ _),r⟩
theorem xj(m c d index n:Nat)(w:World)(y:c<w.heap.size)(B:d<w.heap.size)(ci:w.cell? ⟨c,0,none⟩=some (.int .i64 index))(t:w.cell? ⟨d,0,none⟩=some (.int .i64 n))(i:index<n)(j:n≤1048576):
  SeqStopsK Fence.wide m Tryz.prog 157 #[.pointer (some ⟨c,0,none⟩), .pointer (some ⟨d,0,none⟩)] (fun x:Bool=>#[Value.bool x]) (fun _ _=>True) (fun E=>E=bw index n) (fun pre=>pre<+:bw index n) (bw index n).length w:=by
 intro l I s W o _ _ v u;have g:∀k:Nat,(Fence.wide.depth.isSome=true→1≤k):=fun k h=>by cases h
 have r:=Cy l (bw index n).length I s (fun m pre x W z A=>YieldAt.iZ rfl m (YieldAt.mono (v pre x W z A) fun e W' h=>h.elim (fun⟨a,b,_⟩=> .inl ⟨a,b⟩) .inr)) n (m-1) index [] W i j u (by simp);have G:=(o.cell (p:=⟨c,0,none⟩) y).trans ci;have H:=(o.cell (p:=⟨d,0,none⟩) B).trans t;refine callsIn_of_wp Tryz.func157 rfl trivial ?_ rfl;simp only[Tryz.ntmps157,List.size_toArray,List.length_cons,List.length_nil,Nat.reduceAdd,Nat.reduceSub,Array.replicate_succ,Array.replicate_zero,List.push_toArray,List.append_toArray,List.nil_append,List.cons_append];gi_wp2_with((try refine⟨trivial,g _,?_⟩);gi_at_call 158;refine r.mono ?_;clear r;rintro e F(⟨rfl,f⟩|⟨rfl,q,C,D⟩));·go_end0;exact⟨⟨_,rfl⟩, .inl ⟨_,rfl,by simpa using f⟩⟩
 ·go_end0;exact⟨⟨_,rfl⟩, .inr ⟨q,C,by simpa using D⟩⟩
theorem AR(index n:Int)(w:World):Calls Tryz.prog 123 #[.int .i64 index, .int .i64 n] w fun e w'=>e= .returned (.func (.func 157) #[] #[.pointer (some ⟨w.heap.size,0,none⟩), .pointer (some ⟨w.heap.size+1,0,none⟩)])∧w'=(w.alloc (.cells #[.int .i64 index] 3)).alloc (.cells #[.int .i64 n] 3):=by
 go_enter Tryz.func123,Tryz.ntmps123;go_wp2;go_ret;exact⟨rfl,rfl⟩
end Go.Proofs.YtphjagkehiklkaaGreatDoor.Lt
namespace Go.Proofs.YtphjagkehiklkaaGreatDoor.Lt
open Go.RowKit
def mG(s:List UInt8×List (List UInt8×List UInt8))(b:Bool)(d:List UInt8):List UInt8×List (List UInt8×List UInt8):=
 (bX (if b then s.1 else d) (if b then d else s.1),s.2++[(if b then s.1 else d,if b then d else s.1)])
def cW(leaf:List UInt8)(pre:List Bool)(path:List (List UInt8)):List UInt8×List (List UInt8×List UInt8):=(pre.zip path).foldl (fun s x=>mG s x.1 x.2) (leaf,[])
theorem DK(leaf:List UInt8)(path:List (List UInt8)):cW leaf [] path=(leaf,[]):=rfl
theorem vL:∀(pre:List Bool)(path:List (List UInt8))(b:Bool)(d:List UInt8),path[pre.length]? =some d→(pre++[b]).zip path=pre.zip path++[(b,d)]
 |[],d'::path,b,d,h=>by simp at h;simp[h]
 |[],[],b,d,h=>by simp at h
 |x::pre,[],b,d,h=>by simp at h
 |x::pre,y::path,b,d,h=>by
  have a:path[pre.length]? =some d:=by simpa using h
  simp[vL pre path b d a]
theorem kD(leaf:List UInt8)(pre:List Bool)(path:List (List UInt8))(b:Bool)(d:List UInt8)(h:path[pre.length]? =some d):cW leaf (pre++[b]) path=mG (cW leaf pre path) b d:=by
 unfold cW;rw[vL pre path b d h,List.foldl_append];rfl
structure vT(s:List UInt8×List (List UInt8×List UInt8))(n:Nat):Prop where
 root:s.1.length=32
 count:s.2.length=n
 each:∀p∈s.2,p.1.length=32∧p.2.length=32
theorem vT.step{s:List UInt8×List (List UInt8×List UInt8)}{n:Nat}(h:vT s n)(b:Bool)(d:List UInt8)(c:d.length=32):vT (mG s b d) (n+1):=by
 refine⟨dG _ _,by simp[mG,h.count],fun p a=>?_⟩;simp only[mG,List.mem_append,List.mem_singleton]at a;rcases a with a|rfl;·exact h.each p a
 ·cases b;·exact⟨c,h.root⟩
  ·exact⟨h.root,c⟩
theorem tT(leaf:List UInt8)(e:leaf.length=32)(path:List (List UInt8))(he:∀d∈path,d.length=32):∀(k:Nat)(pre:List Bool),pre.length=k→k≤path.length→vT (cW leaf pre path) k
 |0,pre,h,_=>by
  obtain rfl:=List.eq_nil_of_length_eq_zero h;exact⟨e,rfl,fun p f=>by cases f⟩
 |k+1,pre,h,g=>by
  rcases List.eq_nil_or_concat pre with rfl|⟨c,b,rfl⟩;·simp at h
  ·rw[List.concat_eq_append]at h⊢;rw[List.length_append,List.length_singleton]at h;have a:c.length<path.length:=by omega
   rw[kD leaf c path b path[c.length] (List.getElem?_eq_getElem a)];exact(tT leaf e path he k c (by omega) (by omega)).step b _ (he _ (List.getElem_mem a))
def mz(p:List UInt8×List UInt8):List Value:=aq p.1++aq p.2
theorem uT(d:List UInt8):∀u∈aq d,u.oneCell'=true:=fun u hu=>iE d u hu
theorem As(p:List UInt8×List UInt8):∀u∈mz p,u.oneCell'=true:=fun u hu=>by
 rcases List.mem_append.1 hu with h|h;·exact uT _ u h
 ·exact uT _ u h
def bL(leaf:List UInt8)(index n:Int)(path:List (List UInt8)):List UInt8×List (List UInt8×List UInt8)×Int:=
 if 1≤n∧n≤1048576∧0≤index∧index<n then
  (if path.length=(bw index.toNat n.toNat).length then((cW leaf (bw index.toNat n.toNat) path).1,(cW leaf (bw index.toNat n.toNat) path).2,0)else(ft,[],35))
 else(ft,[],2)
theorem AE{w:World}{g:Nat}{t:TypeId}{L d:List Value}(h:ak w g t (L++d).toArray)(c:L.length=32):w.rangeAt g 0 L∧w.rangeAt g 32 d:=by
 refine⟨fun j v a=>?_,fun j v a=>?_⟩;·have b:=(List.getElem?_eq_some_iff.1 a).1;rw[Nat.zero_add,h.cell,List.getElem?_toArray,List.getElem?_append_left b];exact a
 ·rw[h.cell,List.getElem?_toArray,List.getElem?_append_right (by omega),c,show 32+j-32=j by omega];exact a
theorem rn(l r:List UInt8)(b:l.length=32)(g:r.length=32)(w:World)(n:bp w):Calls Tryz.prog 124 #[.agg (aq l++aq r).toArray] w (aH w (aL (bX l r))):=by
 have h:Hid (∀w',Fr af w w'→Calls Tryz.prog 122 #[.agg (aq l).toArray, .agg (aq r).toArray] w' (aH w' (.agg (aq (bX l r)).toArray))):=fun w' G=>j7 l r b g w' (n.al G);have D:Hid (cy (aq (bX l r)).toArray):=cy.of (dG l r);have c:Hid ((aq l).length=32):=by simp[Hid,aq,b]
 have A:Hid ((Tryz.prog.info? 38).map (·.size)=some (aq l).length):=by rw[aq,List.length_map,b];exact dZ
 have B:Hid ((Tryz.prog.info? 38).map (·.size)=some (aq r).length):=by rw[aq,List.length_map,g];exact dZ
 unfold aL;change Calls _ _ _ _ (aH w (.agg (aq (bX l r)).toArray));clear n b g;generalize aq (bX l r)=NV at*;generalize aq l=k at*;generalize aq r=m at*;have ty:=Tryz.underlying38;go_enter Tryz.func124,Tryz.ntmps124;go_wp2_with(refine au rfl 139 (.tmp 0) rfl _ rfl ?_);intro w1 n1;have d:=Lib.hid n1;clear n1;go_wp2_with(refine ai rfl 38 rfl aQ fW ay rfl ?_);intro w2 o;have f:=Lib.hid o;clear o;have u:Hid (ak w2 w.heap.size 139 (k++m).toArray):=d.out.az.fr f.out.fr (fun x=>x);have j:Hid (Fr af w w2):=d.out.fr.trans f.out.fr;have C:Hid (w.heap.size<w1.heap.size):=by have:=d.out.size;simp only[Hid];omega
 obtain⟨q,s⟩:=AE u.out c.out;generalize a:w.heap.size=g0 at*;go_wp2_with(first|(refine wpList_load_mid rfl 38 (.tmp 3) rfl g0 0 rfl k _ q ty rfl A.out ?_)|(refine wpList_load_mid rfl 38 (.tmp 5) rfl g0 32 rfl m _ s ty rfl B.out ?_)|fail);refine(h.out _ j.out).mono ?_;rintro e J⟨rfl,f3⟩;have v:=Lib.hid (f.out.az.fr f3 (fun x=>x));have y:=Lib.hid (j.out.trans f3);have z:=Lib.hid a;clear f3 q s h a;go_wp2_with(refine ah rfl 38 (.tmp 2) _ rfl w1.heap.size NV.toArray rfl rfl _ _ v.out D.out.info D.out.zero D.out.one ?_);intro t b4 f4;have E:=Lib.hid b4;have F:Hid (Fr af w t):=y.out.ao f4 (fun i I e=>by have H:i=w1.heap.size:=e;have:=C.out;have:=z.out;omega);clear b4 f4;go_wp2;exact bodyPost_ret (results_cell_row (fn:=Tryz.f124) (p:=2) (ty:=38) Tryz.results124 _ t _ 38 NV.toArray (0,0) _ rfl E.out Tryz.underlying38 rfl D.out.info) rfl ⟨rfl,F.out⟩
end Go.Proofs.YtphjagkehiklkaaGreatDoor.Lt
namespace Go.Proofs.YtphjagkehiklkaaGreatDoor.Lt
open Go.RowKit Go.Shelf
attribute[local go_sem]Oper.semAt_some
theorem bE{P:Program}{ops:Array Oper}{rest:List Oper}{m:Oper}{a:Act}{w:World}{Q:Exit→Act→World→Prop}(c:m.guard=none)(ty:TypeId)(x y:Operand)(i:m.op= .store ty x y)
  (g:Nat)(v:Value)(j:a.eval x= .pointer (some ⟨g,0,none⟩))(l:a.eval y=v)(e:v.oneCell'=true)
  (t:TypeId)(b:Value)(d:ak w g t #[b])(f:(P.info? ty).map (·.size)=some 1)
  (h:∀w',ak w' g t #[v]→Fr (fun k=>k=g) w w'→wpList P ops Q rest (a.put m.dst undef) w'):wpList P ops Q (m::rest) a w:=by
 subst l;exact wpList_store_one c ty x y i g j e t b d f (h _ (gd d) ((Fr.refl (fun k=>k=g) w).setRow (fun _=>rfl) _))
theorem dC{P:Program}(w:World)(g:Nat)(t ty:TypeId)(v:Value)(d:ak w g t #[v])(a:(P.info? ty).map (·.size)=some 1)(b:(isAgg ty).run P w= .ok false w):
  (loadVar ty ⟨g,0,none⟩).run P w= .ok v w:=by
 have c:w.cell? ⟨g,0,none⟩=some v:=d.cell 0;simp[loadVar,b,go_sem,c]
theorem kY:(Tryz.prog.info? 135).map (·.size)=some 1:=by kernel_rfl
theorem oq:(Tryz.prog.info? 34).map (·.size)=some 1:=by kernel_rfl
theorem BS(w:World):(zeroValue 135).run Tryz.prog w= .ok (.slice none 0 0) w:=by kernel_rfl
theorem Ge(w:World):(zeroValue 34).run Tryz.prog w= .ok (.int .i64 0) w:=by kernel_rfl
theorem isAgg82(w:World):(isAgg 135).run Tryz.prog w= .ok false w:=by kernel_rfl
theorem isAgg26(w:World):(isAgg 34).run Tryz.prog w= .ok false w:=by kernel_rfl
theorem gH(tmps:Array Value)(w:World)(g8 g9 g10:Nat)(cs:Array Value)(v:Value)(k:Int)
  (e:tmps.getD 8 undef= .pointer (some ⟨g8,0,none⟩))(f:tmps.getD 9 undef= .pointer (some ⟨g9,0,none⟩))(b:tmps.getD 10 undef= .pointer (some ⟨g10,0,none⟩))
  (b8:ak w g8 38 cs)(g:(Tryz.prog.info? 38).map (·.size)=some cs.size)(b9:ak w g9 135 #[v])(gB:ak w g10 34 #[.int .i64 k]):
  (results Tryz.f77 tmps).run Tryz.prog w= .ok (.tuple #[.agg cs,v, .int .i64 k]) w:=by
 have c:tmps[8]?.getD undef= .pointer (some ⟨g8,0,none⟩):=by simpa using e
 have d:tmps[9]?.getD undef= .pointer (some ⟨g9,0,none⟩):=by simpa using f
 have a:tmps[10]?.getD undef= .pointer (some ⟨g10,0,none⟩):=by simpa using b
 simp[results,Tryz.results77,c,d,a,asAddr,run_loadVar_row w g8 38 38 cs (0,0) _ b8 Tryz.underlying38 rfl g,dC w g9 _ _ v b9 kY (isAgg82 w),dC w g10 _ _ _ gB oq (isAgg26 w)]
def jn(w:World)(V:List UInt8×List (List UInt8×List UInt8)×Int)(e:Ending)(w':World):Prop:=
 ∃v,e= .returned (.tuple #[aL V.1,v, .int .i64 V.2.2])∧bF 139 64 w (.slice none 0 0) w' v V.2.1.length (V.2.1.flatMap mz)
theorem jn.none{w w':World}{k:Int}(h:Fr af w w'):jn w (ft,[],k) (.returned (.tuple #[aL ft, .slice none 0 0, .int .i64 k])) w':=
 ⟨_,rfl,⟨⟨rfl, .inl ⟨rfl,rfl⟩⟩,h.bA,fun _ a=> .inl a⟩⟩
structure kK(w w':World)(len:Nat)(A:Option Addr)(c:Nat)(a:List Value)(g4 g7 g8 g9 g10:Nat):Prop where
 fr:Fr af w w'
 b4:ak w' g4 38 a.toArray
 b7:ak w' g7 31 #[.slice A len c]
 b8:ak w' g8 38 ay
 b9:ak w' g9 135 #[.slice none 0 0]
 gB:ak w' g10 34 #[.int .i64 0]
 o4:w.heap.size≤g4
 o7:g4<g7
 o8:g7<g8
 o9:g8<g9
 ik:g9<g10
theorem kK.later{w w' b:World}{len:Nat}{A:Option Addr}{c:Nat}{d:List Value}{g4 g7 g8 g9 g10:Nat}(h:kK w w' len A c d g4 g7 g8 g9 g10)(a:Fr af w' b):kK w b len A c d g4 g7 g8 g9 g10:=
 ⟨h.fr.trans a,h.b4.fr a (fun x=>x),h.b7.fr a (fun x=>x),h.b8.fr a (fun x=>x),h.b9.fr a (fun x=>x),h.gB.fr a (fun x=>x),h.o4,h.o7,h.o8,h.o9,h.ik⟩
theorem kK.of{w w1 w2 g h j:World}{len:Nat}{A:Option Addr}{c:Nat}{i:List Value}(f:dd w w1 38 i.toArray)(e:dd w1 w2 31 #[.slice A len c])(d:dd w2 g 38 ay)(a:dd g h 135 #[.slice none 0 0])(b:dd h j 34 #[.int .i64 0]):
  kK w j len A c i w.heap.size w1.heap.size w2.heap.size g.heap.size h.heap.size:=by
 have k:=f.size;have l:=e.size;have m:=d.size;have n:=a.size;exact⟨f.fr.trans (e.fr.trans (d.fr.trans (a.fr.trans b.fr))),f.az.fr (e.fr.trans (d.fr.trans (a.fr.trans b.fr))) (fun x=>x),e.az.fr (d.fr.trans (a.fr.trans b.fr)) (fun x=>x),d.az.fr (a.fr.trans b.fr) (fun x=>x),a.az.fr b.fr (fun x=>x),b.az,Nat.le_refl _,by omega,by omega,by omega,by omega⟩
theorem cu{w:World}{base:Nat}{e:TypeId}{size n k:Nat}{v:Value}{xs:List Value}(h:w.ownsRow base e size v n xs)(a:v.ownBlock=some k):∃f,w.heap[k]? =some f∧f.isCells=true:=by
 rcases h.2 with⟨rfl,_⟩|⟨d,b,cur,rfl,_,c,_⟩;·simp[Value.ownBlock]at a
 ·simp[Value.ownBlock]at a;subst a;exact⟨_,c,rfl⟩
structure pz(w1:World)(g11 g12 len:Nat)(leaf:List UInt8)(path:List (List UInt8))(pre:List Bool)(W:World):Prop where
 fr:Fr (fun k=>k=g11∨k=g12) w1 W
 le:pre.length≤len
 row:∃v,ak W g11 135 #[v]∧W.ownsRow 0 139 64 v pre.length ((cW leaf pre path).2.flatMap mz)∧∀k,v.ownBlock=some k→w1.heap.size≤k
 root:ak W g12 38 (aq (cW leaf pre path).1).toArray
theorem pz.gT{w1:World}{g11 g12 len:Nat}{leaf:List UInt8}{path:List (List UInt8)}(d:g11<w1.heap.size)(f:g12<w1.heap.size):OwnFrom w1.heap.size (pz w1 g11 g12 len leaf path):=by
 intro pre A B row h p o;have a:∀k,k<w1.heap.size→some k≠row:=fun k m e=>by have:=(o k e.symm).1;omega
 have c:Fr (fun k=>some k=row) A B:=Fr.grown p;obtain⟨v,lK,b,r⟩:=h.row;refine⟨h.fr.ao c (fun i q e=>absurd e (a i q)),h.le,⟨v,lK.fr c (fun e=>a _ d e),aK b c (fun k m e=>?_),r⟩,h.root.fr c (fun e=>a _ f e)⟩;obtain⟨_,t,n,l⟩:=o k e.symm;obtain⟨s,j,g⟩:=cu b m;rw[j]at n;cases n;rw[g]at l;cases l
structure Bg(w1:World)(g8 g9 g10 g11 g12:Nat)(W:World):Prop where
 fr:Fr (fun k=>k=g8∨k=g9∨k=g10∨k=g11∨k=g12) w1 W
 b8:ak W g8 38 ay
 b9:ak W g9 135 #[.slice none 0 0]
 gB:ak W g10 34 #[.int .i64 35]
theorem Bg.gT{w1:World}{g8 g9 g10 g11 g12:Nat}(d:g8<w1.heap.size)(f:g9<w1.heap.size)(c:g10<w1.heap.size)(C:Prop):OwnFrom w1.heap.size (fun(_:List Bool)W=>Bg w1 g8 g9 g10 g11 g12 W∧C):=by
 intro pre A B row⟨h,g⟩j m;have a:∀k,k<w1.heap.size→some k≠row:=fun k n e=>by have:=(m k e.symm).1;omega
 have b:Fr (fun k=>some k=row) A B:=Fr.grown j;exact⟨⟨h.fr.ao b (fun i l e=>absurd e (a i l)),h.b8.fr b (fun e=>a _ d e),h.b9.fr b (fun e=>a _ f e),h.gB.fr b (fun e=>a _ c e)⟩,g⟩
theorem wZ(leaf:List UInt8)(C:leaf.length=32)(index n:Int)(A:Option Addr)(len c:Nat)(w:World)(H:¬(1≤n∧n≤1048576∧0≤index∧index<n))(Q:-9223372036854775808≤n∧n≤9223372036854775807):
  Calls Tryz.prog 77 #[aL leaf, .int .i64 index, .int .i64 n, .slice A len c] w (jn w (ft,[],2)):=by
 have F:Hid (∀w',Calls Tryz.prog 89 #[.int .i64 n, .int .i64 1, .int .i64 1048576] w' (bj w' (.bool (decide (1≤n∧n≤1048576))))):=fun w'=>eo n 1 1048576 w';have J:Hid (∀w',Calls Tryz.prog 89 #[.int .i64 index, .int .i64 0, .int .i64 (n-1)] w' (bj w' (.bool (decide (0≤index∧index≤n-1))))):=fun w'=>eo index 0 (n-1) w';have L:decide (1≤n∧n≤1048576)=false∨(decide (1≤n∧n≤1048576)=true∧decide (0≤index∧index≤n-1)=false):=by
  by_cases v:1≤n∧n≤1048576;·exact .inr ⟨decide_eq_true v,decide_eq_false (fun h=>H ⟨v.1,v.2,h.1,by omega⟩)⟩
  ·exact .inl (decide_eq_false v)
 have I:decide (1≤n∧n≤1048576)=true→IntKind.i64.wrap (n-1)=n-1:=fun h=>IntWalk.i64_in _ (by have:=of_decide_eq_true h;omega);have d:Hid (cy (aq ft).toArray):=cy.of jt;have K:Hid ((aq ft).toArray=ay):=qg;have G:Hid (Tryz.prog.built 38 []=some ay):=pF;clear H C;have B:=Lib.hid (fun w'(h:Fr af w w')=>jn.none (k:=2) h);unfold aL at*;simp only[show∀l:List UInt8,l.map aU=aq l from fun _=>rfl]at*;rw[K.out]at d B;generalize aq leaf=P at*;generalize decide (1≤n∧n≤1048576)=R at*;generalize decide (0≤index∧index≤n-1)=S at*;generalize hm:n-1=m at*;rcases L with rfl|⟨rfl,rfl⟩;·go_enter Tryz.func77,Tryz.ntmps77;go_wp2_with(refine au rfl 38 (.tmp 0) rfl _ rfl ?_);intro w1 n1;have j:=Lib.hid n1;clear n1;go_wp2_with(refine au rfl 31 (.tmp 3) rfl _ rfl ?_);intro w2 t;have o:=Lib.hid t;clear t;go_wp2_with(refine ai rfl 38 rfl aQ fW ay rfl ?_);intro D n3;have p:=Lib.hid n3;clear n3;go_wp2_with(refine ai rfl 135 rfl (.slice none 0 0) BS #[.slice none 0 0] rfl ?_);intro E n4;have q:=Lib.hid n4;clear n4;go_wp2_with(refine ai rfl 34 rfl (.int .i64 0) Ge #[.int .i64 0] rfl ?_);intro M u;have a:=Lib.hid (kK.of j.out o.out p.out q.out u);clear u j o p q;generalize r:w.heap.size=g4 at*;have f:=Lib.hid r;clear r;generalize w1.heap.size=g7 at*;generalize w2.heap.size=g8 at*;generalize D.heap.size=g9 at*;generalize E.heap.size=g10 at*;go_wp2_with fail;refine(F.out _).mono ?_;rintro e w'⟨rfl,rfl⟩;go_upto_region 2 with fail;refine wp_region_lit ?_;refine iM rfl 38 rfl ay G.out ?_;refine ah rfl 38 (.tmp 8) _ rfl g8 ay rfl rfl _ _ a.out.b8 d.out.info rfl d.out.one ?_;intro N b1 f1;refine bE rfl 135 (.tmp 9) _ rfl g9 (.slice none 0 0) rfl rfl rfl _ _ (a.out.b9.fr f1 (fun e=>by have b:g9=g8:=e;have:=a.out.o9;omega)) kY ?_;intro O b2 f2;refine bE rfl 34 (.tmp 10) _ rfl g10 (.int .i64 2) rfl rfl rfl _ _ ((a.out.gB.fr f1 (fun e=>by have b:g10=g8:=e;have:=a.out.o9;have:=a.out.ik;omega)).fr f2 (fun e=>by have b:g10=g9:=e;have:=a.out.ik;omega)) oq ?_;intro x3 b3 f3;have x:=Lib.hid ((b1.fr f2 (fun e=>by have b:g8=g9:=e;have:=a.out.o9;omega)).fr f3 (fun e=>by have b:g8=g10:=e;have:=a.out.o9;have:=a.out.ik;omega));have y:=Lib.hid (b2.fr f3 (fun e=>by have b:g9=g10:=e;have:=a.out.ik;omega));have g:=Lib.hid b3;have z:Hid (Fr af w x3):=((a.out.fr.ao f1 (fun i s e=>by have b:i=g8:=e;have:=a.out.o4;have:=a.out.o7;have:=a.out.o8;have:=f.out;omega)).ao f2 (fun i s e=>by have b:i=g9:=e;have:=a.out.o4;have:=a.out.o7;have:=a.out.o8;have:=a.out.o9;have:=f.out;omega)).ao f3 (fun i s e=>by have b:i=g10:=e;have:=a.out.o4;have:=a.out.o7;have:=a.out.o8;have:=a.out.o9;have:=a.out.ik;have:=f.out;omega);clear b1 b2 b3 f1 f2 f3;go_wp2;exact bodyPost_ret (gH _ x3 g8 g9 g10 ay _ 2 rfl rfl rfl x.out d.out.info y.out g.out) rfl (B.out _ z.out)
 ·go_enter Tryz.func77,Tryz.ntmps77;go_wp2_with(refine au rfl 38 (.tmp 0) rfl _ rfl ?_);intro w1 n1;have j:=Lib.hid n1;clear n1;go_wp2_with(refine au rfl 31 (.tmp 3) rfl _ rfl ?_);intro w2 t;have o:=Lib.hid t;clear t;go_wp2_with(refine ai rfl 38 rfl aQ fW ay rfl ?_);intro D n3;have p:=Lib.hid n3;clear n3;go_wp2_with(refine ai rfl 135 rfl (.slice none 0 0) BS #[.slice none 0 0] rfl ?_);intro E n4;have q:=Lib.hid n4;clear n4;go_wp2_with(refine ai rfl 34 rfl (.int .i64 0) Ge #[.int .i64 0] rfl ?_);intro M u;have a:=Lib.hid (kK.of j.out o.out p.out q.out u);clear u j o p q;generalize r:w.heap.size=g4 at*;have f:=Lib.hid r;clear r;generalize w1.heap.size=g7 at*;generalize w2.heap.size=g8 at*;generalize D.heap.size=g9 at*;generalize E.heap.size=g10 at*;go_wp2_with fail;refine(F.out _).mono ?_;rintro e w'⟨rfl,rfl⟩;go_wp2_with fail;refine(J.out _).mono ?_;rintro e w'⟨rfl,rfl⟩;go_upto_region 2 with fail;refine wp_region_lit ?_;refine iM rfl 38 rfl ay G.out ?_;refine ah rfl 38 (.tmp 8) _ rfl g8 ay rfl rfl _ _ a.out.b8 d.out.info rfl d.out.one ?_;intro N b1 f1;refine bE rfl 135 (.tmp 9) _ rfl g9 (.slice none 0 0) rfl rfl rfl _ _ (a.out.b9.fr f1 (fun e=>by have b:g9=g8:=e;have:=a.out.o9;omega)) kY ?_;intro O b2 f2;refine bE rfl 34 (.tmp 10) _ rfl g10 (.int .i64 2) rfl rfl rfl _ _ ((a.out.gB.fr f1 (fun e=>by have b:g10=g8:=e;have:=a.out.o9;have:=a.out.ik;omega)).fr f2 (fun e=>by have b:g10=g9:=e;have:=a.out.ik;omega)) oq ?_;intro x3 b3 f3;have x:=Lib.hid ((b1.fr f2 (fun e=>by have b:g8=g9:=e;have:=a.out.o9;omega)).fr f3 (fun e=>by have b:g8=g10:=e;have:=a.out.o9;have:=a.out.ik;omega));have y:=Lib.hid (b2.fr f3 (fun e=>by have b:g9=g10:=e;have:=a.out.ik;omega));have g:=Lib.hid b3;have z:Hid (Fr af w x3):=((a.out.fr.ao f1 (fun i s e=>by have b:i=g8:=e;have:=a.out.o4;have:=a.out.o7;have:=a.out.o8;have:=f.out;omega)).ao f2 (fun i s e=>by have b:i=g9:=e;have:=a.out.o4;have:=a.out.o7;have:=a.out.o8;have:=a.out.o9;have:=f.out;omega)).ao f3 (fun i s e=>by have b:i=g10:=e;have:=a.out.o4;have:=a.out.o7;have:=a.out.o8;have:=a.out.o9;have:=a.out.ik;have:=f.out;omega);clear b1 b2 b3 f1 f2 f3;go_wp2;exact bodyPost_ret (gH _ x3 g8 g9 g10 ay _ 2 rfl rfl rfl x.out d.out.info y.out g.out) rfl (B.out _ z.out)
def dO:Array Value:=(aq ft++aq ft).toArray
theorem IH(w:World):(zeroValue 139).run Tryz.prog w= .ok (.agg dO) w:=by kernel_rfl
theorem Hz:(Tryz.prog.info? 139).map (fun i=>(i.zero,i.size,i.bytes))=some (some (.agg dO),64,64):=by kernel_rfl
theorem Bu:(Tryz.prog.info? 139).map (·.size)=some 64:=by kernel_rfl
theorem wA(parts:List (Nat×Value)):Tryz.prog.built 139 parts=Instr.fill ((#[(0,32),(32,32)]:Array (Nat×Nat))[·]?) dO parts:=by kernel_rfl
theorem rf(X Y:List Value)(a:X.length=32)(b:Y.length=32):Tryz.prog.built 139 [(0, .agg X.toArray),(1, .agg Y.toArray)]=some (X++Y).toArray:=by
 have h:=Dh X.toArray Y.toArray dO (by simpa using a) (by simpa using b) rfl;rw[wA];simp only[Instr.fill,Nat.zero_mul,Nat.one_mul]at h⊢;exact h
theorem oi(cs b:Array Value)(n:Nat)(d:cs.size=n)(c:b.size=n):Instr.fill (fun i=>some (i*n,n)) b [(0, .agg cs)]=some cs:=by
 have a:=j8 cs b 0 (by omega);simp only[Instr.fill,Value.cells,d,c,Nat.zero_mul,Nat.zero_add,ne_eq,not_true_eq_false,decide_false,Bool.false_or,gt_iff_lt,Nat.lt_irrefl,Bool.false_eq_true,if_false];simp only[Nat.zero_add,List.take_zero,List.nil_append,d]at a;rw[List.drop_of_length_le (by simp[c]),List.append_nil]at a;rw[a]
theorem pz.step{w1 W X o p u j:World}{g11 g12 len:Nat}{leaf d:List UInt8}{path:List (List UInt8)}{pre:List Bool}{v v2:Value}{CV NV:List Value}(b:Bool)
  (w:pz w1 g11 g12 len leaf path pre W)(D:g11<w1.heap.size)(E:g12<w1.heap.size)(t:g11≠g12)(c:pre.length<len)(z:path[pre.length]? =some d)
  (f:W.ownsRow 0 139 64 v pre.length ((cW leaf pre path).2.flatMap mz))(a:∀k,v.ownBlock=some k→w1.heap.size≤k)
  (y:Fr af W X)(r:bF 139 64 X v o v2 (pre.length+1) ((cW leaf pre path).2.flatMap mz++CV))(f3:Fr (fun k=>k=g11) o p)(b3:ak p g11 135 #[v2])
  (f4:Fr af p u)(f5:Fr (fun k=>k=g12) u j)(b5:ak j g12 38 NV.toArray)
  (q:CV=mz (if b then(cW leaf pre path).1 else d,if b then d else(cW leaf pre path).1))(s:NV=aq (bX (if b then(cW leaf pre path).1 else d) (if b then d else(cW leaf pre path).1))):
  KeepsFrom w1.heap.size W j∧pz w1 g11 g12 len leaf path (pre++[b]) j:=by
 have s1:w1.heap.size≤W.heap.size:=w.fr.size;have s2:W.heap.size≤X.heap.size:=y.size;have H:∀k,v.ownBlock=some k→k<W.heap.size:=fun k c=>by
  obtain⟨L,m,_⟩:=cu f c;exact(Array.getElem?_eq_some_iff.1 m).1
 have g:∀k,v2.ownBlock=some k→w1.heap.size≤k:=fun k c=>by
  rcases r.dD k c with h|h;·exact a k h
  ·omega
 have F:Fr (fun k=>k=g11∨k=g12∨v.ownBlock=some k) W j:=by
  have A:Fr (fun k=>k=g11∨k=g12∨v.ownBlock=some k) W o:=(y.bA).trans (r.fr.mono (fun i _ h=> .inr (.inr h)));have B:=A.trans (f3.mono (T':=fun k=>k=g11∨k=g12∨v.ownBlock=some k) (fun i _ h=> .inl h));exact(B.trans f4.bA).trans (f5.mono (fun i _ h=> .inr (.inl h)))
 refine⟨⟨F.size,fun k L I m G=>?_⟩,?_,?_,?_,?_⟩
 ·refine(F.block k (Array.getElem?_eq_some_iff.1 m).1 ?_).trans m;rintro(rfl|rfl|h);·omega
  ·omega
  ·obtain⟨K,n,l⟩:=cu f h;rw[m]at n;cases n;rw[G]at l;cases l
 ·refine w.fr.ao F (fun i J h=>?_);rcases h with h|h|h;·exact .inl h
  ·exact .inr h
  ·have:=a i h;omega
 ·rw[List.length_append,List.length_singleton];omega
 ·refine⟨v2,((b3.fr f4 (fun x=>x)).fr f5 t),?_,g⟩;rw[List.length_append,List.length_singleton,kD leaf pre path b d z];have e:(mG (cW leaf pre path) b d).2.flatMap mz=(cW leaf pre path).2.flatMap mz++CV:=by
   rw[mG,List.flatMap_append,q];simp
  rw[e];refine aK (aK (aK r.own f3 (fun k c e=>?_)) f4 (fun _ _ x=>x)) f5 (fun k c e=>?_);·have C:k=g11:=e;have:=g k c;omega
  ·have C:k=g12:=e;have:=g k c;omega
 ·rw[kD leaf pre path b d z];rw[s]at b5;exact b5
end Go.Proofs.YtphjagkehiklkaaGreatDoor.Lt
namespace Go.Proofs.YtphjagkehiklkaaGreatDoor.Lt
open Go.RowKit Go.Shelf
attribute[local go_sem]Oper.semAt_some
theorem kK.jQ{w w' d:World}{T:Nat→Prop}{len:Nat}{A:Option Addr}{c:Nat}{f:List Value}{g4 g7 g8 g9 g10:Nat}(h:kK w w' len A c f g4 g7 g8 g9 g10)(a:Fr T w' d)(b:∀k,k≤g10→¬T k)(hw:∀i,i<w.heap.size→¬T i):kK w d len A c f g4 g7 g8 g9 g10:=by
 have:=h.o7;have:=h.o8;have:=h.o9;have:=h.ik;exact⟨h.fr.ao a (fun i g e=>absurd e (hw i g)),h.b4.fr a (b _ (by omega)),h.b7.fr a (b _ (by omega)),h.b8.fr a (b _ (by omega)),h.b9.fr a (b _ (by omega)),h.gB.fr a (b _ (by omega)),h.o4,h.o7,h.o8,h.o9,h.ik⟩
theorem uo{B:Nat}{T:Nat→Prop}{W W':World}(h:Fr T W W')(b:∀k,T k→k<B):KeepsFrom B W W':=
 ⟨h.size,fun k e d a _=>(h.block k (Array.getElem?_eq_some_iff.1 a).1 (fun c=>by have:=b k c;omega)).trans a⟩
def Dv(t:TypeId):Op→Bool
 | .build a _=>t==a
 |_=>false
def ku(t:TypeId):Op→Bool
 | .load a _=>t==a
 |_=>false
theorem bN{r n:Nat}{P:Program}{ops:Array Oper}{Q:Exit→Act→World→Prop}{d:Oper}{l:List Oper}{a:Act}{w:World}(f:Op→Bool)(b:f d.op=true)(c:((d::l).all fN)=true)(h:wpList P ops (fun e a w=>Q e a w∧e= .normal) (d::l) a w):wpListIn (Fence.wide.inRound r) n P ops Q (d::l) a w:=
 gX c h
structure jF(CV:List Value):Prop where
 len:CV.length=64
 one:∀u∈CV,u.oneCell'=true
theorem jF.info{CV:List Value}(h:jF CV):(Tryz.prog.info? 139).map (·.size)=some CV.toArray.size:=by
 rw[Bu,List.size_toArray,h.len]
theorem jF.wP{CV:List Value}(h:jF CV):(Tryz.prog.info? 139).map (·.size)=some CV.length:=by rw[Bu,h.len]
theorem jF.all{CV:List Value}(h:jF CV):CV.toArray.all (·.oneCell')=true:=by
 rw[Array.all_eq_true_iff_forall_mem];intro u hu;exact h.one u (by simpa using hu)
theorem jF.of{a b:List UInt8}(c:a.length=32)(d:b.length=32):jF (aq a++aq b):=⟨by simp[aq,c,d],fun u hu=>As (a,b) u hu⟩
structure Hi(W X:World)(g14:Nat)(CV:List Value):Prop where
 fr:Fr af W X
 xE:ak X g14 139 CV.toArray
 new:W.heap.size≤g14
theorem Ah(leaf:List UInt8)(bI:leaf.length=32)(index n:Nat)(cw:index<n)(dh:n≤1048576)(path:List (List UInt8))(len:Nat)(A:Option Addr)(c:Nat)(S:Nat→Prop)(w:World)(aT:eF w S A len path)(cY:len≤1048576)(cV:bp w):
  Calls Tryz.prog 77 #[aL leaf, .int .i64 index, .int .i64 n, .slice A len c] w (jn w (bL leaf index n path)):=by
 have c6:Hid (∀w',Calls Tryz.prog 89 #[.int .i64 n, .int .i64 1, .int .i64 1048576] w' (bj w' (.bool true))):=by
  intro w';have h:=eo (n:Int) 1 1048576 w';rw[decide_eq_true (by omega)]at h;exact h
 obtain⟨m,hm⟩:∃m:Nat,(n:Int)-1=(m:Int):=⟨n-1,by omega⟩;have c7:Hid (∀w',Calls Tryz.prog 89 #[.int .i64 index, .int .i64 0, .int .i64 m] w' (bj w' (.bool true))):=by
  intro w';have h:=eo (index:Int) 0 (m:Int) w';rw[decide_eq_true (by omega)]at h;exact h
 have dg:m≤1048576:=by omega
 have a2:Hid (cy (aq ft).toArray):=cy.of jt;have co:Hid ((aq ft).toArray=ay):=qg;have cC:Hid (Tryz.prog.built 38 []=some ay):=pF;have ca:Hid (cy (aq leaf).toArray):=cy.of bI;have cm:Hid ((Tryz.prog.info? 38).map (·.size)=some (aq leaf).length):=by rw[aq,List.length_map,bI];exact dZ
 have da:=Lib.hid aT;have cH:=Lib.hid cV;have dp:=Lib.hid bI;have PL:=Lib.hid aT.len;have cN:=Lib.hid (fun(pre:List Bool)(h:pre.length≤len)=>tT leaf bI path aT.each pre.length pre rfl (by rw[aT.len];exact h));have NV:=Lib.hid (show bL leaf index n path=(if path.length=(bw index n).length then((cW leaf (bw index n) path).1,(cW leaf (bw index n) path).2,0)else(ft,[],35))from by
  unfold bL;rw[if_pos (by omega),Int.toNat_natCast,Int.toNat_natCast]);have cl:=Lib.hid cw;have db:=Lib.hid dh;obtain⟨i0,aV,aW,V,bK⟩:=info_parts Hz;clear bI aT cV;rw[co.out]at a2;change Calls _ _ #[.agg (aq leaf).toArray,_,_,_] _ _;have LE:Hid (aq leaf=aq leaf):=rfl;generalize bC:aq leaf=bs at*;have cn:=Lib.hid bC;clear bC LE;refine(callsIn_wide (n:=6)).1 (callsIn_of_wp_marks Tryz.func77 rfl trivial (wpIn_wide.2 ?_) rfl);simp only[Tryz.ntmps77,List.size_toArray,List.length_cons,List.length_nil,Nat.reduceAdd,Nat.reduceSub,Array.replicate_succ,Array.replicate_zero,List.push_toArray,List.append_toArray,List.nil_append,List.cons_append];go_wp2_with(refine au rfl 38 (.tmp 0) rfl _ rfl ?_);intro w1 n1;have cJ:=Lib.hid n1;clear n1;go_wp2_with(refine au rfl 31 (.tmp 3) rfl _ rfl ?_);intro w2 c1;have cK:=Lib.hid c1;clear c1;go_wp2_with(refine ai rfl 38 rfl aQ fW ay rfl ?_);intro di n3;have cL:=Lib.hid n3;clear n3;go_wp2_with(refine ai rfl 135 rfl (.slice none 0 0) BS #[.slice none 0 0] rfl ?_);intro cA n4;have cM:=Lib.hid n4;clear n4;go_wp2_with(refine ai rfl 34 rfl (.int .i64 0) Ge #[.int .i64 0] rfl ?_);intro c3 c2;have cb:=Lib.hid (kK.of cJ.out cK.out cL.out cM.out c2);clear c2 cJ cK cL cM;generalize aM:w.heap.size=g4 at*;have a5:=Lib.hid aM;clear aM;generalize w1.heap.size=g7 at*;generalize w2.heap.size=g8 at*;generalize di.heap.size=g9 at*;generalize cA.heap.size=g10 at*;go_wp2_with fail;refine(c6.out _).mono ?_;rintro e w'⟨rfl,rfl⟩;go_wp2_with fail;refine(c7.out _).mono ?_;rintro e w'⟨rfl,rfl⟩;go_wp2_with(refine ai rfl 135 rfl (.slice none 0 0) BS #[.slice none 0 0] rfl ?_);intro c4 n6;have cc:=Lib.hid (cb.out.later n6.fr);have M:=Lib.hid n6.az;have cP:Hid (g10<c3.heap.size):=cb.out.gB.lt;have cO:=Lib.hid n6.size;clear n6 cb;generalize c3.heap.size=g11 at*;generalize bJ:c4.heap.size=g12 at*;have a6:=Lib.hid bJ;clear bJ;go_wp2_with(first|(refine dS rfl 38 (.tmp 4) rfl g4 rfl _ bs cc.out.b4 _ Tryz.underlying38 rfl cm.out ?_)|(refine ai rfl 38 rfl aQ fW ay rfl ?_));intro dj bW;have G:Hid (ak dj g12 38 ay):=by
  have h:=bW.az;rw[a6.out]at h;exact h
 have cE:=Lib.hid bW.fr;have a3:=Lib.hid (cc.out.later bW.fr);clear bW;rw[show c4.heap.size=g12 from a6.out];go_wp2_with(refine ah rfl 38 (.tmp 12) _ rfl g12 bs.toArray rfl rfl _ _ G.out ca.out.info ca.out.zero ca.out.one ?_);intro X b8 f8;have HNE:Hid (g10<g11∧g11<g12):=⟨cP.out,by have:=cO.out;omega⟩;have cD:Hid (kK w X len A c bs g4 g7 g8 g9 g10):=a3.out.jQ f8 (fun k L e=>by have g:k=g12:=e;have:=HNE.out;omega) (fun i R e=>by have g:i=g12:=e;have:=HNE.out;have:=a3.out.o4;have:=a3.out.o7;have:=a3.out.o8;have:=a3.out.o9;have:=a3.out.ik;have:=a5.out;omega);have Z:Hid (ak X g11 135 #[.slice none 0 0]):=(M.out.fr cE.out (fun x=>x)).fr f8 (fun e=>by have g:g11=g12:=e;have:=HNE.out;omega);have ac:=Lib.hid b8;clear b8 f8 M G cc a3 cE cO a6 cP;go_wp2_with fail;refine(AR index n X).mono ?_;rintro e Q⟨rfl,aI⟩;have bR:Hid (Fr af X Q):=by subst aI;exact((Fr.refl _ _).alloc _).alloc _
 have bP:Hid (Q.cell? ⟨X.heap.size,0,none⟩=some (.int .i64 index)):=by subst aI;exact((ak.new X 3 #[.int .i64 index]).alloc _).cell 0
 have bQ:Hid (Q.cell? ⟨X.heap.size+1,0,none⟩=some (.int .i64 n)):=by
  subst aI;have h:=(ak.new (X.alloc (.cells #[.int .i64 index] 3)) 3 #[.int .i64 n]).cell 0;rw[show(X.alloc (.cells #[.int .i64 index] 3)).heap.size=X.heap.size+1 by simp]at h;exact h
 have bu:Hid (Q.heap.size=X.heap.size+2):=by subst aI;simp[Hid]
 clear aI;have s:=Lib.hid (cD.out.later bR.out);have aa:=Lib.hid (Z.out.fr bR.out (fun x=>x));have ad:=Lib.hid (ac.out.fr bR.out (fun x=>x));have LT:Hid (g11<Q.heap.size∧g12<Q.heap.size):=⟨aa.out.lt,ad.out.lt⟩;clear cD Z ac bR;generalize X.heap.size=gs at*;go_wp2_with fail;refine(wpIn_wide (n:=6)).1 ?_;refine wpIn_rangeFunc_ownG rfl (by omega) (gf:=157) (lb:=#[.pointer (some ⟨gs,0,none⟩), .pointer (some ⟨gs+1,0,none⟩)]) rfl trivial (enters_of Tryz.func157 (by kernel_rfl) rfl)
  (xj 5 gs (gs+1) index n Q (by have:=bu.out;omega) (by have:=bu.out;omega) bP.out bQ.out cl.out db.out) (fun _ _=>trivial) (fun _ _ _ _ _ _ _ _=>trivial) (Below.refl _ _) (fun _=>rfl)
  (pz Q g11 g12 len leaf path) (fun bU _ W=>Bg Q g8 g9 g10 g11 g12 W∧(bU= .ret∧len<(bw index n).length))
  (pz.gT LT.out.1 LT.out.2) (fun bU=>Bg.gT (by have:=s.out.o9;have:=s.out.ik;have:=HNE.out;have:=LT.out;omega) (by have:=s.out.ik;have:=HNE.out;have:=LT.out;omega) (by have:=HNE.out;have:=LT.out;omega) (bU= .ret∧len<(bw index n).length))
  ⟨Fr.refl _ _,Nat.zero_le _,⟨_,aa.out,⟨rfl, .inl ⟨rfl,rfl⟩⟩,fun k L=>by simp[Value.ownBlock]at L⟩,by rw[DK];rw[cn.out];exact ad.out⟩ ?zA ?assign ?body ?done ?stop;case assign=>
  intro l x W K a8;gi_wp2;exact a8
 case body=>
  rintro dq pre x W bV a9;have cG:=Lib.hid bV;obtain⟨f,hle,⟨v,lK,E,C⟩,aD⟩:=bV;obtain⟨Y,m1,aE,rfl,H1,c9⟩:=aP E;have r:Hid (kK w W len A c bs g4 g7 g8 g9 g10):=s.out.jQ f (fun k L e=>by have g:k=g11∨k=g12:=e;have:=HNE.out;omega) (by rintro i R(rfl|rfl)<;>(have:=HNE.out;have:=a5.out;have:=s.out.o4;have:=s.out.o7;have:=s.out.o8;have:=s.out.o9;have:=s.out.ik;omega));have bS:=Lib.hid f;have M:=Lib.hid lK;have G:=Lib.hid aD;have t:=Lib.hid E;have P:=Lib.hid C;have bg:=Lib.hid hle;have bh:=Lib.hid a9;have U:=lK.cell 0;have bx:=r.out.b7.cell 0;simp only[List.getElem?_toArray,List.getElem?_cons_zero]at U bx;have bT:=Lib.hid (cN.out pre hle);clear f lK aD E C a9 hle bP bQ bu;by_cases L:m1=len
  ·have t1:((m1:Int)==(len:Int))=true:=by rw[beq_iff_eq];omega
   gi_wp2_with(refine bN (Dv 38) rfl (by kernel_rfl) ?_);refine iM rfl 38 rfl ay cC.out ?_;refine ah rfl 38 (.tmp 8) _ rfl g8 ay rfl rfl _ _ r.out.b8 a2.out.info rfl a2.out.one ?_;intro dm b1 f1;refine bE rfl 135 (.tmp 9) _ rfl g9 (.slice none 0 0) rfl rfl rfl _ _ (r.out.b9.fr f1 (fun e=>by have g:g9=g8:=e;have:=r.out.o9;omega)) kY ?_;intro c5 b2 f2;refine bE rfl 34 (.tmp 10) _ rfl g10 (.int .i64 35) rfl rfl rfl _ _ ((r.out.gB.fr f1 (fun e=>by have g:g10=g8:=e;have:=r.out.o9;have:=r.out.ik;omega)).fr f2 (fun e=>by have g:g10=g9:=e;have:=r.out.ik;omega)) oq ?_;intro x3 b3 f3;have bl:=Lib.hid ((b1.fr f2 (fun e=>by have g:g8=g9:=e;have:=r.out.o9;omega)).fr f3 (fun e=>by have g:g8=g10:=e;have:=r.out.o9;have:=r.out.ik;omega));have bm:=Lib.hid (b2.fr f3 (fun e=>by have g:g9=g10:=e;have:=r.out.ik;omega));have aw:=Lib.hid b3;refine⟨?_,rfl⟩;have dc:Hid (KeepsFrom Q.heap.size W x3):=uo (T:=fun k=>k=g8∨k=g9∨k=g10) (((f1.mono (fun i _ e=> .inl e)).trans (f2.mono (fun i _ e=> .inr (.inl e)))).trans (f3.mono (fun i _ e=> .inr (.inr e)))) (by rintro k(rfl|rfl|rfl)<;>(have:=r.out.o9;have:=r.out.ik;have:=HNE.out;have:=LT.out;omega));have aX:Hid (Fr (fun k=>k=g8∨k=g9∨k=g10∨k=g11∨k=g12) Q x3):=(((bS.out.mono (T':=fun k=>k=g8∨k=g9∨k=g10∨k=g11∨k=g12) (fun i _ e=> .inr (.inr (.inr e)))).trans (f1.mono (fun i _ e=> .inl e))).trans (f2.mono (fun i _ e=> .inr (.inl e)))).trans (f3.mono (fun i _ e=> .inr (.inr (.inl e))));clear b1 b2 b3 f1 f2 f3;gi_wp2;exact⟨dc.out,⟨aX.out,bl.out,bm.out,aw.out⟩,rfl,by have:=bh.out;have:=H1.out;omega⟩
  ·have cx:m1<len:=by have:=bg.out;have:=H1.out;omega
   have t1:((m1:Int)==(len:Int))=false:=by rw[beq_eq_false_iff_ne];omega
   have de:(m1:Int)<(len:Int):=by omega
   obtain⟨ba,d,rfl,_,cZ,B,aG⟩:=(da.out.al r.out.fr).at_ cx;have cF:=Lib.hid aG;have bi:=Lib.hid cZ;have p:=bT.out.root;have bk:Hid ((Tryz.prog.info? 38).map (·.size)=some (aq d).length):=by rw[aq,List.length_map,B];exact dZ
   have aR:Hid ((Tryz.prog.info? 38).map (·.size)=some (aq (cW leaf pre path).1).length):=by rw[aq,List.length_map,p];exact dZ
   have ci:Hid (Tryz.prog.built 139 [(0, .agg (aq d).toArray),(1, .agg (aq (cW leaf pre path).1).toArray)]=some (aq d++aq (cW leaf pre path).1).toArray):=rf _ _ (by simp[aq,B]) (by simp[aq,p]);have cj:Hid (Tryz.prog.built 139 [(0, .agg (aq (cW leaf pre path).1).toArray),(1, .agg (aq d).toArray)]=some (aq (cW leaf pre path).1++aq d).toArray):=rf _ _ (by simp[aq,p]) (by simp[aq,B]);have H:Hid (jF (aq d++aq (cW leaf pre path).1)):=jF.of B p;have N:Hid (jF (aq (cW leaf pre path).1++aq d)):=jF.of p B;have a1:Hid (cy (aq (cW leaf pre path).1).toArray):=cy.of p;have aZ:Hid (cy (aq (bX d (cW leaf pre path).1)).toArray):=cy.of (dG _ _);have a0:Hid (cy (aq (bX (cW leaf pre path).1 d)).toArray):=cy.of (dG _ _);have b0:Hid (∀w',Fr af w w'→Calls Tryz.prog 124 #[.agg (aq d++aq (cW leaf pre path).1).toArray] w' (aH w' (.agg (aq (bX d (cW leaf pre path).1)).toArray))):=fun w' f=>rn _ _ B p w' (cH.out.al f);have b6:Hid (∀w',Fr af w w'→Calls Tryz.prog 124 #[.agg (aq (cW leaf pre path).1++aq d).toArray] w' (aH w' (.agg (aq (bX (cW leaf pre path).1 d)).toArray))):=fun w' f=>rn _ _ p B w' (cH.out.al f);have g1:Hid (¬1*i0.size>2^24):=by simp only[Hid];rw[V];omega
   have g2:Hid (¬1*i0.size=0):=by simp only[Hid];rw[V];omega
   generalize bG:aq d=F at*;generalize aF:aq (cW leaf pre path).1=y at*;generalize bD:aq (bX d (cW leaf pre path).1)=NV1 at*;generalize bF:aq (bX (cW leaf pre path).1 d)=NV2 at*;have bf:=Lib.hid bG;have aO:=Lib.hid aF;have cd:=Lib.hid bD;have ce:=Lib.hid bF;clear bG aF bD bF aG cZ B p;gi_wp2;refine mQ 8 139 [fun v=>v= .slice (some ba) len c,fun v=>v= .slice Y m1 aE,fun v=>v= .int .i64 m1,fun v=>v= .pointer (some (ba.add (m1*32))),fun v=>v= .agg F.toArray,fun v=>v= .agg y.toArray,fun v=>v= .agg (F++y).toArray,fun _=>True] [] [(7,dO)] [] (by kernel_rfl) (by kernel_rfl) (by kernel_rfl) (by kernel_rfl) trivial ?_ ?_
   ·refine⟨fun u w' f a z=>?_,fun u w' f a z=>?_,fun u w' f a z=>?_,fun u w' f a z=>?_,fun u w' f a z=>?_,fun u w' f a z=>?_,fun u w' f a z=>?_,fun u w' f a=>?_,trivial⟩;all_goals simp only[List.take_succ_cons,List.take_zero,List.map_cons,List.map_nil,an,Act.put,List.setIfInBounds_toArray,List.set_cons_zero,List.set_cons_succ,Nat.reduceAdd,Nat.zero_add]
    ·clear a z;refine .inl ⟨by kernel_rfl,?_⟩;have q:=f.aj bx (fun x=>x);go_simp;exact⟨_,rfl,rfl,trivial,Fr.refl _ _⟩
    ·clear a z;refine .inl ⟨by kernel_rfl,?_⟩;have q:=f.aj U (fun x=>x);go_simp;exact⟨_,rfl,rfl,trivial,Fr.refl _ _⟩
    ·have bz:u 1=_:=a 1 (by kernel_rfl);clear a z;simp only[bz];refine .inl ⟨by kernel_rfl,?_⟩;go_simp;exact⟨_,rfl,rfl,trivial,Fr.refl _ _⟩
    ·have aM:u 0=_:=a 0 (by kernel_rfl);have cq:u 2=_:=a 2 (by kernel_rfl);clear a z;simp only[aM,cq];refine .inl ⟨by kernel_rfl,?_⟩;go_simp;exact⟨_,rfl,rfl,trivial,Fr.refl _ _⟩
    ·have cr:u 3=_:=a 3 (by kernel_rfl);clear a z;simp only[cr];refine .inl ⟨by kernel_rfl,?_⟩;exact ar _ _ rfl (ba.add (m1*32)) rfl F _ (fun j v cz=>f.aj (cF.out j v cz) (fun x=>x)) Tryz.underlying38 rfl bk.out ⟨_,rfl,rfl,trivial,Fr.refl _ _⟩
    ·clear a z;refine .inl ⟨by kernel_rfl,?_⟩;exact wp_load_mid _ _ rfl g12 0 rfl y _ (cQ (G.out.fr f (fun x=>x))) Tryz.underlying38 rfl aR.out ⟨_,rfl,rfl,trivial,Fr.refl _ _⟩
    ·have cs:u 4=_:=a 4 (by kernel_rfl);have ct:u 5=_:=a 5 (by kernel_rfl);clear a z;simp only[cs,ct];refine .inl ⟨by kernel_rfl,?_⟩;exact rO 139 #[(0, .tmp 41),(1, .tmp 42)] rfl _ (by simp only[List.map_toArray,List.map_cons,List.map_nil];exact ci.out) ⟨_,rfl,rfl,trivial,Fr.refl _ _⟩
    ·clear a;refine .inl ⟨by kernel_rfl,?_⟩;refine iO 139 rfl (.agg dO) IH dO rfl ?_;intro cA n4;exact⟨_,rfl,trivial,trivial,rfl,n4⟩
   ·intro u w' f a bc cv;have bB:u 6=_:=a 6 (by omega);obtain⟨g14,cU,bO,xE⟩:=bc 7 dO (by simp);have aY:ak w' g14 139 dO:=xE;clear a bc cv xE;simp only[List.take_succ_cons,List.take_zero,List.map_cons,List.map_nil,an,Act.put,List.setIfInBounds_toArray,List.set_cons_zero,List.set_cons_succ,List.drop_succ_cons,List.drop_zero,Nat.reduceAdd,Nat.zero_add,bB,cU];refine ah rfl 139 (.tmp 14) _ rfl g14 (F++y).toArray rfl rfl _ _ aY H.out.info (by rw[show dO.size=64 from rfl,List.size_toArray,H.out.len]) H.out.all ?_;intro dk cR cS;have I:Hid (Hi W dk g14 (F++y)):=⟨f.ao cS (fun i R e=>by have g:i=g14:=e;omega),cR,bO⟩;clear f cR cS aY bO bB cU;refine⟨?_,rfl⟩;cases x
    ·have O:=(M.out.fr I.out.fr (fun x=>x)).cell 0;simp only[List.getElem?_toArray,List.getElem?_cons_zero]at O;gi_wp2_with(refine bN (ku 139) rfl (by kernel_rfl) ?_);refine dS rfl 139 (.tmp 14) rfl g14 rfl _ (F++y) I.out.xE _ Tryz.underlying139 rfl H.out.wP ?_;refine wpList_buildSlice rfl 135 139 1 #[(0, .tmp 53)] rfl (F++y).toArray i0 (.agg dO) Tryz.underlying135 aV aW g1.out g2.out ?b3 ?_;case b3=>
      simp only[List.map_toArray,List.map_cons,List.map_nil];rw[V];exact oi _ _ 64 (by rw[List.size_toArray,H.out.len]) (by simp)
     refine cX _ rfl _ _ 135 rfl 139 i0 (.agg dO) 64 64 Tryz.underlying135 aV aW V bK rfl (by omega) _ _ _ rfl (aK t.out I.out.fr (fun _ _ x=>x)) 1 (F++y).toArray _ rfl rfl (by rw[List.size_toArray,H.out.len]) (fun u hu=>H.out.one u (by simpa using hu)) (by have:=bg.out;omega) (by omega) ?_;intro v2 cB a7;have aC:=Lib.hid a7;obtain⟨bY,m2,cp,rfl,_,_⟩:=aP a7.own;clear a7;have aS:Hid (∀k,(Value.slice Y m1 aE).ownBlock=some k→Q.heap.size≤k∧k<W.heap.size):=fun k L=>⟨P.out k L,by
      obtain⟨o,bd,_⟩:=cu t.out L;exact(Array.getElem?_eq_some_iff.1 bd).1⟩;have ab:Hid (ak cB g11 135 #[.slice Y m1 aE]):=(M.out.fr I.out.fr (fun x=>x)).fr aC.out.fr (fun e=>by have:=(aS.out _ e).1;have:=LT.out;omega);refine bE rfl 135 (.tmp 11) _ rfl g11 (.slice bY m2 cp) rfl rfl rfl _ _ ab.out kY ?_;intro y3 b3 f3;have ch:Hid (Fr af w y3):=(((r.out.fr.trans I.out.fr).ao aC.out.fr (fun i R e=>by have:=(aS.out _ e).1;have:=(s.out.fr.size);omega)).ao f3 (fun i R e=>by have g:i=g11:=e;have:=HNE.out;have:=s.out.o4;have:=s.out.o7;have:=s.out.o8;have:=s.out.o9;have:=s.out.ik;have:=a5.out;omega));have a4:Hid (Q.heap.size≤g14):=Nat.le_trans bS.out.size I.out.new;have ap:Hid (ak y3 g14 139 (F++y).toArray):=(I.out.xE.fr aC.out.fr (fun e=>by have:=(aS.out _ e).2;have:=I.out.new;omega)).fr f3 (fun e=>by have g:g14=g11:=e;have:=a4.out;have:=LT.out;omega);have ae:Hid (ak y3 g12 38 y.toArray):=((G.out.fr I.out.fr (fun x=>x)).fr aC.out.fr (fun e=>by have:=(aS.out _ e).1;have:=LT.out;omega)).fr f3 (fun e=>by have g:g12=g11:=e;have:=HNE.out;omega);have bZ:=Lib.hid b3;have cf:=Lib.hid f3;clear b3 f3 O;refine⟨?_,rfl⟩;gi_wp2_with(refine bN (ku 139) rfl (by kernel_rfl) ?_);refine dS rfl 139 (.tmp 14) rfl g14 rfl _ (F++y) ap.out _ Tryz.underlying139 rfl H.out.wP ?_;go_wp2_with fail;refine(b0.out _ ch.out).mono ?_;rintro e y4⟨rfl,f4⟩;have am:=Lib.hid (ae.out.fr f4 (fun x=>x));have cg:=Lib.hid f4;clear f4;go_wp2_with(refine ah rfl 38 (.tmp 12) _ rfl g12 NV1.toArray rfl rfl _ _ am.out aZ.out.info (a1.out.size.trans aZ.out.size.symm) aZ.out.one ?_);intro dn b5 f5;refine⟨?_,rfl⟩;have aB:=pz.step (NV:=NV1) false cG.out LT.out.1 LT.out.2 (by have:=HNE.out;omega) (by have:=H1.out;omega) (by have:=H1.out;rw[←this];exact bi.out) t.out P.out I.out.fr aC.out cf.out bZ.out cg.out f5 b5 (by rw[←bf.out,←aO.out];rfl) (cd.out.symm);exact⟨aB.1,trivial,aB.2⟩
    ·gi_wp2;refine mQ 7 139 [fun v=>v= .agg y.toArray,fun v=>v= .slice (some ba) len c,fun v=>v= .slice Y m1 aE,fun v=>v= .int .i64 m1,fun v=>v= .pointer (some (ba.add (m1*32))),fun v=>v= .agg F.toArray,fun v=>v= .agg (y++F).toArray] [] [] [] (by kernel_rfl) (by kernel_rfl) (by kernel_rfl) (by kernel_rfl) trivial ?_ ?_
     ·refine⟨fun u w' f a z=>?_,fun u w' f a z=>?_,fun u w' f a z=>?_,fun u w' f a z=>?_,fun u w' f a z=>?_,fun u w' f a z=>?_,fun u w' f a z=>?_,trivial⟩;all_goals simp only[List.take_succ_cons,List.take_zero,List.map_cons,List.map_nil,an,Act.put,List.setIfInBounds_toArray,List.set_cons_zero,List.set_cons_succ,Nat.reduceAdd,Nat.zero_add]
      ·clear a z;refine .inl ⟨by kernel_rfl,?_⟩;exact wp_load_mid _ _ rfl g12 0 rfl y _ (cQ (G.out.fr (I.out.fr.trans f) (fun x=>x))) Tryz.underlying38 rfl aR.out ⟨_,rfl,rfl,trivial,Fr.refl _ _⟩
      ·clear a z;refine .inl ⟨by kernel_rfl,?_⟩;have q:=(I.out.fr.trans f).aj bx (fun x=>x);go_simp;exact⟨_,rfl,rfl,trivial,Fr.refl _ _⟩
      ·clear a z;refine .inl ⟨by kernel_rfl,?_⟩;have q:=(I.out.fr.trans f).aj U (fun x=>x);go_simp;exact⟨_,rfl,rfl,trivial,Fr.refl _ _⟩
      ·have cq:u 2=_:=a 2 (by kernel_rfl);clear a z;simp only[cq];refine .inl ⟨by kernel_rfl,?_⟩;go_simp;exact⟨_,rfl,rfl,trivial,Fr.refl _ _⟩
      ·have bz:u 1=_:=a 1 (by kernel_rfl);have cr:u 3=_:=a 3 (by kernel_rfl);clear a z;simp only[bz,cr];refine .inl ⟨by kernel_rfl,?_⟩;go_simp;exact⟨_,rfl,rfl,trivial,Fr.refl _ _⟩
      ·have cs:u 4=_:=a 4 (by kernel_rfl);clear a z;simp only[cs];refine .inl ⟨by kernel_rfl,?_⟩;exact ar _ _ rfl (ba.add (m1*32)) rfl F _ (fun j v cz=>(I.out.fr.trans f).aj (cF.out j v cz) (fun x=>x)) Tryz.underlying38 rfl bk.out ⟨_,rfl,rfl,trivial,Fr.refl _ _⟩
      ·have aM:u 0=_:=a 0 (by kernel_rfl);have ct:u 5=_:=a 5 (by kernel_rfl);clear a z;simp only[aM,ct];refine .inl ⟨by kernel_rfl,?_⟩;exact rO 139 #[(0, .tmp 45),(1, .tmp 50)] rfl _ (by simp only[List.map_toArray,List.map_cons,List.map_nil];exact cj.out) ⟨_,rfl,rfl,trivial,Fr.refl _ _⟩
     ·intro u w' f a bc cv;have bB:u 6=_:=a 6 (by omega);clear a bc cv;simp only[List.take_succ_cons,List.take_zero,List.map_cons,List.map_nil,an,Act.put,List.setIfInBounds_toArray,List.set_cons_zero,List.set_cons_succ,List.drop_succ_cons,List.drop_zero,Nat.reduceAdd,Nat.zero_add,bB];refine ah rfl 139 (.tmp 14) _ rfl g14 (y++F).toArray rfl rfl _ _ (I.out.xE.fr f (fun x=>x)) N.out.info (by rw[List.size_toArray,List.size_toArray,H.out.len,N.out.len]) N.out.all ?_;intro dl bb cT;have aJ:Hid (Hi W dl g14 (y++F)):=⟨(I.out.fr.trans f).ao cT (fun i R e=>by have g:i=g14:=e;have:=I.out.new;omega),bb,I.out.new⟩;clear f bb cT bB I;refine⟨?_,rfl⟩;have O:=(M.out.fr aJ.out.fr (fun x=>x)).cell 0;simp only[List.getElem?_toArray,List.getElem?_cons_zero]at O;gi_wp2_with(refine bN (ku 139) rfl (by kernel_rfl) ?_);refine dS rfl 139 (.tmp 14) rfl g14 rfl _ (y++F) aJ.out.xE _ Tryz.underlying139 rfl N.out.wP ?_;refine wpList_buildSlice rfl 135 139 1 #[(0, .tmp 53)] rfl (y++F).toArray i0 (.agg dO) Tryz.underlying135 aV aW g1.out g2.out ?b3 ?_;case b3=>
       simp only[List.map_toArray,List.map_cons,List.map_nil];rw[V];exact oi _ _ 64 (by rw[List.size_toArray,N.out.len]) (by simp)
      refine cX _ rfl _ _ 135 rfl 139 i0 (.agg dO) 64 64 Tryz.underlying135 aV aW V bK rfl (by omega) _ _ _ rfl (aK t.out aJ.out.fr (fun _ _ x=>x)) 1 (y++F).toArray _ rfl rfl (by rw[List.size_toArray,N.out.len]) (fun u hu=>N.out.one u (by simpa using hu)) (by have:=bg.out;omega) (by omega) ?_;intro v2 cB a7;have aC:=Lib.hid a7;obtain⟨bY,m2,cp,rfl,_,_⟩:=aP a7.own;clear a7;have aS:Hid (∀k,(Value.slice Y m1 aE).ownBlock=some k→Q.heap.size≤k∧k<W.heap.size):=fun k L=>⟨P.out k L,by
       obtain⟨o,bd,_⟩:=cu t.out L;exact(Array.getElem?_eq_some_iff.1 bd).1⟩;have ab:Hid (ak cB g11 135 #[.slice Y m1 aE]):=(M.out.fr aJ.out.fr (fun x=>x)).fr aC.out.fr (fun e=>by have:=(aS.out _ e).1;have:=LT.out;omega);refine bE rfl 135 (.tmp 11) _ rfl g11 (.slice bY m2 cp) rfl rfl rfl _ _ ab.out kY ?_;intro y3 b3 f3;have ch:Hid (Fr af w y3):=(((r.out.fr.trans aJ.out.fr).ao aC.out.fr (fun i R e=>by have:=(aS.out _ e).1;have:=(s.out.fr.size);omega)).ao f3 (fun i R e=>by have g:i=g11:=e;have:=HNE.out;have:=s.out.o4;have:=s.out.o7;have:=s.out.o8;have:=s.out.o9;have:=s.out.ik;have:=a5.out;omega));have a4:Hid (Q.heap.size≤g14):=Nat.le_trans bS.out.size aJ.out.new;have ap:Hid (ak y3 g14 139 (y++F).toArray):=(aJ.out.xE.fr aC.out.fr (fun e=>by have:=(aS.out _ e).2;have:=aJ.out.new;omega)).fr f3 (fun e=>by have g:g14=g11:=e;have:=a4.out;have:=LT.out;omega);have ae:Hid (ak y3 g12 38 y.toArray):=((G.out.fr aJ.out.fr (fun x=>x)).fr aC.out.fr (fun e=>by have:=(aS.out _ e).1;have:=LT.out;omega)).fr f3 (fun e=>by have g:g12=g11:=e;have:=HNE.out;omega);have bZ:=Lib.hid b3;have cf:=Lib.hid f3;clear b3 f3 O;refine⟨?_,rfl⟩;gi_wp2_with(refine bN (ku 139) rfl (by kernel_rfl) ?_);refine dS rfl 139 (.tmp 14) rfl g14 rfl _ (y++F) ap.out _ Tryz.underlying139 rfl N.out.wP ?_;go_wp2_with fail;refine(b6.out _ ch.out).mono ?_;rintro e y4⟨rfl,f4⟩;have am:=Lib.hid (ae.out.fr f4 (fun x=>x));have cg:=Lib.hid f4;clear f4;go_wp2_with(refine ah rfl 38 (.tmp 12) _ rfl g12 NV2.toArray rfl rfl _ _ am.out a0.out.info (a1.out.size.trans a0.out.size.symm) a0.out.one ?_);intro dn b5 f5;refine⟨?_,rfl⟩;have aB:=pz.step (NV:=NV2) true cG.out LT.out.1 LT.out.2 (by have:=HNE.out;omega) (by have:=H1.out;omega) (by have:=H1.out;rw[←this];exact bi.out) t.out P.out aJ.out.fr aC.out cf.out bZ.out cg.out f5 b5 (by rw[←bf.out,←aO.out];rfl) (ce.out.symm);exact⟨aB.1,trivial,aB.2⟩
 case done=>
  rintro D xs W aT rfl bV a8;obtain⟨f,hle,⟨v,lK,E,C⟩,aD⟩:=bV;obtain⟨Y,m1,aE,rfl,H1,c9⟩:=aP E;have r:Hid (kK w W len A c bs g4 g7 g8 g9 g10):=s.out.jQ f (fun k L e=>by have g:k=g11∨k=g12:=e;have:=HNE.out;omega) (by rintro i R(rfl|rfl)<;>(have:=HNE.out;have:=a5.out;have:=s.out.o4;have:=s.out.o7;have:=s.out.o8;have:=s.out.o9;have:=s.out.ik;omega));have bS:=Lib.hid f;have M:=Lib.hid lK;have G:=Lib.hid aD;have t:=Lib.hid E;have P:=Lib.hid C;have bg:=Lib.hid hle;have ck:=Lib.hid aT;have av:=Lib.hid a8;have U:=lK.cell 0;have bx:=r.out.b7.cell 0;simp only[List.getElem?_toArray,List.getElem?_cons_zero]at U bx;have bT:=Lib.hid (cN.out (bw index n) hle);clear f lK aD E C hle bP bQ bu aT a8;have b:Hid (w.heap.size≤g8∧g8<g9∧g9<g10∧g10<D):=by
   have:=HNE.out;have:=a5.out;have:=r.out.o4;have:=r.out.o7;have:=r.out.o8;have:=r.out.o9;have:=r.out.ik;have:=LT.out;have:=ck.out;simp only[Hid];omega
  by_cases L:m1<len
  ·have t1:decide ((m1:Int)<(len:Int))=true:=decide_eq_true (by omega);go_upto_region 15 with fail;refine wp_region_lit ?_;refine iM rfl 38 rfl ay cC.out ?_;refine ah rfl 38 (.tmp 8) _ rfl g8 ay rfl rfl _ _ r.out.b8 a2.out.info rfl a2.out.one ?_;intro dm b1 f1;refine bE rfl 135 (.tmp 9) _ rfl g9 (.slice none 0 0) rfl rfl rfl _ _ (r.out.b9.fr f1 (fun e=>by have g:g9=g8:=e;have:=r.out.o9;omega)) kY ?_;intro c5 b2 f2;refine bE rfl 34 (.tmp 10) _ rfl g10 (.int .i64 35) rfl rfl rfl _ _ ((r.out.gB.fr f1 (fun e=>by have g:g10=g8:=e;have:=r.out.o9;have:=r.out.ik;omega)).fr f2 (fun e=>by have g:g10=g9:=e;have:=r.out.ik;omega)) oq ?_;intro x3 b3 f3;have bl:=Lib.hid ((b1.fr f2 (fun e=>by have g:g8=g9:=e;have:=r.out.o9;omega)).fr f3 (fun e=>by have g:g8=g10:=e;have:=r.out.o9;have:=r.out.ik;omega));have bm:=Lib.hid (b2.fr f3 (fun e=>by have g:g9=g10:=e;have:=r.out.ik;omega));have aw:=Lib.hid b3;have aX:Hid (Fr (fun k=>k=g8∨k=g9∨k=g10) W x3):=((f1.mono (T':=fun k=>k=g8∨k=g9∨k=g10) (fun i _ e=> .inl e)).trans (f2.mono (fun i _ e=> .inr (.inl e)))).trans (f3.mono (fun i _ e=> .inr (.inr e)));have br:Hid (x3.heap[D]? =some (.deferred (some []))):=(aX.out.block D (Array.getElem?_eq_some_iff.1 av.out).1 (by have:=b.out;omega)).trans av.out;clear b1 b2 b3 f1 f2 f3;have J:Fr (fun k=>some k=some D) x3 (x3.putObj D (.deferred none)):=Fr.grown (grownBy_putObj' x3 D _);have bn:Hid (Fr af w (x3.putObj D (.deferred none))):=(r.out.fr.ao aX.out (fun i R e=>by have:=b.out;omega)).ao J (fun i R e=>by have g:i=D:=(by simpa using e);have:=b.out;omega);have bo:=Lib.hid (bl.out.fr J (fun e=>by have g:g8=D:=(by simpa using e);have:=b.out;omega));have bq:=Lib.hid (bm.out.fr J (fun e=>by have g:g9=D:=(by simpa using e);have:=b.out;omega));have ax:=Lib.hid (aw.out.fr J (fun e=>by have g:g10=D:=(by simpa using e);have:=b.out;omega));have bt:=Lib.hid (jn.none (k:=35) bn.out);rw[aL,show ft.map aU=aq ft from rfl,co.out]at bt;have bv:Hid (bL leaf index n path=(ft,[],35)):=by
    simp only[Hid];rw[NV.out,if_neg (by rw[PL.out];have:=H1.out;omega)]
   clear J;go_wp2;refine⟨by simp, .inl ⟨_,_,rfl,run_takeDeferred br.out,?_⟩⟩;exact⟨_,gH _ _ g8 g9 g10 ay _ 35 rfl rfl rfl bo.out a2.out.info bq.out ax.out,by rw[bv.out];exact bt.out⟩
  ·have t1:decide ((m1:Int)<(len:Int))=false:=decide_eq_false (by omega);have p:=bT.out.root;have aR:Hid ((Tryz.prog.info? 38).map (·.size)=some (aq (cW leaf (bw index n) path).1).length):=by rw[aq,List.length_map,p];exact dZ
   have a1:Hid (cy (aq (cW leaf (bw index n) path).1).toArray):=cy.of p;have bv:Hid (bL leaf index n path=((cW leaf (bw index n) path).1,(cW leaf (bw index n) path).2,0)):=by
    simp only[Hid];rw[NV.out,if_pos (by rw[PL.out];have:=H1.out;have:=bg.out;omega)]
   generalize aF:aq (cW leaf (bw index n) path).1=y at*;have aO:=Lib.hid aF;clear aF p;go_upto_region 16 with fail;refine aA 3 (fun k=>k=g8) [Is (.agg y.toArray),Is (.slice Y m1 aE),fun _ _=>True] [(2,fun w'=>ak w' g8 38 y.toArray)] (fun w'=>ak w' g8 38 ay) (fun _ _=>false) (by kernel_rfl) (by kernel_rfl) (by kernel_rfl) (by kernel_rfl) ⟨Is.ag _,Is.ag _,fun _ _ _ _ _ h=>h,trivial⟩ ⟨fun _ _ _ f h=>h.fr f (fun x=>x),trivial⟩ (fun _ _ _ f h=>h.fr f (fun x=>x)) r.out.b8 ?_ ?_
   ·refine⟨fun u w' d f a bM be aN=>?_,fun u w' d f a bM be aN=>?_,fun u w' d f a bM be aN=>?_,trivial⟩;all_goals simp only[List.take_succ_cons,List.take_zero,List.map_cons,List.map_nil,an,Act.put,List.setIfInBounds_toArray,List.set_cons_zero,List.set_cons_succ,Nat.reduceAdd,Nat.zero_add]
    ·clear a bM be aN;refine .inl ⟨by kernel_rfl,?_⟩;exact wp_load_mid _ _ rfl g12 0 rfl y _ (cQ (G.out.fr f (fun e=>by have g:g12=g8:=e;have:=b.out;have:=HNE.out;omega))) Tryz.underlying38 rfl aR.out ⟨_,rfl,Fr.refl _ _,rfl,trivial⟩
    ·clear a bM be aN;refine .inl ⟨by kernel_rfl,?_⟩;have q:=f.aj U (fun e=>by have g:g11=g8:=e;have:=b.out;have:=HNE.out;omega);go_simp;exact⟨_,rfl,Fr.refl _ _,rfl,trivial⟩
    ·have aM:u 0=_:=a 0 (by kernel_rfl);clear a;simp only[aM];refine .inl ⟨by kernel_rfl,?_⟩;have bc:ak w' g8 38 ay:=by rw[cI,if_neg (by rw[be 2 (by kernel_rfl)];exact Bool.false_ne_true)]at aN;exact aN
     clear bM be aN;refine j6 38 (.tmp 8) (.tmp 64) rfl g8 y.toArray rfl rfl _ _ bc a1.out.info a1.out.zero a1.out.one ?_;intro cA b4 f4;exact⟨_,rfl,f4,trivial,b4⟩
   ·intro u w' f a aN;have aM:u 0=_:=a 0 (by omega);have bz:u 1=_:=a 1 (by omega);clear a;have c0:ak w' g8 38 y.toArray:=aN;clear aN;simp only[List.take_succ_cons,List.take_zero,List.map_cons,List.map_nil,an,Act.put,List.setIfInBounds_toArray,List.set_cons_zero,List.set_cons_succ,List.drop_succ_cons,List.drop_zero,Nat.zero_add,aM,bz];refine bE rfl 135 (.tmp 9) _ rfl g9 (.slice Y m1 aE) rfl rfl rfl _ _ (r.out.b9.fr f (fun e=>by have g:g9=g8:=e;have:=b.out;omega)) kY ?_;intro c5 b2 f2;refine bE rfl 34 (.tmp 10) _ rfl g10 (.int .i64 0) rfl rfl rfl _ _ ((r.out.gB.fr f (fun e=>by have g:g10=g8:=e;have:=b.out;omega)).fr f2 (fun e=>by have g:g10=g9:=e;have:=b.out;omega)) oq ?_;intro x3 b3 f3;have bl:=Lib.hid ((c0.fr f2 (fun e=>by have g:g8=g9:=e;have:=b.out;omega)).fr f3 (fun e=>by have g:g8=g10:=e;have:=b.out;omega));have bm:=Lib.hid (b2.fr f3 (fun e=>by have g:g9=g10:=e;have:=b.out;omega));have aw:=Lib.hid b3;have aX:Hid (Fr (fun k=>k=g8∨k=g9∨k=g10) W x3):=((f.mono (T':=fun k=>k=g8∨k=g9∨k=g10) (fun i _ e=> .inl e)).trans (f2.mono (fun i _ e=> .inr (.inl e)))).trans (f3.mono (fun i _ e=> .inr (.inr e)));have br:Hid (x3.heap[D]? =some (.deferred (some []))):=(aX.out.block D (Array.getElem?_eq_some_iff.1 av.out).1 (by have:=b.out;omega)).trans av.out;clear c0 b2 b3 f f2 f3;have J:Fr (fun k=>some k=some D) x3 (x3.putObj D (.deferred none)):=Fr.grown (grownBy_putObj' x3 D _);have bn:Hid (Fr af w (x3.putObj D (.deferred none))):=(r.out.fr.ao aX.out (fun i R e=>by have:=b.out;omega)).ao J (fun i R e=>by have g:i=D:=(by simpa using e);have:=b.out;omega);have bo:=Lib.hid (bl.out.fr J (fun e=>by have g:g8=D:=(by simpa using e);have:=b.out;omega));have bq:=Lib.hid (bm.out.fr J (fun e=>by have g:g9=D:=(by simpa using e);have:=b.out;omega));have ax:=Lib.hid (aw.out.fr J (fun e=>by have g:g10=D:=(by simpa using e);have:=b.out;omega));have dd:Hid ((x3.putObj D (.deferred none)).ownsRow 0 139 64 (.slice Y m1 aE) (bw index n).length ((cW leaf (bw index n) path).2.flatMap mz)):=
     aK (aK t.out aX.out (fun k L e=>by have:=P.out k L;have:=b.out;have:=LT.out;have:=HNE.out;omega)) J (fun k L e=>by
      have g:k=D:=by simpa using e
      subst g;obtain⟨o,bd,df⟩:=cu t.out L;rw[av.out]at bd;cases bd;cases df);have c8:=Lib.hid bT.out.count;clear J;go_wp2;refine⟨by simp, .inl ⟨_,_,rfl,run_takeDeferred br.out,?_⟩⟩;refine⟨_,gH _ _ g8 g9 g10 y.toArray _ 0 rfl rfl rfl bo.out a1.out.info bq.out ax.out,?_⟩;rw[bv.out];refine⟨.slice Y m1 aE,?_,⟨?_,bn.out.bA,fun k L=> .inr (Nat.le_trans s.out.fr.size (P.out k L))⟩⟩;·rw[←aO.out];rfl
    ·simp only;rw[c8.out];exact dd.out
 case stop=>
  rintro D bU pre W aT _⟨bH,rfl,a9⟩a8;have b:Hid (w.heap.size≤g8∧g8<g9∧g9<g10∧g10<g11∧g11<g12∧g12<D):=by
   have:=HNE.out;have:=a5.out;have:=s.out.o4;have:=s.out.o7;have:=s.out.o8;have:=s.out.o9;have:=s.out.ik;have:=LT.out;simp only[Hid];omega
  have br:=Lib.hid a8;have J:Fr (fun k=>some k=some D) W (W.putObj D (.deferred none)):=Fr.grown (grownBy_putObj' W D _);have bn:Hid (Fr af w (W.putObj D (.deferred none))):=(s.out.fr.ao bH.fr (fun i R e=>by have:=b.out;omega)).ao J (fun i R e=>by have g:i=D:=(by simpa using e);have:=b.out;omega);have bo:=Lib.hid (bH.b8.fr J (fun e=>by have g:g8=D:=(by simpa using e);have:=b.out;omega));have bq:=Lib.hid (bH.b9.fr J (fun e=>by have g:g9=D:=(by simpa using e);have:=b.out;omega));have ax:=Lib.hid (bH.gB.fr J (fun e=>by have g:g10=D:=(by simpa using e);have:=b.out;omega));have bt:=Lib.hid (jn.none (k:=35) bn.out);rw[aL,show ft.map aU=aq ft from rfl,co.out]at bt;have bv:Hid (bL leaf index n path=(ft,[],35)):=by
   simp only[Hid];rw[NV.out,if_neg (by rw[PL.out];omega)]
  clear J bH a8 bP bQ bu;gi_wp2;refine⟨by simp, .inl ⟨_,_,rfl,run_takeDeferred br.out,?_⟩⟩;exact⟨_,gH _ _ g8 g9 g10 ay _ 35 rfl rfl rfl bo.out a2.out.info bq.out ax.out,by rw[bv.out];exact bt.out⟩
end Go.Proofs.YtphjagkehiklkaaGreatDoor.Lt
