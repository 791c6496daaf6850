/- Texts. -/
import Derived.Test.YtphjagkehiklkaaGreatDoorYK15
set_option linter.unusedVariables false
set_option linter.unusedSimpArgs false
set_option maxRecDepth 100000
set_option maxHeartbeats 4000000
namespace Go.Proofs.YtphjagkehiklkaaGreatDoor.Lt
open Go.RowKit Go.Shelf
attribute[local go_sem]Oper.semAt_some
def bw(index n:Nat):List Bool:=
 if a:2≤n∧aM n<n∧1≤aM n then
  (if index<aM n then bw index (aM n)++[true]else bw (index-aM n) (n-aM n)++[false])
 else[]
termination_by n
decreasing_by all_goals omega
theorem ti(index:Nat):bw index 1=[]:=by rw[bw,dif_neg (by omega)]
theorem rC{index n:Nat}(b:2≤n)(d:n≤1099511627776)(h:index<aM n):bw index n=bw index (aM n)++[true]:=by
 obtain⟨a,_,c⟩:=dB n b d;rw[bw,dif_pos ⟨b,a,c⟩,if_pos h]
theorem pR{index n:Nat}(b:2≤n)(d:n≤1099511627776)(h:¬index<aM n):bw index n=bw (index-aM n) (n-aM n)++[false]:=by
 obtain⟨a,_,c⟩:=dB n b d;rw[bw,dif_pos ⟨b,a,c⟩,if_neg h]
theorem RoundIn.jM{F:Fence}(a:F.depth=none){m b:Nat}{P:Program}{l:Nat}{f:FuncId}{tmps:Array Value}{assign body:Code}{w:World}{e:Ending→World→Prop}
  (h:RoundIn F m P l f tmps assign body w e):RoundIn F b P l f tmps assign body w e:=⟨h.1,fun c cs _=>h.2 c cs (fun d h=>by rw[a]at h;cases h)⟩
theorem YieldAt.jM{F:Fence}(b:F.depth=none){m:Nat}(d:Nat){P:Program}{l:Nat}{args:Array Value}{W:World}{e:Ending→World→Prop}(h:YieldAt F m P l args W e):YieldAt F d P l args W e:=by
 obtain⟨fn,tmps,assign,body,c,a⟩:=h;exact⟨fn,tmps,assign,body,c,RoundIn.jM b a⟩
def Hi(b a:List Bool→World→Prop)(pre xs:List Bool)(e:Ending)(W':World):Prop:=
 (e= .returned (.bool true)∧b (pre++xs) W')∨(e= .returned (.bool false)∧∃q,q<+:xs∧a (pre++q) W')
theorem Fp(l N:Nat)(J g:List Bool→World→Prop)
  (y:∀m pre x W,J pre W→pre.length<N→YieldAt Fence.wide m Tryz.prog l #[.bool x] W fun e W'=>(e= .returned (.bool true)∧J (pre++[x]) W')∨(e= .returned (.bool false)∧g (pre++[x]) W'))(n:Nat):
  ∀(m index:Nat)(pre:List Bool)(W:World),index<n→n≤1048576→J pre W→pre.length+(bw index n).length≤N→
   CallsIn Fence.wide m Tryz.prog 158 #[.int .i64 index, .int .i64 n, .func (.yield l) #[] #[]] W (Hi J g pre (bw index n)):=by
 induction n using Nat.strongRecOn with
 |_ n z=>
  intro m index pre W D G j i;have b:∀k:Nat,(Fence.wide.depth.isSome=true→1≤k):=fun k h=>by cases h
  by_cases e:n=1;·subst e;rw[ti];refine callsIn_of_wp Tryz.func158 rfl trivial ?_ rfl;simp only[Tryz.ntmps158,List.size_toArray,List.length_cons,List.length_nil,Nat.reduceAdd,Nat.reduceSub,Array.replicate_succ,Array.replicate_zero,List.push_toArray,List.append_toArray,List.nil_append,List.cons_append];gi_wp2;go_ret;exact .inl ⟨rfl,by simpa using j⟩
  ·obtain⟨F,_,H⟩:=dB n (by omega) (by omega);have v:=af (fun w=>mF n w (by omega) (by omega));have t1:((n:Int)==1)=false:=by rw[beq_eq_false_iff_ne];omega
   by_cases hm:index<aM n
   ·have t2:decide ((index:Int)<((aM n:Nat):Int))=true:=dJ (by omega);have t:=rC (by omega) (by omega) hm;rw[t]at i⊢;rw[aY]at i;have d:∀a,J (pre++bw index (aM n)) a→YieldAt Fence.wide (m-1) Tryz.prog l #[.bool true] a fun e c=>
      (e= .returned (.bool true)∧J (pre++bw index (aM n)++[true]) c)∨(e= .returned (.bool false)∧g (pre++bw index (aM n)++[true]) c):=fun a o=>
     y (m-1) _ true a o (by simp at i⊢;omega);have f:=af (fun W(j:J pre W)=>(z (aM n) F (m-1) index pre W hm (by omega) j (by omega)).mono (R':=fun e a=>
      (e= .returned (.bool true)∧YieldAt Fence.wide (m-1) Tryz.prog l #[.bool true] a fun e c=>
       (e= .returned (.bool true)∧J (pre++bw index (aM n)++[true]) c)∨(e= .returned (.bool false)∧g (pre++bw index (aM n)++[true]) c))∨
      (e= .returned (.bool false)∧∃q,q<+:bw index (aM n)∧g (pre++q) a))
     (fun e a h=>h.elim (fun⟨he,B⟩=> .inl ⟨he,d a B⟩) .inr));clear d z y t i;generalize A:bw index (aM n)=S at*;clear A;generalize aM n=k at*;refine callsIn_of_wp Tryz.func158 rfl trivial ?_ rfl;simp only[Tryz.ntmps158,List.size_toArray,List.length_cons,List.length_nil,Nat.reduceAdd,Nat.reduceSub,Array.replicate_succ,Array.replicate_zero,List.push_toArray,List.append_toArray,List.nil_append,List.cons_append]
    gi_wp2_with(first
     |((try refine⟨trivial,b _,?_⟩);gi_at_call 121;refine(callsIn_wide.2 (v.out _)).mono ?_;clear v;rintro e w1⟨rfl,rfl⟩)
     |((try refine⟨trivial,b _,?_⟩);gi_at_call 158;refine(f.out _ j).mono ?_;clear f;rintro e a(⟨rfl,fn,tmps,assign,body,E,u⟩|⟨rfl,q,C,r⟩))
     |((try refine⟨b _,?_⟩);(try refine⟨trivial,b _,?_⟩);refine u.mono ?_;clear u;rintro e c(⟨rfl,p⟩|⟨rfl,s⟩)));·go_ret;exact .inl ⟨rfl,by simpa[List.append_assoc]using p⟩
    ·go_ret;exact .inr ⟨rfl,S++[true],List.prefix_refl _,by simpa[List.append_assoc]using s⟩
    ·refine⟨fun _ h=>(by cases h),?_⟩;gi_wp2;go_ret;exact .inr ⟨rfl,q,C.trans (List.prefix_append _ _),r⟩
   ·have t2:decide ((index:Int)<((aM n:Nat):Int))=false:=cN (by omega);have t:=pR (by omega) (by omega) hm;rw[t]at i⊢;rw[aY]at i;have s1:(index:Int)-((aM n:Nat):Int)=((index-aM n:Nat):Int):=by omega
    have s2:(n:Int)-((aM n:Nat):Int)=((n-aM n:Nat):Int):=by omega
    have d:∀a,J (pre++bw (index-aM n) (n-aM n)) a→YieldAt Fence.wide (m-1) Tryz.prog l #[.bool false] a fun e c=>
      (e= .returned (.bool true)∧J (pre++bw (index-aM n) (n-aM n)++[false]) c)∨(e= .returned (.bool false)∧g (pre++bw (index-aM n) (n-aM n)++[false]) c):=fun a o=>
     y (m-1) _ false a o (by simp at i⊢;omega);have f:=af (fun W(j:J pre W)=>(z (n-aM n) (by omega) (m-1) (index-aM n) pre W (by omega) (by omega) j (by omega)).mono (R':=fun e a=>
      (e= .returned (.bool true)∧YieldAt Fence.wide (m-1) Tryz.prog l #[.bool false] a fun e c=>
       (e= .returned (.bool true)∧J (pre++bw (index-aM n) (n-aM n)++[false]) c)∨(e= .returned (.bool false)∧g (pre++bw (index-aM n) (n-aM n)++[false]) c))∨
      (e= .returned (.bool false)∧∃q,q<+:bw (index-aM n) (n-aM n)∧g (pre++q) a))
     (fun e a h=>h.elim (fun⟨he,B⟩=> .inl ⟨he,d a B⟩) .inr));clear d z y t i;generalize A:bw (index-aM n) (n-aM n)=S at*;clear A;have b1:index-aM n≤1048576:=by omega
    have b2:n-aM n≤1048576:=by omega
    generalize index-aM n=i2 at*;generalize n-aM n=I at*;generalize aM n=k at*;refine callsIn_of_wp Tryz.func158 rfl trivial ?_ rfl;simp only[Tryz.ntmps158,List.size_toArray,List.length_cons,List.length_nil,Nat.reduceAdd,Nat.reduceSub,Array.replicate_succ,Array.replicate_zero,List.push_toArray,List.append_toArray,List.nil_append,List.cons_append]
    gi_wp2_with(first
     |((try refine⟨trivial,b _,?_⟩);gi_at_call 121;refine(callsIn_wide.2 (v.out _)).mono ?_;clear v;rintro e w1⟨rfl,rfl⟩)
     |((try refine⟨trivial,b _,?_⟩);gi_at_call 158;refine(f.out _ j).mono ?_;clear f;rintro e a(⟨rfl,fn,tmps,assign,body,E,u⟩|⟨rfl,q,C,r⟩))
     |((try refine⟨b _,?_⟩);(try refine⟨trivial,b _,?_⟩);refine u.mono ?_;clear u;rintro e c(⟨rfl,p⟩|⟨rfl,s⟩)));·go_ret;exact .inl ⟨rfl,by simpa[List.append_assoc]using p⟩
    ·go_ret;exact .inr ⟨rfl,S++[false],List.prefix_refl _,by simpa[List.append_assoc]using s⟩
    ·refine⟨fun _ h=>(by cases h),?_⟩;gi_wp2;go_ret;exact .inr ⟨rfl,q,C.trans (List.prefix_append _ _),r⟩
theorem yV(m c d index n:Nat)(w:World)(y:c<w.heap.size)(B:d<w.heap.size)(ci:w.cell? ⟨c,0,none⟩=some (.int .i64 index))(t:w.cell? ⟨d,0,none⟩=some (.int .i64 n))(i:index<n)(j:n≤1048576):
  SeqStopsK Fence.wide m Tryz.prog 157 #[.pointer (some ⟨c,0,none⟩), .pointer (some ⟨d,0,none⟩)] (fun x:Bool=>#[Value.bool x]) (fun _ _=>True) (fun E=>E=bw index n) (fun pre=>pre<+:bw index n) (bw index n).length w:=by
 intro l I s W o _ _ v u;have g:∀k:Nat,(Fence.wide.depth.isSome=true→1≤k):=fun k h=>by cases h
 have r:=Fp l (bw index n).length I s (fun m pre x W z A=>YieldAt.jM rfl m (YieldAt.mono (v pre x W z A) fun e W' h=>h.elim (fun⟨a,b,_⟩=> .inl ⟨a,b⟩) .inr)) n (m-1) index [] W i j u (by simp);have G:=(o.cell (p:=⟨c,0,none⟩) y).trans ci;have H:=(o.cell (p:=⟨d,0,none⟩) B).trans t;refine callsIn_of_wp Tryz.func157 rfl trivial ?_ rfl;simp only[Tryz.ntmps157,List.size_toArray,List.length_cons,List.length_nil,Nat.reduceAdd,Nat.reduceSub,Array.replicate_succ,Array.replicate_zero,List.push_toArray,List.append_toArray,List.nil_append,List.cons_append];gi_wp2_with((try refine⟨trivial,g _,?_⟩);gi_at_call 158;refine r.mono ?_;clear r;rintro e F(⟨rfl,f⟩|⟨rfl,q,C,D⟩));·go_end0;exact⟨⟨_,rfl⟩, .inl ⟨_,rfl,by simpa using f⟩⟩
 ·go_end0;exact⟨⟨_,rfl⟩, .inr ⟨q,C,by simpa using D⟩⟩
theorem DJ(index n:Int)(w:World):Calls Tryz.prog 123 #[.int .i64 index, .int .i64 n] w fun e w'=>e= .returned (.func (.func 157) #[] #[.pointer (some ⟨w.heap.size,0,none⟩), .pointer (some ⟨w.heap.size+1,0,none⟩)])∧w'=(w.alloc (.cells #[.int .i64 index] 3)).alloc (.cells #[.int .i64 n] 3):=by
 go_enter Tryz.func123,Tryz.ntmps123;go_wp2;go_ret;exact⟨rfl,rfl⟩
end Go.Proofs.YtphjagkehiklkaaGreatDoor.Lt
namespace Go.Proofs.YtphjagkehiklkaaGreatDoor.Lt
open Go.RowKit
def mI(s:List UInt8×List (List UInt8×List UInt8))(b:Bool)(d:List UInt8):List UInt8×List (List UInt8×List UInt8):=
 (cF (if b then s.1 else d) (if b then d else s.1),s.2++[(if b then s.1 else d,if b then d else s.1)])
def cg(leaf:List UInt8)(pre:List Bool)(path:List (List UInt8)):List UInt8×List (List UInt8×List UInt8):=(pre.zip path).foldl (fun s x=>mI s x.1 x.2) (leaf,[])
theorem GM(leaf:List UInt8)(path:List (List UInt8)):cg leaf [] path=(leaf,[]):=rfl
theorem xM:∀(pre:List Bool)(path:List (List UInt8))(b:Bool)(d:List UInt8),path[pre.length]? =some d→(pre++[b]).zip path=pre.zip path++[(b,d)]
 |[],d'::path,b,d,h=>by simp at h;simp[h]
 |[],[],b,d,h=>by simp at h
 |x::pre,[],b,d,h=>by simp at h
 |x::pre,y::path,b,d,h=>by
  have a:path[pre.length]? =some d:=by simpa using h
  simp[xM pre path b d a]
theorem jn(leaf:List UInt8)(pre:List Bool)(path:List (List UInt8))(b:Bool)(d:List UInt8)(h:path[pre.length]? =some d):cg leaf (pre++[b]) path=mI (cg leaf pre path) b d:=by
 unfold cg;rw[xM pre path b d h,List.foldl_append];rfl
structure xW(s:List UInt8×List (List UInt8×List UInt8))(n:Nat):Prop where
 root:s.1.length=32
 count:s.2.length=n
 each:∀p∈s.2,p.1.length=32∧p.2.length=32
theorem xW.step{s:List UInt8×List (List UInt8×List UInt8)}{n:Nat}(h:xW s n)(b:Bool)(d:List UInt8)(c:d.length=32):xW (mI s b d) (n+1):=by
 refine⟨eC _ _,by simp[mI,h.count],fun p a=>?_⟩;simp only[mI,List.mem_append,List.mem_singleton]at a;rcases a with a|rfl;·exact h.each p a
 ·cases b;·exact⟨c,h.root⟩
  ·exact⟨h.root,c⟩
theorem jA(leaf:List UInt8)(e:leaf.length=32)(path:List (List UInt8))(he:∀d∈path,d.length=32):∀(k:Nat)(pre:List Bool),pre.length=k→k≤path.length→xW (cg leaf pre path) k
 |0,pre,h,_=>by
  obtain rfl:=List.eq_nil_of_length_eq_zero h;exact⟨e,rfl,fun p f=>by cases f⟩
 |k+1,pre,h,g=>by
  rcases List.eq_nil_or_concat pre with rfl|⟨c,b,rfl⟩;·simp at h
  ·rw[List.concat_eq_append]at h⊢;rw[aY,List.length_singleton]at h;have a:c.length<path.length:=by omega
   rw[jn leaf c path b path[c.length] (List.getElem?_eq_getElem a)];exact(jA leaf e path he k c (by omega) (by omega)).step b _ (he _ (List.getElem_mem a))
def dR(p:List UInt8×List UInt8):List Value:=ar p.1++ar p.2
theorem mH{p:List UInt8×List UInt8}(h:p.1.length=32∧p.2.length=32):(dR p).length=64:=by simp[dR,ar,h.1,h.2]
theorem pk(d:List UInt8):∀u∈ar d,u.oneCell'=true:=fun u hu=>jx d u hu
theorem Dj(p:List UInt8×List UInt8):∀u∈dR p,u.oneCell'=true:=fun u hu=>by
 rcases List.mem_append.1 hu with h|h;·exact pk _ u h
 ·exact pk _ u h
def bj(leaf:List UInt8)(index n:Int)(path:List (List UInt8)):List UInt8×List (List UInt8×List UInt8)×Int:=
 if 1≤n∧n≤1048576∧0≤index∧index<n then
  (if path.length=(bw index.toNat n.toNat).length then((cg leaf (bw index.toNat n.toNat) path).1,(cg leaf (bw index.toNat n.toNat) path).2,0)else(gC,[],35))
 else(gC,[],2)
theorem Dt{w:World}{g:Nat}{t:TypeId}{L d:List Value}(h:ao w g t (L++d).toArray)(c:L.length=32):w.rangeAt g 0 L∧w.rangeAt g 32 d:=by
 refine⟨fun j v a=>?_,fun j v a=>?_⟩;·have b:=(List.getElem?_eq_some_iff.1 a).1;rw[Nat.zero_add,h.cell,bD,List.getElem?_append_left b];exact a
 ·rw[h.cell,bD,List.getElem?_append_right (by omega),c,show 32+j-32=j by omega];exact a
theorem sP(l r:List UInt8)(b:l.length=32)(g:r.length=32)(w:World)(n:bH w):Calls Tryz.prog 124 #[.agg (ar l++ar r).toArray] w (aK w (aP (cF l r))):=by
 have h:Hid (∀w',Fr ag w w'→Calls Tryz.prog 122 #[.agg (ar l).toArray, .agg (ar r).toArray] w' (aK w' (.agg (ar (cF l r)).toArray))):=fun w' G=>kW l r b g w' (n.aq G);have D:Hid (cX (ar (cF l r)).toArray):=cX.of (eC l r);have c:Hid ((ar l).length=32):=by simp[Hid,ar,b]
 have A:Hid ((Tryz.prog.info? 38).map (·.size)=some (ar l).length):=by rw[ar,List.length_map,b];exact ef
 have B:Hid ((Tryz.prog.info? 38).map (·.size)=some (ar r).length):=by rw[ar,List.length_map,g];exact ef
 unfold aP;change Calls _ _ _ _ (aK w (.agg (ar (cF l r)).toArray));clear n b g;generalize ar (cF l r)=NV at*;generalize ar l=k at*;generalize ar r=m at*;have ty:=Tryz.underlying38;go_enter Tryz.func124,Tryz.ntmps124;go_wp2_with(refine ay rfl 139 (.tmp 0) rfl _ rfl ?_);intro w1 n1;have d:=af n1;clear n1;go_wp2_with(refine ak rfl 38 rfl aR fV aD rfl ?_);intro w2 o;have f:=af o;clear o;have u:Hid (ao w2 w.heap.size 139 (k++m).toArray):=d.out.aF.fr f.out.fr (fun x=>x);have j:Hid (Fr ag w w2):=d.out.fr.trans f.out.fr;have C:Hid (w.heap.size<w1.heap.size):=by have:=d.out.size;simp only[Hid];omega
 obtain⟨q,s⟩:=Dt u.out c.out;generalize a:w.heap.size=g0 at*;go_wp2_with(first|(refine wpList_load_mid rfl 38 (.tmp 3) rfl g0 0 rfl k _ q ty rfl A.out ?_)|(refine wpList_load_mid rfl 38 (.tmp 5) rfl g0 32 rfl m _ s ty rfl B.out ?_)|fail);refine(h.out _ j.out).mono ?_;rintro e J⟨rfl,f3⟩;have v:=af (f.out.aF.fr f3 (fun x=>x));have y:=af (j.out.trans f3);have z:=af a;clear f3 q s h a;go_wp2_with(refine ai rfl 38 (.tmp 2) _ rfl w1.heap.size NV.toArray rfl rfl _ _ v.out D.out.info D.out.zero D.out.one ?_);intro t b4 f4;have E:=af b4;have F:Hid (Fr ag w t):=y.out.aw f4 (fun i I e=>by have H:i=w1.heap.size:=e;have:=C.out;have:=z.out;omega);clear b4 f4;go_wp2;exact bodyPost_ret (results_cell_row (fn:=Tryz.f124) (p:=2) (ty:=38) Tryz.results124 _ t _ 38 NV.toArray (0,0) _ rfl E.out Tryz.underlying38 rfl D.out.info) rfl ⟨rfl,F.out⟩
end Go.Proofs.YtphjagkehiklkaaGreatDoor.Lt
namespace Go.Proofs.YtphjagkehiklkaaGreatDoor.Lt
open Go.RowKit Go.Shelf
attribute[local go_sem]Oper.semAt_some
theorem bV{P:Program}{ops:Array Oper}{rest:List Oper}{m:Oper}{a:Act}{w:World}{Q:Exit→Act→World→Prop}(c:m.guard=none)(ty:TypeId)(x y:Operand)(i:m.op= .store ty x y)
  (g:Nat)(v:Value)(j:a.eval x= .pointer (some ⟨g,0,none⟩))(l:a.eval y=v)(e:v.oneCell'=true)
  (t:TypeId)(b:Value)(d:ao w g t #[b])(f:(P.info? ty).map (·.size)=some 1)
  (h:∀w',ao w' g t #[v]→Fr (fun k=>k=g) w w'→wpList P ops Q rest (a.put m.dst undef) w'):wpList P ops Q (m::rest) a w:=by
 subst l;exact wpList_store_one c ty x y i g j e t b d f (h _ (ig d) ((Fr.refl (fun k=>k=g) w).setRow (fun _=>rfl) _))
theorem ey{P:Program}(w:World)(g:Nat)(t ty:TypeId)(v:Value)(d:ao w g t #[v])(a:(P.info? ty).map (·.size)=some 1)(b:(isAgg ty).run P w= .ok false w):
  (loadVar ty ⟨g,0,none⟩).run P w= .ok v w:=by
 have c:w.cell? ⟨g,0,none⟩=some v:=d.cell 0;simp[loadVar,b,go_sem,c]
theorem ml:(Tryz.prog.info? 135).map (·.size)=some 1:=by kernel_rfl
theorem pA:(Tryz.prog.info? 34).map (·.size)=some 1:=by kernel_rfl
theorem EG(w:World):(zeroValue 135).run Tryz.prog w= .ok (.slice none 0 0) w:=by kernel_rfl
theorem Jm(w:World):(zeroValue 34).run Tryz.prog w= .ok (.int .i64 0) w:=by kernel_rfl
theorem isAgg82(w:World):(isAgg 135).run Tryz.prog w= .ok false w:=by kernel_rfl
theorem isAgg26(w:World):(isAgg 34).run Tryz.prog w= .ok false w:=by kernel_rfl
theorem iC(tmps:Array Value)(w:World)(g8 g9 g10:Nat)(cs:Array Value)(v:Value)(k:Int)
  (e:tmps.getD 8 undef= .pointer (some ⟨g8,0,none⟩))(f:tmps.getD 9 undef= .pointer (some ⟨g9,0,none⟩))(b:tmps.getD 10 undef= .pointer (some ⟨g10,0,none⟩))
  (b8:ao w g8 38 cs)(g:(Tryz.prog.info? 38).map (·.size)=some cs.size)(b9:ao w g9 135 #[v])(gR:ao w g10 34 #[.int .i64 k]):
  (results Tryz.f77 tmps).run Tryz.prog w= .ok (.tuple #[.agg cs,v, .int .i64 k]) w:=by
 have c:tmps[8]?.getD undef= .pointer (some ⟨g8,0,none⟩):=by simpa using e
 have d:tmps[9]?.getD undef= .pointer (some ⟨g9,0,none⟩):=by simpa using f
 have a:tmps[10]?.getD undef= .pointer (some ⟨g10,0,none⟩):=by simpa using b
 simp[results,Tryz.results77,c,d,a,asAddr,run_loadVar_row w g8 38 38 cs (0,0) _ b8 Tryz.underlying38 rfl g,ey w g9 _ _ v b9 ml (isAgg82 w),ey w g10 _ _ _ gR pA (isAgg26 w)]
def iG(w:World)(V:List UInt8×List (List UInt8×List UInt8)×Int)(e:Ending)(w':World):Prop:=
 ∃v,e= .returned (.tuple #[aP V.1,v, .int .i64 V.2.2])∧bW 139 64 w (.slice none 0 0) w' v V.2.1.length (V.2.1.flatMap dR)
theorem iG.none{w w':World}{k:Int}(h:Fr ag w w'):iG w (gC,[],k) (.returned (.tuple #[aP gC, .slice none 0 0, .int .i64 k])) w':=
 ⟨_,rfl,⟨⟨rfl, .inl ⟨rfl,rfl⟩⟩,h.bI,fun _ a=> .inl a⟩⟩
structure lY(w w':World)(len:Nat)(A:Option Addr)(c:Nat)(a:List Value)(g4 g7 g8 g9 g10:Nat):Prop where
 fr:Fr ag w w'
 b4:ao w' g4 38 a.toArray
 b7:ao w' g7 31 #[.slice A len c]
 b8:ao w' g8 38 aD
 b9:ao w' g9 135 #[.slice none 0 0]
 gR:ao w' g10 34 #[.int .i64 0]
 o4:w.heap.size≤g4
 o7:g4<g7
 o8:g7<g8
 o9:g8<g9
 ji:g9<g10
theorem lY.later{w w' b:World}{len:Nat}{A:Option Addr}{c:Nat}{d:List Value}{g4 g7 g8 g9 g10:Nat}(h:lY w w' len A c d g4 g7 g8 g9 g10)(a:Fr ag w' b):lY w b len A c d g4 g7 g8 g9 g10:=
 ⟨h.fr.trans a,h.b4.fr a (fun x=>x),h.b7.fr a (fun x=>x),h.b8.fr a (fun x=>x),h.b9.fr a (fun x=>x),h.gR.fr a (fun x=>x),h.o4,h.o7,h.o8,h.o9,h.ji⟩
theorem lY.of{w w1 w2 g h j:World}{len:Nat}{A:Option Addr}{c:Nat}{i:List Value}(f:dN w w1 38 i.toArray)(e:dN w1 w2 31 #[.slice A len c])(d:dN w2 g 38 aD)(a:dN g h 135 #[.slice none 0 0])(b:dN h j 34 #[.int .i64 0]):
  lY w j len A c i w.heap.size w1.heap.size w2.heap.size g.heap.size h.heap.size:=by
 have k:=f.size;have l:=e.size;have m:=d.size;have n:=a.size;exact⟨f.fr.trans (e.fr.trans (d.fr.trans (a.fr.trans b.fr))),f.aF.fr (e.fr.trans (d.fr.trans (a.fr.trans b.fr))) (fun x=>x),e.aF.fr (d.fr.trans (a.fr.trans b.fr)) (fun x=>x),d.aF.fr (a.fr.trans b.fr) (fun x=>x),a.aF.fr b.fr (fun x=>x),b.aF,Nat.le_refl _,by omega,by omega,by omega,by omega⟩
theorem cM{w:World}{base:Nat}{e:TypeId}{size n k:Nat}{v:Value}{xs:List Value}(h:w.ownsRow base e size v n xs)(a:v.ownBlock=some k):∃f,w.heap[k]? =some f∧f.isCells=true:=by
 rcases h.2 with⟨rfl,_⟩|⟨d,b,cur,rfl,_,c,_⟩;·simp[Value.ownBlock]at a
 ·simp[Value.ownBlock]at a;subst a;exact⟨_,c,rfl⟩
structure qH(w1:World)(g11 g12 len:Nat)(leaf:List UInt8)(path:List (List UInt8))(pre:List Bool)(W:World):Prop where
 fr:Fr (fun k=>k=g11∨k=g12) w1 W
 le:pre.length≤len
 row:∃v,ao W g11 135 #[v]∧W.ownsRow 0 139 64 v pre.length ((cg leaf pre path).2.flatMap dR)∧∀k,v.ownBlock=some k→w1.heap.size≤k
 root:ao W g12 38 (ar (cg leaf pre path).1).toArray
theorem qH.iX{w1:World}{g11 g12 len:Nat}{leaf:List UInt8}{path:List (List UInt8)}(d:g11<w1.heap.size)(f:g12<w1.heap.size):OwnFrom w1.heap.size (qH w1 g11 g12 len leaf path):=by
 intro pre A B row h p o;have a:∀k,k<w1.heap.size→some k≠row:=fun k m e=>by have:=(o k e.symm).1;omega
 have c:Fr (fun k=>some k=row) A B:=Fr.grown p;obtain⟨v,mO,b,r⟩:=h.row;refine⟨h.fr.aw c (fun i q e=>absurd e (a i q)),h.le,⟨v,mO.fr c (fun e=>a _ d e),aQ b c (fun k m e=>?_),r⟩,h.root.fr c (fun e=>a _ f e)⟩;obtain⟨_,t,n,l⟩:=o k e.symm;obtain⟨s,j,g⟩:=cM b m;rw[j]at n;cases n;rw[g]at l;cases l
structure Ed(w1:World)(g8 g9 g10 g11 g12:Nat)(W:World):Prop where
 fr:Fr (fun k=>k=g8∨k=g9∨k=g10∨k=g11∨k=g12) w1 W
 b8:ao W g8 38 aD
 b9:ao W g9 135 #[.slice none 0 0]
 gR:ao W g10 34 #[.int .i64 35]
theorem Ed.iX{w1:World}{g8 g9 g10 g11 g12:Nat}(d:g8<w1.heap.size)(f:g9<w1.heap.size)(c:g10<w1.heap.size)(C:Prop):OwnFrom w1.heap.size (fun(_:List Bool)W=>Ed w1 g8 g9 g10 g11 g12 W∧C):=by
 intro pre A B row⟨h,g⟩j m;have a:∀k,k<w1.heap.size→some k≠row:=fun k n e=>by have:=(m k e.symm).1;omega
 have b:Fr (fun k=>some k=row) A B:=Fr.grown j;exact⟨⟨h.fr.aw b (fun i l e=>absurd e (a i l)),h.b8.fr b (fun e=>a _ d e),h.b9.fr b (fun e=>a _ f e),h.gR.fr b (fun e=>a _ c e)⟩,g⟩
theorem yG(leaf:List UInt8)(B:leaf.length=32)(index n:Int)(A:Option Addr)(len c:Nat)(w:World)(G:¬(1≤n∧n≤1048576∧0≤index∧index<n))(P:-9223372036854775808≤n∧n≤9223372036854775807):
  Calls Tryz.prog 77 #[aP leaf, .int .i64 index, .int .i64 n, .slice A len c] w (iG w (gC,[],2)):=by
 have E:Hid (∀w',Calls Tryz.prog 89 #[.int .i64 n, .int .i64 1, .int .i64 1048576] w' (bG w' (.bool (decide (1≤n∧n≤1048576))))):=fun w'=>fp n 1 1048576 w';have I:Hid (∀w',Calls Tryz.prog 89 #[.int .i64 index, .int .i64 0, .int .i64 (n-1)] w' (bG w' (.bool (decide (0≤index∧index≤n-1))))):=fun w'=>fp index 0 (n-1) w';have K:decide (1≤n∧n≤1048576)=false∨(decide (1≤n∧n≤1048576)=true∧decide (0≤index∧index≤n-1)=false):=by
  by_cases u:1≤n∧n≤1048576;·exact .inr ⟨decide_eq_true u,cN (fun h=>G ⟨u.1,u.2,h.1,by omega⟩)⟩
  ·exact .inl (decide_eq_false u)
 have H:decide (1≤n∧n≤1048576)=true→IntKind.i64.wrap (n-1)=n-1:=fun h=>IntWalk.i64_in _ (by have:=of_decide_eq_true h;omega);have d:Hid (cX (ar gC).toArray):=cX.of j8;have J:Hid ((ar gC).toArray=aD):=rF;have F:Hid (Tryz.prog.built 38 []=some aD):=qP;clear G B;have z:=af (fun w'(h:Fr ag w w')=>iG.none (k:=2) h);unfold aP at*;simp only[show∀l:List UInt8,l.map aT=ar l from fun _=>rfl]at*;rw[J.out]at d z;generalize ar leaf=O at*;generalize decide (1≤n∧n≤1048576)=Q at*;generalize decide (0≤index∧index≤n-1)=R at*;generalize hm:n-1=m at*;rcases K with rfl|⟨rfl,rfl⟩;·go_enter Tryz.func77,Tryz.ntmps77;go_wp2_with(refine ay rfl 38 (.tmp 0) rfl _ rfl ?_);intro w1 n1;have j:=af n1;clear n1;go_wp2_with(refine ay rfl 31 (.tmp 3) rfl _ rfl ?_);intro w2 t;have o:=af t;clear t;go_wp2_with(refine ak rfl 38 rfl aR fV aD rfl ?_);intro C n3;have p:=af n3;clear n3;go_wp2_with(refine ak rfl 135 rfl (.slice none 0 0) EG #[.slice none 0 0] rfl ?_);intro D n4;have q:=af n4;clear n4;go_wp2_with(refine ak rfl 34 rfl (.int .i64 0) Jm #[.int .i64 0] rfl ?_);intro L n5;have a:=af (lY.of j.out o.out p.out q.out n5);clear n5 j o p q;generalize r:w.heap.size=g4 at*;have f:=af r;clear r;generalize w1.heap.size=g7 at*;generalize w2.heap.size=g8 at*;generalize C.heap.size=g9 at*;generalize D.heap.size=g10 at*;go_wp2_with fail;refine(E.out _).mono ?_;rintro e w'⟨rfl,rfl⟩;go_upto_region 2 with fail;refine wp_region_lit ?_;refine jE rfl 38 rfl aD F.out ?_;refine ai rfl 38 (.tmp 8) _ rfl g8 aD rfl rfl _ _ a.out.b8 d.out.info rfl d.out.one ?_;intro M b1 f1;refine bV rfl 135 (.tmp 9) _ rfl g9 (.slice none 0 0) rfl rfl rfl _ _ (a.out.b9.fr f1 (fun e=>by have b:g9=g8:=e;have:=a.out.o9;omega)) ml ?_;intro N b2 f2;refine bV rfl 34 (.tmp 10) _ rfl g10 (.int .i64 2) rfl rfl rfl _ _ ((a.out.gR.fr f1 (fun e=>by have b:g10=g8:=e;have:=a.out.o9;have:=a.out.ji;omega)).fr f2 (fun e=>by have b:g10=g9:=e;have:=a.out.ji;omega)) pA ?_;intro x3 b3 f3;have v:=af ((b1.fr f2 (fun e=>by have b:g8=g9:=e;have:=a.out.o9;omega)).fr f3 (fun e=>by have b:g8=g10:=e;have:=a.out.o9;have:=a.out.ji;omega));have x:=af (b2.fr f3 (fun e=>by have b:g9=g10:=e;have:=a.out.ji;omega));have g:=af b3;have y:Hid (Fr ag w x3):=((a.out.fr.aw f1 (fun i s e=>by have b:i=g8:=e;have:=a.out.o4;have:=a.out.o7;have:=a.out.o8;have:=f.out;omega)).aw f2 (fun i s e=>by have b:i=g9:=e;have:=a.out.o4;have:=a.out.o7;have:=a.out.o8;have:=a.out.o9;have:=f.out;omega)).aw f3 (fun i s e=>by have b:i=g10:=e;have:=a.out.o4;have:=a.out.o7;have:=a.out.o8;have:=a.out.o9;have:=a.out.ji;have:=f.out;omega);clear b1 b2 b3 f1 f2 f3;go_wp2;exact bodyPost_ret (iC _ x3 g8 g9 g10 aD _ 2 rfl rfl rfl v.out d.out.info x.out g.out) rfl (z.out _ y.out)
 ·go_enter Tryz.func77,Tryz.ntmps77;go_wp2_with(refine ay rfl 38 (.tmp 0) rfl _ rfl ?_);intro w1 n1;have j:=af n1;clear n1;go_wp2_with(refine ay rfl 31 (.tmp 3) rfl _ rfl ?_);intro w2 t;have o:=af t;clear t;go_wp2_with(refine ak rfl 38 rfl aR fV aD rfl ?_);intro C n3;have p:=af n3;clear n3;go_wp2_with(refine ak rfl 135 rfl (.slice none 0 0) EG #[.slice none 0 0] rfl ?_);intro D n4;have q:=af n4;clear n4;go_wp2_with(refine ak rfl 34 rfl (.int .i64 0) Jm #[.int .i64 0] rfl ?_);intro L n5;have a:=af (lY.of j.out o.out p.out q.out n5);clear n5 j o p q;generalize r:w.heap.size=g4 at*;have f:=af r;clear r;generalize w1.heap.size=g7 at*;generalize w2.heap.size=g8 at*;generalize C.heap.size=g9 at*;generalize D.heap.size=g10 at*;go_wp2_with fail;refine(E.out _).mono ?_;rintro e w'⟨rfl,rfl⟩;go_wp2_with fail;refine(I.out _).mono ?_;rintro e w'⟨rfl,rfl⟩;go_upto_region 2 with fail;refine wp_region_lit ?_;refine jE rfl 38 rfl aD F.out ?_;refine ai rfl 38 (.tmp 8) _ rfl g8 aD rfl rfl _ _ a.out.b8 d.out.info rfl d.out.one ?_;intro M b1 f1;refine bV rfl 135 (.tmp 9) _ rfl g9 (.slice none 0 0) rfl rfl rfl _ _ (a.out.b9.fr f1 (fun e=>by have b:g9=g8:=e;have:=a.out.o9;omega)) ml ?_;intro N b2 f2;refine bV rfl 34 (.tmp 10) _ rfl g10 (.int .i64 2) rfl rfl rfl _ _ ((a.out.gR.fr f1 (fun e=>by have b:g10=g8:=e;have:=a.out.o9;have:=a.out.ji;omega)).fr f2 (fun e=>by have b:g10=g9:=e;have:=a.out.ji;omega)) pA ?_;intro x3 b3 f3;have v:=af ((b1.fr f2 (fun e=>by have b:g8=g9:=e;have:=a.out.o9;omega)).fr f3 (fun e=>by have b:g8=g10:=e;have:=a.out.o9;have:=a.out.ji;omega));have x:=af (b2.fr f3 (fun e=>by have b:g9=g10:=e;have:=a.out.ji;omega));have g:=af b3;have y:Hid (Fr ag w x3):=((a.out.fr.aw f1 (fun i s e=>by have b:i=g8:=e;have:=a.out.o4;have:=a.out.o7;have:=a.out.o8;have:=f.out;omega)).aw f2 (fun i s e=>by have b:i=g9:=e;have:=a.out.o4;have:=a.out.o7;have:=a.out.o8;have:=a.out.o9;have:=f.out;omega)).aw f3 (fun i s e=>by have b:i=g10:=e;have:=a.out.o4;have:=a.out.o7;have:=a.out.o8;have:=a.out.o9;have:=a.out.ji;have:=f.out;omega);clear b1 b2 b3 f1 f2 f3;go_wp2;exact bodyPost_ret (iC _ x3 g8 g9 g10 aD _ 2 rfl rfl rfl v.out d.out.info x.out g.out) rfl (z.out _ y.out)
def eK:Array Value:=(ar gC++ar gC).toArray
theorem LJ(w:World):(zeroValue 139).run Tryz.prog w= .ok (.agg eK) w:=by kernel_rfl
theorem KV:(Tryz.prog.info? 139).map (fun i=>(i.zero,i.size,i.bytes))=some (some (.agg eK),64,64):=by kernel_rfl
theorem tN:(Tryz.prog.info? 139).map (·.size)=some 64:=by kernel_rfl
theorem ye(parts:List (Nat×Value)):Tryz.prog.built 139 parts=Instr.fill ((#[(0,32),(32,32)]:Array (Nat×Nat))[·]?) eK parts:=by kernel_rfl
theorem sI(X Y:List Value)(a:X.length=32)(b:Y.length=32):Tryz.prog.built 139 [(0, .agg X.toArray),(1, .agg Y.toArray)]=some (X++Y).toArray:=by
 have h:=FU X.toArray Y.toArray eK (by simpa using a) (by simpa using b) rfl;rw[ye];simp only[Instr.fill,Nat.zero_mul,Nat.one_mul]at h⊢;exact h
theorem px(cs b:Array Value)(n:Nat)(d:cs.size=n)(c:b.size=n):Instr.fill (fun i=>some (i*n,n)) b [(0, .agg cs)]=some cs:=by
 have a:=jO cs b 0 (by omega);simp only[Instr.fill,Value.cells,d,c,Nat.zero_mul,Nat.zero_add,ne_eq,not_true_eq_false,decide_false,Bool.false_or,gt_iff_lt,Nat.lt_irrefl,Bool.false_eq_true,if_false];simp only[Nat.zero_add,List.take_zero,List.nil_append,d]at a;rw[List.drop_of_length_le (by simp[c]),List.append_nil]at a;rw[a]
theorem qH.step{w1 W X o p u j:World}{g11 g12 len:Nat}{leaf d:List UInt8}{path:List (List UInt8)}{pre:List Bool}{v v2:Value}{CV NV:List Value}(b:Bool)
  (w:qH w1 g11 g12 len leaf path pre W)(D:g11<w1.heap.size)(E:g12<w1.heap.size)(t:g11≠g12)(c:pre.length<len)(z:path[pre.length]? =some d)
  (f:W.ownsRow 0 139 64 v pre.length ((cg leaf pre path).2.flatMap dR))(a:∀k,v.ownBlock=some k→w1.heap.size≤k)
  (y:Fr ag W X)(r:bW 139 64 X v o v2 (pre.length+1) ((cg leaf pre path).2.flatMap dR++CV))(f3:Fr (fun k=>k=g11) o p)(b3:ao p g11 135 #[v2])
  (f4:Fr ag p u)(f5:Fr (fun k=>k=g12) u j)(b5:ao j g12 38 NV.toArray)
  (q:CV=dR (if b then(cg leaf pre path).1 else d,if b then d else(cg leaf pre path).1))(s:NV=ar (cF (if b then(cg leaf pre path).1 else d) (if b then d else(cg leaf pre path).1))):
  KeepsFrom w1.heap.size W j∧qH w1 g11 g12 len leaf path (pre++[b]) j:=by
 have s1:w1.heap.size≤W.heap.size:=w.fr.size;have s2:W.heap.size≤X.heap.size:=y.size;have H:∀k,v.ownBlock=some k→k<W.heap.size:=fun k c=>by
  obtain⟨L,m,_⟩:=cM f c;exact(Array.getElem?_eq_some_iff.1 m).1
 have g:∀k,v2.ownBlock=some k→w1.heap.size≤k:=fun k c=>by
  rcases r.ez k c with h|h;·exact a k h
  ·omega
 have F:Fr (fun k=>k=g11∨k=g12∨v.ownBlock=some k) W j:=by
  have A:Fr (fun k=>k=g11∨k=g12∨v.ownBlock=some k) W o:=(y.bI).trans (r.fr.mono (fun i _ h=> .inr (.inr h)));have B:=A.trans (f3.mono (T':=fun k=>k=g11∨k=g12∨v.ownBlock=some k) (fun i _ h=> .inl h));exact(B.trans f4.bI).trans (f5.mono (fun i _ h=> .inr (.inl h)))
 refine⟨⟨F.size,fun k L I m G=>?_⟩,?_,?_,?_,?_⟩
 ·refine(F.block k (Array.getElem?_eq_some_iff.1 m).1 ?_).trans m;rintro(rfl|rfl|h);·omega
  ·omega
  ·obtain⟨K,n,l⟩:=cM f h;rw[m]at n;cases n;rw[G]at l;cases l
 ·refine w.fr.aw F (fun i J h=>?_);rcases h with h|h|h;·exact .inl h
  ·exact .inr h
  ·have:=a i h;omega
 ·rw[aY,List.length_singleton];omega
 ·refine⟨v2,((b3.fr f4 (fun x=>x)).fr f5 t),?_,g⟩;rw[aY,List.length_singleton,jn leaf pre path b d z];have e:(mI (cg leaf pre path) b d).2.flatMap dR=(cg leaf pre path).2.flatMap dR++CV:=by
   rw[mI,List.flatMap_append,q];simp
  rw[e];refine aQ (aQ (aQ r.own f3 (fun k c e=>?_)) f4 (fun _ _ x=>x)) f5 (fun k c e=>?_);·have C:k=g11:=e;have:=g k c;omega
  ·have C:k=g12:=e;have:=g k c;omega
 ·rw[jn leaf pre path b d z];rw[s]at b5;exact b5
end Go.Proofs.YtphjagkehiklkaaGreatDoor.Lt
namespace Go.Proofs.YtphjagkehiklkaaGreatDoor.Lt
open Go.RowKit Go.Shelf
attribute[local go_sem]Oper.semAt_some
theorem lY.kF{w w' d:World}{T:Nat→Prop}{len:Nat}{A:Option Addr}{c:Nat}{f:List Value}{g4 g7 g8 g9 g10:Nat}(h:lY w w' len A c f g4 g7 g8 g9 g10)(a:Fr T w' d)(b:∀k,k≤g10→¬T k)(hw:∀i,i<w.heap.size→¬T i):lY w d len A c f g4 g7 g8 g9 g10:=by
 have:=h.o7;have:=h.o8;have:=h.o9;have:=h.ji;exact⟨h.fr.aw a (fun i g e=>absurd e (hw i g)),h.b4.fr a (b _ (by omega)),h.b7.fr a (b _ (by omega)),h.b8.fr a (b _ (by omega)),h.b9.fr a (b _ (by omega)),h.gR.fr a (b _ (by omega)),h.o4,h.o7,h.o8,h.o9,h.ji⟩
theorem wu{B:Nat}{T:Nat→Prop}{W W':World}(h:Fr T W W')(b:∀k,T k→k<B):KeepsFrom B W W':=
 ⟨h.size,fun k e d a _=>(h.block k (Array.getElem?_eq_some_iff.1 a).1 (fun c=>by have:=b k c;omega)).trans a⟩
def Gu(t:TypeId):Op→Bool
 | .build a _=>t==a
 |_=>false
def lL(t:TypeId):Op→Bool
 | .load a _=>t==a
 |_=>false
theorem cp{r n:Nat}{P:Program}{ops:Array Oper}{Q:Exit→Act→World→Prop}{d:Oper}{l:List Oper}{a:Act}{w:World}(f:Op→Bool)(b:f d.op=true)(c:((d::l).all gS)=true)(h:wpList P ops (fun e a w=>Q e a w∧e= .normal) (d::l) a w):wpListIn (Fence.wide.inRound r) n P ops Q (d::l) a w:=
 jc c h
structure km(CV:List Value):Prop where
 len:CV.length=64
 one:∀u∈CV,u.oneCell'=true
theorem km.info{CV:List Value}(h:km CV):(Tryz.prog.info? 139).map (·.size)=some CV.toArray.size:=by
 rw[tN,List.size_toArray,h.len]
theorem km.yy{CV:List Value}(h:km CV):(Tryz.prog.info? 139).map (·.size)=some CV.length:=by rw[tN,h.len]
theorem km.all{CV:List Value}(h:km CV):CV.toArray.all (·.oneCell')=true:=by
 rw[Array.all_eq_true_iff_forall_mem];intro u hu;exact h.one u (by simpa using hu)
theorem km.of{a b:List UInt8}(c:a.length=32)(d:b.length=32):km (ar a++ar b):=⟨by simp[ar,c,d],fun u hu=>Dj (a,b) u hu⟩
structure Kq(W X:World)(g14:Nat)(CV:List Value):Prop where
 fr:Fr ag W X
 tm:ao X g14 139 CV.toArray
 new:W.heap.size≤g14
theorem C9(leaf:List UInt8)(bT:leaf.length=32)(index n:Nat)(cH:index<n)(dt:n≤1048576)(path:List (List UInt8))(len:Nat)(A:Option Addr)(c:Nat)(S:Nat→Prop)(w:World)(aX:ed w S A len path)(c8:len≤1048576)(c7:bH w):
  Calls Tryz.prog 77 #[aP leaf, .int .i64 index, .int .i64 n, .slice A len c] w (iG w (bj leaf index n path)):=by
 have dg:Hid (∀w',Calls Tryz.prog 89 #[.int .i64 n, .int .i64 1, .int .i64 1048576] w' (bG w' (.bool true))):=by
  intro w';have h:=fp (n:Int) 1 1048576 w';rw[dJ (by omega)]at h;exact h
 obtain⟨m,hm⟩:∃m:Nat,(n:Int)-1=(m:Int):=⟨n-1,by omega⟩;have dh:Hid (∀w',Calls Tryz.prog 89 #[.int .i64 index, .int .i64 0, .int .i64 m] w' (bG w' (.bool true))):=by
  intro w';have h:=fp (index:Int) 0 (m:Int) w';rw[dJ (by omega)]at h;exact h
 have ds:m≤1048576:=by omega
 have a6:Hid (cX (ar gC).toArray):=cX.of j8;have cy:Hid ((ar gC).toArray=aD):=rF;have cP:Hid (Tryz.prog.built 38 []=some aD):=qP;have cj:Hid (cX (ar leaf).toArray):=cX.of bT;have cw:Hid ((Tryz.prog.info? 38).map (·.size)=some (ar leaf).length):=by rw[ar,List.length_map,bT];exact ef
 have dk:=af aX;have cU:=af c7;have dA:=af bT;have PL:=af aX.len;have c0:=af (fun(pre:List Bool)(h:pre.length≤len)=>jA leaf bT path aX.each pre.length pre rfl (by rw[aX.len];exact h));have NV:=af (show bj leaf index n path=(if path.length=(bw index n).length then((cg leaf (bw index n) path).1,(cg leaf (bw index n) path).2,0)else(gC,[],35))from by
  unfold bj;rw[if_pos (by omega),Int.toNat_natCast,Int.toNat_natCast]);have cv:=af cH;have dl:=af dt;obtain⟨i0,aY,aZ,V,bW⟩:=info_parts KV;clear bT aX c7;rw[cy.out]at a6;change Calls _ _ #[.agg (ar leaf).toArray,_,_,_] _ _;have LE:Hid (ar leaf=ar leaf):=rfl;generalize bE:ar leaf=bu at*;have cx:=af bE;clear bE LE;refine(callsIn_wide (n:=6)).1 (callsIn_of_wp_marks Tryz.func77 rfl trivial (wpIn_wide.2 ?_) rfl);simp only[Tryz.ntmps77,List.size_toArray,List.length_cons,List.length_nil,Nat.reduceAdd,Nat.reduceSub,Array.replicate_succ,Array.replicate_zero,List.push_toArray,List.append_toArray,List.nil_append,List.cons_append];go_wp2_with(refine ay rfl 38 (.tmp 0) rfl _ rfl ?_);intro w1 n1;have cV:=af n1;clear n1;go_wp2_with(refine ay rfl 31 (.tmp 3) rfl _ rfl ?_);intro w2 dc;have cW:=af dc;clear dc;go_wp2_with(refine ak rfl 38 rfl aR fV aD rfl ?_);intro du n3;have cY:=af n3;clear n3;go_wp2_with(refine ak rfl 135 rfl (.slice none 0 0) EG #[.slice none 0 0] rfl ?_);intro cL n4;have cZ:=af n4;clear n4;go_wp2_with(refine ak rfl 34 rfl (.int .i64 0) Jm #[.int .i64 0] rfl ?_);intro dd n5;have ck:=af (lY.of cV.out cW.out cY.out cZ.out n5);clear n5 cV cW cY cZ;generalize aO:w.heap.size=g4 at*;have a9:=af aO;clear aO;generalize w1.heap.size=g7 at*;generalize w2.heap.size=g8 at*;generalize du.heap.size=g9 at*;generalize cL.heap.size=g10 at*;go_wp2_with fail;refine(dg.out _).mono ?_;rintro e w'⟨rfl,rfl⟩;go_wp2_with fail;refine(dh.out _).mono ?_;rintro e w'⟨rfl,rfl⟩;go_wp2_with(refine ak rfl 135 rfl (.slice none 0 0) EG #[.slice none 0 0] rfl ?_);intro de n6;have cl:=af (ck.out.later n6.fr);have M:=af n6.aF;have c2:Hid (g10<dd.heap.size):=ck.out.gR.lt;have c1:=af n6.size;clear n6 ck;generalize dd.heap.size=g11 at*;generalize bU:de.heap.size=g12 at*;have ba:=af bU;clear bU;go_wp2_with(first|(refine eN rfl 38 (.tmp 4) rfl g4 rfl _ bu cl.out.b4 _ Tryz.underlying38 rfl cw.out ?_)|(refine ak rfl 38 rfl aR fV aD rfl ?_));intro dv n7;have G:Hid (ao dv g12 38 aD):=by
  have h:=n7.aF;rw[ba.out]at h;exact h
 have cR:=af n7.fr;have a7:=af (cl.out.later n7.fr);clear n7;rw[show de.heap.size=g12 from ba.out];go_wp2_with(refine ai rfl 38 (.tmp 12) _ rfl g12 bu.toArray rfl rfl _ _ G.out cj.out.info cj.out.zero cj.out.one ?_);intro X b8 f8;have HNE:Hid (g10<g11∧g11<g12):=⟨c2.out,by have:=c1.out;omega⟩;have cQ:Hid (lY w X len A c bu g4 g7 g8 g9 g10):=a7.out.kF f8 (fun k L e=>by have g:k=g12:=e;have:=HNE.out;omega) (fun i R e=>by have g:i=g12:=e;have:=HNE.out;have:=a7.out.o4;have:=a7.out.o7;have:=a7.out.o8;have:=a7.out.o9;have:=a7.out.ji;have:=a9.out;omega);have Z:Hid (ao X g11 135 #[.slice none 0 0]):=(M.out.fr cR.out (fun x=>x)).fr f8 (fun e=>by have g:g11=g12:=e;have:=HNE.out;omega);have ac:=af b8;clear b8 f8 M G cl a7 cR c1 ba c2;go_wp2_with fail;refine(DJ index n X).mono ?_;rintro e Q⟨rfl,aM⟩;have b0:Hid (Fr ag X Q):=by subst aM;exact(aA.alloc _).alloc _
 have bY:Hid (Q.cell? ⟨X.heap.size,0,none⟩=some (.int .i64 index)):=by subst aM;exact((ao.new X 3 #[.int .i64 index]).alloc _).cell 0
 have bZ:Hid (Q.cell? ⟨X.heap.size+1,0,none⟩=some (.int .i64 n)):=by
  subst aM;have h:=(ao.new (X.alloc (.cells #[.int .i64 index] 3)) 3 #[.int .i64 n]).cell 0;rw[show(X.alloc (.cells #[.int .i64 index] 3)).heap.size=X.heap.size+1 by simp]at h;exact h
 have bx:Hid (Q.heap.size=X.heap.size+2):=by subst aM;simp[Hid]
 clear aM;have s:=af (cQ.out.later b0.out);have aa:=af (Z.out.fr b0.out (fun x=>x));have ad:=af (ac.out.fr b0.out (fun x=>x));have LT:Hid (g11<Q.heap.size∧g12<Q.heap.size):=⟨aa.out.lt,ad.out.lt⟩;clear cQ Z ac b0;generalize X.heap.size=gs at*;go_wp2_with fail;refine(wpIn_wide (n:=6)).1 ?_;refine wpIn_rangeFunc_ownG rfl (by omega) (gf:=157) (lb:=#[.pointer (some ⟨gs,0,none⟩), .pointer (some ⟨gs+1,0,none⟩)]) rfl trivial (enters_of Tryz.func157 (by kernel_rfl) rfl)
  (yV 5 gs (gs+1) index n Q (by have:=bx.out;omega) (by have:=bx.out;omega) bY.out bZ.out cv.out dl.out) (fun _ _=>trivial) (fun _ _ _ _ _ _ _ _=>trivial) (Below.refl _ _) (fun _=>rfl)
  (qH Q g11 g12 len leaf path) (fun cb _ W=>Ed Q g8 g9 g10 g11 g12 W∧(cb= .ret∧len<(bw index n).length))
  (qH.iX LT.out.1 LT.out.2) (fun cb=>Ed.iX (by have:=s.out.o9;have:=s.out.ji;have:=HNE.out;have:=LT.out;omega) (by have:=s.out.ji;have:=HNE.out;have:=LT.out;omega) (by have:=HNE.out;have:=LT.out;omega) (cb= .ret∧len<(bw index n).length))
  ⟨aA,Nat.zero_le _,⟨_,aa.out,⟨rfl, .inl ⟨rfl,rfl⟩⟩,fun k L=>by simp[Value.ownBlock]at L⟩,by rw[GM];rw[cx.out];exact ad.out⟩ ?zA ?assign ?body ?done ?stop;case assign=>
  intro l x W K bd;gi_wp2;exact bd
 case body=>
  rintro dB pre x W cc be;have cT:=af cc;obtain⟨f,hle,⟨v,mO,C,B⟩,aH⟩:=cc;obtain⟨Y,m1,aI,rfl,H1,dj⟩:=aW C;have r:Hid (lY w W len A c bu g4 g7 g8 g9 g10):=s.out.kF f (fun k L e=>by have g:k=g11∨k=g12:=e;have:=HNE.out;omega) (by rintro i R(rfl|rfl)<;>(have:=HNE.out;have:=a9.out;have:=s.out.o4;have:=s.out.o7;have:=s.out.o8;have:=s.out.o9;have:=s.out.ji;omega));have b6:=af f;have M:=af mO;have G:=af aH;have t:=af C;have P:=af B;have bk:=af hle;have bl:=af be;have U:=mO.cell 0;have bA:=r.out.b7.cell 0;simp only[bD,List.getElem?_cons_zero]at U bA;have ca:=af (c0.out pre hle);clear f mO aH C B be hle bY bZ bx;by_cases L:m1=len
  ·have t1:((m1:Int)==(len:Int))=true:=by rw[beq_iff_eq];omega
   gi_wp2_with(refine cp (Gu 38) rfl (by kernel_rfl) ?_);refine jE rfl 38 rfl aD cP.out ?_;refine ai rfl 38 (.tmp 8) _ rfl g8 aD rfl rfl _ _ r.out.b8 a6.out.info rfl a6.out.one ?_;intro dy b1 f1;refine bV rfl 135 (.tmp 9) _ rfl g9 (.slice none 0 0) rfl rfl rfl _ _ (r.out.b9.fr f1 (fun e=>by have g:g9=g8:=e;have:=r.out.o9;omega)) ml ?_;intro df b2 f2;refine bV rfl 34 (.tmp 10) _ rfl g10 (.int .i64 35) rfl rfl rfl _ _ ((r.out.gR.fr f1 (fun e=>by have g:g10=g8:=e;have:=r.out.o9;have:=r.out.ji;omega)).fr f2 (fun e=>by have g:g10=g9:=e;have:=r.out.ji;omega)) pA ?_;intro x3 b3 f3;have bo:=af ((b1.fr f2 (fun e=>by have g:g8=g9:=e;have:=r.out.o9;omega)).fr f3 (fun e=>by have g:g8=g10:=e;have:=r.out.o9;have:=r.out.ji;omega));have bp:=af (b2.fr f3 (fun e=>by have g:g9=g10:=e;have:=r.out.ji;omega));have ax:=af b3;refine⟨?_,rfl⟩;have dm:Hid (KeepsFrom Q.heap.size W x3):=wu (T:=fun k=>k=g8∨k=g9∨k=g10) (((f1.mono (fun i _ e=> .inl e)).trans (f2.mono (fun i _ e=> .inr (.inl e)))).trans (f3.mono (fun i _ e=> .inr (.inr e)))) (by rintro k(rfl|rfl|rfl)<;>(have:=r.out.o9;have:=r.out.ji;have:=HNE.out;have:=LT.out;omega));have a0:Hid (Fr (fun k=>k=g8∨k=g9∨k=g10∨k=g11∨k=g12) Q x3):=(((b6.out.mono (T':=fun k=>k=g8∨k=g9∨k=g10∨k=g11∨k=g12) (fun i _ e=> .inr (.inr (.inr e)))).trans (f1.mono (fun i _ e=> .inl e))).trans (f2.mono (fun i _ e=> .inr (.inl e)))).trans (f3.mono (fun i _ e=> .inr (.inr (.inl e))));clear b1 b2 b3 f1 f2 f3;gi_wp2;exact⟨dm.out,⟨a0.out,bo.out,bp.out,ax.out⟩,rfl,by have:=bl.out;have:=H1.out;omega⟩
  ·have cI:m1<len:=by have:=bk.out;have:=H1.out;omega
   have t1:((m1:Int)==(len:Int))=false:=by rw[beq_eq_false_iff_ne];omega
   have dq:(m1:Int)<(len:Int):=by omega
   obtain⟨bf,d,rfl,_,c9,z,aL⟩:=(dk.out.aq r.out.fr).at_ cI;have cS:=af aL;have bm:=af c9;have p:=ca.out.root;have bn:Hid ((Tryz.prog.info? 38).map (·.size)=some (ar d).length):=by rw[ar,List.length_map,z];exact ef
   have aU:Hid ((Tryz.prog.info? 38).map (·.size)=some (ar (cg leaf pre path).1).length):=by rw[ar,List.length_map,p];exact ef
   have cs:Hid (Tryz.prog.built 139 [(0, .agg (ar d).toArray),(1, .agg (ar (cg leaf pre path).1).toArray)]=some (ar d++ar (cg leaf pre path).1).toArray):=sI _ _ (by simp[ar,z]) (by simp[ar,p]);have ct:Hid (Tryz.prog.built 139 [(0, .agg (ar (cg leaf pre path).1).toArray),(1, .agg (ar d).toArray)]=some (ar (cg leaf pre path).1++ar d).toArray):=sI _ _ (by simp[ar,p]) (by simp[ar,z]);have H:Hid (km (ar d++ar (cg leaf pre path).1)):=km.of z p;have N:Hid (km (ar (cg leaf pre path).1++ar d)):=km.of p z;have a5:Hid (cX (ar (cg leaf pre path).1).toArray):=cX.of p;have a3:Hid (cX (ar (cF d (cg leaf pre path).1)).toArray):=cX.of (eC _ _);have a4:Hid (cX (ar (cF (cg leaf pre path).1 d)).toArray):=cX.of (eC _ _);have ch:Hid (∀w',Fr ag w w'→Calls Tryz.prog 124 #[.agg (ar d++ar (cg leaf pre path).1).toArray] w' (aK w' (.agg (ar (cF d (cg leaf pre path).1)).toArray))):=fun w' f=>sP _ _ z p w' (cU.out.aq f);have ci:Hid (∀w',Fr ag w w'→Calls Tryz.prog 124 #[.agg (ar (cg leaf pre path).1++ar d).toArray] w' (aK w' (.agg (ar (cF (cg leaf pre path).1 d)).toArray))):=fun w' f=>sP _ _ p z w' (cU.out.aq f);have g1:Hid (¬1*i0.size>2^24):=by simp only[Hid];rw[V];omega
   have g2:Hid (¬1*i0.size=0):=by simp only[Hid];rw[V];omega
   generalize bR:ar d=F at*;generalize aJ:ar (cg leaf pre path).1=y at*;generalize bF:ar (cF d (cg leaf pre path).1)=NV1 at*;generalize bQ:ar (cF (cg leaf pre path).1 d)=NV2 at*;have bi:=af bR;have aS:=af aJ;have cm:=af bF;have cn:=af bQ;clear bR aJ bF bQ aL c9 z p;gi_wp2;refine oe 8 139 [fun v=>v= .slice (some bf) len c,fun v=>v= .slice Y m1 aI,fun v=>v= .int .i64 m1,fun v=>v= .pointer (some (bf.add (m1*32))),fun v=>v= .agg F.toArray,fun v=>v= .agg y.toArray,fun v=>v= .agg (F++y).toArray,fun _=>True] [] [(7,eK)] [] (by kernel_rfl) (by kernel_rfl) (by kernel_rfl) (by kernel_rfl) trivial ?_ ?_
   ·refine⟨fun u w' f b E=>?_,fun u w' f b E=>?_,fun u w' f b E=>?_,fun u w' f b E=>?_,fun u w' f b E=>?_,fun u w' f b E=>?_,fun u w' f b E=>?_,fun u w' f b=>?_,trivial⟩;all_goals simp only[bJ,bK,bL,bM,au,Act.put,bN,bO,bP,Nat.reduceAdd,Nat.zero_add]
    ·clear b E;refine aj ?_;have q:=f.an bA (fun x=>x);go_simp;exact⟨_,rfl,da⟩
    ·clear b E;refine aj ?_;have q:=f.an U (fun x=>x);go_simp;exact⟨_,rfl,da⟩
    ·have bB:u 1=_:=b 1 (by kernel_rfl);clear b E;simp only[bB];refine aj ?_;go_simp;exact⟨_,rfl,da⟩
    ·have aO:u 0=_:=b 0 (by kernel_rfl);have cA:u 2=_:=b 2 (by kernel_rfl);clear b E;simp only[aO,cA];refine aj ?_;go_simp;exact⟨_,rfl,da⟩
    ·have cB:u 3=_:=b 3 (by kernel_rfl);clear b E;simp only[cB];refine aj ?_;exact az _ _ rfl (bf.add (m1*32)) rfl F _ (fun j v cJ=>f.an (cS.out j v cJ) (fun x=>x)) Tryz.underlying38 rfl bn.out ⟨_,rfl,da⟩
    ·clear b E;refine aj ?_;exact wp_load_mid _ _ rfl g12 0 rfl y _ (cG (G.out.fr f (fun x=>x))) Tryz.underlying38 rfl aU.out ⟨_,rfl,da⟩
    ·have cC:u 4=_:=b 4 (by kernel_rfl);have cD:u 5=_:=b 5 (by kernel_rfl);clear b E;simp only[cC,cD];refine aj ?_;exact kl 139 #[(0, .tmp 41),(1, .tmp 42)] rfl _ (by simp only[List.map_toArray,List.map_cons,List.map_nil];exact cs.out) ⟨_,rfl,da⟩
    ·clear b;refine aj ?_;refine fT 139 rfl (.agg eK) LJ eK rfl ?_;intro cL n4;exact⟨_,rfl,trivial,trivial,rfl,n4⟩
   ·intro u w' f b bg cE;have bC:u 6=_:=b 6 (by omega);obtain⟨g14,c6,bX,tm⟩:=bg 7 eK (by simp);have a1:ao w' g14 139 eK:=tm;clear b bg cE tm;simp only[bJ,bK,bL,bM,au,Act.put,bN,bO,bP,dL,dM,Nat.reduceAdd,Nat.zero_add,bC,c6];refine ai rfl 139 (.tmp 14) _ rfl g14 (F++y).toArray rfl rfl _ _ a1 H.out.info (by rw[show eK.size=64 from rfl,List.size_toArray,H.out.len]) H.out.all ?_;intro dw c3 c4;have I:Hid (Kq W dw g14 (F++y)):=⟨f.aw c4 (fun i R e=>by have g:i=g14:=e;omega),c3,bX⟩;clear f c3 c4 a1 bX bC c6;refine⟨?_,rfl⟩;cases x
    ·have O:=(M.out.fr I.out.fr (fun x=>x)).cell 0;simp only[bD,List.getElem?_cons_zero]at O;gi_wp2_with(refine cp (lL 139) rfl (by kernel_rfl) ?_);refine eN rfl 139 (.tmp 14) rfl g14 rfl _ (F++y) I.out.tm _ Tryz.underlying139 rfl H.out.yy ?_;refine wpList_buildSlice rfl 135 139 1 #[(0, .tmp 53)] rfl (F++y).toArray i0 (.agg eK) Tryz.underlying135 aY aZ g1.out g2.out ?b3 ?_;case b3=>
      simp only[List.map_toArray,List.map_cons,List.map_nil];rw[V];exact px _ _ 64 (by rw[List.size_toArray,H.out.len]) (by simp)
     refine dE _ rfl _ _ 135 rfl 139 i0 (.agg eK) 64 64 Tryz.underlying135 aY aZ V bW rfl (by omega) _ _ _ rfl (aQ t.out I.out.fr (fun _ _ x=>x)) 1 (F++y).toArray _ rfl rfl (by rw[List.size_toArray,H.out.len]) (fun u hu=>H.out.one u (by simpa using hu)) (by have:=bk.out;omega) (by omega) ?_;intro v2 cO bc;have aG:=af bc;obtain⟨ce,m2,cz,rfl,_,_⟩:=aW bc.own;clear bc;have aV:Hid (∀k,(Value.slice Y m1 aI).ownBlock=some k→Q.heap.size≤k∧k<W.heap.size):=fun k L=>⟨P.out k L,by
      obtain⟨o,bh,_⟩:=cM t.out L;exact(Array.getElem?_eq_some_iff.1 bh).1⟩;have ab:Hid (ao cO g11 135 #[.slice Y m1 aI]):=(M.out.fr I.out.fr (fun x=>x)).fr aG.out.fr (fun e=>by have:=(aV.out _ e).1;have:=LT.out;omega);refine bV rfl 135 (.tmp 11) _ rfl g11 (.slice ce m2 cz) rfl rfl rfl _ _ ab.out ml ?_;intro y3 b3 f3;have cr:Hid (Fr ag w y3):=(((r.out.fr.trans I.out.fr).aw aG.out.fr (fun i R e=>by have:=(aV.out _ e).1;have:=(s.out.fr.size);omega)).aw f3 (fun i R e=>by have g:i=g11:=e;have:=HNE.out;have:=s.out.o4;have:=s.out.o7;have:=s.out.o8;have:=s.out.o9;have:=s.out.ji;have:=a9.out;omega));have a8:Hid (Q.heap.size≤g14):=Nat.le_trans b6.out.size I.out.new;have ap:Hid (ao y3 g14 139 (F++y).toArray):=(I.out.tm.fr aG.out.fr (fun e=>by have:=(aV.out _ e).2;have:=I.out.new;omega)).fr f3 (fun e=>by have g:g14=g11:=e;have:=a8.out;have:=LT.out;omega);have ae:Hid (ao y3 g12 38 y.toArray):=((G.out.fr I.out.fr (fun x=>x)).fr aG.out.fr (fun e=>by have:=(aV.out _ e).1;have:=LT.out;omega)).fr f3 (fun e=>by have g:g12=g11:=e;have:=HNE.out;omega);have cf:=af b3;have co:=af f3;clear b3 f3 O;refine⟨?_,rfl⟩;gi_wp2_with(refine cp (lL 139) rfl (by kernel_rfl) ?_);refine eN rfl 139 (.tmp 14) rfl g14 rfl _ (F++y) ap.out _ Tryz.underlying139 rfl H.out.yy ?_;go_wp2_with fail;refine(ch.out _ cr.out).mono ?_;rintro e y4⟨rfl,f4⟩;have am:=af (ae.out.fr f4 (fun x=>x));have cq:=af f4;clear f4;go_wp2_with(refine ai rfl 38 (.tmp 12) _ rfl g12 NV1.toArray rfl rfl _ _ am.out a3.out.info (a5.out.size.trans a3.out.size.symm) a3.out.one ?_);intro dz b5 f5;refine⟨?_,rfl⟩;have aC:=qH.step (NV:=NV1) false cT.out LT.out.1 LT.out.2 (by have:=HNE.out;omega) (by have:=H1.out;omega) (by have:=H1.out;rw[←this];exact bm.out) t.out P.out I.out.fr aG.out co.out cf.out cq.out f5 b5 (by rw[←bi.out,←aS.out];rfl) (cm.out.symm);exact⟨aC.1,trivial,aC.2⟩
    ·gi_wp2;refine oe 7 139 [fun v=>v= .agg y.toArray,fun v=>v= .slice (some bf) len c,fun v=>v= .slice Y m1 aI,fun v=>v= .int .i64 m1,fun v=>v= .pointer (some (bf.add (m1*32))),fun v=>v= .agg F.toArray,fun v=>v= .agg (y++F).toArray] [] [] [] (by kernel_rfl) (by kernel_rfl) (by kernel_rfl) (by kernel_rfl) trivial ?_ ?_
     ·refine⟨?_,?_,?_,?_,?_,?_,?_,trivial⟩;all_goals intro u w' f b E
      all_goals simp only[bJ,bK,bL,bM,au,Act.put,bN,bO,bP,Nat.reduceAdd,Nat.zero_add]
      ·clear b E;refine aj ?_;exact wp_load_mid _ _ rfl g12 0 rfl y _ (cG (G.out.fr (I.out.fr.trans f) (fun x=>x))) Tryz.underlying38 rfl aU.out ⟨_,rfl,da⟩
      ·clear b E;refine aj ?_;have q:=(I.out.fr.trans f).an bA (fun x=>x);go_simp;exact⟨_,rfl,da⟩
      ·clear b E;refine aj ?_;have q:=(I.out.fr.trans f).an U (fun x=>x);go_simp;exact⟨_,rfl,da⟩
      ·have cA:u 2=_:=b 2 (by kernel_rfl);clear b E;simp only[cA];refine aj ?_;go_simp;exact⟨_,rfl,da⟩
      ·have bB:u 1=_:=b 1 (by kernel_rfl);have cB:u 3=_:=b 3 (by kernel_rfl);clear b E;simp only[bB,cB];refine aj ?_;go_simp;exact⟨_,rfl,da⟩
      ·have cC:u 4=_:=b 4 (by kernel_rfl);clear b E;simp only[cC];refine aj ?_;exact az _ _ rfl (bf.add (m1*32)) rfl F _ (fun j v cJ=>(I.out.fr.trans f).an (cS.out j v cJ) (fun x=>x)) Tryz.underlying38 rfl bn.out ⟨_,rfl,da⟩
      ·have aO:u 0=_:=b 0 (by kernel_rfl);have cD:u 5=_:=b 5 (by kernel_rfl);clear b E;simp only[aO,cD];refine aj ?_;exact kl 139 #[(0, .tmp 45),(1, .tmp 50)] rfl _ (by simp only[List.map_toArray,List.map_cons,List.map_nil];exact ct.out) ⟨_,rfl,da⟩
     ·intro u w' f b bg cE;have bC:u 6=_:=b 6 (by omega);clear b bg cE;simp only[bJ,bK,bL,bM,au,Act.put,bN,bO,bP,dL,dM,Nat.reduceAdd,Nat.zero_add,bC];refine ai rfl 139 (.tmp 14) _ rfl g14 (y++F).toArray rfl rfl _ _ (I.out.tm.fr f (fun x=>x)) N.out.info (by rw[List.size_toArray,List.size_toArray,H.out.len,N.out.len]) N.out.all ?_;intro dx bb c5;have aN:Hid (Kq W dx g14 (y++F)):=⟨(I.out.fr.trans f).aw c5 (fun i R e=>by have g:i=g14:=e;have:=I.out.new;omega),bb,I.out.new⟩;clear f bb c5 bC I;refine⟨?_,rfl⟩;have O:=(M.out.fr aN.out.fr (fun x=>x)).cell 0;simp only[bD,List.getElem?_cons_zero]at O;gi_wp2_with(refine cp (lL 139) rfl (by kernel_rfl) ?_);refine eN rfl 139 (.tmp 14) rfl g14 rfl _ (y++F) aN.out.tm _ Tryz.underlying139 rfl N.out.yy ?_;refine wpList_buildSlice rfl 135 139 1 #[(0, .tmp 53)] rfl (y++F).toArray i0 (.agg eK) Tryz.underlying135 aY aZ g1.out g2.out ?b3 ?_;case b3=>
       simp only[List.map_toArray,List.map_cons,List.map_nil];rw[V];exact px _ _ 64 (by rw[List.size_toArray,N.out.len]) (by simp)
      refine dE _ rfl _ _ 135 rfl 139 i0 (.agg eK) 64 64 Tryz.underlying135 aY aZ V bW rfl (by omega) _ _ _ rfl (aQ t.out aN.out.fr (fun _ _ x=>x)) 1 (y++F).toArray _ rfl rfl (by rw[List.size_toArray,N.out.len]) (fun u hu=>N.out.one u (by simpa using hu)) (by have:=bk.out;omega) (by omega) ?_;intro v2 cO bc;have aG:=af bc;obtain⟨ce,m2,cz,rfl,_,_⟩:=aW bc.own;clear bc;have aV:Hid (∀k,(Value.slice Y m1 aI).ownBlock=some k→Q.heap.size≤k∧k<W.heap.size):=fun k L=>⟨P.out k L,by
       obtain⟨o,bh,_⟩:=cM t.out L;exact(Array.getElem?_eq_some_iff.1 bh).1⟩;have ab:Hid (ao cO g11 135 #[.slice Y m1 aI]):=(M.out.fr aN.out.fr (fun x=>x)).fr aG.out.fr (fun e=>by have:=(aV.out _ e).1;have:=LT.out;omega);refine bV rfl 135 (.tmp 11) _ rfl g11 (.slice ce m2 cz) rfl rfl rfl _ _ ab.out ml ?_;intro y3 b3 f3;have cr:Hid (Fr ag w y3):=(((r.out.fr.trans aN.out.fr).aw aG.out.fr (fun i R e=>by have:=(aV.out _ e).1;have:=(s.out.fr.size);omega)).aw f3 (fun i R e=>by have g:i=g11:=e;have:=HNE.out;have:=s.out.o4;have:=s.out.o7;have:=s.out.o8;have:=s.out.o9;have:=s.out.ji;have:=a9.out;omega));have a8:Hid (Q.heap.size≤g14):=Nat.le_trans b6.out.size aN.out.new;have ap:Hid (ao y3 g14 139 (y++F).toArray):=(aN.out.tm.fr aG.out.fr (fun e=>by have:=(aV.out _ e).2;have:=aN.out.new;omega)).fr f3 (fun e=>by have g:g14=g11:=e;have:=a8.out;have:=LT.out;omega);have ae:Hid (ao y3 g12 38 y.toArray):=((G.out.fr aN.out.fr (fun x=>x)).fr aG.out.fr (fun e=>by have:=(aV.out _ e).1;have:=LT.out;omega)).fr f3 (fun e=>by have g:g12=g11:=e;have:=HNE.out;omega);have cf:=af b3;have co:=af f3;clear b3 f3 O;refine⟨?_,rfl⟩;gi_wp2_with(refine cp (lL 139) rfl (by kernel_rfl) ?_);refine eN rfl 139 (.tmp 14) rfl g14 rfl _ (y++F) ap.out _ Tryz.underlying139 rfl N.out.yy ?_;go_wp2_with fail;refine(ci.out _ cr.out).mono ?_;rintro e y4⟨rfl,f4⟩;have am:=af (ae.out.fr f4 (fun x=>x));have cq:=af f4;clear f4;go_wp2_with(refine ai rfl 38 (.tmp 12) _ rfl g12 NV2.toArray rfl rfl _ _ am.out a4.out.info (a5.out.size.trans a4.out.size.symm) a4.out.one ?_);intro dz b5 f5;refine⟨?_,rfl⟩;have aC:=qH.step (NV:=NV2) true cT.out LT.out.1 LT.out.2 (by have:=HNE.out;omega) (by have:=H1.out;omega) (by have:=H1.out;rw[←this];exact bm.out) t.out P.out aN.out.fr aG.out co.out cf.out cq.out f5 b5 (by rw[←bi.out,←aS.out];rfl) (cn.out.symm);exact⟨aC.1,trivial,aC.2⟩
 case done=>
  rintro D xs W aX rfl cc bd;obtain⟨f,hle,⟨v,mO,C,B⟩,aH⟩:=cc;obtain⟨Y,m1,aI,rfl,H1,dj⟩:=aW C;have r:Hid (lY w W len A c bu g4 g7 g8 g9 g10):=s.out.kF f (fun k L e=>by have g:k=g11∨k=g12:=e;have:=HNE.out;omega) (by rintro i R(rfl|rfl)<;>(have:=HNE.out;have:=a9.out;have:=s.out.o4;have:=s.out.o7;have:=s.out.o8;have:=s.out.o9;have:=s.out.ji;omega));have b6:=af f;have M:=af mO;have G:=af aH;have t:=af C;have P:=af B;have bk:=af hle;have cu:=af aX;have av:=af bd;have U:=mO.cell 0;have bA:=r.out.b7.cell 0;simp only[bD,List.getElem?_cons_zero]at U bA;have ca:=af (c0.out (bw index n) hle);clear f mO aH C B hle bY bZ bx aX bd;have a:Hid (w.heap.size≤g8∧g8<g9∧g9<g10∧g10<D):=by
   have:=HNE.out;have:=a9.out;have:=r.out.o4;have:=r.out.o7;have:=r.out.o8;have:=r.out.o9;have:=r.out.ji;have:=LT.out;have:=cu.out;simp only[Hid];omega
  by_cases L:m1<len
  ·have t1:decide ((m1:Int)<(len:Int))=true:=dJ (by omega);go_upto_region 15 with fail;refine wp_region_lit ?_;refine jE rfl 38 rfl aD cP.out ?_;refine ai rfl 38 (.tmp 8) _ rfl g8 aD rfl rfl _ _ r.out.b8 a6.out.info rfl a6.out.one ?_;intro dy b1 f1;refine bV rfl 135 (.tmp 9) _ rfl g9 (.slice none 0 0) rfl rfl rfl _ _ (r.out.b9.fr f1 (fun e=>by have g:g9=g8:=e;have:=r.out.o9;omega)) ml ?_;intro df b2 f2;refine bV rfl 34 (.tmp 10) _ rfl g10 (.int .i64 35) rfl rfl rfl _ _ ((r.out.gR.fr f1 (fun e=>by have g:g10=g8:=e;have:=r.out.o9;have:=r.out.ji;omega)).fr f2 (fun e=>by have g:g10=g9:=e;have:=r.out.ji;omega)) pA ?_;intro x3 b3 f3;have bo:=af ((b1.fr f2 (fun e=>by have g:g8=g9:=e;have:=r.out.o9;omega)).fr f3 (fun e=>by have g:g8=g10:=e;have:=r.out.o9;have:=r.out.ji;omega));have bp:=af (b2.fr f3 (fun e=>by have g:g9=g10:=e;have:=r.out.ji;omega));have ax:=af b3;have a0:Hid (Fr (fun k=>k=g8∨k=g9∨k=g10) W x3):=((f1.mono (T':=fun k=>k=g8∨k=g9∨k=g10) (fun i _ e=> .inl e)).trans (f2.mono (fun i _ e=> .inr (.inl e)))).trans (f3.mono (fun i _ e=> .inr (.inr e)));have bt:Hid (x3.heap[D]? =some (.deferred (some []))):=(a0.out.block D (Array.getElem?_eq_some_iff.1 av.out).1 (by have:=a.out;omega)).trans av.out;clear b1 b2 b3 f1 f2 f3;have J:Fr (fun k=>some k=some D) x3 (x3.putObj D (.deferred none)):=Fr.grown (grownBy_putObj' x3 D _);have bq:Hid (Fr ag w (x3.putObj D (.deferred none))):=(r.out.fr.aw a0.out (fun i R e=>by have:=a.out;omega)).aw J (fun i R e=>by have g:i=D:=(by simpa using e);have:=a.out;omega);have br:=af (bo.out.fr J (fun e=>by have g:g8=D:=(by simpa using e);have:=a.out;omega));have bs:=af (bp.out.fr J (fun e=>by have g:g9=D:=(by simpa using e);have:=a.out;omega));have aB:=af (ax.out.fr J (fun e=>by have g:g10=D:=(by simpa using e);have:=a.out;omega));have bv:=af (iG.none (k:=35) bq.out);rw[aP,show gC.map aT=ar gC from rfl,cy.out]at bv;have bz:Hid (bj leaf index n path=(gC,[],35)):=by
    simp only[Hid];rw[NV.out,if_neg (by rw[PL.out];have:=H1.out;omega)]
   clear J;go_wp2;refine⟨by simp, .inl ⟨_,_,rfl,run_takeDeferred bt.out,?_⟩⟩;exact⟨_,iC _ _ g8 g9 g10 aD _ 35 rfl rfl rfl br.out a6.out.info bs.out aB.out,by rw[bz.out];exact bv.out⟩
  ·have t1:decide ((m1:Int)<(len:Int))=false:=cN (by omega);have p:=ca.out.root;have aU:Hid ((Tryz.prog.info? 38).map (·.size)=some (ar (cg leaf (bw index n) path).1).length):=by rw[ar,List.length_map,p];exact ef
   have a5:Hid (cX (ar (cg leaf (bw index n) path).1).toArray):=cX.of p;have bz:Hid (bj leaf index n path=((cg leaf (bw index n) path).1,(cg leaf (bw index n) path).2,0)):=by
    simp only[Hid];rw[NV.out,if_pos (by rw[PL.out];have:=H1.out;have:=bk.out;omega)]
   generalize aJ:ar (cg leaf (bw index n) path).1=y at*;have aS:=af aJ;clear aJ p;go_upto_region 16 with fail;refine aE 3 (fun k=>k=g8) [Is (.agg y.toArray),Is (.slice Y m1 aI),fun _ _=>True] [(2,fun w'=>ao w' g8 38 y.toArray)] (fun w'=>ao w' g8 38 aD) (fun _ _=>false) (by kernel_rfl) (by kernel_rfl) (by kernel_rfl) (by kernel_rfl) ⟨Is.ah _,Is.ah _,fun _ _ _ _ _ h=>h,trivial⟩ ⟨fun _ _ _ f h=>h.fr f (fun x=>x),trivial⟩ (fun _ _ _ f h=>h.fr f (fun x=>x)) r.out.b8 ?_ ?_
   ·refine⟨?_,?_,?_,trivial⟩;all_goals intro u w' d f b cK cd a2
    all_goals simp only[bJ,bK,bL,bM,au,Act.put,bN,bO,bP,Nat.reduceAdd,Nat.zero_add]
    ·clear b cK cd a2;refine aj ?_;exact wp_load_mid _ _ rfl g12 0 rfl y _ (cG (G.out.fr f (fun e=>by have g:g12=g8:=e;have:=a.out;have:=HNE.out;omega))) Tryz.underlying38 rfl aU.out ⟨_,rfl,al⟩
    ·clear b cK cd a2;refine aj ?_;have q:=f.an U (fun e=>by have g:g11=g8:=e;have:=a.out;have:=HNE.out;omega);go_simp;exact⟨_,rfl,al⟩
    ·have aO:u 0=_:=b 0 (by kernel_rfl);clear b;simp only[aO];refine aj ?_;have bg:ao w' g8 38 aD:=by rw[dn,if_neg (by rw[cd 2 (by kernel_rfl)];exact Bool.false_ne_true)]at a2;exact a2
     clear cK cd a2;refine iM 38 (.tmp 8) (.tmp 64) rfl g8 y.toArray rfl rfl _ _ bg a5.out.info a5.out.zero a5.out.one ?_;intro cL b4 f4;exact⟨_,rfl,f4,trivial,b4⟩
   ·intro u w' f b a2;have aO:u 0=_:=b 0 (by omega);have bB:u 1=_:=b 1 (by omega);clear b;have db:ao w' g8 38 y.toArray:=a2;clear a2;simp only[bJ,bK,bL,bM,au,Act.put,bN,bO,bP,dL,dM,Nat.zero_add,aO,bB];refine bV rfl 135 (.tmp 9) _ rfl g9 (.slice Y m1 aI) rfl rfl rfl _ _ (r.out.b9.fr f (fun e=>by have g:g9=g8:=e;have:=a.out;omega)) ml ?_;intro df b2 f2;refine bV rfl 34 (.tmp 10) _ rfl g10 (.int .i64 0) rfl rfl rfl _ _ ((r.out.gR.fr f (fun e=>by have g:g10=g8:=e;have:=a.out;omega)).fr f2 (fun e=>by have g:g10=g9:=e;have:=a.out;omega)) pA ?_;intro x3 b3 f3;have bo:=af ((db.fr f2 (fun e=>by have g:g8=g9:=e;have:=a.out;omega)).fr f3 (fun e=>by have g:g8=g10:=e;have:=a.out;omega));have bp:=af (b2.fr f3 (fun e=>by have g:g9=g10:=e;have:=a.out;omega));have ax:=af b3;have a0:Hid (Fr (fun k=>k=g8∨k=g9∨k=g10) W x3):=((f.mono (T':=fun k=>k=g8∨k=g9∨k=g10) (fun i _ e=> .inl e)).trans (f2.mono (fun i _ e=> .inr (.inl e)))).trans (f3.mono (fun i _ e=> .inr (.inr e)));have bt:Hid (x3.heap[D]? =some (.deferred (some []))):=(a0.out.block D (Array.getElem?_eq_some_iff.1 av.out).1 (by have:=a.out;omega)).trans av.out;clear db b2 b3 f f2 f3;have J:Fr (fun k=>some k=some D) x3 (x3.putObj D (.deferred none)):=Fr.grown (grownBy_putObj' x3 D _);have bq:Hid (Fr ag w (x3.putObj D (.deferred none))):=(r.out.fr.aw a0.out (fun i R e=>by have:=a.out;omega)).aw J (fun i R e=>by have g:i=D:=(by simpa using e);have:=a.out;omega);have br:=af (bo.out.fr J (fun e=>by have g:g8=D:=(by simpa using e);have:=a.out;omega));have bs:=af (bp.out.fr J (fun e=>by have g:g9=D:=(by simpa using e);have:=a.out;omega));have aB:=af (ax.out.fr J (fun e=>by have g:g10=D:=(by simpa using e);have:=a.out;omega));have dp:Hid ((x3.putObj D (.deferred none)).ownsRow 0 139 64 (.slice Y m1 aI) (bw index n).length ((cg leaf (bw index n) path).2.flatMap dR)):=
     aQ (aQ t.out a0.out (fun k L e=>by have:=P.out k L;have:=a.out;have:=LT.out;have:=HNE.out;omega)) J (fun k L e=>by
      have g:k=D:=by simpa using e
      subst g;obtain⟨o,bh,dr⟩:=cM t.out L;rw[av.out]at bh;cases bh;cases dr);have di:=af ca.out.count;clear J;go_wp2;refine⟨by simp, .inl ⟨_,_,rfl,run_takeDeferred bt.out,?_⟩⟩;refine⟨_,iC _ _ g8 g9 g10 y.toArray _ 0 rfl rfl rfl br.out a5.out.info bs.out aB.out,?_⟩;rw[bz.out];refine⟨.slice Y m1 aI,?_,⟨?_,bq.out.bI,fun k L=> .inr (Nat.le_trans s.out.fr.size (P.out k L))⟩⟩;·rw[←aS.out];rfl
    ·simp only;rw[di.out];exact dp.out
 case stop=>
  rintro D cb pre W aX _⟨bS,rfl,be⟩bd;have a:Hid (w.heap.size≤g8∧g8<g9∧g9<g10∧g10<g11∧g11<g12∧g12<D):=by
   have:=HNE.out;have:=a9.out;have:=s.out.o4;have:=s.out.o7;have:=s.out.o8;have:=s.out.o9;have:=s.out.ji;have:=LT.out;simp only[Hid];omega
  have bt:=af bd;have J:Fr (fun k=>some k=some D) W (W.putObj D (.deferred none)):=Fr.grown (grownBy_putObj' W D _);have bq:Hid (Fr ag w (W.putObj D (.deferred none))):=(s.out.fr.aw bS.fr (fun i R e=>by have:=a.out;omega)).aw J (fun i R e=>by have g:i=D:=(by simpa using e);have:=a.out;omega);have br:=af (bS.b8.fr J (fun e=>by have g:g8=D:=(by simpa using e);have:=a.out;omega));have bs:=af (bS.b9.fr J (fun e=>by have g:g9=D:=(by simpa using e);have:=a.out;omega));have aB:=af (bS.gR.fr J (fun e=>by have g:g10=D:=(by simpa using e);have:=a.out;omega));have bv:=af (iG.none (k:=35) bq.out);rw[aP,show gC.map aT=ar gC from rfl,cy.out]at bv;have bz:Hid (bj leaf index n path=(gC,[],35)):=by
   simp only[Hid];rw[NV.out,if_neg (by rw[PL.out];omega)]
  clear J bS bd bY bZ bx;gi_wp2;refine⟨by simp, .inl ⟨_,_,rfl,run_takeDeferred bt.out,?_⟩⟩;exact⟨_,iC _ _ g8 g9 g10 aD _ 35 rfl rfl rfl br.out a6.out.info bs.out aB.out,by rw[bz.out];exact bv.out⟩
end Go.Proofs.YtphjagkehiklkaaGreatDoor.Lt
namespace Go.Proofs.YtphjagkehiklkaaGreatDoor.Lt
open Go.RowKit
theorem iy(leaf:List UInt8)(a:leaf.length=32)(index n:Int)(path:List (List UInt8))(he:∀d∈path,d.length=32):(bj leaf index n path).1.length=32:=by
 unfold bj;split
 ·split;·rename_i h;exact(jA leaf a path he _ _ rfl (by omega)).root
  ·exact j8
 ·exact j8
theorem lJ(leaf:List UInt8)(d:leaf.length=32)(index n:Int)(e:-9223372036854775808≤n∧n≤9223372036854775807)(path:List (List UInt8))(len:Nat)(A:Option Addr)(c:Nat)(S:Nat→Prop)(w:World)(f:ed w S A len path)(a:len≤1048576)(g:bH w):
  Calls Tryz.prog 77 #[aP leaf, .int .i64 index, .int .i64 n, .slice A len c] w (iG w (bj leaf index n path)):=by
 by_cases h:1≤n∧n≤1048576∧0≤index∧index<n;·obtain⟨b,rfl⟩:∃b:Nat,n=b:=⟨n.toNat,by omega⟩;obtain⟨i',rfl⟩:∃i':Nat,index=i':=⟨index.toNat,by omega⟩;exact C9 leaf d i' b (by omega) (by omega) path len A c S w f a g
 ·have:=yG leaf d index n A len c w h e;unfold bj;rw[if_neg h];exact this
theorem wV(leaf:List UInt8)(k:leaf.length=32)(index n:Int)(W:-9223372036854775808≤n∧n≤9223372036854775807)(path:List (List UInt8))(len:Nat)(A:Option Addr)(c:Nat)(S:Nat→Prop)(w:World)(z:ed w S A len path)(g:len≤1048576)(L:bH w):
  Calls Tryz.prog 58 #[aP leaf, .int .i64 index, .int .i64 n, .slice A len c] w (aK w (.tuple #[aP (bj leaf index n path).1, .int .i64 (bj leaf index n path).2.2])):=by
 have t:Hid (∀w',Fr ag w w'→Calls Tryz.prog 77 #[aP leaf, .int .i64 index, .int .i64 n, .slice A len c] w' (iG w' (bj leaf index n path))):=fun w' M=>lJ leaf k index n W path len A c S w' (z.aq M) g (L.aq M);have C:=iy leaf k index n path z.each;have u:Hid ((Tryz.prog.info? 38).map (·.size)=some (ar leaf).length):=by rw[ar,List.length_map,k];exact ef
 unfold iG at t;generalize(bj leaf index n path).2.1=Z at*;generalize(bj leaf index n path).2.2=E at*;generalize(bj leaf index n path).1=r at*;have a:Hid (cX (ar r).toArray):=cX.of C;have y:Hid ((Tryz.prog.info? 38).map (·.size)=some (ar r).length):=by rw[ar,List.length_map,C];exact ef
 clear k z L C;unfold aP at*;simp only[show∀l:List UInt8,l.map aT=ar l from fun _=>rfl]at*;generalize ar leaf=V at*;generalize ar r=j at*;go_enter Tryz.func58,Tryz.ntmps58;go_wp2_with(refine ay rfl 38 (.tmp 0) rfl _ rfl ?_);intro w1 n1;have h:=af n1;clear n1;go_wp2_with(refine ak rfl 38 rfl aR fV aD rfl ?_);intro w2 m;have D:=af (h.out.aF.fr m.fr (fun x=>x));have F:=af m.aF;have G:=af (h.out.fr.trans m.fr);have z1:Hid (w.heap.size≤w1.heap.size):=h.out.fr.size;clear m h;generalize K:w.heap.size=g4 at*;have H:=af K;clear K;generalize w1.heap.size=g8 at*;go_wp2_with(refine eN rfl 38 (.tmp 4) rfl g4 rfl _ V D.out _ Tryz.underlying38 rfl u.out ?_);refine(t.out _ G.out).mono ?_;rintro e N⟨v,rfl,B⟩;have P:=af (G.out.trans B.aq);have f:=af (F.out.fr B.aq (fun x=>x));clear B t F D;go_wp2_with(refine ak rfl 38 rfl aR fV aD rfl ?_);intro aa n4;have Q:=af (P.out.trans n4.fr);have o:=af (f.out.fr n4.fr (fun x=>x));have b:=af n4.aF;have z2:Hid (g8<N.heap.size):=f.out.lt;clear n4;generalize N.heap.size=g10 at*;go_wp2_with(refine ai rfl 38 (.tmp 10) _ rfl g10 j.toArray rfl rfl _ _ b.out a.out.info a.out.zero a.out.one ?_);intro Y b5 f5;have d:=af b5;have s:=af (o.out.fr f5 (fun e=>by have J:g8=g10:=e;have:=z2.out;omega));have R:Hid (Fr ag w Y):=Q.out.aw f5 (fun i X e=>by have J:i=g10:=e;have:=z2.out;have:=z1.out;have:=H.out;omega);clear b5 f5;go_wp2_with(first|(refine eN rfl 38 (.tmp 10) rfl g10 rfl _ j d.out _ Tryz.underlying38 rfl y.out ?_)|(refine ai rfl 38 (.tmp 8) _ rfl g8 j.toArray rfl rfl _ _ s.out a.out.info a.out.zero a.out.one ?_));intro O I f6;have T:=af I;have U:Hid (Fr ag w O):=R.out.aw f6 (fun i X e=>by have J:i=g8:=e;have:=z1.out;have:=H.out;omega);clear I f6;go_wp2;exact bodyPost_ret (dK (fn:=Tryz.f58) (p:=8) (q:=9) (ty:=38) Tryz.results58 _ O _ 38 j.toArray (0,0) _ rfl T.out Tryz.underlying38 rfl a.out.info _ rfl) rfl ⟨rfl,U.out⟩
theorem AJ{w:World}{g:Nat}{t:TypeId}{L d:List UInt8}(h:ao w g t ((L++d).map aT).toArray)(a:L.length=32)(c:d.length=32):Rd w (fun k=>k=g) 1 (some ⟨g,0,none⟩) 32 (L.map aT)∧Rd w (fun k=>k=g) 1 (some ⟨g,32,none⟩) 32 (d.map aT):=by
 refine⟨⟨by simp[a],fun _=>⟨_,rfl,rfl,fun j u hu=>?_⟩⟩,⟨by simp[c],fun _=>⟨_,rfl,rfl,fun j u hu=>?_⟩⟩⟩;·have b:=(List.getElem?_eq_some_iff.1 hu).1;rw[Addr.add_mid,Nat.zero_add,h.cell,bD,List.map_append,List.getElem?_append_left b];exact hu
 ·rw[Addr.add_mid,h.cell,bD,List.map_append,List.getElem?_append_right (by simp;omega),List.length_map,a,show 32+j-32=j by omega];exact hu
theorem xG(l r:List UInt8)(k:l.length=32)(m:r.length=32)(w:World):Calls Tryz.prog 78 #[.agg (ar l++ar r).toArray] w (aK w (.string ⟨(dc 1 [l,r]).toArray⟩)):=by
 have el:dG ⟨l.toArray⟩=l:=by simp[dG]
 have G:dG ⟨r.toArray⟩=r:=by simp[dG]
 have K:Hid (∀(W:World)(b:Nat),W.cell? ⟨b,0,none⟩=some (.string ⟨l.toArray⟩)→W.cell? ⟨b,1,none⟩=some (.string ⟨r.toArray⟩)→Calls Tryz.prog 125 #[.int .u8 1, .slice (some ⟨b,0,none⟩) 2 2] W (Joined W ⟨(dc 1 [l,r]).toArray⟩)):=by
  intro W b y z;have h:=wX 1 [⟨l.toArray⟩,⟨r.toArray⟩] (some ⟨b,0,none⟩) 2 2 _ W (EC y z) (by omega) (uc 1 _ _ (by rw[ByteArray.size,List.size_toArray,k];omega) (by rw[ByteArray.size,List.size_toArray,m];omega)) (by
   intro p I;simp only[List.mem_cons,List.not_mem_nil,or_false]at I;rcases I with rfl|rfl<;>simp only[ByteArray.size,List.size_toArray,k,m]<;>omega);simp only[List.map_cons,List.map_nil,el,G]at h;exact h
 have E:Hid (∀{w':World}{g:Nat}{t:TypeId},ao w' g t ((l++r).map aT).toArray→(convert 61 9 (.slice (some ⟨g,0,none⟩) 32 32)).run Tryz.prog w'= .ok (.string ⟨l.toArray⟩) w'∧(convert 61 9 (.slice (some ⟨g,32,none⟩) 32 32)).run Tryz.prog w'= .ok (.string ⟨r.toArray⟩) w'):=fun H=>
  ⟨mV (P:=Tryz.prog) _ 61 9 5 Tryz.underlying61 Tryz.underlying5 Tryz.underlying9 _ _ 32 32 l (AJ H k m).1,mV (P:=Tryz.prog) _ 61 9 5 Tryz.underlying61 Tryz.underlying5 Tryz.underlying9 _ _ 32 32 r (AJ H k m).2⟩;have F:ar l++ar r=(l++r).map aT:=by unfold ar;rw[List.map_append]
 rw[F];generalize(l++r).map aT=Y at*;generalize(⟨l.toArray⟩:ByteArray)=o at*;generalize(⟨r.toArray⟩:ByteArray)=RS at*;generalize(⟨(dc 1 [l,r]).toArray⟩:ByteArray)=n at*;clear k m el G F;go_enter Tryz.func78,Tryz.ntmps78;go_wp2_with(refine ay rfl 139 (.tmp 0) rfl _ rfl ?_);intro w1 n1;have D:=af n1.aF;have L:=af n1.fr;clear n1;generalize w.heap.size=g at*;have CL:Hid (∀w',Fr ag w1 w'→(convert 61 9 (.slice (some ⟨g,0,none⟩) 32 32)).run Tryz.prog w'= .ok (.string o) w'):=fun w' j=>(E.out (D.out.fr j (fun x=>x))).1;have J:Hid (∀w',Fr ag w1 w'→(convert 61 9 (.slice (some ⟨g,32,none⟩) 32 32)).run Tryz.prog w'= .ok (.string RS) w'):=fun w' j=>(E.out (D.out.fr j (fun x=>x))).2;go_upto_region 1 with fail;refine aE 13 ag [Is (.pointer (some ⟨g,0,none⟩)),Is (.slice (some ⟨g,0,none⟩) 32 32),Is (.string o),Is (.pointer (some ⟨g,32,none⟩)),Is (.slice (some ⟨g,32,none⟩) 32 32),Is (.string RS),fun v w'=>∃b,v= .slice (some ⟨b,0,none⟩) 2 2∧w'.cell? ⟨b,0,none⟩=some (.string o)∧w'.cell? ⟨b,1,none⟩=some (.string RS),Is (.tuple #[.string n, .int .i64 0]),Is (.tuple #[.string n, .int .i64 0]),Is (.string n),Is (.int .i64 0),Is (.string n),Is (.int .i64 0)] [] (fun _=>True) (fun _ _=>false) (by kernel_rfl) (by kernel_rfl) (by kernel_rfl) (by kernel_rfl) ⟨Is.ah _,Is.ah _,Is.ah _,Is.ah _,Is.ah _,Is.ah _,fun v w' X _ j⟨b,h,q,s⟩=>⟨b,h,j.an q (fun x=>x),j.an s (fun x=>x)⟩,Is.ah _,Is.ah _,Is.ah _,Is.ah _,Is.ah _,Is.ah _,trivial⟩ trivial (fun _ _ _ _ h=>h) trivial ?_ ?_
 ·refine⟨?_,?_,?_,?_,?_,?_,?_,?_,?_,?_,?_,?_,?_,trivial⟩;all_goals intro u w' d j a i f c
  all_goals simp only[bJ,bK,bL,bM,au,Act.put,bN,bO,bP,Nat.reduceAdd,Nat.zero_add]
  ·clear a i f c;refine aj ?_;go_simp;exact⟨_,rfl,al⟩
  ·have y:u 0=_:=a 0;clear a i f c;simp only[y];refine aj ?_;go_simp;exact⟨_,rfl,al⟩
  ·have z:u 1=_:=a 1;clear a i f c;simp only[z];refine aj ?_;have V:=CL.out w' j;go_simp;exact⟨_,rfl,al⟩
  ·clear a i f c;refine aj ?_;go_simp;exact⟨_,rfl,al⟩
  ·have O:u 3=_:=a 3;clear a i f c;simp only[O];refine aj ?_;go_simp;exact⟨_,rfl,al⟩
  ·have Q:u 4=_:=a 4;clear a i f c;simp only[Q];refine aj ?_;have V:=J.out w' j;go_simp;exact⟨_,rfl,al⟩
  ·have N:u 2=_:=a 2;have R:u 5=_:=a 5;clear a i f c;simp only[N,R];refine aj ?_;go_simp;exact⟨_,rfl,aA.alloc _,⟨w'.heap.size,rfl,by simp,by simp⟩,trivial⟩
  ·obtain⟨b,S,q,s⟩:=a 6;clear a i f c;simp only[S];refine aj ?_;go_simp;refine(K.out _ _ q s).mono ?_;rintro e Z⟨rfl,f4⟩;exact⟨_,rfl,f4.bI,rfl,trivial⟩
  ·have T:u 7=_:=a 7;clear a i f c;simp only[T];refine aj ?_;go_simp;exact⟨_,rfl,al⟩
  ·have C:u 8=_:=a 8;clear a i f c;simp only[C];refine aj ?_;go_simp;exact⟨_,rfl,al⟩
  ·have C:u 8=_:=a 8;clear a i f c;simp only[C];refine aj ?_;go_simp;exact⟨_,rfl,al⟩
  ·have U:u 9=_:=a 9;clear a i f c;simp only[U];refine aj ?_;go_simp;exact⟨_,rfl,al⟩
  ·have A:u 10=_:=a 10;clear a i f c;simp only[A];refine aj ?_;go_simp;exact⟨_,rfl,al⟩
 ·intro u w' j a c;have B:u 11=_:=a 11 (by omega);clear a c;simp only[bJ,bK,bL,bM,au,Act.put,bN,bO,bP,dL,dM,Nat.reduceAdd,Nat.zero_add,B];have M:=af (L.out.trans j);clear j;go_wp2;go_ret;exact⟨rfl,M.out⟩
end Go.Proofs.YtphjagkehiklkaaGreatDoor.Lt
