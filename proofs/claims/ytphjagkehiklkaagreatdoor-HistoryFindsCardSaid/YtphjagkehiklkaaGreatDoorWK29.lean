/- Texts. -/
import Derived.Test.YtphjagkehiklkaaGreatDoorWK28
set_option linter.unusedVariables false
set_option linter.unusedSimpArgs false
set_option maxRecDepth 100000
set_option maxHeartbeats 4000000
namespace Go.Proofs.YtphjagkehiklkaaGreatDoor.Lt
open Go.RowKit Go.Shelf
attribute[local go_sem]Oper.semAt_some
def bS(index n:Nat):List Bool:=
 if a:2≤n∧au n<n∧1≤au n then
  (if index<au n then bS index (au n)++[true]else bS (index-au n) (n-au n)++[false])
 else[]
termination_by n
decreasing_by all_goals omega
theorem sO(index:Nat):bS index 1=[]:=by rw[bS,dif_neg (by omega)]
theorem rj{index n:Nat}(b:2≤n)(d:n≤1099511627776)(h:index<au n):bS index n=bS index (au n)++[true]:=by
 obtain⟨a,_,c⟩:=aX n b d;rw[bS,dif_pos ⟨b,a,c⟩,if_pos h]
theorem pP{index n:Nat}(b:2≤n)(d:n≤1099511627776)(h:¬index<au n):bS index n=bS (index-au n) (n-au n)++[false]:=by
 obtain⟨a,_,c⟩:=aX n b d;rw[bS,dif_pos ⟨b,a,c⟩,if_neg h]
theorem RoundIn.jF{F:Fence}(a:F.depth=none){m b:Nat}{P:Program}{l:Nat}{f:FuncId}{tmps:Array Value}{assign body:Code}{w:World}{e:Ending→World→Prop}
  (h:RoundIn F m P l f tmps assign body w e):RoundIn F b P l f tmps assign body w e:=⟨h.1,fun c cs _=>h.2 c cs (fun d h=>by rw[a]at h;cases h)⟩
theorem YieldAt.jF{F:Fence}(b:F.depth=none){m:Nat}(d:Nat){P:Program}{l:Nat}{args:Array Value}{W:World}{e:Ending→World→Prop}(h:YieldAt F m P l args W e):YieldAt F d P l args W e:=by
 obtain⟨fn,tmps,assign,body,c,a⟩:=h;exact⟨fn,tmps,assign,body,c,RoundIn.jF b a⟩
def Gg(b a:List Bool→World→Prop)(pre xs:List Bool)(e:Ending)(W':World):Prop:=
 (e= .returned (.bool true)∧b (pre++xs) W')∨(e= .returned (.bool false)∧∃q,q<+:xs∧a (pre++q) W')
theorem Ex(l N:Nat)(J g:List Bool→World→Prop)
  (y:∀m pre x W,J pre W→pre.length<N→YieldAt Fence.wide m Tryz.prog l #[.bool x] W fun e W'=>(e= .returned (.bool true)∧J (pre++[x]) W')∨(e= .returned (.bool false)∧g (pre++[x]) W'))(n:Nat):
  ∀(m index:Nat)(pre:List Bool)(W:World),index<n→n≤1048576→J pre W→pre.length+(bS index n).length≤N→
   CallsIn Fence.wide m Tryz.prog 158 #[.int .i64 index, .int .i64 n, .func (.yield l) #[] #[]] W (Gg J g pre (bS index n)):=by
 induction n using Nat.strongRecOn with
 |_ n z=>
  intro m index pre W D G j i;have b:∀k:Nat,(Fence.wide.depth.isSome=true→1≤k):=fun k h=>by cases h
  by_cases e:n=1;·subst e;rw[sO];refine callsIn_of_wp Tryz.func158 rfl trivial ?_ rfl;simp only[Tryz.ntmps158,List.size_toArray,List.length_cons,List.length_nil,Nat.reduceAdd,Nat.reduceSub,Array.replicate_succ,Array.replicate_zero,List.push_toArray,List.append_toArray,List.nil_append,List.cons_append];gi_wp2;go_ret;exact .inl ⟨rfl,by simpa using j⟩
  ·obtain⟨F,_,H⟩:=aX n (by omega) (by omega);have v:=af (fun w=>fV n w (by omega) (by omega));have t1:((n:Int)==1)=false:=by rw[beq_eq_false_iff_ne];omega
   by_cases hm:index<au n
   ·have t2:decide ((index:Int)<((au n:Nat):Int))=true:=dh (by omega);have t:=rj (by omega) (by omega) hm;rw[t]at i⊢;rw[bh]at i;have d:∀a,J (pre++bS index (au n)) a→YieldAt Fence.wide (m-1) Tryz.prog l #[.bool true] a fun e c=>
      (e= .returned (.bool true)∧J (pre++bS index (au n)++[true]) c)∨(e= .returned (.bool false)∧g (pre++bS index (au n)++[true]) c):=fun a o=>
     y (m-1) _ true a o (by simp at i⊢;omega);have f:=af (fun W(j:J pre W)=>(z (au n) F (m-1) index pre W hm (by omega) j (by omega)).mono (R':=fun e a=>
      (e= .returned (.bool true)∧YieldAt Fence.wide (m-1) Tryz.prog l #[.bool true] a fun e c=>
       (e= .returned (.bool true)∧J (pre++bS index (au n)++[true]) c)∨(e= .returned (.bool false)∧g (pre++bS index (au n)++[true]) c))∨
      (e= .returned (.bool false)∧∃q,q<+:bS index (au n)∧g (pre++q) a))
     (fun e a h=>h.elim (fun⟨he,B⟩=> .inl ⟨he,d a B⟩) .inr));clear d z y t i;generalize A:bS index (au n)=S at*;clear A;generalize au n=k at*;refine callsIn_of_wp Tryz.func158 rfl trivial ?_ rfl;simp only[Tryz.ntmps158,List.size_toArray,List.length_cons,List.length_nil,Nat.reduceAdd,Nat.reduceSub,Array.replicate_succ,Array.replicate_zero,List.push_toArray,List.append_toArray,List.nil_append,List.cons_append]
    gi_wp2_with(first
     |((try refine⟨trivial,b _,?_⟩);gi_at_call 121;refine(callsIn_wide.2 (v.out _)).mono ?_;clear v;rintro e w1⟨rfl,rfl⟩)
     |((try refine⟨trivial,b _,?_⟩);gi_at_call 158;refine(f.out _ j).mono ?_;clear f;rintro e a(⟨rfl,fn,tmps,assign,body,E,u⟩|⟨rfl,q,C,r⟩))
     |((try refine⟨b _,?_⟩);(try refine⟨trivial,b _,?_⟩);refine u.mono ?_;clear u;rintro e c(⟨rfl,p⟩|⟨rfl,s⟩)));·go_ret;exact .inl ⟨rfl,by simpa[List.append_assoc]using p⟩
    ·go_ret;exact .inr ⟨rfl,S++[true],List.prefix_refl _,by simpa[List.append_assoc]using s⟩
    ·refine⟨fun _ h=>(by cases h),?_⟩;gi_wp2;go_ret;exact .inr ⟨rfl,q,C.trans (List.prefix_append _ _),r⟩
   ·have t2:decide ((index:Int)<((au n:Nat):Int))=false:=ct (by omega);have t:=pP (by omega) (by omega) hm;rw[t]at i⊢;rw[bh]at i;have s1:(index:Int)-((au n:Nat):Int)=((index-au n:Nat):Int):=by omega
    have s2:(n:Int)-((au n:Nat):Int)=((n-au n:Nat):Int):=by omega
    have d:∀a,J (pre++bS (index-au n) (n-au n)) a→YieldAt Fence.wide (m-1) Tryz.prog l #[.bool false] a fun e c=>
      (e= .returned (.bool true)∧J (pre++bS (index-au n) (n-au n)++[false]) c)∨(e= .returned (.bool false)∧g (pre++bS (index-au n) (n-au n)++[false]) c):=fun a o=>
     y (m-1) _ false a o (by simp at i⊢;omega);have f:=af (fun W(j:J pre W)=>(z (n-au n) (by omega) (m-1) (index-au n) pre W (by omega) (by omega) j (by omega)).mono (R':=fun e a=>
      (e= .returned (.bool true)∧YieldAt Fence.wide (m-1) Tryz.prog l #[.bool false] a fun e c=>
       (e= .returned (.bool true)∧J (pre++bS (index-au n) (n-au n)++[false]) c)∨(e= .returned (.bool false)∧g (pre++bS (index-au n) (n-au n)++[false]) c))∨
      (e= .returned (.bool false)∧∃q,q<+:bS (index-au n) (n-au n)∧g (pre++q) a))
     (fun e a h=>h.elim (fun⟨he,B⟩=> .inl ⟨he,d a B⟩) .inr));clear d z y t i;generalize A:bS (index-au n) (n-au n)=S at*;clear A;have b1:index-au n≤1048576:=by omega
    have b2:n-au n≤1048576:=by omega
    generalize index-au n=i2 at*;generalize n-au n=I at*;generalize au n=k at*;refine callsIn_of_wp Tryz.func158 rfl trivial ?_ rfl;simp only[Tryz.ntmps158,List.size_toArray,List.length_cons,List.length_nil,Nat.reduceAdd,Nat.reduceSub,Array.replicate_succ,Array.replicate_zero,List.push_toArray,List.append_toArray,List.nil_append,List.cons_append]
    gi_wp2_with(first
     |((try refine⟨trivial,b _,?_⟩);gi_at_call 121;refine(callsIn_wide.2 (v.out _)).mono ?_;clear v;rintro e w1⟨rfl,rfl⟩)
     |((try refine⟨trivial,b _,?_⟩);gi_at_call 158;refine(f.out _ j).mono ?_;clear f;rintro e a(⟨rfl,fn,tmps,assign,body,E,u⟩|⟨rfl,q,C,r⟩))
     |((try refine⟨b _,?_⟩);(try refine⟨trivial,b _,?_⟩);refine u.mono ?_;clear u;rintro e c(⟨rfl,p⟩|⟨rfl,s⟩)));·go_ret;exact .inl ⟨rfl,by simpa[List.append_assoc]using p⟩
    ·go_ret;exact .inr ⟨rfl,S++[false],List.prefix_refl _,by simpa[List.append_assoc]using s⟩
    ·refine⟨fun _ h=>(by cases h),?_⟩;gi_wp2;go_ret;exact .inr ⟨rfl,q,C.trans (List.prefix_append _ _),r⟩
theorem yq(m c d index n:Nat)(w:World)(y:c<w.heap.size)(B:d<w.heap.size)(ci:w.cell? ⟨c,0,none⟩=some (.int .i64 index))(t:w.cell? ⟨d,0,none⟩=some (.int .i64 n))(i:index<n)(j:n≤1048576):
  SeqStopsK Fence.wide m Tryz.prog 157 #[.pointer (some ⟨c,0,none⟩), .pointer (some ⟨d,0,none⟩)] (fun x:Bool=>#[Value.bool x]) (fun _ _=>True) (fun E=>E=bS index n) (fun pre=>pre<+:bS index n) (bS index n).length w:=by
 intro l I s W o _ _ v u;have g:∀k:Nat,(Fence.wide.depth.isSome=true→1≤k):=fun k h=>by cases h
 have r:=Ex l (bS index n).length I s (fun m pre x W z A=>YieldAt.jF rfl m (YieldAt.mono (v pre x W z A) fun e W' h=>h.elim (fun⟨a,b,_⟩=> .inl ⟨a,b⟩) .inr)) n (m-1) index [] W i j u (by simp);have G:=(o.cell (p:=⟨c,0,none⟩) y).trans ci;have H:=(o.cell (p:=⟨d,0,none⟩) B).trans t;refine callsIn_of_wp Tryz.func157 rfl trivial ?_ rfl;simp only[Tryz.ntmps157,List.size_toArray,List.length_cons,List.length_nil,Nat.reduceAdd,Nat.reduceSub,Array.replicate_succ,Array.replicate_zero,List.push_toArray,List.append_toArray,List.nil_append,List.cons_append];gi_wp2_with((try refine⟨trivial,g _,?_⟩);gi_at_call 158;refine r.mono ?_;clear r;rintro e F(⟨rfl,f⟩|⟨rfl,q,C,D⟩));·go_end0;exact⟨⟨_,rfl⟩, .inl ⟨_,rfl,by simpa using f⟩⟩
 ·go_end0;exact⟨⟨_,rfl⟩, .inr ⟨q,C,by simpa using D⟩⟩
theorem C7(index n:Int)(w:World):Calls Tryz.prog 123 #[.int .i64 index, .int .i64 n] w fun e w'=>e= .returned (.func (.func 157) #[] #[.pointer (some ⟨w.heap.size,0,none⟩), .pointer (some ⟨w.heap.size+1,0,none⟩)])∧w'=(w.alloc (.cells #[.int .i64 index] 3)).alloc (.cells #[.int .i64 n] 3):=by
 go_enter Tryz.func123,Tryz.ntmps123;go_wp2;go_ret;exact⟨rfl,rfl⟩
end Go.Proofs.YtphjagkehiklkaaGreatDoor.Lt
namespace Go.Proofs.YtphjagkehiklkaaGreatDoor.Lt
open Go.RowKit
def nU(s:List UInt8×List (List UInt8×List UInt8))(b:Bool)(d:List UInt8):List UInt8×List (List UInt8×List UInt8):=
 (bU (if b then s.1 else d) (if b then d else s.1),s.2++[(if b then s.1 else d,if b then d else s.1)])
def dB(leaf:List UInt8)(pre:List Bool)(path:List (List UInt8)):List UInt8×List (List UInt8×List UInt8):=(pre.zip path).foldl (fun s x=>nU s x.1 x.2) (leaf,[])
theorem Fw(leaf:List UInt8)(path:List (List UInt8)):dB leaf [] path=(leaf,[]):=rfl
theorem xj:∀(pre:List Bool)(path:List (List UInt8))(b:Bool)(d:List UInt8),path[pre.length]? =some d→(pre++[b]).zip path=pre.zip path++[(b,d)]
 |[],d'::path,b,d,h=>by simp at h;simp[h]
 |[],[],b,d,h=>by simp at h
 |x::pre,[],b,d,h=>by simp at h
 |x::pre,y::path,b,d,h=>by
  have a:path[pre.length]? =some d:=by simpa using h
  simp[xj pre path b d a]
theorem lJ(leaf:List UInt8)(pre:List Bool)(path:List (List UInt8))(b:Bool)(d:List UInt8)(h:path[pre.length]? =some d):dB leaf (pre++[b]) path=nU (dB leaf pre path) b d:=by
 unfold dB;rw[xj pre path b d h,List.foldl_append];rfl
structure xu(s:List UInt8×List (List UInt8×List UInt8))(n:Nat):Prop where
 root:s.1.length=32
 count:s.2.length=n
 each:∀p∈s.2,p.1.length=32∧p.2.length=32
theorem xu.step{s:List UInt8×List (List UInt8×List UInt8)}{n:Nat}(h:xu s n)(b:Bool)(d:List UInt8)(c:d.length=32):xu (nU s b d) (n+1):=by
 refine⟨cJ _ _,by simp[nU,h.count],fun p a=>?_⟩;simp only[nU,List.mem_append,List.mem_singleton]at a;rcases a with a|rfl;·exact h.each p a
 ·cases b;·exact⟨c,h.root⟩
  ·exact⟨h.root,c⟩
theorem uW(leaf:List UInt8)(e:leaf.length=32)(path:List (List UInt8))(he:∀d∈path,d.length=32):∀(k:Nat)(pre:List Bool),pre.length=k→k≤path.length→xu (dB leaf pre path) k
 |0,pre,h,_=>by
  obtain rfl:=List.eq_nil_of_length_eq_zero h;exact⟨e,rfl,fun p f=>by cases f⟩
 |k+1,pre,h,g=>by
  rcases List.eq_nil_or_concat pre with rfl|⟨c,b,rfl⟩;·simp at h
  ·rw[List.concat_eq_append]at h⊢;rw[bh,List.length_singleton]at h;have a:c.length<path.length:=by omega
   rw[lJ leaf c path b path[c.length] (List.getElem?_eq_getElem a)];exact(uW leaf e path he k c (by omega) (by omega)).step b _ (he _ (List.getElem_mem a))
def nN(p:List UInt8×List UInt8):List Value:=ao p.1++ao p.2
theorem wH(d:List UInt8):∀u∈ao d,u.oneCell'=true:=fun u hu=>gH d u hu
theorem Ci(p:List UInt8×List UInt8):∀u∈nN p,u.oneCell'=true:=fun u hu=>by
 rcases List.mem_append.1 hu with h|h;·exact wH _ u h
 ·exact wH _ u h
def dn(leaf:List UInt8)(index n:Int)(path:List (List UInt8)):List UInt8×List (List UInt8×List UInt8)×Int:=
 if 1≤n∧n≤1048576∧0≤index∧index<n then
  (if path.length=(bS index.toNat n.toNat).length then((dB leaf (bS index.toNat n.toNat) path).1,(dB leaf (bS index.toNat n.toNat) path).2,0)else(cC,[],35))
 else(cC,[],2)
theorem Cq{w:World}{g:Nat}{t:TypeId}{L d:List Value}(h:aq w g t (L++d).toArray)(c:L.length=32):w.rangeAt g 0 L∧w.rangeAt g 32 d:=by
 refine⟨fun j v a=>?_,fun j v a=>?_⟩;·have b:=(List.getElem?_eq_some_iff.1 a).1;rw[Nat.zero_add,h.cell,bR,List.getElem?_append_left b];exact a
 ·rw[h.cell,bR,List.getElem?_append_right (by omega),c,show 32+j-32=j by omega];exact a
theorem sy(l r:List UInt8)(b:l.length=32)(g:r.length=32)(w:World)(n:bB w):Calls Tryz.prog 124 #[.agg (ao l++ao r).toArray] w (aJ w (aE (bU l r))):=by
 have h:Hid (∀w',Fr ag w w'→Calls Tryz.prog 122 #[.agg (ao l).toArray, .agg (ao r).toArray] w' (aJ w' (.agg (ao (bU l r)).toArray))):=fun w' G=>iG l r b g w' (n.ar G);have D:Hid (bT (ao (bU l r)).toArray):=bT.of (cJ l r);have c:Hid ((ao l).length=32):=by simp[Hid,ao,b]
 have A:Hid ((Tryz.prog.info? 38).map (·.size)=some (ao l).length):=by rw[ao,List.length_map,b];exact cg
 have B:Hid ((Tryz.prog.info? 38).map (·.size)=some (ao r).length):=by rw[ao,List.length_map,g];exact cg
 unfold aE;change Calls _ _ _ _ (aJ w (.agg (ao (bU l r)).toArray));clear n b g;generalize ao (bU l r)=NV at*;generalize ao l=k at*;generalize ao r=m at*;have ty:=Tryz.underlying38;go_enter Tryz.func124,Tryz.ntmps124;go_wp2_with(refine aA rfl 139 (.tmp 0) rfl _ rfl ?_);intro w1 n1;have d:=af n1;clear n1;go_wp2_with(refine ak rfl 38 rfl aI dW aB rfl ?_);intro w2 o;have f:=af o;clear o;have u:Hid (aq w2 w.heap.size 139 (k++m).toArray):=d.out.aH.fr f.out.fr (fun x=>x);have j:Hid (Fr ag w w2):=d.out.fr.trans f.out.fr;have C:Hid (w.heap.size<w1.heap.size):=by have:=d.out.size;simp only[Hid];omega
 obtain⟨q,s⟩:=Cq u.out c.out;generalize a:w.heap.size=g0 at*;go_wp2_with(first|(refine wpList_load_mid rfl 38 (.tmp 3) rfl g0 0 rfl k _ q ty rfl A.out ?_)|(refine wpList_load_mid rfl 38 (.tmp 5) rfl g0 32 rfl m _ s ty rfl B.out ?_)|fail);refine(h.out _ j.out).mono ?_;rintro e w3⟨rfl,f3⟩;have v:=af (f.out.aH.fr f3 (fun x=>x));have y:=af (j.out.trans f3);have z:=af a;clear f3 q s h a;go_wp2_with(refine ai rfl 38 (.tmp 2) _ rfl w1.heap.size NV.toArray rfl rfl _ _ v.out D.out.info D.out.zero D.out.one ?_);intro t b4 f4;have E:=af b4;have F:Hid (Fr ag w t):=y.out.aw f4 (fun i I e=>by have H:i=w1.heap.size:=e;have:=C.out;have:=z.out;omega);clear b4 f4;go_wp2;exact bodyPost_ret (results_cell_row (fn:=Tryz.f124) (p:=2) (ty:=38) Tryz.results124 _ t _ 38 NV.toArray (0,0) _ rfl E.out Tryz.underlying38 rfl D.out.info) rfl ⟨rfl,F.out⟩
end Go.Proofs.YtphjagkehiklkaaGreatDoor.Lt
namespace Go.Proofs.YtphjagkehiklkaaGreatDoor.Lt
open Go.RowKit Go.Shelf
attribute[local go_sem]Oper.semAt_some
theorem bY{P:Program}{ops:Array Oper}{rest:List Oper}{m:Oper}{a:Act}{w:World}{Q:Exit→Act→World→Prop}(c:m.guard=none)(ty:TypeId)(x y:Operand)(i:m.op= .store ty x y)
  (g:Nat)(v:Value)(j:a.eval x= .pointer (some ⟨g,0,none⟩))(l:a.eval y=v)(e:v.oneCell'=true)
  (t:TypeId)(b:Value)(d:aq w g t #[b])(f:(P.info? ty).map (·.size)=some 1)
  (h:∀w',aq w' g t #[v]→Fr (fun k=>k=g) w w'→wpList P ops Q rest (a.put m.dst undef) w'):wpList P ops Q (m::rest) a w:=by
 subst l;exact wpList_store_one c ty x y i g j e t b d f (h _ (gZ d) ((Fr.refl (fun k=>k=g) w).setRow (fun _=>rfl) _))
theorem ep{P:Program}(w:World)(g:Nat)(t ty:TypeId)(v:Value)(d:aq w g t #[v])(a:(P.info? ty).map (·.size)=some 1)(b:(isAgg ty).run P w= .ok false w):
  (loadVar ty ⟨g,0,none⟩).run P w= .ok v w:=by
 have c:w.cell? ⟨g,0,none⟩=some v:=d.cell 0;simp[loadVar,b,go_sem,c]
theorem mf:(Tryz.prog.info? 135).map (·.size)=some 1:=by kernel_rfl
theorem px:(Tryz.prog.info? 34).map (·.size)=some 1:=by kernel_rfl
theorem DU(w:World):(zeroValue 135).run Tryz.prog w= .ok (.slice none 0 0) w:=by kernel_rfl
theorem Iu(w:World):(zeroValue 34).run Tryz.prog w= .ok (.int .i64 0) w:=by kernel_rfl
theorem isAgg82(w:World):(isAgg 135).run Tryz.prog w= .ok false w:=by kernel_rfl
theorem isAgg26(w:World):(isAgg 34).run Tryz.prog w= .ok false w:=by kernel_rfl
theorem iA(tmps:Array Value)(w:World)(g8 g9 g10:Nat)(cs:Array Value)(v:Value)(k:Int)
  (e:tmps.getD 8 undef= .pointer (some ⟨g8,0,none⟩))(f:tmps.getD 9 undef= .pointer (some ⟨g9,0,none⟩))(b:tmps.getD 10 undef= .pointer (some ⟨g10,0,none⟩))
  (b8:aq w g8 38 cs)(g:(Tryz.prog.info? 38).map (·.size)=some cs.size)(b9:aq w g9 135 #[v])(fj:aq w g10 34 #[.int .i64 k]):
  (results Tryz.f77 tmps).run Tryz.prog w= .ok (.tuple #[.agg cs,v, .int .i64 k]) w:=by
 have c:tmps[8]?.getD undef= .pointer (some ⟨g8,0,none⟩):=by simpa using e
 have d:tmps[9]?.getD undef= .pointer (some ⟨g9,0,none⟩):=by simpa using f
 have a:tmps[10]?.getD undef= .pointer (some ⟨g10,0,none⟩):=by simpa using b
 simp[results,Tryz.results77,c,d,a,asAddr,run_loadVar_row w g8 38 38 cs (0,0) _ b8 Tryz.underlying38 rfl g,ep w g9 _ _ v b9 mf (isAgg82 w),ep w g10 _ _ _ fj px (isAgg26 w)]
def jT(w:World)(V:List UInt8×List (List UInt8×List UInt8)×Int)(e:Ending)(w':World):Prop:=
 ∃v,e= .returned (.tuple #[aE V.1,v, .int .i64 V.2.2])∧bW 139 64 w (.slice none 0 0) w' v V.2.1.length (V.2.1.flatMap nN)
theorem jT.none{w w':World}{k:Int}(h:Fr ag w w'):jT w (cC,[],k) (.returned (.tuple #[aE cC, .slice none 0 0, .int .i64 k])) w':=
 ⟨_,rfl,⟨⟨rfl, .inl ⟨rfl,rfl⟩⟩,h.bP,fun _ a=> .inl a⟩⟩
structure lR(w w':World)(len:Nat)(A:Option Addr)(c:Nat)(a:List Value)(g4 g7 g8 g9 g10:Nat):Prop where
 fr:Fr ag w w'
 b4:aq w' g4 38 a.toArray
 b7:aq w' g7 31 #[.slice A len c]
 b8:aq w' g8 38 aB
 b9:aq w' g9 135 #[.slice none 0 0]
 fj:aq w' g10 34 #[.int .i64 0]
 o4:w.heap.size≤g4
 o7:g4<g7
 o8:g7<g8
 o9:g8<g9
 jh:g9<g10
theorem lR.later{w w' b:World}{len:Nat}{A:Option Addr}{c:Nat}{d:List Value}{g4 g7 g8 g9 g10:Nat}(h:lR w w' len A c d g4 g7 g8 g9 g10)(a:Fr ag w' b):lR w b len A c d g4 g7 g8 g9 g10:=
 ⟨h.fr.trans a,h.b4.fr a (fun x=>x),h.b7.fr a (fun x=>x),h.b8.fr a (fun x=>x),h.b9.fr a (fun x=>x),h.fj.fr a (fun x=>x),h.o4,h.o7,h.o8,h.o9,h.jh⟩
theorem lR.of{w w1 w2 w3 g i:World}{len:Nat}{A:Option Addr}{c:Nat}{h:List Value}(f:dF w w1 38 h.toArray)(e:dF w1 w2 31 #[.slice A len c])(d:dF w2 w3 38 aB)(a:dF w3 g 135 #[.slice none 0 0])(b:dF g i 34 #[.int .i64 0]):
  lR w i len A c h w.heap.size w1.heap.size w2.heap.size w3.heap.size g.heap.size:=by
 have j:=f.size;have k:=e.size;have l:=d.size;have m:=a.size;exact⟨f.fr.trans (e.fr.trans (d.fr.trans (a.fr.trans b.fr))),f.aH.fr (e.fr.trans (d.fr.trans (a.fr.trans b.fr))) (fun x=>x),e.aH.fr (d.fr.trans (a.fr.trans b.fr)) (fun x=>x),d.aH.fr (a.fr.trans b.fr) (fun x=>x),a.aH.fr b.fr (fun x=>x),b.aH,Nat.le_refl _,by omega,by omega,by omega,by omega⟩
theorem cX{w:World}{base:Nat}{e:TypeId}{size n k:Nat}{v:Value}{xs:List Value}(h:w.ownsRow base e size v n xs)(a:v.ownBlock=some k):∃f,w.heap[k]? =some f∧f.isCells=true:=by
 rcases h.2 with⟨rfl,_⟩|⟨d,b,cur,rfl,_,c,_⟩;·simp[Value.ownBlock]at a
 ·simp[Value.ownBlock]at a;subst a;exact⟨_,c,rfl⟩
structure qC(w1:World)(g11 g12 len:Nat)(leaf:List UInt8)(path:List (List UInt8))(pre:List Bool)(W:World):Prop where
 fr:Fr (fun k=>k=g11∨k=g12) w1 W
 le:pre.length≤len
 row:∃v,aq W g11 135 #[v]∧W.ownsRow 0 139 64 v pre.length ((dB leaf pre path).2.flatMap nN)∧∀k,v.ownBlock=some k→w1.heap.size≤k
 root:aq W g12 38 (ao (dB leaf pre path).1).toArray
theorem qC.iV{w1:World}{g11 g12 len:Nat}{leaf:List UInt8}{path:List (List UInt8)}(d:g11<w1.heap.size)(f:g12<w1.heap.size):OwnFrom w1.heap.size (qC w1 g11 g12 len leaf path):=by
 intro pre A B row h p o;have a:∀k,k<w1.heap.size→some k≠row:=fun k m e=>by have:=(o k e.symm).1;omega
 have c:Fr (fun k=>some k=row) A B:=Fr.grown p;obtain⟨v,gg,b,r⟩:=h.row;refine⟨h.fr.aw c (fun i q e=>absurd e (a i q)),h.le,⟨v,gg.fr c (fun e=>a _ d e),aQ b c (fun k m e=>?_),r⟩,h.root.fr c (fun e=>a _ f e)⟩;obtain⟨_,t,n,l⟩:=o k e.symm;obtain⟨s,j,g⟩:=cX b m;rw[j]at n;cases n;rw[g]at l;cases l
structure Dq(w1:World)(g8 g9 g10 g11 g12:Nat)(W:World):Prop where
 fr:Fr (fun k=>k=g8∨k=g9∨k=g10∨k=g11∨k=g12) w1 W
 b8:aq W g8 38 aB
 b9:aq W g9 135 #[.slice none 0 0]
 fj:aq W g10 34 #[.int .i64 35]
theorem Dq.iV{w1:World}{g8 g9 g10 g11 g12:Nat}(d:g8<w1.heap.size)(f:g9<w1.heap.size)(c:g10<w1.heap.size)(C:Prop):OwnFrom w1.heap.size (fun(_:List Bool)W=>Dq w1 g8 g9 g10 g11 g12 W∧C):=by
 intro pre A B row⟨h,g⟩j m;have a:∀k,k<w1.heap.size→some k≠row:=fun k n e=>by have:=(m k e.symm).1;omega
 have b:Fr (fun k=>some k=row) A B:=Fr.grown j;exact⟨⟨h.fr.aw b (fun i l e=>absurd e (a i l)),h.b8.fr b (fun e=>a _ d e),h.b9.fr b (fun e=>a _ f e),h.fj.fr b (fun e=>a _ c e)⟩,g⟩
theorem ye(leaf:List UInt8)(C:leaf.length=32)(index n:Int)(A:Option Addr)(len c:Nat)(w:World)(G:¬(1≤n∧n≤1048576∧0≤index∧index<n))(P:-9223372036854775808≤n∧n≤9223372036854775807):
  Calls Tryz.prog 77 #[aE leaf, .int .i64 index, .int .i64 n, .slice A len c] w (jT w (cC,[],2)):=by
 have E:Hid (∀w',Calls Tryz.prog 89 #[.int .i64 n, .int .i64 1, .int .i64 1048576] w' (aY w' (.bool (decide (1≤n∧n≤1048576))))):=fun w'=>cy n 1 1048576 w';have I:Hid (∀w',Calls Tryz.prog 89 #[.int .i64 index, .int .i64 0, .int .i64 (n-1)] w' (aY w' (.bool (decide (0≤index∧index≤n-1))))):=fun w'=>cy index 0 (n-1) w';have K:decide (1≤n∧n≤1048576)=false∨(decide (1≤n∧n≤1048576)=true∧decide (0≤index∧index≤n-1)=false):=by
  by_cases v:1≤n∧n≤1048576;·exact .inr ⟨decide_eq_true v,ct (fun h=>G ⟨v.1,v.2,h.1,by omega⟩)⟩
  ·exact .inl (decide_eq_false v)
 have H:decide (1≤n∧n≤1048576)=true→IntKind.i64.wrap (n-1)=n-1:=fun h=>IntWalk.i64_in _ (by have:=of_decide_eq_true h;omega);have d:Hid (bT (ao cC).toArray):=bT.of ck;have J:Hid ((ao cC).toArray=aB):=jz;have F:Hid (Tryz.prog.built 38 []=some aB):=qH;clear G C;have B:=af (fun w'(h:Fr ag w w')=>jT.none (k:=2) h);unfold aE at*;simp only[show∀l:List UInt8,l.map aS=ao l from fun _=>rfl]at*;rw[J.out]at d B;generalize ao leaf=O at*;generalize decide (1≤n∧n≤1048576)=Q at*;generalize decide (0≤index∧index≤n-1)=R at*;generalize hm:n-1=m at*;rcases K with rfl|⟨rfl,rfl⟩;·go_enter Tryz.func77,Tryz.ntmps77;go_wp2_with(refine aA rfl 38 (.tmp 0) rfl _ rfl ?_);intro w1 n1;have j:=af n1;clear n1;go_wp2_with(refine aA rfl 31 (.tmp 3) rfl _ rfl ?_);intro w2 t;have o:=af t;clear t;go_wp2_with(refine ak rfl 38 rfl aI dW aB rfl ?_);intro w3 n3;have p:=af n3;clear n3;go_wp2_with(refine ak rfl 135 rfl (.slice none 0 0) DU #[.slice none 0 0] rfl ?_);intro D n4;have q:=af n4;clear n4;go_wp2_with(refine ak rfl 34 rfl (.int .i64 0) Iu #[.int .i64 0] rfl ?_);intro L u;have a:=af (lR.of j.out o.out p.out q.out u);clear u j o p q;generalize r:w.heap.size=g4 at*;have f:=af r;clear r;generalize w1.heap.size=g7 at*;generalize w2.heap.size=g8 at*;generalize w3.heap.size=g9 at*;generalize D.heap.size=g10 at*;go_wp2_with fail;refine(E.out _).mono ?_;rintro e w'⟨rfl,rfl⟩;go_upto_region 2 with fail;refine wp_region_lit ?_;refine jw rfl 38 rfl aB F.out ?_;refine ai rfl 38 (.tmp 8) _ rfl g8 aB rfl rfl _ _ a.out.b8 d.out.info rfl d.out.one ?_;intro M b1 f1;refine bY rfl 135 (.tmp 9) _ rfl g9 (.slice none 0 0) rfl rfl rfl _ _ (a.out.b9.fr f1 (fun e=>by have b:g9=g8:=e;have:=a.out.o9;omega)) mf ?_;intro N b2 f2;refine bY rfl 34 (.tmp 10) _ rfl g10 (.int .i64 2) rfl rfl rfl _ _ ((a.out.fj.fr f1 (fun e=>by have b:g10=g8:=e;have:=a.out.o9;have:=a.out.jh;omega)).fr f2 (fun e=>by have b:g10=g9:=e;have:=a.out.jh;omega)) px ?_;intro x3 b3 f3;have x:=af ((b1.fr f2 (fun e=>by have b:g8=g9:=e;have:=a.out.o9;omega)).fr f3 (fun e=>by have b:g8=g10:=e;have:=a.out.o9;have:=a.out.jh;omega));have y:=af (b2.fr f3 (fun e=>by have b:g9=g10:=e;have:=a.out.jh;omega));have g:=af b3;have z:Hid (Fr ag w x3):=((a.out.fr.aw f1 (fun i s e=>by have b:i=g8:=e;have:=a.out.o4;have:=a.out.o7;have:=a.out.o8;have:=f.out;omega)).aw f2 (fun i s e=>by have b:i=g9:=e;have:=a.out.o4;have:=a.out.o7;have:=a.out.o8;have:=a.out.o9;have:=f.out;omega)).aw f3 (fun i s e=>by have b:i=g10:=e;have:=a.out.o4;have:=a.out.o7;have:=a.out.o8;have:=a.out.o9;have:=a.out.jh;have:=f.out;omega);clear b1 b2 b3 f1 f2 f3;go_wp2;exact bodyPost_ret (iA _ x3 g8 g9 g10 aB _ 2 rfl rfl rfl x.out d.out.info y.out g.out) rfl (B.out _ z.out)
 ·go_enter Tryz.func77,Tryz.ntmps77;go_wp2_with(refine aA rfl 38 (.tmp 0) rfl _ rfl ?_);intro w1 n1;have j:=af n1;clear n1;go_wp2_with(refine aA rfl 31 (.tmp 3) rfl _ rfl ?_);intro w2 t;have o:=af t;clear t;go_wp2_with(refine ak rfl 38 rfl aI dW aB rfl ?_);intro w3 n3;have p:=af n3;clear n3;go_wp2_with(refine ak rfl 135 rfl (.slice none 0 0) DU #[.slice none 0 0] rfl ?_);intro D n4;have q:=af n4;clear n4;go_wp2_with(refine ak rfl 34 rfl (.int .i64 0) Iu #[.int .i64 0] rfl ?_);intro L u;have a:=af (lR.of j.out o.out p.out q.out u);clear u j o p q;generalize r:w.heap.size=g4 at*;have f:=af r;clear r;generalize w1.heap.size=g7 at*;generalize w2.heap.size=g8 at*;generalize w3.heap.size=g9 at*;generalize D.heap.size=g10 at*;go_wp2_with fail;refine(E.out _).mono ?_;rintro e w'⟨rfl,rfl⟩;go_wp2_with fail;refine(I.out _).mono ?_;rintro e w'⟨rfl,rfl⟩;go_upto_region 2 with fail;refine wp_region_lit ?_;refine jw rfl 38 rfl aB F.out ?_;refine ai rfl 38 (.tmp 8) _ rfl g8 aB rfl rfl _ _ a.out.b8 d.out.info rfl d.out.one ?_;intro M b1 f1;refine bY rfl 135 (.tmp 9) _ rfl g9 (.slice none 0 0) rfl rfl rfl _ _ (a.out.b9.fr f1 (fun e=>by have b:g9=g8:=e;have:=a.out.o9;omega)) mf ?_;intro N b2 f2;refine bY rfl 34 (.tmp 10) _ rfl g10 (.int .i64 2) rfl rfl rfl _ _ ((a.out.fj.fr f1 (fun e=>by have b:g10=g8:=e;have:=a.out.o9;have:=a.out.jh;omega)).fr f2 (fun e=>by have b:g10=g9:=e;have:=a.out.jh;omega)) px ?_;intro x3 b3 f3;have x:=af ((b1.fr f2 (fun e=>by have b:g8=g9:=e;have:=a.out.o9;omega)).fr f3 (fun e=>by have b:g8=g10:=e;have:=a.out.o9;have:=a.out.jh;omega));have y:=af (b2.fr f3 (fun e=>by have b:g9=g10:=e;have:=a.out.jh;omega));have g:=af b3;have z:Hid (Fr ag w x3):=((a.out.fr.aw f1 (fun i s e=>by have b:i=g8:=e;have:=a.out.o4;have:=a.out.o7;have:=a.out.o8;have:=f.out;omega)).aw f2 (fun i s e=>by have b:i=g9:=e;have:=a.out.o4;have:=a.out.o7;have:=a.out.o8;have:=a.out.o9;have:=f.out;omega)).aw f3 (fun i s e=>by have b:i=g10:=e;have:=a.out.o4;have:=a.out.o7;have:=a.out.o8;have:=a.out.o9;have:=a.out.jh;have:=f.out;omega);clear b1 b2 b3 f1 f2 f3;go_wp2;exact bodyPost_ret (iA _ x3 g8 g9 g10 aB _ 2 rfl rfl rfl x.out d.out.info y.out g.out) rfl (B.out _ z.out)
def eJ:Array Value:=(ao cC++ao cC).toArray
theorem Kr(w:World):(zeroValue 139).run Tryz.prog w= .ok (.agg eJ) w:=by kernel_rfl
theorem JO:(Tryz.prog.info? 139).map (fun i=>(i.zero,i.size,i.bytes))=some (some (.agg eJ),64,64):=by kernel_rfl
theorem Dz:(Tryz.prog.info? 139).map (·.size)=some 64:=by kernel_rfl
theorem xF(parts:List (Nat×Value)):Tryz.prog.built 139 parts=Instr.fill ((#[(0,32),(32,32)]:Array (Nat×Nat))[·]?) eJ parts:=by kernel_rfl
theorem so(X Y:List Value)(a:X.length=32)(b:Y.length=32):Tryz.prog.built 139 [(0, .agg X.toArray),(1, .agg Y.toArray)]=some (X++Y).toArray:=by
 have h:=EM X.toArray Y.toArray eJ (by simpa using a) (by simpa using b) rfl;rw[xF];simp only[Instr.fill,Nat.zero_mul,Nat.one_mul]at h⊢;exact h
theorem pt(cs b:Array Value)(n:Nat)(d:cs.size=n)(c:b.size=n):Instr.fill (fun i=>some (i*n,n)) b [(0, .agg cs)]=some cs:=by
 have a:=kP cs b 0 (by omega);simp only[Instr.fill,Value.cells,d,c,Nat.zero_mul,Nat.zero_add,ne_eq,not_true_eq_false,decide_false,Bool.false_or,gt_iff_lt,Nat.lt_irrefl,Bool.false_eq_true,if_false];simp only[Nat.zero_add,List.take_zero,List.nil_append,d]at a;rw[List.drop_of_length_le (by simp[c]),List.append_nil]at a;rw[a]
theorem qC.step{w1 W X o p u j:World}{g11 g12 len:Nat}{leaf d:List UInt8}{path:List (List UInt8)}{pre:List Bool}{v v2:Value}{CV NV:List Value}(b:Bool)
  (w:qC w1 g11 g12 len leaf path pre W)(D:g11<w1.heap.size)(E:g12<w1.heap.size)(t:g11≠g12)(c:pre.length<len)(z:path[pre.length]? =some d)
  (f:W.ownsRow 0 139 64 v pre.length ((dB leaf pre path).2.flatMap nN))(a:∀k,v.ownBlock=some k→w1.heap.size≤k)
  (y:Fr ag W X)(r:bW 139 64 X v o v2 (pre.length+1) ((dB leaf pre path).2.flatMap nN++CV))(f3:Fr (fun k=>k=g11) o p)(b3:aq p g11 135 #[v2])
  (f4:Fr ag p u)(f5:Fr (fun k=>k=g12) u j)(b5:aq j g12 38 NV.toArray)
  (q:CV=nN (if b then(dB leaf pre path).1 else d,if b then d else(dB leaf pre path).1))(s:NV=ao (bU (if b then(dB leaf pre path).1 else d) (if b then d else(dB leaf pre path).1))):
  KeepsFrom w1.heap.size W j∧qC w1 g11 g12 len leaf path (pre++[b]) j:=by
 have s1:w1.heap.size≤W.heap.size:=w.fr.size;have s2:W.heap.size≤X.heap.size:=y.size;have H:∀k,v.ownBlock=some k→k<W.heap.size:=fun k c=>by
  obtain⟨L,m,_⟩:=cX f c;exact(Array.getElem?_eq_some_iff.1 m).1
 have g:∀k,v2.ownBlock=some k→w1.heap.size≤k:=fun k c=>by
  rcases r.ew k c with h|h;·exact a k h
  ·omega
 have F:Fr (fun k=>k=g11∨k=g12∨v.ownBlock=some k) W j:=by
  have A:Fr (fun k=>k=g11∨k=g12∨v.ownBlock=some k) W o:=(y.bP).trans (r.fr.mono (fun i _ h=> .inr (.inr h)));have B:=A.trans (f3.mono (T':=fun k=>k=g11∨k=g12∨v.ownBlock=some k) (fun i _ h=> .inl h));exact(B.trans f4.bP).trans (f5.mono (fun i _ h=> .inr (.inl h)))
 refine⟨⟨F.size,fun k L I m G=>?_⟩,?_,?_,?_,?_⟩
 ·refine(F.block k (Array.getElem?_eq_some_iff.1 m).1 ?_).trans m;rintro(rfl|rfl|h);·omega
  ·omega
  ·obtain⟨K,n,l⟩:=cX f h;rw[m]at n;cases n;rw[G]at l;cases l
 ·refine w.fr.aw F (fun i J h=>?_);rcases h with h|h|h;·exact .inl h
  ·exact .inr h
  ·have:=a i h;omega
 ·rw[bh,List.length_singleton];omega
 ·refine⟨v2,((b3.fr f4 (fun x=>x)).fr f5 t),?_,g⟩;rw[bh,List.length_singleton,lJ leaf pre path b d z];have e:(nU (dB leaf pre path) b d).2.flatMap nN=(dB leaf pre path).2.flatMap nN++CV:=by
   rw[nU,List.flatMap_append,q];simp
  rw[e];refine aQ (aQ (aQ r.own f3 (fun k c e=>?_)) f4 (fun _ _ x=>x)) f5 (fun k c e=>?_);·have C:k=g11:=e;have:=g k c;omega
  ·have C:k=g12:=e;have:=g k c;omega
 ·rw[lJ leaf pre path b d z];rw[s]at b5;exact b5
end Go.Proofs.YtphjagkehiklkaaGreatDoor.Lt
namespace Go.Proofs.YtphjagkehiklkaaGreatDoor.Lt
open Go.RowKit Go.Shelf
attribute[local go_sem]Oper.semAt_some
theorem lR.ks{w w' d:World}{T:Nat→Prop}{len:Nat}{A:Option Addr}{c:Nat}{f:List Value}{g4 g7 g8 g9 g10:Nat}(h:lR w w' len A c f g4 g7 g8 g9 g10)(a:Fr T w' d)(b:∀k,k≤g10→¬T k)(hw:∀i,i<w.heap.size→¬T i):lR w d len A c f g4 g7 g8 g9 g10:=by
 have:=h.o7;have:=h.o8;have:=h.o9;have:=h.jh;exact⟨h.fr.aw a (fun i g e=>absurd e (hw i g)),h.b4.fr a (b _ (by omega)),h.b7.fr a (b _ (by omega)),h.b8.fr a (b _ (by omega)),h.b9.fr a (b _ (by omega)),h.fj.fr a (b _ (by omega)),h.o4,h.o7,h.o8,h.o9,h.jh⟩
theorem vM{B:Nat}{T:Nat→Prop}{W W':World}(h:Fr T W W')(b:∀k,T k→k<B):KeepsFrom B W W':=
 ⟨h.size,fun k e d a _=>(h.block k (Array.getElem?_eq_some_iff.1 a).1 (fun c=>by have:=b k c;omega)).trans a⟩
def Fi(t:TypeId):Op→Bool
 | .build a _=>t==a
 |_=>false
def lC(t:TypeId):Op→Bool
 | .load a _=>t==a
 |_=>false
theorem cD{r n:Nat}{P:Program}{ops:Array Oper}{Q:Exit→Act→World→Prop}{d:Oper}{l:List Oper}{a:Act}{w:World}(f:Op→Bool)(b:f d.op=true)(c:((d::l).all gM)=true)(h:wpList P ops (fun e a w=>Q e a w∧e= .normal) (d::l) a w):wpListIn (Fence.wide.inRound r) n P ops Q (d::l) a w:=
 jb c h
structure kf(CV:List Value):Prop where
 len:CV.length=64
 one:∀u∈CV,u.oneCell'=true
theorem kf.info{CV:List Value}(h:kf CV):(Tryz.prog.info? 139).map (·.size)=some CV.toArray.size:=by
 rw[Dz,List.size_toArray,h.len]
theorem kf.xX{CV:List Value}(h:kf CV):(Tryz.prog.info? 139).map (·.size)=some CV.length:=by rw[Dz,h.len]
theorem kf.all{CV:List Value}(h:kf CV):CV.toArray.all (·.oneCell')=true:=by
 rw[Array.all_eq_true_iff_forall_mem];intro u hu;exact h.one u (by simpa using hu)
theorem kf.of{a b:List UInt8}(c:a.length=32)(d:b.length=32):kf (ao a++ao b):=⟨by simp[ao,c,d],fun u hu=>Ci (a,b) u hu⟩
structure Jv(W X:World)(g14:Nat)(CV:List Value):Prop where
 fr:Fr ag W X
 yO:aq X g14 139 CV.toArray
 new:W.heap.size≤g14
theorem BY(leaf:List UInt8)(bV:leaf.length=32)(index n:Nat)(cO:index<n)(dC:n≤1048576)(path:List (List UInt8))(len:Nat)(A:Option Addr)(c:Nat)(S:Nat→Prop)(w:World)(aX:eM w S A len path)(df:len≤1048576)(de:bB w):
  Calls Tryz.prog 77 #[aE leaf, .int .i64 index, .int .i64 n, .slice A len c] w (jT w (dn leaf index n path)):=by
 have dq:Hid (∀w',Calls Tryz.prog 89 #[.int .i64 n, .int .i64 1, .int .i64 1048576] w' (aY w' (.bool true))):=by
  intro w';have h:=cy (n:Int) 1 1048576 w';rw[dh (by omega)]at h;exact h
 obtain⟨m,hm⟩:∃m:Nat,(n:Int)-1=(m:Int):=⟨n-1,by omega⟩;have dr:Hid (∀w',Calls Tryz.prog 89 #[.int .i64 index, .int .i64 0, .int .i64 m] w' (aY w' (.bool true))):=by
  intro w';have h:=cy (index:Int) 0 (m:Int) w';rw[dh (by omega)]at h;exact h
 have dA:m≤1048576:=by omega
 have a7:Hid (bT (ao cC).toArray):=bT.of ck;have cG:Hid ((ao cC).toArray=aB):=jz;have cU:Hid (Tryz.prog.built 38 []=some aB):=qH;have co:Hid (bT (ao leaf).toArray):=bT.of bV;have cE:Hid ((Tryz.prog.info? 38).map (·.size)=some (ao leaf).length):=by rw[ao,List.length_map,bV];exact cg
 have du:=af aX;have c0:=af de;have dK:=af bV;have PL:=af aX.len;have c5:=af (fun(pre:List Bool)(h:pre.length≤len)=>uW leaf bV path aX.each pre.length pre rfl (by rw[aX.len];exact h));have NV:=af (show dn leaf index n path=(if path.length=(bS index n).length then((dB leaf (bS index n) path).1,(dB leaf (bS index n) path).2,0)else(cC,[],35))from by
  unfold dn;rw[if_pos (by omega),Int.toNat_natCast,Int.toNat_natCast]);have cB:=af cO;have dv:=af dC;obtain⟨i0,aZ,a0,V,bZ⟩:=info_parts JO;clear bV aX de;rw[cG.out]at a7;change Calls _ _ #[.agg (ao leaf).toArray,_,_,_] _ _;have LE:Hid (ao leaf=ao leaf):=rfl;generalize bE:ao leaf=bu at*;have cF:=af bE;clear bE LE;refine(callsIn_wide (n:=6)).1 (callsIn_of_wp_marks Tryz.func77 rfl trivial (wpIn_wide.2 ?_) rfl);simp only[Tryz.ntmps77,List.size_toArray,List.length_cons,List.length_nil,Nat.reduceAdd,Nat.reduceSub,Array.replicate_succ,Array.replicate_zero,List.push_toArray,List.append_toArray,List.nil_append,List.cons_append];go_wp2_with(refine aA rfl 38 (.tmp 0) rfl _ rfl ?_);intro w1 n1;have c1:=af n1;clear n1;go_wp2_with(refine aA rfl 31 (.tmp 3) rfl _ rfl ?_);intro w2 dj;have c2:=af dj;clear dj;go_wp2_with(refine ak rfl 38 rfl aI dW aB rfl ?_);intro w3 n3;have c3:=af n3;clear n3;go_wp2_with(refine ak rfl 135 rfl (.slice none 0 0) DU #[.slice none 0 0] rfl ?_);intro cS n4;have c4:=af n4;clear n4;go_wp2_with(refine ak rfl 34 rfl (.int .i64 0) Iu #[.int .i64 0] rfl ?_);intro dl dk;have cp:=af (lR.of c1.out c2.out c3.out c4.out dk);clear dk c1 c2 c3 c4;generalize aR:w.heap.size=g4 at*;have ba:=af aR;clear aR;generalize w1.heap.size=g7 at*;generalize w2.heap.size=g8 at*;generalize w3.heap.size=g9 at*;generalize cS.heap.size=g10 at*;go_wp2_with fail;refine(dq.out _).mono ?_;rintro e w'⟨rfl,rfl⟩;go_wp2_with fail;refine(dr.out _).mono ?_;rintro e w'⟨rfl,rfl⟩;go_wp2_with(refine ak rfl 135 rfl (.slice none 0 0) DU #[.slice none 0 0] rfl ?_);intro dm n6;have cq:=af (cp.out.later n6.fr);have M:=af n6.aH;have c7:Hid (g10<dl.heap.size):=cp.out.fj.lt;have c6:=af n6.size;clear n6 cp;generalize dl.heap.size=g11 at*;generalize bW:dm.heap.size=g12 at*;have bc:=af bW;clear bW;go_wp2_with(first|(refine dZ rfl 38 (.tmp 4) rfl g4 rfl _ bu cq.out.b4 _ Tryz.underlying38 rfl cE.out ?_)|(refine ak rfl 38 rfl aI dW aB rfl ?_));intro dF ci;have G:Hid (aq dF g12 38 aB):=by
  have h:=ci.aH;rw[bc.out]at h;exact h
 have cW:=af ci.fr;have a8:=af (cq.out.later ci.fr);clear ci;rw[show dm.heap.size=g12 from bc.out];go_wp2_with(refine ai rfl 38 (.tmp 12) _ rfl g12 bu.toArray rfl rfl _ _ G.out co.out.info co.out.zero co.out.one ?_);intro X b8 f8;have HNE:Hid (g10<g11∧g11<g12):=⟨c7.out,by have:=c6.out;omega⟩;have cV:Hid (lR w X len A c bu g4 g7 g8 g9 g10):=a8.out.ks f8 (fun k L e=>by have g:k=g12:=e;have:=HNE.out;omega) (fun i R e=>by have g:i=g12:=e;have:=HNE.out;have:=a8.out.o4;have:=a8.out.o7;have:=a8.out.o8;have:=a8.out.o9;have:=a8.out.jh;have:=ba.out;omega);have Z:Hid (aq X g11 135 #[.slice none 0 0]):=(M.out.fr cW.out (fun x=>x)).fr f8 (fun e=>by have g:g11=g12:=e;have:=HNE.out;omega);have ac:=af b8;clear b8 f8 M G cq a8 cW c6 bc c7;go_wp2_with fail;refine(C7 index n X).mono ?_;rintro e Q⟨rfl,aO⟩;have cb:Hid (Fr ag X Q):=by subst aO;exact(aD.alloc _).alloc _
 have b6:Hid (Q.cell? ⟨X.heap.size,0,none⟩=some (.int .i64 index)):=by subst aO;exact((aq.new X 3 #[.int .i64 index]).alloc _).cell 0
 have ca:Hid (Q.cell? ⟨X.heap.size+1,0,none⟩=some (.int .i64 n)):=by
  subst aO;have h:=(aq.new (X.alloc (.cells #[.int .i64 index] 3)) 3 #[.int .i64 n]).cell 0;rw[show(X.alloc (.cells #[.int .i64 index] 3)).heap.size=X.heap.size+1 by simp]at h;exact h
 have bx:Hid (Q.heap.size=X.heap.size+2):=by subst aO;simp[Hid]
 clear aO;have s:=af (cV.out.later cb.out);have aa:=af (Z.out.fr cb.out (fun x=>x));have ad:=af (ac.out.fr cb.out (fun x=>x));have LT:Hid (g11<Q.heap.size∧g12<Q.heap.size):=⟨aa.out.lt,ad.out.lt⟩;clear cV Z ac cb;generalize X.heap.size=gs at*;go_wp2_with fail;refine(wpIn_wide (n:=6)).1 ?_;refine wpIn_rangeFunc_ownG rfl (by omega) (gf:=157) (lb:=#[.pointer (some ⟨gs,0,none⟩), .pointer (some ⟨gs+1,0,none⟩)]) rfl trivial (enters_of Tryz.func157 (by kernel_rfl) rfl)
  (yq 5 gs (gs+1) index n Q (by have:=bx.out;omega) (by have:=bx.out;omega) b6.out ca.out cB.out dv.out) (fun _ _=>trivial) (fun _ _ _ _ _ _ _ _=>trivial) (Below.refl _ _) (fun _=>rfl)
  (qC Q g11 g12 len leaf path) (fun ce _ W=>Dq Q g8 g9 g10 g11 g12 W∧(ce= .ret∧len<(bS index n).length))
  (qC.iV LT.out.1 LT.out.2) (fun ce=>Dq.iV (by have:=s.out.o9;have:=s.out.jh;have:=HNE.out;have:=LT.out;omega) (by have:=s.out.jh;have:=HNE.out;have:=LT.out;omega) (by have:=HNE.out;have:=LT.out;omega) (ce= .ret∧len<(bS index n).length))
  ⟨aD,Nat.zero_le _,⟨_,aa.out,⟨rfl, .inl ⟨rfl,rfl⟩⟩,fun k L=>by simp[Value.ownBlock]at L⟩,by rw[Fw];rw[cF.out];exact ad.out⟩ ?zA ?assign ?body ?done ?stop;case assign=>
  intro l x W K be;gi_wp2;exact be
 case body=>
  rintro dL pre x W cf bf;have cZ:=af cf;obtain⟨f,hle,⟨v,gg,C,B⟩,aK⟩:=cf;obtain⟨Y,m1,aL,rfl,H1,dt⟩:=aU C;have r:Hid (lR w W len A c bu g4 g7 g8 g9 g10):=s.out.ks f (fun k L e=>by have g:k=g11∨k=g12:=e;have:=HNE.out;omega) (by rintro i R(rfl|rfl)<;>(have:=HNE.out;have:=ba.out;have:=s.out.o4;have:=s.out.o7;have:=s.out.o8;have:=s.out.o9;have:=s.out.jh;omega));have cc:=af f;have M:=af gg;have G:=af aK;have t:=af C;have P:=af B;have bk:=af hle;have bl:=af bf;have U:=gg.cell 0;have bA:=r.out.b7.cell 0;simp only[bR,List.getElem?_cons_zero]at U bA;have cd:=af (c5.out pre hle);clear f gg aK C B bf hle b6 ca bx;by_cases L:m1=len
  ·have t1:((m1:Int)==(len:Int))=true:=by rw[beq_iff_eq];omega
   gi_wp2_with(refine cD (Fi 38) rfl (by kernel_rfl) ?_);refine jw rfl 38 rfl aB cU.out ?_;refine ai rfl 38 (.tmp 8) _ rfl g8 aB rfl rfl _ _ r.out.b8 a7.out.info rfl a7.out.one ?_;intro dI b1 f1;refine bY rfl 135 (.tmp 9) _ rfl g9 (.slice none 0 0) rfl rfl rfl _ _ (r.out.b9.fr f1 (fun e=>by have g:g9=g8:=e;have:=r.out.o9;omega)) mf ?_;intro dp b2 f2;refine bY rfl 34 (.tmp 10) _ rfl g10 (.int .i64 35) rfl rfl rfl _ _ ((r.out.fj.fr f1 (fun e=>by have g:g10=g8:=e;have:=r.out.o9;have:=r.out.jh;omega)).fr f2 (fun e=>by have g:g10=g9:=e;have:=r.out.jh;omega)) px ?_;intro x3 b3 f3;have bo:=af ((b1.fr f2 (fun e=>by have g:g8=g9:=e;have:=r.out.o9;omega)).fr f3 (fun e=>by have g:g8=g10:=e;have:=r.out.o9;have:=r.out.jh;omega));have bp:=af (b2.fr f3 (fun e=>by have g:g9=g10:=e;have:=r.out.jh;omega));have av:=af b3;refine⟨?_,rfl⟩;have dw:Hid (KeepsFrom Q.heap.size W x3):=vM (T:=fun k=>k=g8∨k=g9∨k=g10) (((f1.mono (fun i _ e=> .inl e)).trans (f2.mono (fun i _ e=> .inr (.inl e)))).trans (f3.mono (fun i _ e=> .inr (.inr e)))) (by rintro k(rfl|rfl|rfl)<;>(have:=r.out.o9;have:=r.out.jh;have:=HNE.out;have:=LT.out;omega));have a1:Hid (Fr (fun k=>k=g8∨k=g9∨k=g10∨k=g11∨k=g12) Q x3):=(((cc.out.mono (T':=fun k=>k=g8∨k=g9∨k=g10∨k=g11∨k=g12) (fun i _ e=> .inr (.inr (.inr e)))).trans (f1.mono (fun i _ e=> .inl e))).trans (f2.mono (fun i _ e=> .inr (.inl e)))).trans (f3.mono (fun i _ e=> .inr (.inr (.inl e))));clear b1 b2 b3 f1 f2 f3;gi_wp2;exact⟨dw.out,⟨a1.out,bo.out,bp.out,av.out⟩,rfl,by have:=bl.out;have:=H1.out;omega⟩
  ·have cP:m1<len:=by have:=bk.out;have:=H1.out;omega
   have t1:((m1:Int)==(len:Int))=false:=by rw[beq_eq_false_iff_ne];omega
   have dy:(m1:Int)<(len:Int):=by omega
   obtain⟨bg,d,rfl,_,dg,z,aN⟩:=(du.out.ar r.out.fr).at_ cP;have cY:=af aN;have bm:=af dg;have p:=cd.out.root;have bn:Hid ((Tryz.prog.info? 38).map (·.size)=some (ao d).length):=by rw[ao,List.length_map,z];exact cg
   have aV:Hid ((Tryz.prog.info? 38).map (·.size)=some (ao (dB leaf pre path).1).length):=by rw[ao,List.length_map,p];exact cg
   have cx:Hid (Tryz.prog.built 139 [(0, .agg (ao d).toArray),(1, .agg (ao (dB leaf pre path).1).toArray)]=some (ao d++ao (dB leaf pre path).1).toArray):=so _ _ (by simp[ao,z]) (by simp[ao,p]);have cz:Hid (Tryz.prog.built 139 [(0, .agg (ao (dB leaf pre path).1).toArray),(1, .agg (ao d).toArray)]=some (ao (dB leaf pre path).1++ao d).toArray):=so _ _ (by simp[ao,p]) (by simp[ao,z]);have H:Hid (kf (ao d++ao (dB leaf pre path).1)):=kf.of z p;have N:Hid (kf (ao (dB leaf pre path).1++ao d)):=kf.of p z;have a6:Hid (bT (ao (dB leaf pre path).1).toArray):=bT.of p;have a4:Hid (bT (ao (bU d (dB leaf pre path).1)).toArray):=bT.of (cJ _ _);have a5:Hid (bT (ao (bU (dB leaf pre path).1 d)).toArray):=bT.of (cJ _ _);have cm:Hid (∀w',Fr ag w w'→Calls Tryz.prog 124 #[.agg (ao d++ao (dB leaf pre path).1).toArray] w' (aJ w' (.agg (ao (bU d (dB leaf pre path).1)).toArray))):=fun w' f=>sy _ _ z p w' (c0.out.ar f);have cn:Hid (∀w',Fr ag w w'→Calls Tryz.prog 124 #[.agg (ao (dB leaf pre path).1++ao d).toArray] w' (aJ w' (.agg (ao (bU (dB leaf pre path).1 d)).toArray))):=fun w' f=>sy _ _ p z w' (c0.out.ar f);have g1:Hid (¬1*i0.size>2^24):=by simp only[Hid];rw[V];omega
   have g2:Hid (¬1*i0.size=0):=by simp only[Hid];rw[V];omega
   generalize bO:ao d=F at*;generalize aM:ao (dB leaf pre path).1=y at*;generalize bF:ao (bU d (dB leaf pre path).1)=NV1 at*;generalize bG:ao (bU (dB leaf pre path).1 d)=NV2 at*;have bj:=af bO;have aT:=af aM;have cr:=af bF;have cs:=af bG;clear bO aM bF bG aN dg z p;gi_wp2;refine om 8 139 [fun v=>v= .slice (some bg) len c,fun v=>v= .slice Y m1 aL,fun v=>v= .int .i64 m1,fun v=>v= .pointer (some (bg.add (m1*32))),fun v=>v= .agg F.toArray,fun v=>v= .agg y.toArray,fun v=>v= .agg (F++y).toArray,fun _=>True] [] [(7,eJ)] [] (by kernel_rfl) (by kernel_rfl) (by kernel_rfl) (by kernel_rfl) trivial ?_ ?_
   ·refine⟨fun u w' f b E=>?_,fun u w' f b E=>?_,fun u w' f b E=>?_,fun u w' f b E=>?_,fun u w' f b E=>?_,fun u w' f b E=>?_,fun u w' f b E=>?_,fun u w' f b=>?_,trivial⟩;all_goals simp only[bH,bI,bJ,bK,ay,Act.put,bL,bM,bN,Nat.reduceAdd,Nat.zero_add]
    ·clear b E;refine aj ?_;have q:=f.an bA (fun x=>x);go_simp;exact⟨_,rfl,fX⟩
    ·clear b E;refine aj ?_;have q:=f.an U (fun x=>x);go_simp;exact⟨_,rfl,fX⟩
    ·have bC:u 1=_:=b 1 (by kernel_rfl);clear b E;simp only[bC];refine aj ?_;go_simp;exact⟨_,rfl,fX⟩
    ·have aR:u 0=_:=b 0 (by kernel_rfl);have cI:u 2=_:=b 2 (by kernel_rfl);clear b E;simp only[aR,cI];refine aj ?_;go_simp;exact⟨_,rfl,fX⟩
    ·have cK:u 3=_:=b 3 (by kernel_rfl);clear b E;simp only[cK];refine aj ?_;exact az _ _ rfl (bg.add (m1*32)) rfl F _ (fun j v cQ=>f.an (cY.out j v cQ) (fun x=>x)) Tryz.underlying38 rfl bn.out ⟨_,rfl,fX⟩
    ·clear b E;refine aj ?_;exact wp_load_mid _ _ rfl g12 0 rfl y _ (bw (G.out.fr f (fun x=>x))) Tryz.underlying38 rfl aV.out ⟨_,rfl,fX⟩
    ·have cL:u 4=_:=b 4 (by kernel_rfl);have cM:u 5=_:=b 5 (by kernel_rfl);clear b E;simp only[cL,cM];refine aj ?_;exact sR 139 #[(0, .tmp 41),(1, .tmp 42)] rfl _ (by simp only[List.map_toArray,List.map_cons,List.map_nil];exact cx.out) ⟨_,rfl,fX⟩
    ·clear b;refine aj ?_;refine kL 139 rfl (.agg eJ) Kr eJ rfl ?_;intro cS n4;exact⟨_,rfl,trivial,trivial,rfl,n4⟩
   ·intro u w' f b bh cN;have bD:u 6=_:=b 6 (by omega);obtain⟨g14,dd,b0,yO⟩:=bh 7 eJ (by simp);have a2:aq w' g14 139 eJ:=yO;clear b bh cN yO;simp only[bH,bI,bJ,bK,ay,Act.put,bL,bM,bN,dD,dE,Nat.reduceAdd,Nat.zero_add,bD,dd];refine ai rfl 139 (.tmp 14) _ rfl g14 (F++y).toArray rfl rfl _ _ a2 H.out.info (by rw[show eJ.size=64 from rfl,List.size_toArray,H.out.len]) H.out.all ?_;intro dG c8 c9;have I:Hid (Jv W dG g14 (F++y)):=⟨f.aw c9 (fun i R e=>by have g:i=g14:=e;omega),c8,b0⟩;clear f c8 c9 a2 b0 bD dd;refine⟨?_,rfl⟩;cases x
    ·have O:=(M.out.fr I.out.fr (fun x=>x)).cell 0;simp only[bR,List.getElem?_cons_zero]at O;gi_wp2_with(refine cD (lC 139) rfl (by kernel_rfl) ?_);refine dZ rfl 139 (.tmp 14) rfl g14 rfl _ (F++y) I.out.yO _ Tryz.underlying139 rfl H.out.xX ?_;refine wpList_buildSlice rfl 135 139 1 #[(0, .tmp 53)] rfl (F++y).toArray i0 (.agg eJ) Tryz.underlying135 aZ a0 g1.out g2.out ?b3 ?_;case b3=>
      simp only[List.map_toArray,List.map_cons,List.map_nil];rw[V];exact pt _ _ 64 (by rw[List.size_toArray,H.out.len]) (by simp)
     refine da _ rfl _ _ 135 rfl 139 i0 (.agg eJ) 64 64 Tryz.underlying135 aZ a0 V bZ rfl (by omega) _ _ _ rfl (aQ t.out I.out.fr (fun _ _ x=>x)) 1 (F++y).toArray _ rfl rfl (by rw[List.size_toArray,H.out.len]) (fun u hu=>H.out.one u (by simpa using hu)) (by have:=bk.out;omega) (by omega) ?_;intro v2 cT bd;have aG:=af bd;obtain⟨cj,m2,cH,rfl,_,_⟩:=aU bd.own;clear bd;have aW:Hid (∀k,(Value.slice Y m1 aL).ownBlock=some k→Q.heap.size≤k∧k<W.heap.size):=fun k L=>⟨P.out k L,by
      obtain⟨o,bi,_⟩:=cX t.out L;exact(Array.getElem?_eq_some_iff.1 bi).1⟩;have ab:Hid (aq cT g11 135 #[.slice Y m1 aL]):=(M.out.fr I.out.fr (fun x=>x)).fr aG.out.fr (fun e=>by have:=(aW.out _ e).1;have:=LT.out;omega);refine bY rfl 135 (.tmp 11) _ rfl g11 (.slice cj m2 cH) rfl rfl rfl _ _ ab.out mf ?_;intro y3 b3 f3;have cw:Hid (Fr ag w y3):=(((r.out.fr.trans I.out.fr).aw aG.out.fr (fun i R e=>by have:=(aW.out _ e).1;have:=(s.out.fr.size);omega)).aw f3 (fun i R e=>by have g:i=g11:=e;have:=HNE.out;have:=s.out.o4;have:=s.out.o7;have:=s.out.o8;have:=s.out.o9;have:=s.out.jh;have:=ba.out;omega));have a9:Hid (Q.heap.size≤g14):=Nat.le_trans cc.out.size I.out.new;have ap:Hid (aq y3 g14 139 (F++y).toArray):=(I.out.yO.fr aG.out.fr (fun e=>by have:=(aW.out _ e).2;have:=I.out.new;omega)).fr f3 (fun e=>by have g:g14=g11:=e;have:=a9.out;have:=LT.out;omega);have ae:Hid (aq y3 g12 38 y.toArray):=((G.out.fr I.out.fr (fun x=>x)).fr aG.out.fr (fun e=>by have:=(aW.out _ e).1;have:=LT.out;omega)).fr f3 (fun e=>by have g:g12=g11:=e;have:=HNE.out;omega);have cl:=af b3;have cu:=af f3;clear b3 f3 O;refine⟨?_,rfl⟩;gi_wp2_with(refine cD (lC 139) rfl (by kernel_rfl) ?_);refine dZ rfl 139 (.tmp 14) rfl g14 rfl _ (F++y) ap.out _ Tryz.underlying139 rfl H.out.xX ?_;go_wp2_with fail;refine(cm.out _ cw.out).mono ?_;rintro e y4⟨rfl,f4⟩;have am:=af (ae.out.fr f4 (fun x=>x));have cv:=af f4;clear f4;go_wp2_with(refine ai rfl 38 (.tmp 12) _ rfl g12 NV1.toArray rfl rfl _ _ am.out a4.out.info (a6.out.size.trans a4.out.size.symm) a4.out.one ?_);intro dJ b5 f5;refine⟨?_,rfl⟩;have aF:=qC.step (NV:=NV1) false cZ.out LT.out.1 LT.out.2 (by have:=HNE.out;omega) (by have:=H1.out;omega) (by have:=H1.out;rw[←this];exact bm.out) t.out P.out I.out.fr aG.out cu.out cl.out cv.out f5 b5 (by rw[←bj.out,←aT.out];rfl) (cr.out.symm);exact⟨aF.1,trivial,aF.2⟩
    ·gi_wp2;refine om 7 139 [fun v=>v= .agg y.toArray,fun v=>v= .slice (some bg) len c,fun v=>v= .slice Y m1 aL,fun v=>v= .int .i64 m1,fun v=>v= .pointer (some (bg.add (m1*32))),fun v=>v= .agg F.toArray,fun v=>v= .agg (y++F).toArray] [] [] [] (by kernel_rfl) (by kernel_rfl) (by kernel_rfl) (by kernel_rfl) trivial ?_ ?_
     ·refine⟨?_,?_,?_,?_,?_,?_,?_,trivial⟩;all_goals intro u w' f b E
      all_goals simp only[bH,bI,bJ,bK,ay,Act.put,bL,bM,bN,Nat.reduceAdd,Nat.zero_add]
      ·clear b E;refine aj ?_;exact wp_load_mid _ _ rfl g12 0 rfl y _ (bw (G.out.fr (I.out.fr.trans f) (fun x=>x))) Tryz.underlying38 rfl aV.out ⟨_,rfl,fX⟩
      ·clear b E;refine aj ?_;have q:=(I.out.fr.trans f).an bA (fun x=>x);go_simp;exact⟨_,rfl,fX⟩
      ·clear b E;refine aj ?_;have q:=(I.out.fr.trans f).an U (fun x=>x);go_simp;exact⟨_,rfl,fX⟩
      ·have cI:u 2=_:=b 2 (by kernel_rfl);clear b E;simp only[cI];refine aj ?_;go_simp;exact⟨_,rfl,fX⟩
      ·have bC:u 1=_:=b 1 (by kernel_rfl);have cK:u 3=_:=b 3 (by kernel_rfl);clear b E;simp only[bC,cK];refine aj ?_;go_simp;exact⟨_,rfl,fX⟩
      ·have cL:u 4=_:=b 4 (by kernel_rfl);clear b E;simp only[cL];refine aj ?_;exact az _ _ rfl (bg.add (m1*32)) rfl F _ (fun j v cQ=>(I.out.fr.trans f).an (cY.out j v cQ) (fun x=>x)) Tryz.underlying38 rfl bn.out ⟨_,rfl,fX⟩
      ·have aR:u 0=_:=b 0 (by kernel_rfl);have cM:u 5=_:=b 5 (by kernel_rfl);clear b E;simp only[aR,cM];refine aj ?_;exact sR 139 #[(0, .tmp 45),(1, .tmp 50)] rfl _ (by simp only[List.map_toArray,List.map_cons,List.map_nil];exact cz.out) ⟨_,rfl,fX⟩
     ·intro u w' f b bh cN;have bD:u 6=_:=b 6 (by omega);clear b bh cN;simp only[bH,bI,bJ,bK,ay,Act.put,bL,bM,bN,dD,dE,Nat.reduceAdd,Nat.zero_add,bD];refine ai rfl 139 (.tmp 14) _ rfl g14 (y++F).toArray rfl rfl _ _ (I.out.yO.fr f (fun x=>x)) N.out.info (by rw[List.size_toArray,List.size_toArray,H.out.len,N.out.len]) N.out.all ?_;intro dH bb dc;have aP:Hid (Jv W dH g14 (y++F)):=⟨(I.out.fr.trans f).aw dc (fun i R e=>by have g:i=g14:=e;have:=I.out.new;omega),bb,I.out.new⟩;clear f bb dc bD I;refine⟨?_,rfl⟩;have O:=(M.out.fr aP.out.fr (fun x=>x)).cell 0;simp only[bR,List.getElem?_cons_zero]at O;gi_wp2_with(refine cD (lC 139) rfl (by kernel_rfl) ?_);refine dZ rfl 139 (.tmp 14) rfl g14 rfl _ (y++F) aP.out.yO _ Tryz.underlying139 rfl N.out.xX ?_;refine wpList_buildSlice rfl 135 139 1 #[(0, .tmp 53)] rfl (y++F).toArray i0 (.agg eJ) Tryz.underlying135 aZ a0 g1.out g2.out ?b3 ?_;case b3=>
       simp only[List.map_toArray,List.map_cons,List.map_nil];rw[V];exact pt _ _ 64 (by rw[List.size_toArray,N.out.len]) (by simp)
      refine da _ rfl _ _ 135 rfl 139 i0 (.agg eJ) 64 64 Tryz.underlying135 aZ a0 V bZ rfl (by omega) _ _ _ rfl (aQ t.out aP.out.fr (fun _ _ x=>x)) 1 (y++F).toArray _ rfl rfl (by rw[List.size_toArray,N.out.len]) (fun u hu=>N.out.one u (by simpa using hu)) (by have:=bk.out;omega) (by omega) ?_;intro v2 cT bd;have aG:=af bd;obtain⟨cj,m2,cH,rfl,_,_⟩:=aU bd.own;clear bd;have aW:Hid (∀k,(Value.slice Y m1 aL).ownBlock=some k→Q.heap.size≤k∧k<W.heap.size):=fun k L=>⟨P.out k L,by
       obtain⟨o,bi,_⟩:=cX t.out L;exact(Array.getElem?_eq_some_iff.1 bi).1⟩;have ab:Hid (aq cT g11 135 #[.slice Y m1 aL]):=(M.out.fr aP.out.fr (fun x=>x)).fr aG.out.fr (fun e=>by have:=(aW.out _ e).1;have:=LT.out;omega);refine bY rfl 135 (.tmp 11) _ rfl g11 (.slice cj m2 cH) rfl rfl rfl _ _ ab.out mf ?_;intro y3 b3 f3;have cw:Hid (Fr ag w y3):=(((r.out.fr.trans aP.out.fr).aw aG.out.fr (fun i R e=>by have:=(aW.out _ e).1;have:=(s.out.fr.size);omega)).aw f3 (fun i R e=>by have g:i=g11:=e;have:=HNE.out;have:=s.out.o4;have:=s.out.o7;have:=s.out.o8;have:=s.out.o9;have:=s.out.jh;have:=ba.out;omega));have a9:Hid (Q.heap.size≤g14):=Nat.le_trans cc.out.size aP.out.new;have ap:Hid (aq y3 g14 139 (y++F).toArray):=(aP.out.yO.fr aG.out.fr (fun e=>by have:=(aW.out _ e).2;have:=aP.out.new;omega)).fr f3 (fun e=>by have g:g14=g11:=e;have:=a9.out;have:=LT.out;omega);have ae:Hid (aq y3 g12 38 y.toArray):=((G.out.fr aP.out.fr (fun x=>x)).fr aG.out.fr (fun e=>by have:=(aW.out _ e).1;have:=LT.out;omega)).fr f3 (fun e=>by have g:g12=g11:=e;have:=HNE.out;omega);have cl:=af b3;have cu:=af f3;clear b3 f3 O;refine⟨?_,rfl⟩;gi_wp2_with(refine cD (lC 139) rfl (by kernel_rfl) ?_);refine dZ rfl 139 (.tmp 14) rfl g14 rfl _ (y++F) ap.out _ Tryz.underlying139 rfl N.out.xX ?_;go_wp2_with fail;refine(cn.out _ cw.out).mono ?_;rintro e y4⟨rfl,f4⟩;have am:=af (ae.out.fr f4 (fun x=>x));have cv:=af f4;clear f4;go_wp2_with(refine ai rfl 38 (.tmp 12) _ rfl g12 NV2.toArray rfl rfl _ _ am.out a5.out.info (a6.out.size.trans a5.out.size.symm) a5.out.one ?_);intro dJ b5 f5;refine⟨?_,rfl⟩;have aF:=qC.step (NV:=NV2) true cZ.out LT.out.1 LT.out.2 (by have:=HNE.out;omega) (by have:=H1.out;omega) (by have:=H1.out;rw[←this];exact bm.out) t.out P.out aP.out.fr aG.out cu.out cl.out cv.out f5 b5 (by rw[←bj.out,←aT.out];rfl) (cs.out.symm);exact⟨aF.1,trivial,aF.2⟩
 case done=>
  rintro D xs W aX rfl cf be;obtain⟨f,hle,⟨v,gg,C,B⟩,aK⟩:=cf;obtain⟨Y,m1,aL,rfl,H1,dt⟩:=aU C;have r:Hid (lR w W len A c bu g4 g7 g8 g9 g10):=s.out.ks f (fun k L e=>by have g:k=g11∨k=g12:=e;have:=HNE.out;omega) (by rintro i R(rfl|rfl)<;>(have:=HNE.out;have:=ba.out;have:=s.out.o4;have:=s.out.o7;have:=s.out.o8;have:=s.out.o9;have:=s.out.jh;omega));have cc:=af f;have M:=af gg;have G:=af aK;have t:=af C;have P:=af B;have bk:=af hle;have cA:=af aX;have au:=af be;have U:=gg.cell 0;have bA:=r.out.b7.cell 0;simp only[bR,List.getElem?_cons_zero]at U bA;have cd:=af (c5.out (bS index n) hle);clear f gg aK C B hle b6 ca bx aX be;have a:Hid (w.heap.size≤g8∧g8<g9∧g9<g10∧g10<D):=by
   have:=HNE.out;have:=ba.out;have:=r.out.o4;have:=r.out.o7;have:=r.out.o8;have:=r.out.o9;have:=r.out.jh;have:=LT.out;have:=cA.out;simp only[Hid];omega
  by_cases L:m1<len
  ·have t1:decide ((m1:Int)<(len:Int))=true:=dh (by omega);go_upto_region 15 with fail;refine wp_region_lit ?_;refine jw rfl 38 rfl aB cU.out ?_;refine ai rfl 38 (.tmp 8) _ rfl g8 aB rfl rfl _ _ r.out.b8 a7.out.info rfl a7.out.one ?_;intro dI b1 f1;refine bY rfl 135 (.tmp 9) _ rfl g9 (.slice none 0 0) rfl rfl rfl _ _ (r.out.b9.fr f1 (fun e=>by have g:g9=g8:=e;have:=r.out.o9;omega)) mf ?_;intro dp b2 f2;refine bY rfl 34 (.tmp 10) _ rfl g10 (.int .i64 35) rfl rfl rfl _ _ ((r.out.fj.fr f1 (fun e=>by have g:g10=g8:=e;have:=r.out.o9;have:=r.out.jh;omega)).fr f2 (fun e=>by have g:g10=g9:=e;have:=r.out.jh;omega)) px ?_;intro x3 b3 f3;have bo:=af ((b1.fr f2 (fun e=>by have g:g8=g9:=e;have:=r.out.o9;omega)).fr f3 (fun e=>by have g:g8=g10:=e;have:=r.out.o9;have:=r.out.jh;omega));have bp:=af (b2.fr f3 (fun e=>by have g:g9=g10:=e;have:=r.out.jh;omega));have av:=af b3;have a1:Hid (Fr (fun k=>k=g8∨k=g9∨k=g10) W x3):=((f1.mono (T':=fun k=>k=g8∨k=g9∨k=g10) (fun i _ e=> .inl e)).trans (f2.mono (fun i _ e=> .inr (.inl e)))).trans (f3.mono (fun i _ e=> .inr (.inr e)));have bt:Hid (x3.heap[D]? =some (.deferred (some []))):=(a1.out.block D (Array.getElem?_eq_some_iff.1 au.out).1 (by have:=a.out;omega)).trans au.out;clear b1 b2 b3 f1 f2 f3;have J:Fr (fun k=>some k=some D) x3 (x3.putObj D (.deferred none)):=Fr.grown (grownBy_putObj' x3 D _);have bq:Hid (Fr ag w (x3.putObj D (.deferred none))):=(r.out.fr.aw a1.out (fun i R e=>by have:=a.out;omega)).aw J (fun i R e=>by have g:i=D:=(by simpa using e);have:=a.out;omega);have br:=af (bo.out.fr J (fun e=>by have g:g8=D:=(by simpa using e);have:=a.out;omega));have bs:=af (bp.out.fr J (fun e=>by have g:g9=D:=(by simpa using e);have:=a.out;omega));have ax:=af (av.out.fr J (fun e=>by have g:g10=D:=(by simpa using e);have:=a.out;omega));have bv:=af (jT.none (k:=35) bq.out);rw[aE,show cC.map aS=ao cC from rfl,cG.out]at bv;have bz:Hid (dn leaf index n path=(cC,[],35)):=by
    simp only[Hid];rw[NV.out,if_neg (by rw[PL.out];have:=H1.out;omega)]
   clear J;go_wp2;refine⟨by simp, .inl ⟨_,_,rfl,run_takeDeferred bt.out,?_⟩⟩;exact⟨_,iA _ _ g8 g9 g10 aB _ 35 rfl rfl rfl br.out a7.out.info bs.out ax.out,by rw[bz.out];exact bv.out⟩
  ·have t1:decide ((m1:Int)<(len:Int))=false:=ct (by omega);have p:=cd.out.root;have aV:Hid ((Tryz.prog.info? 38).map (·.size)=some (ao (dB leaf (bS index n) path).1).length):=by rw[ao,List.length_map,p];exact cg
   have a6:Hid (bT (ao (dB leaf (bS index n) path).1).toArray):=bT.of p;have bz:Hid (dn leaf index n path=((dB leaf (bS index n) path).1,(dB leaf (bS index n) path).2,0)):=by
    simp only[Hid];rw[NV.out,if_pos (by rw[PL.out];have:=H1.out;have:=bk.out;omega)]
   generalize aM:ao (dB leaf (bS index n) path).1=y at*;have aT:=af aM;clear aM p;go_upto_region 16 with fail;refine aC 3 (fun k=>k=g8) [Is (.agg y.toArray),Is (.slice Y m1 aL),fun _ _=>True] [(2,fun w'=>aq w' g8 38 y.toArray)] (fun w'=>aq w' g8 38 aB) (fun _ _=>false) (by kernel_rfl) (by kernel_rfl) (by kernel_rfl) (by kernel_rfl) ⟨Is.ah _,Is.ah _,fun _ _ _ _ _ h=>h,trivial⟩ ⟨fun _ _ _ f h=>h.fr f (fun x=>x),trivial⟩ (fun _ _ _ f h=>h.fr f (fun x=>x)) r.out.b8 ?_ ?_
   ·refine⟨?_,?_,?_,trivial⟩;all_goals intro u w' d f b cR ch a3
    all_goals simp only[bH,bI,bJ,bK,ay,Act.put,bL,bM,bN,Nat.reduceAdd,Nat.zero_add]
    ·clear b cR ch a3;refine aj ?_;exact wp_load_mid _ _ rfl g12 0 rfl y _ (bw (G.out.fr f (fun e=>by have g:g12=g8:=e;have:=a.out;have:=HNE.out;omega))) Tryz.underlying38 rfl aV.out ⟨_,rfl,al⟩
    ·clear b cR ch a3;refine aj ?_;have q:=f.an U (fun e=>by have g:g11=g8:=e;have:=a.out;have:=HNE.out;omega);go_simp;exact⟨_,rfl,al⟩
    ·have aR:u 0=_:=b 0 (by kernel_rfl);clear b;simp only[aR];refine aj ?_;have bh:aq w' g8 38 aB:=by rw[bX,if_neg (by rw[ch 2 (by kernel_rfl)];exact Bool.false_ne_true)]at a3;exact a3
     clear cR ch a3;refine db 38 (.tmp 8) (.tmp 64) rfl g8 y.toArray rfl rfl _ _ bh a6.out.info a6.out.zero a6.out.one ?_;intro cS b4 f4;exact⟨_,rfl,f4,trivial,b4⟩
   ·intro u w' f b a3;have aR:u 0=_:=b 0 (by omega);have bC:u 1=_:=b 1 (by omega);clear b;have di:aq w' g8 38 y.toArray:=a3;clear a3;simp only[bH,bI,bJ,bK,ay,Act.put,bL,bM,bN,dD,dE,Nat.zero_add,aR,bC];refine bY rfl 135 (.tmp 9) _ rfl g9 (.slice Y m1 aL) rfl rfl rfl _ _ (r.out.b9.fr f (fun e=>by have g:g9=g8:=e;have:=a.out;omega)) mf ?_;intro dp b2 f2;refine bY rfl 34 (.tmp 10) _ rfl g10 (.int .i64 0) rfl rfl rfl _ _ ((r.out.fj.fr f (fun e=>by have g:g10=g8:=e;have:=a.out;omega)).fr f2 (fun e=>by have g:g10=g9:=e;have:=a.out;omega)) px ?_;intro x3 b3 f3;have bo:=af ((di.fr f2 (fun e=>by have g:g8=g9:=e;have:=a.out;omega)).fr f3 (fun e=>by have g:g8=g10:=e;have:=a.out;omega));have bp:=af (b2.fr f3 (fun e=>by have g:g9=g10:=e;have:=a.out;omega));have av:=af b3;have a1:Hid (Fr (fun k=>k=g8∨k=g9∨k=g10) W x3):=((f.mono (T':=fun k=>k=g8∨k=g9∨k=g10) (fun i _ e=> .inl e)).trans (f2.mono (fun i _ e=> .inr (.inl e)))).trans (f3.mono (fun i _ e=> .inr (.inr e)));have bt:Hid (x3.heap[D]? =some (.deferred (some []))):=(a1.out.block D (Array.getElem?_eq_some_iff.1 au.out).1 (by have:=a.out;omega)).trans au.out;clear di b2 b3 f f2 f3;have J:Fr (fun k=>some k=some D) x3 (x3.putObj D (.deferred none)):=Fr.grown (grownBy_putObj' x3 D _);have bq:Hid (Fr ag w (x3.putObj D (.deferred none))):=(r.out.fr.aw a1.out (fun i R e=>by have:=a.out;omega)).aw J (fun i R e=>by have g:i=D:=(by simpa using e);have:=a.out;omega);have br:=af (bo.out.fr J (fun e=>by have g:g8=D:=(by simpa using e);have:=a.out;omega));have bs:=af (bp.out.fr J (fun e=>by have g:g9=D:=(by simpa using e);have:=a.out;omega));have ax:=af (av.out.fr J (fun e=>by have g:g10=D:=(by simpa using e);have:=a.out;omega));have dx:Hid ((x3.putObj D (.deferred none)).ownsRow 0 139 64 (.slice Y m1 aL) (bS index n).length ((dB leaf (bS index n) path).2.flatMap nN)):=
     aQ (aQ t.out a1.out (fun k L e=>by have:=P.out k L;have:=a.out;have:=LT.out;have:=HNE.out;omega)) J (fun k L e=>by
      have g:k=D:=by simpa using e
      subst g;obtain⟨o,bi,dz⟩:=cX t.out L;rw[au.out]at bi;cases bi;cases dz);have ds:=af cd.out.count;clear J;go_wp2;refine⟨by simp, .inl ⟨_,_,rfl,run_takeDeferred bt.out,?_⟩⟩;refine⟨_,iA _ _ g8 g9 g10 y.toArray _ 0 rfl rfl rfl br.out a6.out.info bs.out ax.out,?_⟩;rw[bz.out];refine⟨.slice Y m1 aL,?_,⟨?_,bq.out.bP,fun k L=> .inr (Nat.le_trans s.out.fr.size (P.out k L))⟩⟩;·rw[←aT.out];rfl
    ·simp only;rw[ds.out];exact dx.out
 case stop=>
  rintro D ce pre W aX _⟨bQ,rfl,bf⟩be;have a:Hid (w.heap.size≤g8∧g8<g9∧g9<g10∧g10<g11∧g11<g12∧g12<D):=by
   have:=HNE.out;have:=ba.out;have:=s.out.o4;have:=s.out.o7;have:=s.out.o8;have:=s.out.o9;have:=s.out.jh;have:=LT.out;simp only[Hid];omega
  have bt:=af be;have J:Fr (fun k=>some k=some D) W (W.putObj D (.deferred none)):=Fr.grown (grownBy_putObj' W D _);have bq:Hid (Fr ag w (W.putObj D (.deferred none))):=(s.out.fr.aw bQ.fr (fun i R e=>by have:=a.out;omega)).aw J (fun i R e=>by have g:i=D:=(by simpa using e);have:=a.out;omega);have br:=af (bQ.b8.fr J (fun e=>by have g:g8=D:=(by simpa using e);have:=a.out;omega));have bs:=af (bQ.b9.fr J (fun e=>by have g:g9=D:=(by simpa using e);have:=a.out;omega));have ax:=af (bQ.fj.fr J (fun e=>by have g:g10=D:=(by simpa using e);have:=a.out;omega));have bv:=af (jT.none (k:=35) bq.out);rw[aE,show cC.map aS=ao cC from rfl,cG.out]at bv;have bz:Hid (dn leaf index n path=(cC,[],35)):=by
   simp only[Hid];rw[NV.out,if_neg (by rw[PL.out];omega)]
  clear J bQ be b6 ca bx;gi_wp2;refine⟨by simp, .inl ⟨_,_,rfl,run_takeDeferred bt.out,?_⟩⟩;exact⟨_,iA _ _ g8 g9 g10 aB _ 35 rfl rfl rfl br.out a7.out.info bs.out ax.out,by rw[bz.out];exact bv.out⟩
end Go.Proofs.YtphjagkehiklkaaGreatDoor.Lt
