/- Texts. -/
import Derived.Test.YtphjagkehiklkaaGreatDoorYK14
set_option linter.unusedVariables false
set_option linter.unusedSimpArgs false
set_option maxRecDepth 100000
set_option maxHeartbeats 8000000
namespace Go.Proofs.YtphjagkehiklkaaGreatDoor
open Go.RowKit
theorem qu(w:World)(d:Nat)(l r:List UInt8)(a:l.length=32)(b:r.length=32):∀is:List Nat,(∀i∈is,i<32)→
  (Op.eqItems (d+1) 5 1 (l.map aT).toArray (r.map aT).toArray is).run Tryz.prog w= .ok (is.all fun i=>l[i]? ==r[i]?) w
 |[],_=>by simp[Op.eqItems]
 |i::is,h=>by
  have k:i<32:=h i (by simp);have c:(isAgg 5).run Tryz.prog w= .ok false w:=by kernel_rfl
  have p:∀x:List UInt8,x.length=32→(part 5 (x.map aT).toArray (i*1)).run Tryz.prog w= .ok (aT (x[i]?.getD 0)) w:=by
   intro x n;unfold part;rw[Sem.run_bind,c];simp only[Result.andThen_ok,Bool.false_eq_true,if_false,Nat.mul_one,bD,List.getElem?_map,List.getElem?_eq_getElem (show i<x.length by omega),Option.map_some,Sem.run_pure,Option.getD_some]
  have g:=qu w d l r a b is (fun j f=>h j (by simp[f]));have e:((((l[i]?.getD 0).toNat:Nat):Int)==(((r[i]?.getD 0).toNat:Nat):Int))=(l[i]? ==r[i]?):=by
   rw[List.getElem?_eq_getElem (show i<l.length by omega),List.getElem?_eq_getElem (show i<r.length by omega),Bool.eq_iff_iff];simp[←UInt8.toNat_inj];omega
  have q:(Op.equalIn (d+1) 5 (aT (l[i]?.getD 0)) (aT (r[i]?.getD 0))).run Tryz.prog w= .ok (l[i]? ==r[i]?) w:=by
   rw[←e];exact run_equalIn_int w d 5 .u8 .u8 _ _ Tryz.underlying5
  simp only[Op.eqItems,Sem.run_bind,p l a,p r b,q,Result.andThen_ok,List.all_cons];cases m:(l[i]? ==r[i]?);·simp
  ·simpa using g
theorem wZ(l r:List UInt8)(b:l.length=32)(c:r.length=32):((List.range 32).all fun i=>l[i]? ==r[i]?)=decide (l=r):=by
 rw[Bool.eq_iff_iff];simp only[List.all_eq_true,List.mem_range,beq_iff_eq,decide_eq_true_eq];constructor
 ·intro h;apply List.ext_getElem?;intro i;rcases Nat.lt_or_ge i 32 with a|a;·exact h i a
  ·rw[List.getElem?_eq_none (by omega),List.getElem?_eq_none (by omega)]
 ·rintro rfl _ _;rfl
theorem Eo:(Tryz.prog.info? 5).isSome=true:=by kernel_rfl
theorem qS:Tryz.prog.cellsOf 5=1:=by kernel_rfl
theorem oS(w:World)(t:TypeId)(hu:Tryz.prog.underlying t=some (.array 32 5))(l r:List UInt8)(b:l.length=32)(c:r.length=32):
  (Op.equalIn 10000 t (aP l) (aP r)).run Tryz.prog w= .ok (decide (l=r)) w:=by
 obtain⟨i,a⟩:=Option.isSome_iff_exists.1 Eo;unfold aP;rw[run_equalIn_array w 9999 _ _ hu a,qS,qu w 9998 l r b c _ (fun i a=>List.mem_range.1 a),wZ l r b c]
theorem vG(w:World)(t:TypeId)(hu:Tryz.prog.underlying t=some (.array 32 5))(l r:List UInt8)(a:l.length=32)(b:r.length=32):
  (binOp .eql t (aP l) (aP r)).run Tryz.prog w= .ok (.bool (decide (l=r))) w:=by
 have:=oS w t hu l r a b;unfold aP at*;rw[run_eql_struct,this];rfl
theorem AR(w:World)(t:TypeId)(hu:Tryz.prog.underlying t=some (.array 32 5))(l r:List UInt8)(a:l.length=32)(b:r.length=32):
  (binOp .neq t (aP l) (aP r)).run Tryz.prog w= .ok (.bool (!decide (l=r))) w:=by
 have:=oS w t hu l r a b;unfold aP at*;rw[run_neq_struct,this];rfl
end Go.Proofs.YtphjagkehiklkaaGreatDoor
namespace Go.Proofs.YtphjagkehiklkaaGreatDoor.Lt
open Go.RowKit
structure ep(w w':World)(g0 g1 g2:Nat)(l r:List UInt8):Prop where
 fr:Fr ag w w'
 b0:ao w' g0 38 (l.map aT).toArray
 b1:ao w' g1 38 (r.map aT).toArray
 b2:ao w' g2 38 aD
theorem ep.drew{w w':World}{g0 g1 g2:Nat}{l r:List UInt8}(h:ep w w' g0 g1 g2 l r):ep w w'.drew g0 g1 g2 l r:=⟨h.fr.drew,h.b0.drew,h.b1.drew,h.b2.drew⟩
theorem ep.later{w w' a:World}{g0 g1 g2:Nat}{l r:List UInt8}(h:ep w w' g0 g1 g2 l r)(b:Fr ag w' a):ep w a g0 g1 g2 l r:=⟨h.fr.trans b,h.b0.fr b (fun x=>x),h.b1.fr b (fun x=>x),h.b2.fr b (fun x=>x)⟩
theorem ep.alloc{w w':World}{g0 g1 g2:Nat}{l r:List UInt8}(h:ep w w' g0 g1 g2 l r)(a:Obj):ep w (w'.alloc a) g0 g1 g2 l r:=h.later (aA.alloc a)
theorem ep.store{w w':World}{g0 g1 g2 g:Nat}{l r:List UInt8}(h:ep w w' g0 g1 g2 l r)(d:w.heap.size≤g∧g0<g∧g1<g∧g2<g)(c:List Value):ep w (w'.setCells g 0 c) g0 g1 g2 l r:=by
 have a:Fr (fun k=>k=g) w' (w'.setCells g 0 c):=Fr.setCells (T:=fun k=>k=g) (fun _=>rfl) _ _ _ aA;exact⟨h.fr.aw a (fun i f e=>by have b:i=g:=e;omega),h.b0.fr a (fun e=>by have b:g0=g:=e;omega),h.b1.fr a (fun e=>by have b:g1=g:=e;omega),h.b2.fr a (fun e=>by have b:g2=g:=e;omega)⟩
theorem ep.all{w w':World}{g0 g1 g2:Nat}{l r:List UInt8}(h:ep w w' g0 g1 g2 l r)(a:l.length=32)(b:r.length=32):ep w w' g0 g1 g2 l r∧
  (convert 61 9 (.slice (some ⟨g0,0,none⟩) 32 32)).run Tryz.prog w'= .ok (.string ⟨l.toArray⟩) w'∧(convert 61 9 (.slice (some ⟨g1,0,none⟩) 32 32)).run Tryz.prog w'= .ok (.string ⟨r.toArray⟩) w':=
 ⟨h,mV (P:=Tryz.prog) w' 61 9 5 Tryz.underlying61 Tryz.underlying5 Tryz.underlying9 _ _ 32 32 l (Ez h.b0 (by rw[List.length_map,a])),
  mV (P:=Tryz.prog) w' 61 9 5 Tryz.underlying61 Tryz.underlying5 Tryz.underlying9 _ _ 32 32 r (Ez h.b1 (by rw[List.length_map,b]))⟩
theorem xH{w w':World}{g n:Nat}(h:w.there g 0 n)(a:Fr ag w w'):w'.there g 0 n:=fun j e=>by
 obtain⟨b,c⟩:=h j e;obtain⟨u,hu⟩:=Option.isSome_iff_exists.1 b;have d:=World.block_lt_of_cell? w _ hu;exact⟨by rw[a.an hu (fun x=>x)];rfl,by rw[a.frozen d (fun x=>x)];exact c⟩
theorem EC{w:World}{b:Nat}{s t:Value}(a:w.cell? ⟨b,0,none⟩=some s)(c:w.cell? ⟨b,1,none⟩=some t):Rd w (fun k=>k=b) 1 (some ⟨b,0,none⟩) 2 [s,t]:=by
 refine⟨rfl,fun _=>⟨_,rfl,rfl,fun j u hu=>?_⟩⟩;rw[Addr.add_mid,Nat.zero_add];rcases j with _|_|j;·cases hu;exact a
 ·cases hu;exact c
 ·cases hu
theorem kW(l r:List UInt8)(n:l.length=32)(o:r.length=32)(w:World)(B:bH w):Calls Tryz.prog 122 #[aP l,aP r] w (aK w (aP (cF l r))):=by
 have el:dG ⟨l.toArray⟩=l:=by simp[dG]
 have z:dG ⟨r.toArray⟩=r:=by simp[dG]
 have H:Hid (∀(W:World)(b:Nat),bH W→W.cell? ⟨b,0,none⟩=some (.string ⟨l.toArray⟩)→W.cell? ⟨b,1,none⟩=some (.string ⟨r.toArray⟩)→Calls Tryz.prog 120 #[.int .u8 1, .slice (some ⟨b,0,none⟩) 2 2] W (aK W (.tuple #[aP (cF l r), .int .i64 0]))):=by
  intro W b R O P;have h:=ov 1 [⟨l.toArray⟩,⟨r.toArray⟩] (some ⟨b,0,none⟩) 2 2 _ W R (EC O P) (by omega) (uc 1 _ _ (by rw[ByteArray.size,List.size_toArray,n];omega) (by rw[ByteArray.size,List.size_toArray,o];omega)) (by
   intro p D;simp only[List.mem_cons,List.not_mem_nil,or_false]at D;rcases D with rfl|rfl<;>simp only[ByteArray.size,List.size_toArray,n,o]<;>omega);simp only[List.map_cons,List.map_nil,el,z]at h;exact h
 have K:=af B;have k:=af (cX.of (eC l r));have I:=af n;have J:=af o;have hlen:((cF l r).map aT).length=32:=by rw[List.length_map,eC]
 have C:∀v∈(cF l r).map aT,v.oneCell'=true:=jx _;unfold aP at*;generalize(cF l r).map aT=f at*;have i24:(Tryz.prog.info? 38).map (·.size)=some f.length:=by rw[hlen];exact ef
 clear B n o el z;go_enter Tryz.func122,Tryz.ntmps122;go_wp2_with(refine ay rfl 38 (.tmp 0) rfl _ rfl ?_);intro w1 n1;have m:=af n1;clear n1;go_wp2_with(refine ay rfl 38 (.tmp 1) rfl _ rfl ?_);intro w2 E;have c:=af E;clear E;go_wp2_with(refine ak rfl 38 rfl aR fV aD rfl ?_);intro a n3;have d:=af n3;clear n3;have NS:ep w a w.heap.size w1.heap.size w2.heap.size l r:=⟨m.out.fr.trans (c.out.fr.trans d.out.fr),(m.out.aF.fr c.out.fr (fun x=>x)).fr d.out.fr (fun x=>x),c.out.aF.fr d.out.fr (fun x=>x),d.out.aF⟩;have z0:w.heap.size≤a.heap.size:=NS.fr.size;have z1:w.heap.size<a.heap.size:=NS.b0.lt;have z2:w1.heap.size<a.heap.size:=NS.b1.lt;have z3:w2.heap.size<a.heap.size:=NS.b2.lt;have L:Hid (w.heap.size≤w2.heap.size):=(m.out.fr.trans c.out.fr).size;clear m c d;generalize j:w.heap.size=g0 at*;generalize w1.heap.size=g1 at*;generalize w2.heap.size=g2 at*;have u:=af j;clear j;have Z:w.heap.size≤a.heap.size:=NS.fr.size;go_upto_region 1 with fail;go_cut[4,5](fun T U F=>∃g,T= .pointer (some ⟨g2,0,none⟩)∧U= .pointer (some ⟨g,0,none⟩)∧F.rangeAt g 0 f∧ep w F g0 g1 g2 l r);case first=>
  have t:Hid (((a.alloc (.cells #[.string ⟨l.toArray⟩, .string ⟨r.toArray⟩] 9)).alloc (.cells #[.int .u8 0, .int .u8 0, .int .u8 0, .int .u8 0, .int .u8 0, .int .u8 0, .int .u8 0, .int .u8 0, .int .u8 0, .int .u8 0, .int .u8 0, .int .u8 0, .int .u8 0, .int .u8 0, .int .u8 0, .int .u8 0, .int .u8 0, .int .u8 0, .int .u8 0, .int .u8 0, .int .u8 0, .int .u8 0, .int .u8 0, .int .u8 0, .int .u8 0, .int .u8 0, .int .u8 0, .int .u8 0, .int .u8 0, .int .u8 0, .int .u8 0, .int .u8 0] 38)).drew.there (a.heap.size+1) 0 32):=by
   have h:=ao.new (a.alloc (.cells #[.string ⟨l.toArray⟩, .string ⟨r.toArray⟩] 9)) 38 #[.int .u8 0, .int .u8 0, .int .u8 0, .int .u8 0, .int .u8 0, .int .u8 0, .int .u8 0, .int .u8 0, .int .u8 0, .int .u8 0, .int .u8 0, .int .u8 0, .int .u8 0, .int .u8 0, .int .u8 0, .int .u8 0, .int .u8 0, .int .u8 0, .int .u8 0, .int .u8 0, .int .u8 0, .int .u8 0, .int .u8 0, .int .u8 0, .int .u8 0, .int .u8 0, .int .u8 0, .int .u8 0, .int .u8 0, .int .u8 0, .int .u8 0, .int .u8 0];rw[show(a.alloc (.cells #[.string ⟨l.toArray⟩, .string ⟨r.toArray⟩] 9)).heap.size=a.heap.size+1 by simp]at h;exact lS h.drew rfl
  have s:Hid (((a.alloc (.cells #[.int .u8 0, .int .u8 0, .int .u8 0, .int .u8 0, .int .u8 0, .int .u8 0, .int .u8 0, .int .u8 0, .int .u8 0, .int .u8 0, .int .u8 0, .int .u8 0, .int .u8 0, .int .u8 0, .int .u8 0, .int .u8 0, .int .u8 0, .int .u8 0, .int .u8 0, .int .u8 0, .int .u8 0, .int .u8 0, .int .u8 0, .int .u8 0, .int .u8 0, .int .u8 0, .int .u8 0, .int .u8 0, .int .u8 0, .int .u8 0, .int .u8 0, .int .u8 0] 38)).alloc (.cells #[.string ⟨l.toArray⟩, .string ⟨r.toArray⟩] 9)).drew.there a.heap.size 0 32):=lS ((ao.new a 38 #[.int .u8 0, .int .u8 0, .int .u8 0, .int .u8 0, .int .u8 0, .int .u8 0, .int .u8 0, .int .u8 0, .int .u8 0, .int .u8 0, .int .u8 0, .int .u8 0, .int .u8 0, .int .u8 0, .int .u8 0, .int .u8 0, .int .u8 0, .int .u8 0, .int .u8 0, .int .u8 0, .int .u8 0, .int .u8 0, .int .u8 0, .int .u8 0, .int .u8 0, .int .u8 0, .int .u8 0, .int .u8 0, .int .u8 0, .int .u8 0, .int .u8 0, .int .u8 0]).alloc _).drew rfl;go_region_held3(fun w'=>ep w w' g0 g1 g2 l r∧(convert 61 9 (.slice (some ⟨g0,0,none⟩) 32 32)).run Tryz.prog w'= .ok (.string ⟨l.toArray⟩) w'∧(convert 61 9 (.slice (some ⟨g1,0,none⟩) 32 32)).run Tryz.prog w'= .ok (.string ⟨r.toArray⟩) w')((go_split_ands;refine ep.all ?_ I.out J.out;first|assumption|exact ep.drew (by assumption)|exact ep.later (by assumption) (by assumption)|exact ep.store (by assumption) ⟨by omega,by omega,by omega,by omega⟩ _|exact ep.alloc (by assumption) _|exact(ep.alloc (by assumption) _).alloc _|exact(ep.drew (by assumption)).alloc _|exact((ep.drew (by assumption)).alloc _).alloc _))((first|(go_at_call 120;go_split_ands;refine(H.out _ _ (K.out.aq (ep.fr (by assumption))) (by simp) (by simp)).mono ?_;rintro e q⟨rfl,f4⟩;have S:a.heap.size≤q.heap.size:=Nat.le_trans (by first|(simp;done)|(simp;omega)) f4.size;have t4:(q.alloc (.cells #[.int .u8 0, .int .u8 0, .int .u8 0, .int .u8 0, .int .u8 0, .int .u8 0, .int .u8 0, .int .u8 0, .int .u8 0, .int .u8 0, .int .u8 0, .int .u8 0, .int .u8 0, .int .u8 0, .int .u8 0, .int .u8 0, .int .u8 0, .int .u8 0, .int .u8 0, .int .u8 0, .int .u8 0, .int .u8 0, .int .u8 0, .int .u8 0, .int .u8 0, .int .u8 0, .int .u8 0, .int .u8 0, .int .u8 0, .int .u8 0, .int .u8 0, .int .u8 0] 38)).there q.heap.size 0 32:=lS (ao.new q 38 #[.int .u8 0, .int .u8 0, .int .u8 0, .int .u8 0, .int .u8 0, .int .u8 0, .int .u8 0, .int .u8 0, .int .u8 0, .int .u8 0, .int .u8 0, .int .u8 0, .int .u8 0, .int .u8 0, .int .u8 0, .int .u8 0, .int .u8 0, .int .u8 0, .int .u8 0, .int .u8 0, .int .u8 0, .int .u8 0, .int .u8 0, .int .u8 0, .int .u8 0, .int .u8 0, .int .u8 0, .int .u8 0, .int .u8 0, .int .u8 0, .int .u8 0, .int .u8 0]) rfl;first|(have V:=xH t.out (by with_reducible exact f4))|(have V:=xH s.out (by with_reducible exact f4))|skip)));all_goals
   go_split_ands;go_wp2_with fail;go_meet;exact⟨_,rfl,rfl,World.rangeAt_setCells_same _ _ _ _ (by rw[hlen];assumption),by assumption⟩
 case rest=>
  obtain⟨g,rfl,rfl,Q,A⟩:=hcut;have KN:=af A;have y:Hid (w.heap.size≤g2):=by have:=L.out;have:=u.out;simp only[Hid];omega
  have ty:=Tryz.underlying38;clear NS A z0 z1 z2 z3;go_wp2_with(first|(refine wpList_load_mid rfl 38 (.tmp 5) rfl g 0 rfl f _ Q ty rfl i24 ?_)|(refine ai rfl 38 (.tmp 4) _ rfl g2 f.toArray rfl rfl _ _ KN.out.b2 k.out.info k.out.zero k.out.one ?_));intro G b7 f7;have M:=af b7;have N:Hid (Fr ag w G):=KN.out.fr.aw f7 (fun i Y e=>by have X:i=g2:=e;have:=y.out;omega);clear b7 f7;go_wp2;exact bodyPost_ret (results_cell_row (fn:=Tryz.f122) (p:=4) (ty:=38) Tryz.results122 _ G _ 38 f.toArray (0,0) _ rfl M.out Tryz.underlying38 rfl k.out.info) rfl ⟨rfl,N.out⟩
structure ko(w w':World)(g0 g1:Nat)(a b:List Value):Prop where
 fr:Fr ag w w'
 b0:ao w' g0 37 a.toArray
 b1:ao w' g1 37 b.toArray
theorem ko.drew{w w':World}{g0 g1:Nat}{l r:List Value}(h:ko w w' g0 g1 l r):ko w w'.drew g0 g1 l r:=⟨h.fr.drew,h.b0.drew,h.b1.drew⟩
theorem ko.later{w w' a:World}{g0 g1:Nat}{l r:List Value}(h:ko w w' g0 g1 l r)(b:Fr ag w' a):ko w a g0 g1 l r:=⟨h.fr.trans b,h.b0.fr b (fun x=>x),h.b1.fr b (fun x=>x)⟩
theorem ko.alloc{w w':World}{g0 g1:Nat}{l r:List Value}(h:ko w w' g0 g1 l r)(a:Obj):ko w (w'.alloc a) g0 g1 l r:=h.later (aA.alloc a)
theorem cG{w:World}{g:Nat}{t:TypeId}{cs:List Value}(h:ao w g t cs.toArray):w.rangeAt g 0 cs:=fun j v a=>by
 rw[Nat.zero_add,h.cell,bD];exact a
theorem ko.all{w w':World}{g0 g1:Nat}{l r:List Value}(h:ko w w' g0 g1 l r):ko w w' g0 g1 l r∧w'.rangeAt g0 0 l∧w'.rangeAt g1 0 r:=⟨h,cG h.b0,cG h.b1⟩
def aM(n:Nat):Nat:=2^(Lib.bitLen (n-1)-1)
theorem dB(n:Nat)(h:2≤n)(e:n≤1099511627776):aM n<n∧n≤2*aM n∧1≤aM n:=by
 obtain⟨d,b,c⟩:=Lib.bitLenAux_bounds 64 (n-1) (by omega) (by omega);obtain⟨m,hm⟩:∃m,Lib.bitLen (n-1)=m+1:=⟨Lib.bitLenAux 64 (n-1)-1,by unfold Lib.bitLen;omega⟩;have a:Lib.bitLenAux 64 (n-1)=m+1:=hm;unfold aM;rw[a]at d b c;rw[hm];rw[Nat.pow_succ]at c;have:1≤2^m:=Nat.one_le_two_pow;simp only[Nat.add_sub_cancel]at b⊢;omega
theorem pow_one(n i j:Nat)(a:2^i<n)(b:n≤2*2^i)(c:2^j<n)(d:n≤2*2^j):2^i=2^j:=by
 rcases Nat.lt_trichotomy i j with h|h|h;·have:2^(i+1)≤2^j:=Nat.pow_le_pow_right (by omega) h;rw[Nat.pow_succ]at this;omega
 ·rw[h]
 ·have:2^(j+1)≤2^i:=Nat.pow_le_pow_right (by omega) h;rw[Nat.pow_succ]at this;omega
theorem xv(n j:Nat)(f:n≤1099511627776)(d:2^j<n)(e:n≤2*2^j):2^j=aM n:=by
 have:1≤2^j:=Nat.one_le_two_pow;obtain⟨a,b,c⟩:=dB n (by omega) f;exact pow_one n j _ d e a b
theorem mF(n:Nat)(w:World)(k:2≤n)(q:n≤1099511627776):Calls Tryz.prog 121 #[.int .i64 n] w fun e w'=>e= .returned (.int .i64 (aM n:Nat))∧w=w':=by
 obtain⟨a,b,c⟩:=dB n k q;obtain⟨m,hm⟩:∃m,m=n-1:=⟨_,rfl⟩;have l:1≤Lib.bitLen m:=(Lib.bitLenAux_bounds 64 m (by omega) (by omega)).1;have o:Lib.bitLen m≤64:=Lib.bitLen_le m 64 (by omega) (by omega);have d:Hid (aM n=2^(Lib.bitLen m-1)):=by rw[hm];rfl
 obtain⟨x,h⟩:∃x,x=Lib.bitLen m-1:=⟨_,rfl⟩;rw[←h]at d;have r:((Lib.bitLen m:Nat):Int)-1=(x:Int):=by omega
 have i:(x:Int)≤64:=by omega
 have p:(n:Int)-1=(m:Int):=by omega
 have j:Hid (∀w,Calls Tryz.prog 150 #[.int .u64 (m:Int)] w fun e w'=>e= .returned (.int .i64 (Lib.bitLen m:Nat))∧w'=w):=fun w=>Tryz.bits_Len (m:Int) w (by omega) (by omega);have f:IntKind.i64.wrap (1*2^x)=((aM n:Nat):Int):=by
  rw[d.out,Int.one_mul];have:(2:Int)^x=((2^x:Nat):Int):=by simp
  rw[this];refine IntWalk.i64_in _ ?_;rw[←d.out];omega
 have g:IntKind.i64.wrap (2^x)=((aM n:Nat):Int):=by rw[←f,Int.one_mul]
 clear h a b c;generalize Lib.bitLen m=B at*;generalize aM n=t at*;have s:=af hm;clear hm;go_enter Tryz.func121,Tryz.ntmps121;go_wp2_with fail;refine(j.out _).mono ?_;rintro e w'⟨rfl,rfl⟩;go_wp2;go_ret;exact⟨rfl,rfl⟩
def cS(ds:List (List UInt8)):List UInt8:=
 if a:1≤aM ds.length∧aM ds.length<ds.length then cF (cS (ds.take (aM ds.length))) (cS (ds.drop (aM ds.length)))else ds.headD []
termination_by ds.length
decreasing_by
 ·simp only[List.length_take];omega
 ·simp only[List.length_drop];omega
theorem qo(d:List UInt8):cS [d]=d:=by
 rw[cS,dif_neg (by simp;omega)];rfl
theorem mw(ds:List (List UInt8))(n:Nat)(b:ds.length=n)(d:2≤n)(e:n≤1099511627776):cS ds=cF (cS (ds.take (aM n))) (cS (ds.drop (aM n))):=by
 obtain⟨a,_,c⟩:=dB n d e;rw[cS,dif_pos (by rw[b];exact⟨c,a⟩),b]
theorem fX(n:Nat):∀ds:List (List UInt8),ds.length=n→1≤n→n≤1099511627776→(∀d∈ds,d.length=32)→(cS ds).length=32:=by
 intro ds a f e b;by_cases c:2≤n;·rw[mw ds n a c e];exact eC _ _
 ·match ds,a,b with
  |[d],_,b=>rw[qo];exact b d (by simp)
  |[],a,_=>simp at a;omega
  |_::_::_,a,_=>simp at a;omega
def ar(d:List UInt8):List Value:=d.map aT
structure ed(w:World)(S:Nat→Prop)(A:Option Addr)(n:Nat)(ds:List (List UInt8)):Prop where
 rd:Rd w S 32 A n (ds.flatMap ar)
 len:ds.length=n
 each:∀d∈ds,d.length=32
theorem ed.aq{w w':World}{S:Nat→Prop}{A:Option Addr}{n:Nat}{ds:List (List UInt8)}(h:ed w S A n ds)(a:Fr ag w w'):ed w' S A n ds:=⟨h.rd.aq a,h.len,h.each⟩
theorem ed.fr{w w':World}{S T:Nat→Prop}{A:Option Addr}{n:Nat}{ds:List (List UInt8)}(h:ed w S A n ds)(b:Fr T w w')(a:∀k,S k→¬T k):ed w' S A n ds:=⟨h.rd.fr b a,h.len,h.each⟩
theorem nC(ds:List (List UInt8))(h:∀d∈ds,d.length=32):∀k,(ds.flatMap ar).take (k*32)=(ds.take k).flatMap ar:=by
 induction ds with
 |nil=>simp
 |cons d r b=>
  intro k;rcases k with _|k;·simp
  ·have c:(ar d).length=32:=by rw[ar,List.length_map];exact h d (by simp)
   rw[List.flatMap_cons,List.take_succ_cons,List.flatMap_cons,show(k+1)*32=(ar d).length+k*32 by omega,List.take_length_add_append,b (fun x a=>h x (by simp[a]))]
theorem lD(ds:List (List UInt8))(h:∀d∈ds,d.length=32):∀k,(ds.flatMap ar).drop (k*32)=(ds.drop k).flatMap ar:=by
 induction ds with
 |nil=>simp
 |cons d r b=>
  intro k;rcases k with _|k;·simp
  ·have c:(ar d).length=32:=by rw[ar,List.length_map];exact h d (by simp)
   rw[List.flatMap_cons,List.drop_succ_cons,show(k+1)*32=(ar d).length+k*32 by omega,List.drop_length_add_append,b (fun x a=>h x (by simp[a]))]
theorem ed.take{w:World}{S:Nat→Prop}{A:Option Addr}{n k:Nat}{ds:List (List UInt8)}(h:ed w S A n ds)(b:k≤n):ed w S A k (ds.take k):=by
 have:=h.rd.take b;rw[nC ds h.each]at this;exact⟨this,by rw[List.length_take,h.len];omega,fun d a=>h.each d (List.mem_of_mem_take a)⟩
theorem ed.cut{w:World}{S:Nat→Prop}{A:Option Addr}{n k cap:Nat}{ds:List (List UInt8)}(h:ed w S A n ds)(c:k≤n)(a:n≤cap):ed w S (if cap=k then A else A.map (·.add (k*32))) (n-k) (ds.drop k):=by
 have:=h.rd.cut c a;rw[lD ds h.each]at this;exact⟨this,by rw[List.length_drop,h.len],fun d b=>h.each d (List.mem_of_mem_drop b)⟩
theorem ed.at_{w:World}{S:Nat→Prop}{A:Option Addr}{n k:Nat}{ds:List (List UInt8)}(h:ed w S A n ds)(o:k<n):∃f d,A=some f∧S f.block∧ds[k]? =some d∧d.length=32∧∀j v,(ar d)[j]? =some v→w.cell? ((f.add (k*32)).add j)=some v:=by
 obtain⟨f,e,i,l⟩:=h.rd.2 (by omega);have c:k<ds.length:=by rw[h.len];exact o
 have a:ds[k].length=32:=h.each _ (List.getElem_mem c);refine⟨f,ds[k],e,i,List.getElem?_eq_getElem c,a,fun j v g=>?_⟩;rw[gD];refine l _ v ?_;have m:j<32:=by have:=(List.getElem?_eq_some_iff.1 g).1;rw[ar,List.length_map,a]at this;exact this
 have b:(ds.flatMap ar).drop (k*32)=ar ds[k]++(ds.drop (k+1)).flatMap ar:=by
  rw[lD ds h.each,List.drop_eq_getElem_cons c,List.flatMap_cons]
 rw[←List.getElem?_drop,b,List.getElem?_append_left (by rw[ar,List.length_map,a];exact m)];exact g
theorem jV{P:Program}(w:World)(b:Addr)(ty:TypeId)(cs:List Value)(d:TypeDesc)(f:∀j v,cs[j]? =some v→w.cell? (b.add j)=some v)
  (hu:P.underlying ty=some d)(k:d.isRow=true)(e:(P.info? ty).map (·.size)=some cs.length):(loadVar ty b).run P w= .ok (.agg cs.toArray) w:=by
 have g:(loadCells b cs.length).run P w= .ok cs.toArray w:=run_loadCells_list (P:=P) w b cs f;cases c:P.info? ty with
 |none=>simp[c]at e
 |some i=>
  have h:i.size=cs.length:=by simpa[c]using e
  have a:(isAgg ty).run P w= .ok true w:=by
   unfold isAgg;rw[Sem.run_bind,run_underlying hu w];cases d<;>simp_all
  simp[loadVar,Sem.run_bind,a,sizeOf,typeInfo,c,h,g]
theorem az{P:Program}{op:Oper}{a:Act}{w:World}{K:Act→World→Prop}{Q:Exit→Act→World→Prop}(ty:TypeId)(x:Operand)(g:op.op= .load ty x)
  (b:Addr)(i:a.eval x= .pointer (some b))(cs:List Value)(d:TypeDesc)(c:∀j v,cs[j]? =some v→w.cell? (b.add j)=some v)
  (hu:P.underlying ty=some d)(e:d.isRow=true)(f:(P.info? ty).map (·.size)=some cs.length)
  (h:K (a.put op.dst (.agg cs.toArray)) w):op.wp P a w K Q:=by
 unfold Oper.wp execOp;simp only[g,i,Instr.loadAt,Instr.sureAddr,Sem.run_bind,Sem.run_pure,Result.andThen_ok,jV w b ty cs d c hu e f];exact h
theorem aB{P:Program}{ops:Array Oper}{rest:List Oper}{op:Oper}{a:Act}{w:World}{Q:Exit→Act→World→Prop}(c:op.guard=none)(ty:TypeId)(x:Operand)(k:op.op= .load ty x)
  (b:Addr)(l:a.eval x= .pointer (some b))(cs:List Value)(d:TypeDesc)(f:∀j v,cs[j]? =some v→w.cell? (b.add j)=some v)
  (hu:P.underlying ty=some d)(g:d.isRow=true)(i:(P.info? ty).map (·.size)=some cs.length)
  (h:wpList P ops Q rest (a.put op.dst (.agg cs.toArray)) w):wpList P ops Q (op::rest) a w:=
 wpList_plain c fun _ e=>az ty x k b l cs d f hu g i (e _ _ h)
def fW(ds:List (List UInt8)):List UInt8:=if ds=[]then qZ else cS ds
def bh(p:Prop):Prop:=p
theorem bh.go{p:Prop}(h:bh p):p:=h
theorem tM:(Tryz.prog.info? 38).map (fun i=>(i.zero,i.size,i.bytes))=some (some aR,32,32):=by kernel_rfl
theorem foldl_set:∀(l:List Value)(k off:Nat)(b:List Value),off+k+l.length≤b.length→(l.zipIdx k).foldl (fun cs x=>cs.setIfInBounds (off+x.2) x.1) b.toArray=(b.take (off+k)++l++b.drop (off+k+l.length)).toArray
 |[],k,off,b,_=>by simp
 |c::r,k,off,b,h=>by
  simp only[List.length_cons]at h;rw[List.zipIdx_cons,List.foldl_cons,List.setIfInBounds_toArray,foldl_set r (k+1) off (b.set (off+k) c) (by rw[List.length_set];omega)];congr 1;have a:(b.set (off+k) c).take (off+(k+1))=b.take (off+k)++[c]:=by
   rw[List.take_set,show off+(k+1)=(off+k)+1 by omega,List.take_succ_eq_append_getElem (by omega:off+k<b.length),List.set_append_right _ _ (by simp;omega)];simp;rw[show off+k-min (off+k) b.length=0 by omega];rfl
  have d:(b.set (off+k) c).drop (off+(k+1)+r.length)=b.drop (off+k+(c::r).length):=by
   rw[List.drop_set_of_lt (by omega)];congr 1;simp only[List.length_cons];omega
  rw[a,d];simp
theorem jO(cs b:Array Value)(off:Nat)(h:off+cs.size≤b.size):cs.zipIdx.foldl (fun cs(x:Value×Nat)=>cs.setIfInBounds (off+x.2) x.1) b=(b.toList.take off++cs.toList++b.toList.drop (off+cs.size)).toArray:=by
 rw[←Array.foldl_toList,Array.toList_zipIdx];have:=foldl_set cs.toList 0 off b.toList (by simpa using h);simpa using this
theorem rP(cs b:Array Value)(d:cs.size=32)(c:b.size=32):Instr.fill (fun i=>some (i*32,32)) b [(0, .agg cs)]=some cs:=by
 have a:=jO cs b 0 (by omega);simp only[Instr.fill,Value.cells,d,c,Nat.zero_mul,Nat.zero_add,ne_eq,not_true_eq_false,decide_false,Bool.false_or,gt_iff_lt,Nat.lt_irrefl,Bool.false_eq_true,if_false];simp only[Nat.zero_add,List.take_zero,List.nil_append,d]at a;rw[List.drop_of_length_le (by simp[c]),List.append_nil]at a;rw[a]
def xV(w:World)(n:Nat)(ds:List (List UInt8))(e:Ending)(w':World):Prop:=∃v,e= .returned v∧bW 38 32 w (.slice none 0 0) w' v n (ds.flatMap ar)
def Kz(w:World)(e:Ending)(w':World):Prop:=e= .returned (.pointer (some ⟨w.heap.size,0,none⟩))∧w'=w.alloc (.cells #[.slice none 0 0, .map none] 180)
theorem qG(w:World):Calls Tryz.prog 83 #[] w (Kz w):=by
 go_enter Tryz.func83,Tryz.ntmps83;go_wp2;go_ret;exact⟨rfl,rfl⟩
structure Jr(w w':World):Prop where
 map:w'.heap[w.heap.size]? =some (.map #[] 0)
 fr:Fr ag w w'
 size:w'.heap.size=w.heap.size+1
theorem tw{P:Program}{ops:Array Oper}{rest:List Oper}{e:Oper}{a:Act}{w:World}{Q:Exit→Act→World→Prop}(c:e.guard=none)(t:TypeId)(d:e.op= .makeMap t none)
  (h:∀w',Jr w w'→wpList P ops Q rest (a.put e.dst (.map (some w.heap.size))) w'):wpList P ops Q (e::rest) a w:=by
 refine wpList_plain c fun K b=>?_;have mk:(Instr.makeMap t none).run P w= .ok (.map (some w.heap.size)) (w.alloc (.map #[] 0)):=by simp[Instr.makeMap]
 unfold Oper.wp execOp;simp only[d,Option.map_none,Sem.run_bind,mk,Sem.run_pure,Result.andThen_ok];exact b _ _ (h _ ⟨heap_alloc_new w _,aA.alloc _,by simp⟩)
theorem eN{P:Program}{ops:Array Oper}{rest:List Oper}{op:Oper}{a:Act}{w:World}{Q:Exit→Act→World→Prop}(b:op.guard=none)(ty:TypeId)(x:Operand)(i:op.op= .load ty x)
  (g:Nat)(l:a.eval x= .pointer (some ⟨g,0,none⟩))(t:TypeId)(cs:List Value)(c:ao w g t cs.toArray)(d:TypeDesc)
  (hu:P.underlying ty=some d)(e:d.isRow=true)(f:(P.info? ty).map (·.size)=some cs.length)
  (h:wpList P ops Q rest (a.put op.dst (.agg cs.toArray)) w):wpList P ops Q (op::rest) a w:=
 aB b ty x i ⟨g,0,none⟩ l cs d (fun j v k=>by rw[Addr.add_mid,Nat.zero_add,c.cell,bD];exact k) hu e f h
theorem FU(a e b:Array Value)(c:a.size=32)(g:e.size=32)(f:b.size=64):Instr.fill (fun i=>some (i*32,32)) b [(0, .agg a),(1, .agg e)]=some (a.toList++e.toList).toArray:=by
 have h:=jO a b 0 (by omega);simp only[Nat.zero_add,List.take_zero,List.nil_append,c]at h;have l:(a.toList++b.toList.drop 32).toArray.size=64:=by simp[c,f]
 have d:=jO e (a.toList++b.toList.drop 32).toArray 32 (by omega);have j:(a.toList++b.toList.drop 32).take 32=a.toList:=by rw[List.take_append_of_le_length (by simp[c]),List.take_of_length_le (by simp[c])]
 have k:(a.toList++b.toList.drop 32).drop (32+32)=[]:=List.drop_of_length_le (by simp[c,f]);simp only[g,j,k,List.append_nil]at d;simp only[Instr.fill,Value.cells,c,g,f,Nat.zero_mul,Nat.zero_add,Nat.one_mul,ne_eq,not_true_eq_false,decide_false,Bool.false_or,gt_iff_lt,Nat.lt_irrefl,Bool.false_eq_true,if_false,Nat.reduceAdd,Nat.reduceLT,h,l,d]
theorem ed.iA{w w':World}{v:Value}{n:Nat}{ds:List (List UInt8)}(h:bW 38 32 w (.slice none 0 0) w' v n (ds.flatMap ar))(i:ds.length=n)(he:∀d∈ds,d.length=32):
  ∃A c,v= .slice A n c∧ed w' (gj v) A n ds∧n≤c∧c≤9223372036854775807∧Fr ag w w':=by
 obtain⟨A,c,rfl,f⟩:=qi h.own;refine⟨A,c,rfl,⟨Rd.gO h.own,i,he⟩,f,?_,h.aq⟩;rcases h.own.2 with⟨b,_⟩|⟨g,cap,cur,b,_,_,_,a,_⟩;·injection b with _ _ e;omega
 ·injection b with _ _ e;unfold maxLen at a;omega
theorem eS{P:Program}{op:Oper}{a:Act}{w:World}{K:Act→World→Prop}{Q:Exit→Act→World→Prop}(i:BinOp)(t:TypeId)(x y:Operand)(ty:TypeId)(d:op.op= .binOp i t x y ty)
  (xs b:Array Value)(f:a.eval x= .agg xs)(g:a.eval y= .agg b)(c:P.eqGuardType P.depth t=false)
  (v:Value)(e:(binOp i t (.agg xs) (.agg b)).run P w= .ok v w)(h:K (a.put op.dst v) w):op.wp P a w K Q:=by
 have he:=run_eqGuard_agg (P:=P) (w:=w) i t x y xs b c;unfold Oper.wp execOp;simp only[d,f,g,Sem.run_bind,he,e,Result.andThen_ok];exact h
theorem j6(n:Nat)(ds:List (List UInt8))(b:ds.length=n)(e:n≤1048576)(he:∀d∈ds,d.length=32):(fW ds).length=32:=by
 unfold fW;split;·exact oE
 ·rename_i h;have c:1≤n:=by
   rcases Nat.eq_zero_or_pos n with a|a;·exact absurd (List.eq_nil_of_length_eq_zero (b.trans a)) h
   ·exact a
  exact fX n ds b c (by omega) he
end Go.Proofs.YtphjagkehiklkaaGreatDoor.Lt
namespace Go.Proofs.YtphjagkehiklkaaGreatDoor.Lt
open Go.RowKit Go.ChangeShapes Go.WideShapes Go.Deep
theorem zA:Tryz.prog.cellsOf 141=8:=by kernel_rfl
theorem xf:Tryz.prog.cellsOf 242=64:=by kernel_rfl
theorem uw:Tryz.prog.cellsOf 140=1:=by kernel_rfl
theorem qb:Tryz.prog.globalNamed "replevin/sha256.initial"=some 1:=by kernel_rfl
theorem tj:(Tryz.prog.globals[1]?).map (·.type)=some 141:=by kernel_rfl
theorem nE:Tryz.prog.globalNamed "replevin/sha256.constants"=some 2:=by kernel_rfl
theorem pT:(Tryz.prog.globals[2]?).map (·.type)=some 242:=by kernel_rfl
def Cq:List Int:=[1779033703,3144134277,1013904242,2773480762,1359893119,2600822924,528734635,1541459225]
def Ad:List Int:=sV.map (fun n:Nat=>(n:Int))
end Go.Proofs.YtphjagkehiklkaaGreatDoor.Lt
namespace Go.Proofs.YtphjagkehiklkaaGreatDoor.Lt
open Go.RowKit
theorem iM{P:Program}{l:Oper}{a:Act}{w:World}{K:Act→World→Prop}{Q:Exit→Act→World→Prop}(ty:TypeId)(x y:Operand)(f:l.op= .store ty x y)
  (g:Nat)(cells:Array Value)(i:a.eval x= .pointer (some ⟨g,0,none⟩))(j:a.eval y= .agg cells)
  (t:TypeId)(b:Array Value)(c:ao w g t b)(e:(P.info? ty).map (·.size)=some cells.size)
  (hold:b.size=cells.size)(d:cells.all (·.oneCell')=true)
  (h:∀w',ao w' g t cells→Fr (fun k=>k=g) w w'→K (a.put l.dst undef) w'):l.wp P a w K Q:=
 wp_store_row ty x y f g cells i j t b c e hold d (h _ (ig c) ((Fr.refl (fun k=>k=g) w).setRow (fun _=>rfl) cells))
structure sC(w a:World)(ty:TypeId)(b:Array Value)(X Y:Array Value)(g5 g10 g11:Nat):Prop where
 fr:Fr ag w a
 b5:ao a g5 ty b
 gR:ao a g10 ty X
 mO:ao a g11 ty Y
 lo:w.heap.size≤g5
 l1:g5<g10
 l2:g10<g11
theorem sC.of{w w1 w2 e:World}{ty:TypeId}{d:Array Value}(c:dN w w1 ty d)(a:dN w1 w2 ty aD)(b:dN w2 e ty aD):sC w e ty d aD aD w.heap.size w1.heap.size w2.heap.size:=
 ⟨c.fr.trans (a.fr.trans b.fr),(c.aF.fr a.fr (fun x=>x)).fr b.fr (fun x=>x),a.aF.fr b.fr (fun x=>x),b.aF,Nat.le_refl _,by rw[c.size];omega,by rw[a.size];omega⟩
end Go.Proofs.YtphjagkehiklkaaGreatDoor.Lt
namespace Go.Proofs.YtphjagkehiklkaaGreatDoor
open Go.RowKit Go.Shelf
def qK(w:World)(cs:List Value):Prop:=∃(t c n l:Int)(a:Option Addr)(nr d:Nat)(xs:List CV)(f:Nat→Prop)(b:Option Addr)(nw e:Nat)(h:List CV)(g:Nat→Prop),0≤l∧l<256∧
 cs=[Value.int .i64 t, .int .i64 c, .int .i64 n, .int .u8 l, .slice a nr d, .slice b nw e]∧(CL w f a nr xs∧nr≤9223372036854775807∧nr≤d)∧(CL w g b nw h∧nw≤9223372036854775807∧nw≤e)
theorem qK.aq{w w':World}{cs:List Value}(h:qK w cs)(a:Fr ag w w'):qK w' cs:=by
 obtain⟨t,c,n,l,b,nr,g,xs,e,d,nw,i,v,f,j,k,m,⟨o,p,q⟩,r,s,u⟩:=h;exact⟨t,c,n,l,b,nr,g,xs,e,d,nw,i,v,f,j,k,m,⟨o.aq a,p,q⟩,r.aq a,s,u⟩
def Jq(w:World)(e:Ending)(w':World):Prop:=∃cs a,e= .returned (.agg cs.toArray)∧cT w' cs a∧gJ a∧jJ w.heap.size cs∧Fr ag w w'
def Er:Array Value:=#[.string ⟨#[49]⟩, .string ⟨#[49,46,49]⟩, .string ⟨#[50]⟩, .string ⟨#[49,48]⟩]
def oc:Nat→ByteArray
 |0=>⟨#[49]⟩
 |1=>⟨#[49,46,49]⟩
 |2=>⟨#[50]⟩
 |3=>⟨#[49,48]⟩
 |_=>ByteArray.empty
theorem Es:∀{q:Nat},q<4→(oc q).size≤100∧Er[q]? =some (.string (oc q))
 |0,_=>⟨by decide,rfl⟩
 |1,_=>⟨by decide,rfl⟩
 |2,_=>⟨by decide,rfl⟩
 |3,_=>⟨by decide,rfl⟩
def IE(t c n l:Int):eE:=⟨t,c,n,if c=0 then ByteArray.empty else oc (l.tmod 4).toNat⟩
def xT(k:eE)(w:World)(e:Ending)(w':World):Prop:=∃cs a,e= .returned (.agg cs.toArray)∧cT w' cs a∧gJ a∧jJ w.heap.size cs∧Fr ag w w'∧a.key=k
theorem BQ(t c n:Int):Tryz.prog.built 43 [(0, .int .i64 t),(1, .int .i64 c),(2, .int .i64 n)]=some [Value.int .i64 t, .int .i64 c, .int .i64 n, .string ByteArray.empty].toArray:=by kernel_rfl
theorem Gg:(Tryz.prog.info? 41).map (fun i=>(i.zero,i.size,i.bytes))=some (some (.string ByteArray.empty),1,16):=by kernel_rfl
theorem IB:(Tryz.prog.info? 72).map (·.size)=some 6:=by kernel_rfl
theorem BG(t c n l:Int)(M:Option Addr)(nr P:Nat)(xs:List CV)(a3:Nat→Prop)(N:Option Addr)(nw Q:Nat)(bp:List CV)(a4:Nat→Prop)(w:World)(g:0≤l)(m:l<256)(a8:CL w a3 M nr xs)(ba:nr≤9223372036854775807)(F:nr≤P)(bb:CL w a4 N nw bp)(aj:nw≤9223372036854775807)(bc:nw≤Q):
  Calls Tryz.prog 30 #[.agg [Value.int .i64 t, .int .i64 c, .int .i64 n, .int .u8 l, .slice M nr P, .slice N nw Q].toArray] w (xT (IE t c n l) w):=by
 have aZ:Hid (∀w',Fr ag w w'→Calls Tryz.prog 81 #[.slice M nr P] w' (pc w')):=fun w' f=>np nr xs M P a3 w' (a8.aq f) ba F;have a0:Hid (∀w',Fr ag w w'→Calls Tryz.prog 81 #[.slice N nw Q] w' (pc w')):=fun w' f=>np nw bp N Q a4 w' (bb.aq f) aj bc;have aY:=af (BQ t c n);have bt:Hid (∀(s:ByteArray)(A B:Option Addr)(x y z u:Nat),Tryz.prog.built 46 [(0, .agg [Value.int .i64 t, .int .i64 c, .int .i64 n, .string s].toArray),(1, .slice A x y),(2, .slice B z u)]=some ([Value.int .i64 t, .int .i64 c, .int .i64 n, .string s]++[Value.slice A x y, .slice B z u]).toArray):=fun s A B x y z u=>xd t c n s A B x y z u;obtain⟨q,aR,aa⟩:∃q:Nat,l.tmod 4=(q:Int)∧q<4:=⟨(l.tmod 4).toNat,by rw[Int.tmod_eq_emod_of_nonneg g];omega,by rw[Int.tmod_eq_emod_of_nonneg g];omega⟩;have aD:=af aa;have Z:IE t c n l=⟨t,c,n,if c=0 then ByteArray.empty else oc q⟩:=by unfold IE;rw[aR,Int.toNat_natCast]
 obtain⟨s,ab⟩:∃s,(if c=0 then ByteArray.empty else oc q)=s:=⟨_,rfl⟩;rw[Z,ab];have J:Hid ((c=0→s=ByteArray.empty)∧(c≠0→s=oc q)∧s.size≤100):=by
  refine⟨fun h=>by rw[←ab,if_pos h],fun h=>by rw[←ab,if_neg h],?_⟩;rw[←ab];split;·decide
  ·exact(Es aa).1
 clear Z ab;clear a8 ba F bb aj bc;have bw:Hid (0≤l∧l<256):=⟨g,m⟩;clear g m;go_enter Tryz.func30,Tryz.ntmps30;go_wp2_with(refine ay rfl 72 (.tmp 0) rfl _ rfl ?_);intro w1 n1;have ax:=af n1.fr;have al:=af n1.aF;clear n1;generalize W:w.heap.size=g1 at*;have bv:=af W;clear W;go_wp2_with(refine ak rfl 46 rfl fH mJ #[.int .i64 0, .int .i64 0, .int .i64 0, .string ByteArray.empty, .slice none 0 0, .slice none 0 0] rfl ?_);intro w2 bk;have ae:=af bk;clear bk;generalize X:w1.heap.size=g2 at*;have T:=af X;clear X;have aW:Hid (ao w2 g2 46 #[.int .i64 0, .int .i64 0, .int .i64 0, .string ByteArray.empty, .slice none 0 0, .slice none 0 0]):=by have h:=ae.out.aF;rw[T.out]at h;exact h
 have ad:=af (ax.out.trans ae.out.fr);have o:=af (al.out.fr ae.out.fr (fun x=>x));have C:Hid (w.heap.size≤g2∧g1<g2):=by have:=ax.out.size;have:=T.out;have:=al.out.lt;exact⟨by omega,by omega⟩
 clear ae al ax;have bU:w2.cell? ⟨g1,0,none⟩=some (.int .i64 t):=o.out.cell 0;have aU:w2.cell? ⟨g1,1,none⟩=some (.int .i64 c):=o.out.cell 1;have bV:w2.cell? ⟨g1,2,none⟩=some (.int .i64 n):=o.out.cell 2;go_wp2_with(refine eD rfl 43 _ rfl [Value.int .i64 t, .int .i64 c, .int .i64 n, .string ByteArray.empty].toArray _ (by simp only[List.map_toArray,List.map_cons,List.map_nil];rfl) aY.out (bh.go ?zA));unfold bh;go_wp2_with(refine ak rfl 43 rfl y9 D3 #[.int .i64 0, .int .i64 0, .int .i64 0, .string ByteArray.empty] rfl ?_);intro bZ n3;have aG:=af n3;clear n3 bU aU bV;generalize Y:w2.heap.size=g3 at*;have G:=af Y;clear Y;have aX:Hid (ao bZ g3 43 #[.int .i64 0, .int .i64 0, .int .i64 0, .string ByteArray.empty]):=by have h:=aG.out.aF;rw[G.out]at h;exact h
 have aH:Hid ([Value.int .i64 t, .int .i64 c, .int .i64 n, .string ByteArray.empty].toArray.all (·.oneCell')=true):=by simp[Hid,Value.oneCell']
 go_wp2_with(refine ai rfl 43 (.tmp 3) _ rfl g3 [Value.int .i64 t, .int .i64 c, .int .i64 n, .string ByteArray.empty].toArray rfl rfl _ _ aX.out fO rfl aH.out ?_);intro aV b4 f4;have am:Hid (ao aV g3 43 #[.int .i64 t, .int .i64 c, .int .i64 n, .string ByteArray.empty]):=b4;have R:Hid (Fr ag w2 aV):=aG.out.fr.aw f4 (fun i bJ e=>by have U:i=g3:=e;have:=G.out;omega);clear b4 f4 aG aX;have aB:Hid (g2<g3):=by have:=aW.out.lt;have:=G.out;simp only[Hid];omega
 have aU:aV.cell? ⟨g1,1,none⟩=some (.int .i64 c):=(o.out.fr R.out (fun x=>x)).cell 1;obtain⟨D,bd⟩:∃z:Bool,(c !=0)=z:=⟨_,rfl⟩;have V:decide (c=0)=!D:=by rw[←bd];by_cases h:c=0<;>simp[h]
 go_upto_if 13 with fail;have S:Hid (decide (c=0)=!D):=V;clear bd V aU;go_cut[1,2,3](fun bQ bR bS bo=>bQ= .pointer (some ⟨g1,0,none⟩)∧bR= .pointer (some ⟨g2,0,none⟩)∧bS= .pointer (some ⟨g3,0,none⟩)∧Fr ag w2 bo∧ao bo g3 43 #[.int .i64 t, .int .i64 c, .int .i64 n, .string s]);case first=>
  cases D;·go_wp2;go_meet;exact⟨rfl,rfl,rfl,R.out,by rw[J.out.1 (by simpa using S.out)];exact am.out⟩
  ·obtain⟨i0,bK,bi,ac,bL⟩:=info_parts Gg;have bH:Hid (¬4*i0.size>2^24):=by simp only[Hid];rw[ac];omega
   have bI:Hid (¬4*i0.size=0):=by simp only[Hid];rw[ac];omega
   have b7:IntKind.u8.wrap (q:Int)=(q:Int):=IntWalk.u8_in _ (by have:=aD.out;omega);have b5:(q:Int)<4:=by have:=aD.out;omega
   have b6:(0:Int)≤(q:Int):=by omega
   go_upto_region 3 with fail;refine DX 6 [⟨fun E r=>∃i:Nat,E= .slice (some ⟨i,0,none⟩) 4 4∧ao r i 41 Er,fun _ _ _ f⟨i,e,h⟩=>⟨i,e,h.fr f (fun x=>x)⟩⟩,iS (.pointer (some ⟨g1,3,none⟩)),iS (.int .u8 l),iS (.int .u8 (q:Int)),⟨fun E r=>∃i:Nat,E= .pointer (some ⟨i,q,none⟩)∧r.cell? ⟨i,q,none⟩=some (.string (oc q)),fun _ _ _ f⟨i,e,c⟩=>⟨i,e,f.an c (fun x=>x)⟩⟩,iS (.string (oc q))] ?zC ?_;case zC=>
    refine⟨?zK,?zR,?zL,?zM,?zN,?zO,trivial⟩;all_goals intro u w' d b
    all_goals simp only[z1,z2,z3,z4,au,Act.put,z5,z6,z7,Nat.reduceAdd,Nat.zero_add]
    case zK=>
     refine aC ?_;go_simp;exact⟨_,rfl,aA.alloc _,⟨w'.heap.size,rfl,ao.new _ _ _⟩⟩
    case zL=>
     simp only[show u 1=_ from b 1];refine aC ?_;have q:_=some _:=(o.out.fr (R.out.trans d) (fun x=>x)).cell 3;go_simp;exact⟨_,rfl,aA,rfl⟩
    case zM=>
     simp only[show u 2=_ from b 2];refine aC ?_;go_simp;exact⟨_,rfl,aA,rfl⟩
    case zN=>
     obtain⟨aT,bF,b0⟩:=b 0;simp only[bF,show u 3=_ from b 3];refine aC ?_;obtain⟨_,aP⟩:=Es aD.out;go_simp;exact⟨_,rfl,aA,⟨aT,rfl,by rw[←aP];exact b0.cell q⟩⟩
    case zO=>
     obtain⟨i4,aL,b2⟩:=b 4;simp only[aL];refine aC ?_;go_simp;exact⟨_,rfl,aA,rfl⟩
    all_goals
     refine aC ?_;go_simp;exact⟨_,rfl,aA,rfl⟩
   intro u w' d b;simp only[z1,z2,z3,z4,au,Act.put,z5,z6,z7,z8,z9,Nat.reduceAdd,Nat.zero_add,show u 5=_ from b 5 (by omega)];clear b;have I:=af (R.out.trans d);have ap:=af (am.out.fr d (fun x=>x));have es:Hid (oc q=s):=(J.out.2.1 (by simpa using S.out)).symm;have aI:Hid ((Value.string (oc q)).oneCell'=true):=by simp[Hid,Value.oneCell']
   clear d;go_wp2_with(refine aS rfl 41 _ _ rfl g3 3 (.string (oc q)) rfl rfl aI.out uS _ _ #[.int .i64 t, .int .i64 c, .int .i64 n, .string (oc q)] ap.out (show 3<4 by decide) rfl ?_);intro bn O f6;have bs:=af O;have bu:Hid (Fr ag w2 bn):=I.out.aw f6 (fun i bJ e=>by have U:i=g3:=e;have:=G.out;omega);clear O f6;go_wp2;go_meet;exact⟨rfl,rfl,rfl,bu.out,by rw[←es.out];exact bs.out⟩
 case rest=>
  obtain⟨rfl,rfl,rfl,d,be⟩:=hcut;have I:=af d;have ap:=af be;have bz:Hid (s.size≤100):=J.out.2.2;clear d be am R;have a2:Hid (ao wc g2 46 #[.int .i64 0, .int .i64 0, .int .i64 0, .string ByteArray.empty, .slice none 0 0, .slice none 0 0]):=aW.out.fr I.out (fun x=>x);have a1:=af (o.out.fr I.out (fun x=>x));have ar:Hid (∀w',Fr (fun k=>k=g2) wc w'→Calls Tryz.prog 81 #[.slice M nr P] w' (pc w')):=fun w' f=>aZ.out w' ((ad.out.trans I.out).aw f (fun k zA e=>by have U:k=g2:=e;have:=C.out;omega));have av:Hid (∀w',Fr (fun k=>k=g2) wc w'→Calls Tryz.prog 81 #[.slice N nw Q] w' (pc w')):=fun w' f=>a0.out w' ((ad.out.trans I.out).aw f (fun k zA e=>by have U:k=g2:=e;have:=C.out;omega));have aE:Hid (w.heap.size≤wc.heap.size):=(ad.out.trans I.out).size;have bA:Hid ((Tryz.prog.info? 46).map (·.size)=some 6):=bT;clear aZ a0 aY;go_upto_region 4 with fail;refine DW 9 (fun k=>k=g2) (fun i=>i==8) (fun i j=>(i==8&&(j==0||j==1||j==2||j==3||j==4||j==5||j==6||j==7))) [iS (.agg [Value.int .i64 t, .int .i64 c, .int .i64 n, .string s].toArray),iS (.pointer (some ⟨g1,4,none⟩)),iS (.slice M nr P),⟨fun E r=>∃l,dU r E l∧l.length≤6∧(∀c∈l,eh c)∧∀k,E.ownBlock=some k→wc.heap.size≤k,fun _ _ _ f⟨l,g,m⟩=>⟨l,g.aq f,m⟩⟩,iS (.pointer (some ⟨g1,5,none⟩)),iS (.slice N nw Q),⟨fun E r=>∃l,dU r E l∧l.length≤6∧(∀c∈l,eh c)∧∀k,E.ownBlock=some k→wc.heap.size≤k,fun _ _ _ f⟨l,g,m⟩=>⟨l,g.aq f,m⟩⟩,⟨fun E r=>∃(ds:List Value)(H:ActV),E= .agg ds.toArray∧cT r ds H∧gJ H∧jJ wc.heap.size ds∧H.key=⟨t,c,n,s⟩,fun _ _ _ f⟨l,a,aM,g,m⟩=>⟨l,a,aM,g.aq f,m⟩⟩,⟨fun _ r=>∃(ds:List Value)(H:ActV),ao r g2 46 ds.toArray∧cT r ds H∧gJ H∧jJ wc.heap.size ds∧H.key=⟨t,c,n,s⟩,fun _ _ _ f⟨l,a,aM,g,m⟩=>⟨l,a,aM.fr f (fun x=>x),g.aq f,m⟩⟩] ?zB ?_;case zB=>
   refine⟨?zD,?zP,?zE,?zF,?zQ,?zG,?zH,?zI,?zJ,trivial⟩;all_goals intro u w' d b aR
   all_goals simp only[z1,z2,z3,z4,au,Act.put,z5,z6,z7,Nat.reduceAdd,Nat.zero_add]
   case zD=>
    refine aC ?_;exact az _ _ rfl ⟨g3,0,none⟩ rfl [Value.int .i64 t, .int .i64 c, .int .i64 n, .string s] _ (fun bM v bg=>by rw[←bD]at bg;rw[Addr.add_mid,Nat.zero_add,(ap.out.fr d (fun e=>by have a5:g3=g2:=e;have:=aB.out;omega)).cell bM];exact bg) Tryz.underlying43 rfl fO ⟨_,rfl,aA,rfl⟩
   case zE=>
    simp only[show u 1=_ from b 1];refine aC ?_;have q:_=some _:=(a1.out.fr d (fun e=>by have a5:g1=g2:=e;have:=C.out;omega)).cell 4;go_simp;exact⟨_,rfl,aA,rfl⟩
   case zF=>
    simp only[show u 2=_ from b 2];refine aC ?_;go_simp;refine(ar.out _ d).mono ?_;rintro e b1⟨v,l,rfl,g,m,L,f5,F⟩;exact⟨_,rfl,f5,l,g,m,L,fun k zA=>by have:=F k zA;have:=d.size;omega⟩
   case zG=>
    simp only[show u 4=_ from b 4];refine aC ?_;have q:_=some _:=(a1.out.fr d (fun e=>by have a5:g1=g2:=e;have:=C.out;omega)).cell 5;go_simp;exact⟨_,rfl,aA,rfl⟩
   case zH=>
    simp only[show u 5=_ from b 5];refine aC ?_;go_simp;refine(av.out _ d).mono ?_;rintro e b1⟨v,l,rfl,g,m,L,f5,F⟩;exact⟨_,rfl,f5,l,g,m,L,fun k zA=>by have:=F k zA;have:=d.size;omega⟩
   case zI=>
    obtain⟨bO,L,b3,bW,n3⟩:=b 3;obtain⟨bP,F,O,bX,n6⟩:=b 6;simp only[show u 0=_ from b 0];refine aC ?_;obtain⟨bq,m3,c3,a6,L⟩:=L.form;obtain⟨br,m6,bE,a7,F⟩:=F.form;rw[a6]at n3;rw[a7]at n6;simp only[a6,a7];exact jY 46 _ rfl ([Value.int .i64 t, .int .i64 c, .int .i64 n, .string s]++[Value.slice bq m3 c3, .slice br m6 bE]).toArray _ (by simp only[List.map_toArray,List.map_cons,List.map_nil];rfl) (bt.out _ _ _ _ _ _ _) ⟨_,rfl,aA,⟨_,⟨⟨t,c,n,s⟩,bO,bP⟩,rfl,⟨_,_,rfl,L,F⟩,⟨bz.out,bW,bX,b3,O⟩,uD (k:=⟨t,c,n,s⟩) n3 n6,rfl⟩⟩
   case zJ=>
    obtain⟨K,aK,bG,aJ,bY,n7,bN⟩:=b 7;simp only[bG];refine aC ?_;have aN:∃ah,ao w' g2 46 ah∧ah.size=6:=⟨_,a2.out.fr aR (fun x=>x),rfl⟩;have bf:K.toArray.size=6:=by rw[List.size_toArray,aJ.len]
    obtain⟨ah,aO,aQ⟩:=aN;refine Lt.iM 46 (.tmp 2) (.tmp 28) rfl g2 K.toArray rfl rfl _ ah aO (by rw[bf];exact bA.out) (by rw[aQ,bf]) (ActV.one aJ) ?_;intro bn O f6;exact⟨_,rfl,⟨d.trans f6,mT,mT,mT,mT,mT,mT,mT,mT,mT,trivial⟩,⟨K,aK,O,aJ.x9 n7 f6 (fun k e=>by have U:k=g2:=e;have:=a2.out.lt;omega),bY,n7,bN⟩⟩
   all_goals
    refine aC ?_;go_simp;exact⟨_,rfl,aA,rfl⟩
  intro u w' d b;have aj:=b 8 (by omega);simp only[z1,z2,z3,z4,au,Act.put,z5,z6,z7,z8,z9,Nat.reduceAdd,Nat.zero_add];clear b;obtain⟨ds,H,b9,a9,bm,bl,bj⟩:=aj;have bC:=af b9;have bB:Hid ((Tryz.prog.info? 46).map (·.size)=some ds.toArray.size):=by rw[Hid,List.size_toArray,a9.len];exact bT
  have bx:Hid (xT ⟨t,c,n,s⟩ w (.returned (.agg ds.toArray)) w'):=⟨ds,H,rfl,a9,bm,bl.mono aE.out,(ad.out.trans I.out).aw d (fun k zA e=>by have U:k=g2:=e;have:=C.out;omega),bj⟩;clear d b9 a9 bm bl bj;go_wp2;exact bodyPost_ret (results_cell_row (fn:=Tryz.f30) (p:=2) (ty:=46) Tryz.results30 _ w' _ 46 ds.toArray (0,0) _ rfl bC.out Tryz.underlying46 rfl bB.out) rfl bx.out
theorem zk(cs:List Value)(w:World)(u:qK w cs):∃k,∀w',Fr ag w w'→Calls Tryz.prog 30 #[.agg cs.toArray] w' (xT k w'):=by
 obtain⟨t,c,n,l,a,nr,g,xs,d,b,nw,h,v,e,i,j,rfl,⟨m,o,p⟩,q,r,s⟩:=u;exact⟨_,fun w' f=>BG t c n l a nr g xs d b nw h v e w' i j (m.aq f) o p (q.aq f) r s⟩
theorem zj(cs:List Value)(w:World)(i:qK w cs):Calls Tryz.prog 30 #[.agg cs.toArray] w (Jq w):=by
 obtain⟨k,h⟩:=zk cs w i;refine(h w aA).mono ?_;rintro e w'⟨cs',a,b,c,d,f,g,_⟩;exact⟨cs',a,b,c,d,f,g⟩
def Hg(w:World)(e:Ending)(w':World):Prop:=∃s E,e= .returned (.pointer (some ⟨s,0,none⟩))∧fD w' s E∧cY 6 E∧Fr ag w w'
theorem BJ(n:Nat)(xs:List CV)(A:Option Addr)(D:Nat)(S:Nat→Prop)(w:World)(Y:CL w S A n xs)(ae:n≤9223372036854775807)(aa:n≤D)(Z:eG w):
  Calls Tryz.prog 28 #[.slice A n D] w (Hg w):=by
 have Q:Hid (∀w',Fr ag w w'→Calls Tryz.prog 81 #[.slice A n D] w' (pc w')):=fun w' f=>np n xs A D S w' (Y.aq f) ae aa;have an:=af Z;clear Y ae aa Z;go_enter Tryz.func28,Tryz.ntmps28;go_wp2_with fail;refine(qG _).mono ?_;rintro e w1⟨ak,rfl,y,f1⟩;have G:=af f1;have W:Hid (fD w1 ak []):=⟨_,y,rfl⟩;clear y f1;go_wp2_with fail;refine(Q.out _ G.out).mono ?_;rintro e w2⟨v,l,rfl,ai,ar,z,f2,_⟩;obtain⟨au,b,M,rfl,U,o,t⟩:=ai.cl;have R:=af (G.out.trans f2);have ao:=af (W.out.aq f2);have am:=af t;have h:Hid (b≤6∧b=l.length∧b≤M):=⟨by omega,U,o⟩;have I:=af z;clear ai ar z f2 t U o Q W G;go_wp2;go_loopw[3,5](fun s i wr=>∃(k F:Nat)(E:List Ent),k≤b∧s= .pointer (some ⟨F,0,none⟩)∧i= .int .i64 (k:Int)∧fD wr F E∧cY k E∧Fr ag w2 wr)(fun _ i _=>b-(intOf i).toNat);case atStart=>exact⟨0,ak,[],Nat.zero_le _,rfl,rfl,ao.out,cY.nil,aA⟩
 case round=>
  obtain⟨k,s,E,ad,rfl,rfl,aj,ac,ab⟩:=hrel;have V:=af ad;have J:=af aj;have C:=af ac;have B:=af ab;clear ad aj ac ab;by_cases N:k<b
  ·have t0:decide ((k:Int)<(b:Int))=true:=dJ (by omega);obtain⟨X,c,rfl,r,a⟩:=(am.out.aq B.out).at_ N;have H:Hid (CL wr (fun _=>True) (some (X.add (k*7))) 1 [c]):=⟨⟨rfl,fun _=>⟨_,rfl,trivial,fun j x g=>a j x (by simpa using g)⟩⟩,rfl⟩;have m:=af (I.out c (List.mem_of_getElem? r));have O:¬M=k:=by have:=h.out;omega
   have aw:IntKind.i64.wrap ((k:Int)+1)=(k:Int)+1:=IntWalk.i64_in _ (by have:=h.out;omega);have b0:(0:Int)≤(k:Int):=by omega
   have b1:(k:Int)≤(k:Int)+1:=by omega
   have b2:(k:Int)+1≤(M:Int):=by have:=h.out;omega
   have P:Hid (∀L,Calls Tryz.prog 82 #[.pointer (some ⟨s,0,none⟩), .slice (some (X.add (k*7))) 1 L] wr (mL wr E [c])):=fun L=>tR E [c] 1 k _ L _ s wr J.out (an.out.aq (R.out.trans B.out)) C.out H.out (fun x g=>by rw[List.mem_singleton]at g;rw[g];exact m.out) (by have:=h.out;have:=V.out;omega);clear a r;go_wp2_with fail;refine(P.out _).mono ?_;rintro e av⟨p,q,rfl,f3,d⟩;have T:=af (B.out.trans f3);have K:=af (J.out.aq f3);clear f3 P b0 b1 b2 O;rcases d with⟨ah,rfl,F,rfl,u⟩|⟨_,rfl,rfl⟩
   ·have ap:=af u;have al:Hid (cY (k+1) (jq [c] E)):=qs [c] E k C.out (fun x g=>by rw[List.mem_singleton]at g;rw[g];exact m.out) ah;clear u ah;go_wp2;go_roundw;case rel=>exact⟨k+1,F,_,by omega,rfl,by go_num,ap.out,al.out,T.out⟩
    case measure=>simp[intOf];omega
   ·go_wp2;go_roundw;case rel=>exact⟨k+1,s,E,by omega,rfl,by go_num,K.out,C.out.more (by omega),T.out⟩
    case measure=>simp[intOf];omega
  ·obtain rfl:k=b:=by have:=V.out;omega
   have t0:decide ((k:Int)<(k:Int))=false:=cN (by omega);go_wp2;go_ret;exact⟨s,E,rfl,J.out,C.out.more h.out.1,R.out.trans B.out⟩
structure Wi(a W:World)(b:Nat)(l:List UInt8):Prop where
 fr:Fr ag a W
 wr:∃v,Wr W b v l 0∧∀k,v.ownBlock=some k→a.heap.size≤k
 new:a.heap.size≤b
def ng(W W':World):Prop:=∀g t cs,ao W g t cs→t≠185→t≠5→ao W' g t cs
theorem ng.of{W W':World}(h:Fr ag W W'):ng W W':=fun _ _ _ a _ _=>a.fr h (fun x=>x)
theorem ng.trans{W W' a:World}(h:ng W W')(k:ng W' a):ng W a:=fun g t cs d b c=>k g t cs (h g t cs d b c) b c
theorem Wi.later{b W W':World}{a:Nat}{l:List UInt8}(h:Wi b W a l)(f:Fr ag W W'):Wi b W' a l:=by
 obtain⟨v,c,d⟩:=h.wr;exact⟨h.fr.trans f,⟨v,c.cC f (fun _ _ x=>x),d⟩,h.new⟩
def tG(b W:World)(a:Nat)(l:List UInt8)(e:Ending)(W':World):Prop:=e= .returned (.tuple #[])∧Wi b W' a l∧ng W W'
theorem Wi.step{c W W':World}{a:Nat}{l f:List UInt8}{v j:Value}(h:Wi c W a l)(hw:Wr W a v l 0)(d:∀k,v.ownBlock=some k→c.heap.size≤k)(st:dk W a v W' j (f,0)):Wi c W' a f∧ng W W':=by
 refine⟨⟨h.fr.aw st.fr (fun i p e=>?_),⟨j,st.wr,fun k o=>?_⟩,h.new⟩,fun g t cs b m n=>b.fr st.fr (fun e=>?_)⟩
 ·rcases e with e|e;·have:=h.new;omega
  ·have:=d i e;omega
 ·rcases st.ez k o with e|e;·exact d k e
  ·exact Nat.le_trans h.fr.size e
 ·rcases e with e|e;·exact ev b hw.aF m e
  ·exact bE hw.own b (fun x=>n x.symm) e
theorem Wi.number{c W:World}{a:Nat}{l:List UInt8}(h:Wi c W a l)(n:Nat)(f:l.length≤1099511627776)(g:n≤9223372036854775807):
  Calls Tryz.prog 63 #[.pointer (some ⟨a,0,none⟩), .int .i64 (n:Int)] W (tG c W a (l++enc n)):=by
 obtain⟨v,b,d⟩:=h.wr;refine(jD a v l 0 (n:Int) W b f (by omega)).mono ?_;rintro e w'⟨rfl,i,st⟩;rw[iK]at st;exact⟨rfl,h.step b d st⟩
theorem Wi.text{c W:World}{a:Nat}{l:List UInt8}(h:Wi c W a l)(s:ByteArray)(f:l.length≤1099511627776)(g:s.size≤16777216):
  Calls Tryz.prog 65 #[.pointer (some ⟨a,0,none⟩), .string s] W (tG c W a (l++bF (aJ s))):=by
 obtain⟨v,b,d⟩:=h.wr;refine(lT a v l 0 s W b f (by omega)).mono ?_;rintro e w'⟨rfl,i,st⟩;rw[iL _ _ (by omega),vN]at st;exact⟨rfl,h.step b d st⟩
theorem Wi.flag{d W:World}{a:Nat}{l:List UInt8}(h:Wi d W a l)(b:Bool)(i:l.length≤1099511627776):
  Calls Tryz.prog 66 #[.pointer (some ⟨a,0,none⟩), .bool b] W (tG d W a (l++jN b)):=by
 obtain⟨v,c,g⟩:=h.wr;refine(DO a v l 0 b W c i).mono ?_;rintro e w'⟨rfl,j,st⟩;have f:sv (l,0) b=(l++jN b,0):=by unfold sv;rw[if_pos rfl];rfl
 rw[f]at st;exact⟨rfl,h.step c g st⟩
theorem Wi.start{b W:World}(h:Fr ag b W):
  Calls Tryz.prog 61 #[] W (fun e W'=>e= .returned (.pointer (some ⟨W.heap.size,0,none⟩))∧Wi b W' W.heap.size []∧Fr ag W W'):=by
 refine(ld W).mono ?_;rintro e w'⟨rfl,c,a⟩;exact⟨rfl,⟨h.trans a,⟨_,c,fun k d=>by simp[Value.ownBlock]at d⟩,h.size⟩,a⟩
theorem y7(p W:World)(b:Nat)(l:List UInt8)(h:Wi p W b l)(n:l.length≤1099511627776):
  Calls Tryz.prog 67 #[.pointer (some ⟨b,0,none⟩)] W (aK W (.tuple #[.string ⟨l.toArray⟩, .int .i64 0])):=by
 obtain⟨v,d,k⟩:=h.wr;have c:Hid (Calls Tryz.prog 103 #[.pointer (some ⟨b,0,none⟩)] W (tT W l 0)):=oX b v l 0 W d n;clear d k h;go_enter Tryz.func67,Tryz.ntmps67;go_wp2_with fail;refine c.out.mono ?_;rintro e w1⟨_,f⟩;obtain⟨q,rfl,a⟩:=f rfl;obtain⟨g,o,j,rfl,i,_⟩:=aW a.own;have m:=mW w1 _ g o j _ (pG.rd a.own i.out);have F:=af a.aq;clear a f c;go_wp2;go_ret2;exact⟨rfl,F.out⟩
theorem vU(N W:World)(m:Nat)(l:List UInt8)(k:eE)(h:Wi N W m l)(L:l.length≤1000000000000)(K:dQ k=true)(o:k.fF.size≤16777216):
  Calls Tryz.prog 62 #[.agg k.cells.toArray, .pointer (some ⟨m,0,none⟩)] W (tG N W m (l++ri k)):=by
 obtain⟨t,c,n,s⟩:=k;simp only at o;simp only[dQ,Bool.and_eq_true,decide_eq_true_eq]at K;obtain⟨⟨⟨⟨t0,t1⟩,i,j⟩,⟨n0,n1⟩,_⟩,_⟩:=K;obtain⟨t,rfl⟩:∃q:Nat,t=(q:Int):=⟨t.toNat,by omega⟩;obtain⟨c,rfl⟩:∃q:Nat,c=(q:Int):=⟨c.toNat,by omega⟩;obtain⟨n,rfl⟩:∃q:Nat,n=(q:Int):=⟨n.toNat,by omega⟩;have x:=af h;have S:=af o;have O:=aV t;have P:=aV c;have Q:=aV n;have R:Hid (l.length≤1000000000000):=L;have w:Hid (l++ri ⟨t,c,n,s⟩=((l++enc t)++enc c++enc n)++bF (aJ s)):=by simp[Hid,ri]
 have U:Hid ((l++enc t).length≤1099511627776):=by simp only[Hid,aY];omega
 have V:Hid ((l++enc t++enc c).length≤1099511627776):=by simp only[Hid,aY];omega
 have X:Hid ((l++enc t++enc c++enc n).length≤1099511627776):=by simp only[Hid,aY];omega
 have f:Hid (t≤1073741824∧c≤2∧n≤999999):=⟨by omega,by omega,by omega⟩;unfold eE.cells;rw[w.out];clear h o L t0 t1 i j n0 n1 O P Q w;go_enter Tryz.func62,Tryz.ntmps62;go_wp2_with(refine ay rfl 43 (.tmp 0) rfl _ rfl ?_);intro w1 n1;have a:Hid (ao w1 W.heap.size 43 #[.int .i64 (t:Int), .int .i64 (c:Int), .int .i64 (n:Int), .string s]):=n1.aF;have C:=af (x.out.later n1.fr);have y:=af (ng.of n1.fr);clear n1 x;generalize W.heap.size=g at*;have i:w1.cell? ⟨g,0,none⟩=some (.int .i64 t):=a.out.cell 0;go_wp2_with fail;refine(C.out.number t (by have:=R.out;omega) (by have:=f.out;omega)).mono ?_;rintro e w2⟨rfl,G,p⟩;have D:=af G;have b:=af (p _ _ _ a.out (by decide) (by decide));have z:=af (y.out.trans p);clear G p i C a y;have j:w2.cell? ⟨g,1,none⟩=some (.int .i64 c):=b.out.cell 1;go_wp2_with fail;refine(D.out.number c U.out (by have:=f.out;omega)).mono ?_;rintro e aa⟨rfl,H,r⟩;have E:=af H;have d:=af (r _ _ _ b.out (by decide) (by decide));have A:=af (z.out.trans r);clear H r j D b z;have Z:aa.cell? ⟨g,2,none⟩=some (.int .i64 n):=d.out.cell 2;go_wp2_with fail;refine(E.out.number n V.out (by have:=f.out;omega)).mono ?_;rintro e ab⟨rfl,I,u⟩;have F:=af I;have v:=af (u _ _ _ d.out (by decide) (by decide));have B:=af (A.out.trans u);clear I u Z E d A;have c3:ab.cell? ⟨g,3,none⟩=some (.string s):=v.out.cell 3;go_wp2_with fail;refine(F.out.text s X.out S.out).mono ?_;rintro e ac⟨rfl,J,M⟩;have Y:=af J;have T:=af (B.out.trans M);clear J M c3 F v B;go_wp2;go_end0;exact⟨rfl,Y.out,T.out⟩
structure Hu(a:ActV):Prop where
 fF:a.key.fF.size≤1048576
 reads:∀c∈a.reads,gQ c
 writes:∀c∈a.writes,gQ c
 nr:a.reads.length≤60000
 nw:a.writes.length≤60000
def kD(a:ActV):Value:=if gA a then .tuple #[.string ⟨(db a).toArray⟩, .int .i64 0]else .tuple #[.string ByteArray.empty, .int .i64 3]
def iW(xs:List CV)(j:Nat):List UInt8:=enc xs.length++(xs.take j).flatMap ni
theorem Cc(xs:List CV):iW xs 0=enc xs.length:=by simp[iW]
theorem Fo(xs:List CV):iW xs xs.length=eJ xs:=by simp[iW,eJ]
theorem Cb{xs:List CV}{j:Nat}{c:CV}(h:xs[j]? =some c):iW xs (j+1)=iW xs j++(bF (cI c.nm)++(jN c.bm++bF (aJ c.value))):=by
 rw[iW,iW,List.take_add_one,h,Option.toList_some,List.flatMap_append,List.flatMap_cons,List.flatMap_nil,List.append_nil,ni,List.append_assoc]
theorem Ij(xs:List CV)(j:Nat):(iW xs j).length≤(eJ xs).length:=by
 have e:eJ xs=iW xs j++(xs.drop j).flatMap ni:=by
  rw[iW,eJ,List.append_assoc,←List.flatMap_append,List.take_append_drop]
 rw[e,aY];omega
theorem yh:∀(xs:List CV),(∀c∈xs,gQ c)→(∀c∈xs,jt c=true)→(xs.flatMap ni).length≤xs.length*4000000
 |[],_,_=>by simp
 |c::xs,h,e=>by
  have f:=yh xs (fun d a=>h d (by simp[a])) (fun d a=>e d (by simp[a]));have b:=h c (by simp);have a2:=e c (by simp);simp only[jt,Bool.and_eq_true,decide_eq_true_eq]at a2;have a3:=b.owner;have a4:=b.text;have b1:=fo c.nm;have b2:=aV (cI c.nm).length;have b3:=aV (aJ c.value).length;have b4:=aL c.value;simp only[List.flatMap_cons,ni,bF,jN,aY,List.length_cons,List.length_nil]at f⊢;omega
def oa(a:ActV)(k:Nat):List UInt8:=if k=0 then ri a.key else if k=1 then ri a.key++eJ a.reads else db a
theorem E0(a:ActV):oa a 2=db a:=rfl
theorem Hw(a:ActV)(k:Nat):(oa a k).length≤(db a).length:=by
 unfold oa;split;·simp only[db,aY];omega
 ·split;·simp only[db,aY];omega
  ·exact Nat.le_refl _
theorem Hy{a:ActV}(h:Hu a)(b:gA a=true):(db a).length≤1000000000000:=by
 simp only[gA,Bool.and_eq_true]at b;have k:=yh a.reads h.reads (ki b.1.2);have l:=yh a.writes h.writes (ki b.2);have m:=h.nr;have n:=h.nw;have o:=h.fF;have c:=aV a.key.tick.toNat;have d:=aV a.key.cls.toNat;have e:=aV a.key.num.toNat;have f:=aV (aJ a.key.fF).length;have g:=aL a.key.fF;have i:=aV a.reads.length;have j:=aV a.writes.length;simp only[db,ri,eJ,bF,aY];omega
theorem zU(A B:Option Addr)(n m c d:Nat)(w:World):(Instr.index 116 (.agg #[.slice A n c, .slice B m d]) (.int .i64 ((0:Nat):Int))).run Tryz.prog w= .ok (.slice A n c) w:=by kernel_rfl
theorem zV(A B:Option Addr)(n m c d:Nat)(w:World):(Instr.index 116 (.agg #[.slice A n c, .slice B m d]) (.int .i64 ((1:Nat):Int))).run Tryz.prog w= .ok (.slice B m d) w:=by kernel_rfl
theorem rG(a:ActV)(cs:List Value)(w:World)(aH:eG w)(a6:cT w cs a)(p:Hu a):
    Calls Tryz.prog 18 #[.agg cs.toArray] w (aK w (kD a)):=by
  have bk:=af aH;have C:=af p;have ar:=af a6;obtain⟨bM,bO,rfl,ac,O⟩:=a6;obtain⟨q,bu,s,rfl,rfl,_,U⟩:=ac.cl;obtain⟨r,bv,t,rfl,rfl,_,V⟩:=O.cl;have aA:=af U;have aC:=af V;have G:Hid (∀w',Fr ag w w'→Calls Tryz.prog 60 #[.agg (a.key.cells++[Value.slice q a.reads.length s, .slice r a.writes.length t]).toArray] w' (aK w' (.bool (gA a)))):=fun w' f=>
    od a _ w' (aH.aq f) (ar.out.aq f) (by have:=p.fF;omega) (fun c v=>(p.reads c v).fit) (fun c v=>(p.writes c v).fit) (by have:=p.nr;omega) (by have:=p.nw;omega);have d:Hid (gA a=true→(db a).length≤1000000000000):=Hy p;have L:Hid (a.reads.length≤60000∧a.writes.length≤60000):=⟨p.nr,p.nw⟩;clear ac O U V aH p;go_enter Tryz.func18,Tryz.ntmps18;go_wp2_with(refine ay rfl 46 (.tmp 0) rfl _ rfl ?_);intro w1 n1;have an:=af n1.fr;have ae:=af n1.aF;clear n1;generalize w.heap.size=g at*;have am:Hid (∀w',ao w' g 46 (a.key.cells++[Value.slice q a.reads.length s, .slice r a.writes.length t]).toArray→∀j x,a.key.cells[j]? =some x→w'.cell? ((⟨g,0,none⟩:Addr).add j)=some x):=fun w' bs j x D=>by
    rw[Addr.add_mid,Nat.zero_add,bs.cell j,bD,List.getElem?_append_left (List.getElem?_eq_some_iff.1 D).1];exact D
  have F:Hid (∀j x,(a.key.cells++[Value.slice q a.reads.length s, .slice r a.writes.length t])[j]? =some x→w1.cell? ((⟨g,0,none⟩:Addr).add j)=some x):=fun j x D=>by
    rw[Addr.add_mid,Nat.zero_add,ae.out.cell j,bD];exact D
  go_wp2_with(refine aB rfl 46 (.tmp 1) rfl ⟨g,0,none⟩ rfl (a.key.cells++[Value.slice q a.reads.length s, .slice r a.writes.length t]) _ ?zC Tryz.underlying46 rfl bT (bh.go ?zF));case zC=>exact F.out
  unfold bh;go_wp2_with fail;refine(G.out _ an.out).mono ?_;rintro e w2⟨rfl,f2⟩;have ap:=af (an.out.trans f2);have aP:=af (ae.out.fr f2 (fun x=>x));clear f2 G an ae F;cases b:gA a
  · have ax:Hid (kD a= .tuple #[.string ByteArray.empty, .int .i64 3]):=by rw[Hid,kD,b];rfl
    clear b d;go_wp2;go_ret2;rw[ax.out];exact⟨rfl,ap.out⟩
  have ax:Hid (kD a= .tuple #[.string ⟨(db a).toArray⟩, .int .i64 0]):=by rw[Hid,kD,b];rfl
  have bj:=af b;have K:Hid ((db a).length≤1000000000000):=d.out b;have B:Hid (dQ a.key=true∧fZ a.reads=true∧fZ a.writes=true):=by
    have h:=b;simp only[gA,Bool.and_eq_true]at h;exact⟨h.1.1,h.1.2,h.2⟩
  clear b d;go_wp2_with fail;refine(Wi.start ap.out).mono ?_;rintro e bw⟨rfl,W,f3⟩;have aU:=af W;have ah:=af (aP.out.fr f3 (fun x=>x));generalize w2.heap.size=o at*;clear W f3 ap aP;go_wp2_with(refine aB rfl 43 (.tmp 15) rfl ⟨g,0,none⟩ rfl a.key.cells _ ?zE Tryz.underlying43 rfl fO (bh.go ?zG));case zE=>exact am.out _ ah.out
  unfold bh;go_wp2_with fail;refine(vU w bw o [] a.key aU.out (by simp) B.out.1 (by have:=C.out.fF;omega)).mono ?_;rintro e aO⟨rfl,X,a8⟩;have aV:Hid (Wi w aO o (oa a 0)):=X;have aj:=af (a8 _ _ _ ah.out (by decide) (by decide));clear X a8 aU ah;have bo:aO.cell? {block:=g,off:=4}=some (.slice q a.reads.length s):=aj.out.cell 4;have c5:aO.cell? {block:=g,off:=5}=some (.slice r a.writes.length t):=aj.out.cell 5;go_wp2;clear bo c5;go_loopw[24](fun i wr=>∃k:Nat,k≤2∧i= .int .i64 (k:Int)∧Wi w wr o (oa a k))(fun i _=>2-(intOf i).toNat);case atStart=>exact⟨0,by omega,rfl,aV.out⟩
  case round=>
    obtain⟨k,bK,rfl,hw⟩:=hrel;have ab:=af hw;clear hw aV aj;by_cases bt:k<2
    · have t0:decide ((k:Int)<2)=true:=dJ (by omega);obtain⟨A,n,c,xs,y,R,aM,aN,T,u⟩:∃A n c xs,Hid (∀w,(Instr.index 116 (.agg #[.slice q a.reads.length s, .slice r a.writes.length t]) (.int .i64 (k:Int))).run Tryz.prog w= .ok (.slice A n c) w)∧Hid (CL w (fun _=>True) A n xs)∧Hid (fZ xs=true)∧Hid (∀c∈xs,gQ c)∧Hid (n≤60000)∧Hid (oa a (k+1)=oa a k++eJ xs):=by
        by_cases bq:k=0;· subst bq;exact⟨q,_,s,a.reads,zU q r _ _ s t,aA.out,B.out.2.1,C.out.reads,L.out.1,rfl⟩
        · obtain rfl:k=1:=by omega
          exact⟨r,_,t,a.writes,zV q r _ _ s t,aC.out,B.out.2.2,C.out.writes,L.out.2,by simp[Hid,oa,db]⟩
      have H:Hid (∀j,(oa a k++iW xs j).length≤1000000000000):=fun j=>by
        have ac:=Ij xs j;have O:=Hw a (k+1);have bG:=K.out;rw[u.out,aY]at O;rw[aY];omega
      have au:Hid ((oa a k).length≤1000000000000):=by have:=H.out 0;simp only[aY]at this;simp only[Hid];omega
      have Q:Hid (xs.length=n):=R.out.len;have aG:=y.out;generalize P:oa a k=acc at*;have bi:=af P;clear P y;go_wp2_with fail;refine(ab.out.number n (by have:=au.out;omega) (by have:=T.out;omega)).mono ?_;rintro e bx⟨rfl,a2,_⟩;have aW:Hid (Wi w bx o (acc++iW xs 0)):=by rw[Hid,Cc,Q.out];exact a2
      clear a2 aG ab;go_wp2;go_loopw[33](fun i wr=>∃j:Nat,j≤n∧i= .int .i64 (j:Int)∧Wi w wr o (acc++iW xs j))(fun i _=>n-(intOf i).toNat);case atStart=>exact⟨0,by omega,rfl,aW.out⟩
      case round=>
        obtain⟨j,bJ,rfl,Y⟩:=hrel;have N:=af Y;clear Y aW;by_cases aI:j<n
        · have a7:(j:Int)<(n:Int):=by omega
          have br:(0:Int)≤(j:Int):=by omega
          have t1:decide ((j:Int)<(n:Int))=true:=decide_eq_true a7;obtain⟨bC,ch,rfl,v,m⟩:=(R.out.aq N.out.fr).at_ aI;have I:=af m;have bf:=af ch.one;have Z:Hid (gQ ch):=aN.out ch (List.mem_of_getElem? v);have bl:Hid (jt ch=true):=ki aM.out ch (List.mem_of_getElem? v);have l:Hid (acc++iW xs (j+1)=((acc++iW xs j)++bF (cI ch.nm))++jN ch.bm++bF (aJ ch.value)):=by
            rw[Hid,Cb v];simp only[List.append_assoc]
          have av:=af (H.out (j+1));clear m v;go_wp2_with(refine aB rfl 119 (.tmp 35) rfl _ rfl ch.cells _ ?zD Tryz.underlying119 rfl jw (bh.go ?hold));case zD=>exact I.out
          unfold bh;go_wp2_with(refine ak rfl 119 rfl dj EH #[.int .i64 0, .string ByteArray.empty, .int .i64 0, .int .i64 0, .string ByteArray.empty, .string ByteArray.empty, .bool false] rfl ?_);intro bA bc;have aD:=af bc;clear bc;generalize S:wr.heap.size=g8 at*;have J:=af S;clear S;have aR:Hid (ao bA g8 119 #[.int .i64 0, .string ByteArray.empty, .int .i64 0, .int .i64 0, .string ByteArray.empty, .string ByteArray.empty, .bool false]):=by have h:=aD.out.aF;rw[J.out]at h;exact h
          go_wp2_with(refine ai rfl 119 (.tmp 8) _ rfl g8 ch.cells.toArray rfl rfl _ _ aR.out jw rfl bf.out ?_);intro ad bb a1;have E:Hid (ao ad g8 119 ch.cells.toArray):=bb;have aT:Hid (Fr ag wr ad):=aD.out.fr.aw a1 (fun i bI e=>by have bE:i=g8:=e;have:=J.out;omega);have aE:=af (N.out.later aT.out);clear bb a1 aD aR I N aT;have aS:Hid (∀j x,ch.nm.cells[j]? =some x→ad.cell? ((⟨g8,0,none⟩:Addr).add j)=some x):=fun j x D=>by
            rw[Addr.add_mid,Nat.zero_add,E.out.cell j,bD,CV.cells,List.getElem?_append_left (List.getElem?_eq_some_iff.1 D).1];exact D
          go_wp2_with(refine aB rfl 106 (.tmp 38) rfl ⟨g8,0,none⟩ rfl ch.nm.cells _ ?zA Tryz.underlying106 rfl bB (bh.go ?zB));case zA=>exact aS.out
          unfold bh;have M:Hid (dD ch.nm=true∧ch.value.size≤65536):=by
            have h:=bl.out;simp only[jt,Bool.and_eq_true,decide_eq_true_eq]at h;exact h.1
          have az:Hid ((cI ch.nm).length≤16777216):=by
            have ac:=Z.out.owner;have O:=Z.out.text;have bH:=fo ch.nm;simp only[Hid];omega
          go_wp2_with fail;refine(wY ch.nm ad (bk.out.aq aE.out.fr) (by have:=Z.out.owner;omega) (by have:=Z.out.text;omega) M.out.1).mono ?_;rintro e bN⟨rfl,f6⟩;have aX:=af (aE.out.later f6);have aQ:=af (E.out.fr f6 (fun x=>x));clear f6 aE E aS;have z:Hid ((acc++iW xs j).length≤1099511627776∧(acc++iW xs j++bF (cI ch.nm)).length≤1099511627776∧(acc++iW xs j++bF (cI ch.nm)++jN ch.bm).length≤1099511627776):=by
            have h:=av.out;rw[l.out]at h;simp only[aY]at h;simp only[Hid,aY];omega
          go_wp2_with fail
          refine(aX.out.text ⟨(cI ch.nm).toArray⟩ z.out.1 (by have h:=az.out;have e:(⟨(cI ch.nm).toArray⟩:ByteArray).size=(cI ch.nm).length:=by rw[←aL];rfl
                                                              omega)).mono ?_;rintro e bd⟨rfl,a3,a9⟩;have aZ:Hid (Wi w bd o (acc++iW xs j++bF (cI ch.nm))):=a3;have al:=af (a9 _ _ _ aQ.out (by decide) (by decide));clear a3 a9 aX aQ;have bp:bd.cell? {block:=g8,off:=6}=some (.bool ch.bm):=al.out.cell 6;go_wp2_with fail;refine(aZ.out.flag ch.bm z.out.2.1).mono ?_;rintro e bz⟨rfl,a4,ba⟩;have a0:=af a4;have E:=af (ba _ _ _ al.out (by decide) (by decide));clear a4 ba aZ al bp;have c5:bz.cell? {block:=g8,off:=5}=some (.string ch.value):=E.out.cell 5;go_wp2_with fail;refine(a0.out.text ch.value z.out.2.2 (by have:=M.out.2;omega)).mono ?_;rintro e be⟨rfl,a5,_⟩;have bn:Hid (Wi w be o (acc++iW xs (j+1))):=by rw[Hid,l.out];exact a5
          clear a5 a0 E c5;have bL:n≤60000:=T.out;go_wp2;go_roundw;case rel=>exact⟨j+1,by omega,by go_num,bn.out⟩
          case measure=>simp[intOf];omega
        · obtain rfl:j=n:=by omega
          have a7:¬(j:Int)<(j:Int):=by omega
          have aa:Hid (Wi w wr o (oa a (k+1))):=by
            have h:=N.out;rw[←Q.out,Fo]at h;rw[Hid,u.out];exact h
          clear N;go_wp2;go_roundw;case rel=>exact⟨k+1,by omega,by go_num,aa.out⟩
          case measure=>simp[intOf];omega
    · obtain rfl:k=2:=by omega
      have aa:Hid (Wi w wr o (db a)):=by rw[←E0];exact ab.out
      clear ab;go_wp2_with fail;refine(y7 w wr o (db a) aa.out (by have:=K.out;omega)).mono ?_;rintro e be⟨rfl,f9⟩;have bg:=af (aa.out.fr.trans f9);clear f9;go_wp2;go_ret2;rw[ax.out];exact⟨rfl,bg.out⟩
end Go.Proofs.YtphjagkehiklkaaGreatDoor
namespace Go.Proofs.YtphjagkehiklkaaGreatDoor.Lt
open Go.RowKit
theorem fT{P:Program}{op:Oper}{a:Act}{w:World}{K:Act→World→Prop}{Q:Exit→Act→World→Prop}(t:TypeId)(c:op.op= .alloc t)(z:Value)(d:∀w,(zeroValue t).run P w= .ok z w)(cells:Array Value)(b:z.cells=cells)
  (h:∀w',dN w w' t cells→K (a.put op.dst (.pointer (some ⟨w.heap.size,0,none⟩))) w'):op.wp P a w K Q:=by
 subst b;unfold Oper.wp execOp;simp only[c,Instr.alloc,Sem.run_bind,d,newVar,newRow,run_newObj_alloc,Sem.run_pure,Result.andThen_ok];exact h _ (dN.alloc w t z.cells)
theorem sC.kF{w d f:World}{ty:TypeId}{c X Y:Array Value}{g5 g10 g11 g:Nat}(h:sC w d ty c X Y g5 g10 g11)(a:Fr (fun k=>k=g) d f)(j:g11<g):sC w f ty c X Y g5 g10 g11:=by
 have:=h.l1;have:=h.l2;have:=h.lo;exact⟨h.fr.aw a (fun i l e=>by have b:i=g:=e;omega),h.b5.fr a (fun e=>by have b:g5=g:=e;omega),h.gR.fr a (fun e=>by have b:g10=g:=e;omega),h.mO.fr a (fun e=>by have b:g11=g:=e;omega),h.lo,h.l1,h.l2⟩
theorem sC.later{w c d:World}{ty:TypeId}{b X Y:Array Value}{g5 g10 g11:Nat}(h:sC w c ty b X Y g5 g10 g11)(a:Fr ag c d):sC w d ty b X Y g5 g10 g11:=
 ⟨h.fr.trans a,h.b5.fr a (fun x=>x),h.gR.fr a (fun x=>x),h.mO.fr a (fun x=>x),h.lo,h.l1,h.l2⟩
def gC:List UInt8:=List.replicate 32 0
theorem j8:gC.length=32:=rfl
theorem rF:(ar gC).toArray=aD:=by kernel_rfl
theorem jE{P:Program}{ops:Array Oper}{rest:List Oper}{e:Oper}{a:Act}{w:World}{Q:Exit→Act→World→Prop}(c:e.guard=none)(t:TypeId)(d:e.op= .build t #[])(cells:Array Value)
  (b:P.built t []=some cells)(h:wpList P ops Q rest (a.put e.dst (.agg cells)) w):wpList P ops Q (e::rest) a w:=
 wpList_buildTo c t #[] d cells (by simpa using b) h
theorem fp(n lo a:Int)(w:World):Calls Tryz.prog 89 #[.int .i64 n, .int .i64 lo, .int .i64 a] w (bG w (.bool (decide (lo≤n∧n≤a)))):=by
 by_cases b:lo≤n
 ·have t1:decide (lo≤n)=true:=decide_eq_true b;by_cases c:n≤a;·have t2:decide (n≤a)=true:=decide_eq_true c;rw[decide_eq_true ⟨b,c⟩];go_enter Tryz.func89,Tryz.ntmps89;go_wp2;go_ret;exact⟨rfl,rfl⟩
  ·have t2:decide (n≤a)=false:=decide_eq_false c;rw[cN (fun h=>c h.2)];go_enter Tryz.func89,Tryz.ntmps89;go_wp2;go_ret;exact⟨rfl,rfl⟩
 ·have t1:decide (lo≤n)=false:=decide_eq_false b;rw[cN (fun h=>b h.1)];go_enter Tryz.func89,Tryz.ntmps89;go_wp2;go_ret;exact⟨rfl,rfl⟩
end Go.Proofs.YtphjagkehiklkaaGreatDoor.Lt
namespace Go.Proofs.YtphjagkehiklkaaGreatDoor.Lt
open Go.RowKit Go.ChangeShapes Go.WideShapes Go.Deep
structure tE where
 leaf:List UInt8
 index:Int
 n:Int
 A:Option Addr
 len:Nat
 cap:Nat
 path:List (List UInt8)
def tE.val(c:tE):Value:= .agg (ar c.leaf++[Value.int .i64 c.index,Value.int .i64 c.n,Value.slice c.A c.len c.cap]).toArray
structure tE.kE(c:tE)(w:World):Prop where
 leaf:c.leaf.length=32
 index:-9223372036854775808≤c.index∧c.index≤9223372036854775807
 n:-9223372036854775808≤c.n∧c.n≤9223372036854775807
 path:ed w (Old w) c.A c.len c.path
 le:c.len≤c.cap
 cap:c.cap≤9223372036854775807
end Go.Proofs.YtphjagkehiklkaaGreatDoor.Lt
namespace Go.Proofs.YtphjagkehiklkaaGreatDoor.Lt
open Go.RowKit
theorem D0:aD.size=32:=by kernel_rfl
theorem xK:aD.all (·.oneCell')=true:=by kernel_rfl
theorem qP:Tryz.prog.built 38 []=some aD:=by kernel_rfl
theorem yA:(Tryz.prog.info? 38).map (·.size)=some aD.size:=by rw[D0];exact ef
theorem kl{P:Program}{op:Oper}{a:Act}{w:World}{K:Act→World→Prop}{Q:Exit→Act→World→Prop}(t:TypeId)(parts:Array (Nat×Operand))(c:op.op= .build t parts)(cells:Array Value)
  (b:P.built t (parts.map fun(i,x)=>(i,a.eval x)).toList=some cells)(h:K (a.put op.dst (.agg cells)) w):op.wp P a w K Q:=
 wp_build t parts c (by rw[b];rfl) (by rw[b];exact h)
def jG(n:Nat)(ds:List (List UInt8))(v:Value)(w:World):Prop:=∃A c,v= .slice A n c∧n≤c∧c≤9223372036854775807∧∃S,ed w S A n ds
theorem jG.of{w w':World}{v:Value}{n:Nat}{ds:List (List UInt8)}(h:bW 38 32 w (.slice none 0 0) w' v n (ds.flatMap ar))(f:ds.length=n)(he:∀d∈ds,d.length=32):jG n ds v w':=by
 obtain⟨A,c,rfl,e,a,b,_⟩:=ed.iA h f he;exact⟨A,c,rfl,a,b,_,e⟩
theorem jG.ah{w:World}{n:Nat}{ds:List (List UInt8)}:∀v w' a,Fr ag w w'→Fr ag w' a→jG n ds v w'→jG n ds v a:=fun _ _ _ _ f⟨A,c,h,b,d,S,e⟩=>⟨A,c,h,b,d,S,e.aq f⟩
end Go.Proofs.YtphjagkehiklkaaGreatDoor.Lt
namespace Go.Proofs.YtphjagkehiklkaaGreatDoor
open Go.RowKit Go.Shelf
theorem sR:∀(L:List Ent),(∀x∈L,(oF x).length≤500)→(L.flatMap oF).length≤500*L.length
 |[],_=>by simp
 |x::L,h=>by
  have b:=h x (by simp);have c:=sR L (fun y a=>h y (by simp[a]));simp only[List.flatMap_cons,aY,List.length_cons];omega
theorem cY.LC{k:Nat}{L:List Ent}(h:cY k L):∀x∈L,(oF x).length≤500:=fun x a=>by
 have b:=h.owner x a;have c:=h.text x a;have d:=h.value x a;have e:=fo x.1;have f:=aV (cI x.1).length;have g:=aV (aJ x.2).length;have i:=aL x.2;simp only[oF,bF,aY];omega
theorem cY.Ip{k:Nat}{L:List Ent}(h:cY k L):(fE L).length≤10+500*L.length∧1≤(fE L).length:=by
 have a:=sR L h.LC;have b:=aV L.length;have c:=q6 9 L.length;simp only[fE,aY];refine⟨by omega,?_⟩;show 1≤(dp 9 L.length).length+_;omega
theorem AW(l:List UInt8):aJ ⟨l.toArray⟩=l:=rfl
def Dg(w:World)(l:List UInt8)(e:Ending)(w':World):Prop:=aK w (aP (dt l)) e w'
theorem Kd(l:List UInt8):dG ⟨l.toArray⟩=l:=rfl
theorem EU(L:List Ent)(s:Nat)(w:World)(E:fD w s L)(G:eG w)(F:bH w)(m:cY 24 L):
  Calls Tryz.prog 75 #[.pointer (some ⟨s,0,none⟩)] w (Dg w (fE L)):=by
 have y:Hid (∀w',Fr ag w w'→Calls Tryz.prog 102 #[.pointer (some ⟨s,0,none⟩)] w' (qz w' (fE L))):=fun w' f=>EV L s w' (E.aq f) (G.aq f) (m.small (by omega));have Q:=m.Ip;have q:=m.len;obtain⟨x,j⟩:∃x:ByteArray,x=⟨(fE L).toArray⟩:=⟨_,rfl⟩;have r:x.size=(fE L).length:=by rw[j];simp[ByteArray.size]
 have z:Hid (∀w',Fr ag w w'→Calls Tryz.prog 27 #[.string x] w' (aK w' (aP (dt (fE L))))):=fun w' f=>by
  have h:=qN x w' (F.aq f) (by omega) (by omega);rw[j,Kd]at h;rw[j];exact h
 unfold Dg;have b:=eZ (fE L);have M:=af j;generalize fE L=l at*;unfold aP at*;generalize dt l=c at*;have o:Hid ((c.map aT).toArray.size=32∧(c.map aT).toArray.all (·.oneCell')=true):=⟨by simp[b],lk c⟩;have C:Hid ((Tryz.prog.info? 37).map (·.size)=some (c.map aT).toArray.size):=by
  rw[o.out.1];exact En
 generalize(c.map aT).toArray=D at*;clear E G F m Q q j r b;go_enter Tryz.func75,Tryz.ntmps75;go_wp2_with(refine ak rfl 37 rfl aR Kv aD rfl ?_);intro w1 n1;have k:=af n1;clear n1;generalize H:w.heap.size=g at*;have B:=af H;clear H;have t:Hid (ao w1 g 37 aD):=by have h:=k.out.aF;rw[B.out]at h;exact h
 go_wp2_with fail;refine(y.out _ k.out.fr).mono ?_;rintro e w2⟨v,rfl,a⟩;obtain⟨R,U,P,rfl,A,_⟩:=aW a.own;have d:=mW w2 _ _ _ P _ (pG.rd a.own A.out);rw[←M.out]at d;have n:=af (k.out.fr.trans a.aq);have u:=af (t.out.fr a.aq (fun x=>x));clear a A y t k;go_wp2_with fail;refine(z.out _ n.out).mono ?_;rintro e V⟨rfl,f3⟩;have K:=af (n.out.trans f3);have J:=af (u.out.fr f3 (fun x=>x));clear f3 z n u d;go_wp2_with(refine ai rfl 37 (.tmp 2) _ rfl g D rfl rfl _ _ J.out C.out (by rw[o.out.1];rfl) o.out.2 ?_);intro I b5 f5;have N:=af b5;have O:Hid (Fr ag w I):=K.out.aw f5 (fun i T e=>by have S:i=g:=e;have:=B.out;omega);clear b5 f5;go_wp2;exact bodyPost_ret (results_cell_row (fn:=Tryz.f75) (p:=2) (ty:=37) Tryz.results75 _ I _ 37 D (0,0) _ rfl N.out Tryz.underlying37 rfl C.out) rfl ⟨rfl,O.out⟩
end Go.Proofs.YtphjagkehiklkaaGreatDoor
