/- Texts. -/
import Derived.Test.YtphjagkehiklkaaGreatDoorUK40
import Derived.Test.YtphjagkehiklkaaGreatDoorUK46
set_option linter.unusedVariables false
set_option linter.unusedSimpArgs false
set_option maxRecDepth 100000
set_option maxHeartbeats 8000000
namespace Go.Proofs.YtphjagkehiklkaaGreatDoor
open Go.RowKit
theorem JO:∀(ds:List (Option Tmp))(k i:Nat)(u:Nat→Value)(a:Act)(x:Option Tmp)(v:Value),ds.Nodup→ds[i]? =some x→(an ds k u a).put x v=an ds k (da u (k+i) v) a
 |[],_,_,_,_,_,_,_,h=>by simp at h
 |d::r,k,0,u,a,x,v,b,h=>by
  have c:d=x:=by simpa using h
  subst c;rw[an,an,rH r (k+1) u _ d v (List.nodup_cons.1 b).1,Ay];rw[show da u (k+0) v k=v by simp[da]];exact lh r (k+1) _ _ _ (fun j e=>by simp only[da];rw[if_neg (by omega)])
 |d::r,k,i+1,u,a,x,v,b,h=>by
  rw[an,an,JO r (k+1) i u _ x v (List.nodup_cons.1 b).2 (by simpa using h)];rw[show da u (k+(i+1)) v k=u k by simp only[da];rw[if_neg (by omega)],show k+1+i=k+(i+1)by omega]
theorem Kp{P:Program}{ops:Array Oper}{Q:Exit→Act→World→Prop}{C:World→Prop}{T:Nat→Nat→Prop}{E:Nat→World→Prop}{a:Act}{R:Nat→Value→World→Prop}{n:Nat}(ok:Bc ops n)
  (w:Iz C T E R)
  (Z:nz P ops Q C T E (fun u=>an ((ops.toList.take n).map (·.dst)) 0 u a) R 0 (ops.toList.take n))
  (ac:∀u w',C w'→(∀j,j<n→R j (u j) w')→wpList P ops Q (ops.toList.drop n) (an ((ops.toList.take n).map (·.dst)) 0 u a) w'):
  ∀(f:Nat)(listed:Array Bool)(u:Nat→Value)(w':World),HeadInv .any ops n listed→bK (fun j=>!listed.getD j false) n=f→C w'→(∀j,j<n→listed.getD j false=false→E j w')→
   (∀j,j<n→listed.getD j false=true→R j (u j) w')→wpAny P .any ops Q (f+(ops.size-n)) listed (an ((ops.toList.take n).map (·.dst)) 0 u a) w':=by
 intro f;induction f with
 |zero=>
  intro listed u w' inv W x N K;have m:∀j,j<n→listed.getD j false=true:=fun j g=>by simpa using jY _ n W j g
  have he:listed=Array.replicate n true++Array.replicate (ops.size-n) false:=by
   apply Array.ext;·rw[inv.size];have:=ok.le;simp;omega
   ·intro i M ag;rcases Nat.lt_or_ge i n with d|d;·have:=m i d;rw[Array.getElem_append_left (by simpa using d)];simpa[M]using this
    ·have:=inv.tail i d (by rw[←inv.size];exact M);rw[Array.getElem_append_right (by simpa using d)];simpa[M]using this
  subst he;have z:(ops.toList.drop n).length=ops.size-n:=by simp
  have:=wpAny_of_seq (P:=P) (md:= .any) (ops:=ops) (Q':=Q) (ops.toList.drop n) n _ (an ((ops.toList.take n).map (·.dst)) 0 u a) w' (fun j=>by simp[List.getElem?_drop]) (by rw[z];exact ok.seq) (ac u w' x (fun j g=>K j g (m j g)));rw[z]at this;rwa[Nat.zero_add]
 |succ f ad=>
  intro listed u w' inv W x N K;obtain⟨j,g,V,t⟩:=kS (fun j=>!listed.getD j false) n (by omega);have s:j<ops.size:=by have:=ok.le;omega
  have hunj:listed.getD j true=false:=getD_in (by rw[inv.size];exact s) (by simpa using V);have D:j∈Region.ready .any ops listed:=by
   refine mem_ready.2 ⟨hunj,ops[j],Array.getElem?_eq_getElem s,fun e he L=>?_⟩;have:=(ok.each j _ g (Array.getElem?_eq_getElem s)).2 e he L;simpa using t e.on this
  rw[show f+1+(ops.size-n)=(f+(ops.size-n))+1 by omega];refine⟨fun X=>(by rw[X]at D;cases D),fun i d=>?_⟩;obtain⟨S,o,G,J⟩:=mem_ready.1 d;have B:i<ops.size:=(Array.getElem?_eq_some_iff.1 G).1;have b:i<n:=by
   rcases ok.tail with h|⟨ab,hch⟩;·omega
   ·rcases Nat.lt_or_ge i n with h|h;·exact h
    ·exact absurd d (tail_waits ab hch (by omega) inv (n-j) j rfl g hunj i h)
  have A:listed.getD i false=false:=getD_both S;have I:(ops.toList.take n)[i]? =some o:=by rw[List.getElem?_take,if_pos b];simpa using G
  have hw:=Z.at_ i o I u w' x (by rw[Nat.zero_add];exact N i b A) (fun k F=>by
   obtain⟨ae,H,e,he,L,U⟩:=Region.waitsFor_spec F;rw[Nat.zero_add]at H;have:ae=o:=Option.some.inj (H.symm.trans G);subst this;subst U;have aa:=(ok.each i _ b G).2 e he L;exact K e.on (by omega) (J e he L));rw[Nat.zero_add]at hw;refine mJ G (eE (fun af l Y=>?_) hw);obtain⟨v,rfl,p,O⟩:=Y;rw[JO _ 0 i u a o.dst v ok.nodup (by rw[List.getElem?_map,I];rfl),Nat.zero_add];refine ad (listed.setIfInBounds i true) (da u i v) l (inv.set d b) ?_ (w.c i w' l x p) (fun k F y=>?_) (fun k F y=>?_)
  ·have:=jX (fun j=>!listed.getD j false) (fun j=>!(listed.setIfInBounds i true).getD j false) i (by simp only[A];rfl) (by
    have:(listed.setIfInBounds i true).getD i false=true:=by
     have q:i<listed.size:=by rw[inv.size];exact B
     simp[q]
    simp only[this];rfl) (fun j g=>by simp only[getD_set_ne false (Ne.symm g)]) n b;omega
  ·have e:i≠k:=by
    rintro rfl;have q:i<listed.size:=by rw[inv.size];exact B
    simp[q]at y
   rw[getD_set_ne false e]at y;exact w.e i k w' l e x p (N k F y)
  ·by_cases e:k=i;·subst e;simp only[da,if_true];exact O
   ·simp only[da];rw[if_neg e];rw[getD_set_ne false (fun h=>e h.symm)]at y;exact w.r i k (u k) w' l (fun h=>e h.symm) x p (K k F y)
theorem JG{P:Program}{id:Nat}{Q:Exit→Act→World→Prop}{a:Act}{w:World}{l:List Oper}(n:Nat)(C:World→Prop)(T:Nat→Nat→Prop)(E:Nat→World→Prop)(x:Nat→Value→World→Prop)(hm:P.follows .mixedOrders=true)(i:EV l.toArray n=true)
  (d:Iz C T E x)(k:C w.drew)(o:∀j,j<n→E j w.drew)
  (q:nz P l.toArray Q C T E (fun u=>an ((l.take n).map (·.dst)) 0 u a) x 0 (l.take n))
  (e:∀u w',C w'→(∀j,j<n→x j (u j) w')→wpList P l.toArray Q (l.drop n) (an ((l.take n).map (·.dst)) 0 u a) w'):(Code.region id l.toArray true).wp P Q a w:=by
 have ok:=Bc.of i;obtain⟨s,f⟩:=fw ((l.take n).map (·.dst)) 0 a;refine wp_region_any hm ?_;have c:HeadInv .any l.toArray n (Array.replicate l.toArray.size false):=
  ⟨by simp,fun j v _ b=>(by rw[getD_replicate_false]at b;cases b),fun t _ e=>getD_in (by simpa using e) (getD_replicate_false _ _)⟩;have p:bK (fun j=>!(Array.replicate l.toArray.size false).getD j false) n=n:=by
  have h:∀m,bK (fun j=>!(Array.replicate l.toArray.size false).getD j false) m=m:=by
   intro m;induction m with
   |zero=>rfl
   |succ m r=>rw[bK,r,getD_replicate_false];rfl
  exact h n
 have:=Kp (P:=P) (Q:=Q) (a:=a) ok d (by simpa using q) (by simpa using e) n _ s w.drew c p k (fun j g _=>o j g) (fun j g b=>by rw[getD_replicate_false]at b;cases b);rw[show(l.toArray.toList.take n).map (·.dst)=(l.take n).map (·.dst)by simp,f,show n+(l.toArray.size-n)=l.toArray.size by have:=ok.le;omega]at this;exact this
theorem Jt{P:Program}{id:Nat}{Q:Exit→Act→World→Prop}{a:Act}{w:World}{l:List Oper}(n:Nat)(T:Nat→Prop)(c:List (Value→World→Prop))(hm:P.follows .mixedOrders=true)(d:(EV l.toArray n&&(l.take n).all fun p=>p.guard.isNone)=true)
  (e:cO T w c)
  (m:r8 P l.toArray Q T w (fun u=>an ((l.take n).map (·.dst)) 0 u a) (bI c) 0 (l.take n))
  (o:∀u w',Fr T w w'→(∀j,j<n→bI c j (u j) w')→wpList P l.toArray Q (l.drop n) (an ((l.take n).map (·.dst)) 0 u a) w'):(Code.region id l.toArray true).wp P Q a w:=by
 rw[Bool.and_eq_true]at d;exact JG n (Fr T w) (fun _=>T) (fun _ _=>True) (bI c) hm d.1
  ⟨fun _ w' b h f=>h.trans f,fun _ _ _ _ _ _ _ _=>trivial,fun _ j v w' b _ g i k=>e.at_ j v w' b g i k⟩ ((Fr.refl _ _).drew) (fun _ _=>trivial) (r8.all d.2 m) o
end Go.Proofs.YtphjagkehiklkaaGreatDoor
namespace Go.Proofs.YtphjagkehiklkaaGreatDoor
open Go.RowKit
end Go.Proofs.YtphjagkehiklkaaGreatDoor
namespace Go.Proofs.YtphjagkehiklkaaGreatDoor
open Go.RowKit
end Go.Proofs.YtphjagkehiklkaaGreatDoor
namespace Go.Proofs.YtphjagkehiklkaaGreatDoor
open Go.RowKit
end Go.Proofs.YtphjagkehiklkaaGreatDoor
namespace Go.Proofs.YtphjagkehiklkaaGreatDoor.Lt
open Go.RowKit
theorem eF.cut{w:World}{S:Nat→Prop}{A:Option Addr}{n k cap:Nat}{ds:List (List UInt8)}(h:eF w S A n ds)(c:k≤n)(a:n≤cap):eF w S (if cap=k then A else A.map (·.add (k*32))) (n-k) (ds.drop k):=by
 have:=h.rd.cut c a;rw[mj ds h.each]at this;exact⟨this,by rw[List.length_drop,h.len],fun d b=>h.each d (List.mem_of_mem_drop b)⟩
end Go.Proofs.YtphjagkehiklkaaGreatDoor.Lt
namespace Go.Proofs.YtphjagkehiklkaaGreatDoor.Lt
open Go.RowKit
def JQ(n:Nat):Prop:=∀(ds:List (List UInt8))(A:Option Addr)(c:Nat)(S:Nat→Prop)(w:World),eF w S A n ds→1≤n→n≤1099511627776→n≤c→c≤9223372036854775807→bp w→
 Calls Tryz.prog 74 #[.slice A n c] w (aH w (aL (cj ds)))
theorem J2(ds:List (List UInt8))(A:Option Addr)(c:Nat)(S:Nat→Prop)(w:World)(n:eF w S A 1 ds)(B:1≤c):
  Calls Tryz.prog 74 #[.slice A 1 c] w (aH w (aL (cj ds))):=by
 obtain⟨m,d,rfl,_,g,b,a⟩:=n.at_ (k:=0) (by omega);have he:cj ds=d:=by
  match ds,n.len,g with
  |[x],_,g=>cases g;exact pf _
  |[],q,_=>simp at q
  |_::_::_,q,_=>simp at q
 rw[he];have r:=Lib.hid (cy.of b);have o:(Tryz.prog.info? 38).map (·.size)=some (aq d).length:=by rw[aq,List.length_map,b];exact dZ
 rw[Nat.zero_mul,show m.add 0=m from rfl]at a;have t:=Lib.hid a;have u:=Lib.hid o;unfold aL;change Calls _ _ _ _ (aH w (.agg (aq d).toArray));have f:Hid (cy (aq d).toArray):=r.out;generalize aq d=l at*;clear r g b he n a o;go_enter Tryz.func74,Tryz.ntmps74;go_wp2_with(refine ai rfl 38 rfl aQ fW ay rfl ?_);intro w1 n1;have h:=Lib.hid n1;clear n1;go_wp2_with(first|(refine aw rfl 38 (.tmp 8) rfl m rfl l _ (fun j v C=>h.out.fr.aj (t.out j v C) (fun x=>x)) Tryz.underlying38 rfl u.out ?_)|(refine ah rfl 38 (.tmp 2) _ rfl w.heap.size l.toArray rfl rfl _ _ h.out.az f.out.info f.out.zero f.out.one ?_));intro s b5 f5;have y:=Lib.hid b5;have z:Hid (Fr af w s):=h.out.fr.ao f5 (fun i o e=>by have D:i=w.heap.size:=e;omega);clear b5 f5;go_wp2;exact bodyPost_ret (results_cell_row (fn:=Tryz.f74) (p:=2) (ty:=38) Tryz.results74 _ s _ 38 l.toArray (0,0) _ rfl y.out Tryz.underlying38 rfl f.out.info) rfl ⟨rfl,z.out⟩
theorem JU(n:Nat)(z:∀m,m<n→JQ m)(l:2≤n):JQ n:=by
 intro ds A c S w f C v Z o t;obtain⟨aa,_,D⟩:=cS n l v;have q:=lj ds n f.len l v;have B:=Lib.hid (fun w=>lD n w l v);obtain⟨j,Y,_⟩:=f.rd.2 (by omega);subst Y;generalize aI n=k at*;have CL:Hid (∀w',Fr af w w'→Calls Tryz.prog 74 #[.slice (some j) k c] w' (aH w' (aL (cj (ds.take k))))):=
  fun w' b=>z k aa _ _ _ S _ ((f.take (by omega)).al b) D (by omega) (by omega) o (t.al b);have K:Hid (∀w',Fr af w w'→Calls Tryz.prog 74 #[.slice (some (j.add (k*32))) (n-k) (c-k)] w' (aH w' (aL (cj (ds.drop k))))):=by
  intro w' b;have h:=(f.cut (k:=k) (cap:=c) (by omega) Z).al b;rw[if_neg (by omega)]at h;exact z (n-k) (by omega) _ _ _ S _ h (by omega) (by omega) (by omega) (by omega) (t.al b)
 have E:=eY k (ds.take k) (by rw[List.length_take,f.len];omega) D (by omega) (fun d y=>f.each d (List.mem_of_mem_take y));have F:=eY (n-k) (ds.drop k) (by rw[List.length_drop,f.len]) (by omega) (by omega) (fun d y=>f.each d (List.mem_of_mem_drop y));have J:Hid (∀w',Fr af w w'→Calls Tryz.prog 122 #[aL (cj (ds.take k)),aL (cj (ds.drop k))] w' (aH w' (aL (cj ds)))):=by
  intro w' b;rw[q];exact j7 _ _ E F w' (t.al b)
 have r:=Lib.hid (cy.of (eY n ds f.len (by omega) v f.each));unfold aL at*;generalize((cj (ds.take k)).map aU).toArray=O at*;generalize((cj (ds.drop k)).map aU).toArray=P at*;generalize((cj ds).map aU).toArray=s at*;clear q E F t f z;have t1:((n:Int)==1)=false:=by rw[beq_eq_false_iff_ne];omega
 have b1:(k:Int)≤(c:Int):=by omega
 have b2:(k:Int)≤(n:Int):=by omega
 have b3:¬c=k:=by omega
 have b4:(n:Int)≤(c:Int):=by omega
 go_enter Tryz.func74,Tryz.ntmps74;go_wp2_with(refine ai rfl 38 rfl aQ fW ay rfl ?_);intro w1 n1;have g:=Lib.hid n1;clear n1;go_wp2_with fail;refine(B.out _).mono ?_;rintro e w'⟨rfl,rfl⟩;clear B;go_upto_region 4 with fail;refine Jt 9 af [Is (.slice (some j) n c),Is (.int .i64 k),Is (.slice (some j) k c),Is (.agg O),Is (.slice (some j) n c),Is (.int .i64 k),Is (.slice (some (j.add (k*32))) (n-k) (c-k)),Is (.agg P),Is (.agg s)] (by kernel_rfl) (by kernel_rfl) ⟨Is.ag _,Is.ag _,Is.ag _,Is.ag _,Is.ag _,Is.ag _,Is.ag _,Is.ag _,Is.ag _,trivial⟩ ?_ ?_
 ·refine⟨fun u w' b a=>?_,fun u w' b a=>?_,fun u w' b a=>?_,fun u w' b a=>?_,fun u w' b a=>?_,fun u w' b a=>?_,fun u w' b a=>?_,fun u w' b a=>?_,fun u w' b a=>?_,trivial⟩;all_goals simp only[List.take_succ_cons,List.take_zero,List.map_cons,List.map_nil,an,Act.put,List.setIfInBounds_toArray,List.set_cons_zero,List.set_cons_succ,Nat.reduceAdd,Nat.zero_add]
  ·clear a;go_simp;exact⟨_,rfl,Fr.refl _ _,rfl⟩
  ·clear a;go_simp;exact⟨_,rfl,Fr.refl _ _,rfl⟩
  ·have Q:u 0=_:=a 0 (by kernel_rfl);have C:u 1=_:=a 1 (by kernel_rfl);clear a;simp only[Q,C];go_simp;exact⟨_,rfl,Fr.refl _ _,rfl⟩
  ·have l:u 2=_:=a 2 (by kernel_rfl);clear a;simp only[l];go_simp;refine(CL.out _ (g.out.fr.trans b)).mono ?_;rintro e G⟨rfl,f4⟩;exact⟨_,rfl,f4,rfl⟩
  ·clear a;go_simp;exact⟨_,rfl,Fr.refl _ _,rfl⟩
  ·clear a;go_simp;exact⟨_,rfl,Fr.refl _ _,rfl⟩
  ·have T:u 4=_:=a 4 (by kernel_rfl);have U:u 5=_:=a 5 (by kernel_rfl);clear a;simp only[T,U];go_simp;exact⟨_,rfl,Fr.refl _ _,rfl⟩
  ·have V:u 6=_:=a 6 (by kernel_rfl);clear a;simp only[V];go_simp;refine(K.out _ (g.out.fr.trans b)).mono ?_;rintro e G⟨rfl,f4⟩;exact⟨_,rfl,f4,rfl⟩
  ·have R:u 3=_:=a 3 (by kernel_rfl);have W:u 7=_:=a 7 (by kernel_rfl);clear a;simp only[R,W];go_simp;refine(J.out _ (g.out.fr.trans b)).mono ?_;rintro e G⟨rfl,f4⟩;exact⟨_,rfl,f4,rfl⟩
 ·intro u w' b a;have X:u 8= .agg s:=a 8 (by omega);clear a;simp only[List.take_succ_cons,List.take_zero,List.map_cons,List.map_nil,an,Act.put,List.setIfInBounds_toArray,List.set_cons_zero,List.set_cons_succ,List.drop_succ_cons,List.drop_zero,Nat.reduceAdd,Nat.zero_add,X];have L:=Lib.hid (g.out.fr.trans b);have I:=Lib.hid (g.out.az.fr b (fun x=>x));clear b g;go_wp2_with(refine ah rfl 38 (.tmp 2) _ rfl w.heap.size s rfl rfl _ _ I.out r.out.info r.out.zero r.out.one ?_);intro H b5 f5;have M:=Lib.hid b5;have N:Hid (Fr af w H):=L.out.ao f5 (fun i ac e=>by have ab:i=w.heap.size:=e;omega);clear b5 f5;go_wp2;exact bodyPost_ret (results_cell_row (fn:=Tryz.f74) (p:=2) (ty:=38) Tryz.results74 _ H _ 38 s (0,0) _ rfl M.out Tryz.underlying38 rfl r.out.info) rfl ⟨rfl,N.out⟩
theorem J1(n:Nat):JQ n:=by
 induction n using Nat.strongRecOn with
 |_ n e=>
  by_cases a:2≤n;·exact JU n e a
  ·intro ds A c S w b f g d _ _;obtain rfl:n=1:=by omega
   exact J2 ds A c S w b d
end Go.Proofs.YtphjagkehiklkaaGreatDoor.Lt
namespace Go.Proofs.YtphjagkehiklkaaGreatDoor.Lt
open Go.RowKit
theorem Kf(n:Nat)(ds:List (List UInt8))(A:Option Addr)(c:Nat)(S:Nat→Prop)(w:World)(f:eF w S A n ds)(F:n≤1048576)(C:n≤c)(j:c≤9223372036854775807)(y:bp w):
  Calls Tryz.prog 23 #[.slice A n c] w (aH w (.tuple #[aL (eX ds), .int .i64 0])):=by
 have t1:decide ((1048576:Int)<(n:Int))=false:=decide_eq_false (by omega);have z:(eX ds).length=32:=by
  unfold eX;split;·exact nj
  ·rename_i h;have E:1≤n:=by
    rcases Nat.eq_zero_or_pos n with a|a;·exact absurd (List.eq_nil_of_length_eq_zero (f.len.trans a)) h
    ·exact a
   exact eY n ds f.len E (by omega) f.each
 have d:=Lib.hid (cy.of z);have r:Hid (n=0→∀w',Fr af w w'→Calls Tryz.prog 73 #[] w' (aH w' (aL (eX ds)))):=by
  intro a w' m;have:ds=[]:=List.eq_nil_of_length_eq_zero (f.len.trans a);rw[eX,if_pos this];exact zc w' (y.al m)
 have s:Hid (n≠0→∀w',Fr af w w'→Calls Tryz.prog 74 #[.slice A n c] w' (aH w' (aL (eX ds)))):=by
  intro a w' m;have:ds≠[]:=fun h=>a (by rw[←f.len,h];rfl);rw[eX,if_neg this];exact J1 n ds A c S w' (f.al m) (by omega) (by omega) C j (y.al m)
 unfold aL at*;generalize((eX ds).map aU).toArray=l at*;clear f y z;by_cases a:n=0
 ·have t2:((n:Int)==0)=true:=by rw[beq_iff_eq];omega
  have g:=Lib.hid (r.out a);clear r s a;go_enter Tryz.func23,Tryz.ntmps23;go_wp2_with(refine ai rfl 38 rfl aQ fW ay rfl ?_);intro w1 n1;have b:=Lib.hid n1;clear n1;go_wp2_with fail;refine(g.out _ b.out.fr).mono ?_;rintro e w2⟨rfl,f2⟩;have t:=Lib.hid (b.out.fr.trans f2);have o:=Lib.hid (b.out.az.fr f2 (fun x=>x));clear f2 b g;go_wp2_with(refine ah rfl 38 (.tmp 2) _ rfl w.heap.size l rfl rfl _ _ o.out d.out.info d.out.zero d.out.one ?_);intro k b5 f5;have u:=Lib.hid b5;have v:Hid (Fr af w k):=t.out.ao f5 (fun i D e=>by have B:i=w.heap.size:=e;omega);clear b5 f5;go_wp2;exact bodyPost_ret (db (fn:=Tryz.f23) (p:=2) (q:=3) (ty:=38) Tryz.results23 _ k _ 38 l (0,0) _ rfl u.out Tryz.underlying38 rfl d.out.info _ rfl) rfl ⟨rfl,v.out⟩
 ·have t2:((n:Int)==0)=false:=by rw[beq_eq_false_iff_ne];omega
  have g:=Lib.hid (s.out a);clear r s a;go_enter Tryz.func23,Tryz.ntmps23;go_wp2_with(refine ai rfl 38 rfl aQ fW ay rfl ?_);intro w1 n1;have b:=Lib.hid n1;clear n1;go_wp2_with fail;refine(g.out _ b.out.fr).mono ?_;rintro e w2⟨rfl,f2⟩;have t:=Lib.hid (b.out.fr.trans f2);have o:=Lib.hid (b.out.az.fr f2 (fun x=>x));clear f2 b g;go_wp2_with(refine ah rfl 38 (.tmp 2) _ rfl w.heap.size l rfl rfl _ _ o.out d.out.info d.out.zero d.out.one ?_);intro k b5 f5;have u:=Lib.hid b5;have v:Hid (Fr af w k):=t.out.ao f5 (fun i D e=>by have B:i=w.heap.size:=e;omega);clear b5 f5;go_wp2;exact bodyPost_ret (db (fn:=Tryz.f23) (p:=2) (q:=3) (ty:=38) Tryz.results23 _ k _ 38 l (0,0) _ rfl u.out Tryz.underlying38 rfl d.out.info _ rfl) rfl ⟨rfl,v.out⟩
end Go.Proofs.YtphjagkehiklkaaGreatDoor.Lt
namespace Go.Proofs.YtphjagkehiklkaaGreatDoor
open Go.RowKit Go.Shelf
theorem JE{P:Program}{ops:Array Oper}{rest:List Oper}{op:Oper}{a:Act}{w:World}{Q:Exit→Act→World→Prop}(b:op.guard=none)(k:BinOp)(t:TypeId)(x y:Operand)(ty:TypeId)(f:op.op= .binOp k t x y ty)
  (xs c:Array Value)(i:a.eval x= .agg xs)(j:a.eval y= .agg c)(e:P.eqGuardType P.depth t=false)
  (v:Value)(g:(binOp k t (.agg xs) (.agg c)).run P w= .ok v w)(h:wpList P ops Q rest (a.put op.dst v) w):wpList P ops Q (op::rest) a w:=by
 refine wpList_plain b fun K d=>?_;exact ji k t x y ty f xs c i j e v g (d _ _ h)
theorem Kn:Tryz.prog.built 38 []=some ay:=by kernel_rfl
theorem Ko(w:World):(binOp .eql 38 (.agg ay) (.agg ay)).run Tryz.prog w= .ok (.bool true) w:=by
 have h:=FH w _ Tryz.underlying38 (List.replicate 32 0) (List.replicate 32 0) rfl rfl;rw[decide_eq_true rfl]at h;exact h
theorem Ki(w:World):Calls Tryz.prog 22 #[.agg ay] w (aH w (.bool true)):=by
 have Q:=Lib.hid Ko;have e:Hid ((Tryz.prog.info? 38).map (·.size)=some ay.toList.length):=dZ;obtain⟨b,a⟩:∃b,ay.toList=b:=⟨_,rfl⟩;have c:Hid (ay=b.toArray):=by rw[Hid,←a]
 have d:=Lib.hid Kn;rw[a]at e;rw[c.out]at Q d⊢;clear a c;go_enter Tryz.func22,Tryz.ntmps22;go_wp2_with(refine au rfl 38 (.tmp 0) rfl b.toArray rfl ?_);intro w1 n1;have g:=Lib.hid n1.fr;have f:=Lib.hid n1.az;clear n1;generalize w.heap.size=g1 at*;go_wp2_with(refine aw rfl 38 (.tmp 1) rfl ⟨g1,0,none⟩ rfl b _ ?zA Tryz.underlying38 rfl e.out (aR.go ?zB));case zA=>exact fun j x h=>by rw[Addr.add_mid,Nat.zero_add,f.out.cell j,List.getElem?_toArray];exact h
 unfold aR;go_wp2_with(refine dH rfl 38 _ rfl b.toArray _ (by simp only[List.map_toArray,List.map_nil]) d.out (aR.go ?zC));unfold aR;go_wp2_with(refine JE rfl _ _ _ _ _ rfl _ _ rfl rfl Tryz.eqGuardType38 _ (Q.out _) (aR.go ?zD));unfold aR;go_wp2;go_ret;exact⟨rfl,g.out⟩
def Kl(w:World)(ds:List (List UInt8))(e:Ending)(w':World):Prop:=∃v,e= .returned v∧bF 38 32 w (.slice none 0 0) w' v ds.length (ds.flatMap Lt.aq)
theorem JY(ms:List Value)(b:Nat)(E:List Ent)(L:List ActV)(m:Nat)(w:World)(bn:Mod w ms b E L)(aJ:dy w)(ab:bp w)(M:ct 24 E)(aF:gL L)(hm:m≤L.length):
  Calls Tryz.prog 24 #[.agg ms.toArray, .int .i64 (m:Int)] w (Kl w (cL E (L.take m))):=by
 obtain⟨A,n,c,rfl,aN,bo,a7,bk,y,W⟩:=bn;obtain⟨i0,F,H,t,aO⟩:=info_parts Lt.sb;have an:Hid (∀j,j<L.length→∃B p a,A=some B∧L[j]? =some a∧ck w p a∧p.length=6∧∀i x,p[i]? =some x→w.cell? ((B.add (j*6)).add i)=some x):=fun j bq=>rY y W aN bq;have HN:Hid (m≤n∧n≤16∧n=L.length):=by have:=aF.len;exact⟨by omega,by omega,aN⟩
 have bf:=Lib.hid aJ;have be:=Lib.hid ab;have ar:=Lib.hid aF;have Z:Hid (∀w',Fr af w w'→Calls Tryz.prog 75 #[.pointer (some ⟨b,0,none⟩)] w' (aH w' (aL (dL (ey E))))):=fun w' f=>Ch E b w' (a7.al f) (aJ.al f) (ab.al f) M;have d:=fJ (ey E);have g:=Lib.hid d;have CL:Hid (∀w',Fr af w w'→Calls Tryz.prog 76 #[.string ({data:=#[0]}++⟨(dL (ey E)).toArray⟩)] w' (aH w' (aL (mr E)))):=fun w' f=>by
  have a6:dM ({data:=#[0]}++⟨(dL (ey E)).toArray⟩)=0::dL (ey E):=by
   have h:aC ({data:=#[0]}++⟨(dL (ey E)).toArray⟩)=aC ⟨#[0]⟩++aC ⟨(dL (ey E)).toArray⟩:=qN _ _;have bl:aC ⟨(dL (ey E)).toArray⟩=dL (ey E):=ox _;rw[bl]at h;exact h
  have h:=Lt.qj ({data:=#[0]}++⟨(dL (ey E)).toArray⟩) w' (ab.al f) (by
   have:=dc ({data:=#[0]}++⟨(dL (ey E)).toArray⟩);rw[a6,List.length_cons,d]at this;omega);rw[a6]at h;exact h
 have ao:Hid (Lt.cy ((mr E).map aU).toArray):=Lt.cy.of (oZ E);have o:Hid (Lt.cy ((dL (ey E)).map aU).toArray):=Lt.cy.of d;have a5:Hid (∀j v,((dL (ey E)).map bv)[j]? =some v→(((dL (ey E)).map aU).toArray)[j]? =some v):=fun j v h=>by rw[List.getElem?_toArray];exact h
 have Q:Hid ((mr E).length=32):=oZ E;have ap:Hid (cL E []=[mr E]):=rfl;obtain⟨dl,Y⟩:∃dl,dL (ey E)=dl:=⟨_,rfl⟩;rw[Y]at Z g CL o a5;obtain⟨xs,s⟩:∃x:ByteArray,x=⟨dl.toArray⟩:=⟨_,rfl⟩;have ax:=Lib.hid s;rw[←s]at CL;have aA:Hid (xs.size=32):=by rw[Hid,s];simp only[ByteArray.size,List.size_toArray];exact g.out
 unfold aL at Z CL;generalize aG:(dl.map aU).toArray=bj at*;clear aJ ab aF M hm a7 y W aN bo Y s d aG;have g1:Hid (¬1*i0.size>2^24):=by simp only[Hid];rw[t];omega
 have g2:Hid (¬1*i0.size=0):=by simp only[Hid];rw[t];omega
 have a1:Hid (∀R:List UInt8,R.length=32→Instr.fill (fun i=>some (i*i0.size,i0.size)) ((Array.range (1*i0.size)).map (aQ.cells[· %aQ.cells.size]!)) [(0, .agg (R.map aU).toArray)]=some (R.map aU).toArray):=fun R h=>by
  rw[t];exact Lt.qt _ _ (by simp[h]) (by simp)
 go_enter Tryz.func24,Tryz.ntmps24;go_wp2_with(refine au rfl 28 (.tmp 0) rfl _ rfl ?_);intro w1 n1;have ag:=Lib.hid n1.fr;have ad:=Lib.hid n1.az;clear n1;generalize w.heap.size=T at*;have bu:w1.cell? ⟨T,0,none⟩=some (.pointer (some ⟨b,0,none⟩)):=ad.out.cell 0;go_wp2_with fail;refine(Z.out _ ag.out).mono ?_;rintro e w2⟨rfl,f2⟩;have aX:=Lib.hid (ag.out.trans f2);have aS:=Lib.hid (ad.out.fr f2 (fun x=>x));clear f2 Z ag ad bu;go_wp2_with(refine I3 rfl rfl 37 5 rfl rfl _ rfl aQ Hn ay rfl bj (fun _=>rfl) (fun _=>rfl) o.out.Ia o.out.zero o.out.one ?_);intro a8 g5 aK aM b3 f3;have ah:=Lib.hid (aX.out.trans f3);have aT:=Lib.hid (aS.out.fr f3 (fun x=>x));have a4:Hid (Rd a8 (fun _=>True) 1 (some ⟨g5,0,none⟩) 32 (dl.map bv)):=⟨by rw[List.length_map,g.out],fun _=>⟨_,rfl,trivial,fun j v bs=>by
  rw[Addr.add_mid,Nat.zero_add,b3.cell j];exact a5.out j v bs⟩⟩;have X:=lR a8 _ _ 32 32 _ a4.out;rw[←ax.out]at X;have aE:¬9223372036854775807<1+xs.size:=by have:=aA.out;omega
 clear b3 f3 aX aS aK aM;go_wp2_with fail;refine(CL.out _ ah.out).mono ?_;rintro e J⟨rfl,f4⟩;have aY:=Lib.hid (ah.out.trans f4);have aV:=Lib.hid (aT.out.fr f4 (fun x=>x));clear f4 CL ah aT X aE a4;have g3:=Lib.hid (a1.out _ Q.out);have aD:Hid (((mr E).map aU).toArray.toList=[mr E].flatMap Lt.aq∧([mr E].flatMap Lt.aq).length=1*32):=⟨by simp[Lt.aq],by simp[Lt.aq,Q.out]⟩;generalize aI:((mr E).map aU).toArray=K at*;go_wp2_with(refine wpList_buildSlice rfl 31 38 1 #[(0, .tmp 16)] rfl K i0 aQ Tryz.underlying31 F H g1.out g2.out (by simp only[List.map_toArray,List.map_cons,List.map_nil];exact g3.out) (aR.go ?hold));unfold aR;have bh:Hid (bF 38 32 w (.slice none 0 0) (J.alloc (.cells K 38)) (.slice (some ⟨J.heap.size,0,none⟩) 1 1) 1 ((cL E (L.take 0)).flatMap Lt.aq)):=by
  rw[List.take_zero,ap.out];exact bF.Ks aY.out (dd.alloc J 38 K) aD.out.1 aD.out.2
 have ba:Hid (ak (J.alloc (.cells K 38)) T 28 #[.pointer (some ⟨b,0,none⟩), .slice A n c]):=aV.out.fr (dd.alloc J 38 K).fr (fun x=>x);generalize J.alloc (.cells K 38)=bC at*;generalize J.heap.size=bB at*;clear aY aV g3 aD aI ao;go_wp2;go_loopw[6,7](fun v i wr=>∃k:Nat,k≤m∧i= .int .i64 (k:Int)∧bF 38 32 w (.slice none 0 0) wr v (k+1) ((cL E (L.take k)).flatMap Lt.aq)∧ak wr T 28 #[.pointer (some ⟨b,0,none⟩), .slice A n c])(fun _ i _=>m-(intOf i).toNat);case atStart=>exact⟨0,Nat.zero_le _,rfl,bh.out,ba.out⟩
 case round=>
  obtain⟨k,ac,rfl,M,hF⟩:=hrel;have aB:=Lib.hid M;have a0:=Lib.hid hF;have bb:=Lib.hid ac;obtain⟨bx,m1,bA,rfl,H1,bz⟩:=aP M.own;clear M hF ac;by_cases br:k<m
  ·have t0:decide ((k:Int)<(m:Int))=true:=decide_eq_true (by omega);obtain⟨B,p,a,rfl,D,U,V,l⟩:=an.out k (by have:=HN.out;omega);have bw:wr.cell? ⟨T,1,none⟩=some (.slice (some B) n c):=a0.out.cell 1;have i1:(k:Int)<(n:Int):=by have:=HN.out;omega
   have i2:(0:Int)≤(k:Int):=by omega
   have aa:Hid (Fr af w wr):=aB.out.al;have bg:Hid ((Tryz.prog.info? 46).map (·.size)=some p.length):=by rw[Hid,V];exact bm
   have N:Hid (∀i x,p[i]? =some x→wr.cell? ((B.add (k*6)).add i)=some x):=fun i x bt=>aa.out.aj (l i x bt) (fun x=>x);have r:=List.mem_of_getElem? D;obtain⟨I,G⟩:∃I:ByteArray,⟨(bY a).toArray⟩=I:=⟨_,rfl⟩;have S:Hid (aC I=bY a∧I.size≤16777216):=by
    rw[Hid,←G];exact⟨yT _,by have:=(ar.out.small a r).len;simp only[ByteArray.size,List.size_toArray];omega⟩
   have aW:Hid (Calls Tryz.prog 18 #[.agg p.toArray] wr (aH wr (.tuple #[.string I, .int .i64 0]))):=by
    have q:=nT a p wr (bf.out.al aa.out) (U.al aa.out) (ar.out.small a r).sz;unfold jA at q;rw[if_pos (ar.out.ok a r),G]at q;exact q
   have ae:Hid (∀w',Fr af wr w'→Calls Tryz.prog 25 #[.string I] w' (aH w' (aL (bM (bY a))))):=fun w' f=>by
    have q:=Ac I w' (be.out.al (aa.out.trans f)) (by have:=S.out.2;omega);rw[S.out.1]at q;exact q
   have a2:Hid ((cL E (L.take (k+1))).flatMap Lt.aq=(cL E (L.take k)).flatMap Lt.aq++Lt.aq (bM (bY a))):=by
    simp only[Hid];rw[List.take_add_one,D,Option.toList_some,Ad,List.flatMap_append];simp
   have g3:=Lib.hid (a1.out _ (fG (bY a)));have bc:Hid (((bM (bY a)).map aU).toArray.size=1*32):=by simp[Hid,fG]
   have bd:Hid (∀u∈((bM (bY a)).map aU).toArray.toList,u.oneCell'=true):=by
    intro u hu;exact iE (bM (bY a)) u (by simpa[Lt.aq]using hu)
   have bG:IntKind.i64.wrap ((k:Int)+1)=(k:Int)+1:=IntWalk.i64_in _ (by have:=HN.out;omega);unfold aL at ae;have av:Hid ((cL E (L.take (k+1))).flatMap Lt.aq=(cL E (L.take k)).flatMap Lt.aq++(bM (bY a)).map aU):=a2;clear a2;generalize(bM (bY a)).map aU=a3 at*;clear l D U V r G;go_wp2_with(refine aw rfl 46 (.tmp 27) rfl (B.add (k*6)) rfl p _ ?zA Tryz.underlying46 rfl bg.out (aR.go ?zB));case zA=>exact N.out
   unfold aR;go_wp2_with fail;refine aW.out.mono ?_;rintro e bD⟨rfl,f6⟩;have ai:=Lib.hid f6;clear f6 aW bw N;go_wp2_with fail;refine(ae.out _ ai.out).mono ?_;rintro e bE⟨rfl,f7⟩;have aZ:=Lib.hid (ai.out.trans f7);clear f7 ae ai;have z:=Lib.hid (aB.out.behind aZ.out);have O:=Lib.hid (a0.out.fr aZ.out (fun x=>x));have P:Hid (k+1≤1048576):=by have:=HN.out;simp only[Hid];omega
   go_wp2_with(refine wpList_buildSlice rfl 31 38 1 #[(0, .tmp 34)] rfl a3.toArray i0 aQ Tryz.underlying31 F H g1.out g2.out (by simp only[List.map_toArray,List.map_cons,List.map_nil];exact g3.out) (aR.go ?zC));unfold aR;refine cX _ rfl _ _ 31 rfl 38 i0 aQ 32 32 Tryz.underlying31 F H t aO rfl (by omega) _ _ _ rfl z.out.own 1 a3.toArray _ rfl rfl bc.out bd.out (by have:=P.out;omega) (by have:=P.out;omega) ?_;intro v2 a9 C;have bi:Hid (bF 38 32 w (.slice none 0 0) a9 v2 (k+1+1) ((cL E (L.take (k+1))).flatMap Lt.aq)):=by
    have h:=z.out.trans C;simp only[Hid];rw[av.out];exact h
   have am:Hid (ak a9 T 28 #[.pointer (some ⟨b,0,none⟩), .slice (some B) n c]):=by
    refine O.out.fr C.fr (fun ac=>?_);have aE:=gW z.out.own ac;exact absurd (aE.one O.out.ty) (by decide)
   clear C;go_wp2;go_roundw;case rel=>exact⟨k+1,by omega,by go_num,bi.out,am.out⟩
   case measure=>simp[intOf];omega
  ·have t0:decide ((k:Int)<(m:Int))=false:=decide_eq_false (by omega);obtain rfl:k=m:=by have:=bb.out;omega
   go_wp2;go_ret;refine⟨_,rfl,?_⟩;have h:=aB.out;have e:(cL E (L.take k)).length=k+1:=by rw[je,List.length_take,Nat.min_eq_left (by have:=HN.out;omega)]
   rw[e];exact h
end Go.Proofs.YtphjagkehiklkaaGreatDoor
namespace Go.Proofs.YtphjagkehiklkaaGreatDoor
open Go.RowKit Go.Shelf
theorem Jq(n:Nat)(xs:List CV)(am:Option Addr)(av:Nat)(S:Nat→Prop)(z:Int)(aD:Nat)(ao:Option Addr)(aX:Nat)(w:World)(bc:CL w S am n xs)(ai:n≤9223372036854775807)(aC:n≤av)(bf:sB w ao aD)(aA:dy w)(az:bp w):
  Calls Tryz.prog 5 #[.slice am n av, .slice ao aD aX, .int .i64 z] w (pE w):=by
 have a7:=Lib.hid (tj w aA az);have a6:Hid (∀w',Fr af w w'→Calls Tryz.prog 14 #[.slice am n av, .slice ao aD aX] w' (pt w')):=fun w' f=>zT n xs am av S aD ao aX w' (bc.al f) ai aC (bf.al f) (aA.al f) (az.al f);have bk:=Lib.hid aA;have aO:=Lib.hid az;clear bf aA az bc ai aC;go_enter Tryz.func5,Tryz.ntmps5;go_wp2_with fail;refine a7.out.mono ?_;rintro e w1⟨rfl,f1⟩;have aK:=Lib.hid f1;clear f1 a7;go_wp2_with fail;refine(a6.out _ aK.out).mono ?_;rintro e w2⟨h,b,ms,E,L,T,rfl,be,aY,bd,a,_,f2⟩;obtain⟨A,nl,c,rfl,ai,aC,bs,bn,aj,aZ⟩:=id aY;have a8:=Lib.hid (aK.out.trans f2);have ba:=Lib.hid be;have aN:=Lib.hid aY;have bi:=Lib.hid bd;have bj:=Lib.hid a;have K:Hid (nl=L.length∧nl≤16):=by have:=a.len;exact⟨ai,by omega⟩
 have bb:Hid ([Value.pointer (some ⟨b,0,none⟩), .slice A nl c].toArray.all (·.oneCell')=true):=by simp[Hid,Value.oneCell']
 clear f2 be aY bd a ai aC bs aj aZ a6 aK;obtain⟨t,o⟩:∃t,[Value.pointer (some ⟨b,0,none⟩), .slice A nl c]=t:=⟨_,rfl⟩;have Z:=Lib.hid o;have aT:Hid ((Tryz.prog.info? 28).map (·.size)=some t.toArray.size):=by rw[Hid,←o];exact ia
 have aV:Hid ((Tryz.prog.info? 28).map (·.size)=some t.length):=by rw[Hid,←o];exact ia
 have aS:Hid (2=t.toArray.size):=by rw[Hid,←o];rfl
 rw[o]at bb aN⊢;clear o;go_wp2_with(refine Ju rfl rfl rfl 28 8 rfl rfl (.tmp 19) rfl _ rfl (.agg qU.toArray) Gf #[.pointer none, .slice none 0 0] rfl (.pointer (some ⟨h,0,none⟩)) t.toArray (fun _=>rfl) (fun _=>rfl) (fun _=>rfl) aT.out aS.out bb.out ?_);intro a4 g8 _ _ b3 f3;have aG:=Lib.hid b3;have J:=Lib.hid (a8.out.trans f3);have bh:=Lib.hid (ba.out.al f3);have bl:=Lib.hid (aN.out.al f3);clear b3 f3 ba aN a8;have p:Hid (∀w',Fr af a4 w'→Calls Tryz.prog 16 #[.pointer (some ⟨h,0,none⟩), .int .i64 z] w' (aH w' (pw E L z))):=fun w' f=>sv h E L T z w' (bh.out.al f) (aO.out.al (J.out.trans f)) (by have:=K.out;omega);unfold pw at p;by_cases ak:0≤z∧z≤L.length;case neg=>
  rw[if_neg ak]at p;have aJ:=Lib.hid Ki;have au:Hid (Lt.cy ay):=by
   have q:=Lt.cy.of (l:=List.replicate 32 0) (by decide);exact q
  have aP:Hid ((Tryz.prog.info? 38).map (·.size)=some ay.toList.length):=dZ;obtain⟨G,O⟩:∃G,ay.toList=G:=⟨_,rfl⟩;have aa:Hid (ay=G.toArray):=by rw[Hid,←O]
  rw[O]at aP;rw[aa.out]at aJ p au;clear O aa;go_wp2_with fail;refine(p.out _ (Fr.refl _ _)).mono ?_;rintro e a5⟨rfl,f4⟩;have W:=Lib.hid f4;clear f4 p;go_wp2_with(refine I3 rfl rfl 38 9 rfl rfl _ rfl aQ fW ay rfl G.toArray (fun _=>rfl) (fun _=>rfl) au.out.info au.out.zero au.out.one ?_);intro aE g9 _ _ b5 f5;have ap:=Lib.hid b5;have F:=Lib.hid (W.out.trans f5);clear b5 f5 W;have m1:aE.cell? ⟨g8,1,none⟩=some (.slice A nl c):=by
   have q:=aG.out.fr F.out (fun x=>x);rw[←Z.out]at q;exact q.cell 1
  by_cases ax:z<0
  ·have t1:decide (z<0)=true:=decide_eq_true ax;clear ax ak;go_upto_region 6 with fail;refine jk 7 [.int .i64 2, .bool true, .bool true, .agg G.toArray, .bool true, .bool true, .bool true] ?zF ?_;case zF=>
    refine⟨?yE,?zQ,?zR,?zS,?zU,?zV,?zW,trivial⟩;all_goals intro u w' k a
    all_goals simp only[z1,z2,z3,z4,an,Act.put,z5,z6,z7,Nat.reduceAdd,Nat.zero_add]
    case zQ=>
     simp only[show u 0=_ from a 0];refine aB ?_;go_simp;exact⟨rfl,Fr.refl _ _⟩
    case' zR=>simp only[show u 1=_ from a 1]
    case zS=>
     simp only[show u 2=_ from a 2];refine aB ?_;exact ar _ _ rfl ⟨g9,0,none⟩ rfl G _ (fun Q v P=>by rw[Addr.add_mid,Nat.zero_add,(ap.out.fr k (fun x=>x)).cell Q,List.getElem?_toArray];exact P) Tryz.underlying38 rfl aP.out ⟨rfl,Fr.refl _ _⟩
    case zU=>
     simp only[show u 3=_ from a 3,show u 2=_ from a 2];refine aB ?_;go_simp;refine(aJ.out _).mono ?_;rintro e a5⟨rfl,f4⟩;exact⟨rfl,f4⟩
    case' zV=>simp only[show u 2=_ from a 2,show u 4=_ from a 4]
    case' zW=>simp only[show u 5=_ from a 5]
    all_goals
     refine aB ?_;go_simp;exact⟨rfl,Fr.refl _ _⟩
   intro w' k;simp only[z1,z2,z3,z4,an,Act.put,z5,z6,z7,z8,z9,jl,jm,Nat.reduceAdd,Nat.zero_add];have Y:=Lib.hid (J.out.trans (F.out.trans k));clear k;go_wp2;go_ret;exact⟨rfl,Y.out⟩
  have t1:decide (z<0)=false:=decide_eq_false ax;have t2:decide ((nl:Int)<z)=true:=decide_eq_true (by have:=K.out;omega);clear ax ak;go_upto_region 6 with fail;refine jk 7 [.int .i64 2, .bool true, .bool true, .agg G.toArray, .bool true, .bool true, .bool true] ?zG ?_;case zG=>
   refine⟨?yF,?zX,?zY,?zZ,?yA,?yB,?yC,trivial⟩;all_goals intro u w' k a
   all_goals simp only[z1,z2,z3,z4,an,Act.put,z5,z6,z7,Nat.reduceAdd,Nat.zero_add]
   case zX=>
    simp only[show u 0=_ from a 0];refine aB ?_;go_simp;exact⟨rfl,Fr.refl _ _⟩
   case' zY=>simp only[show u 1=_ from a 1]
   case zZ=>
    simp only[show u 2=_ from a 2];refine aB ?_;exact ar _ _ rfl ⟨g9,0,none⟩ rfl G _ (fun Q v P=>by rw[Addr.add_mid,Nat.zero_add,(ap.out.fr k (fun x=>x)).cell Q,List.getElem?_toArray];exact P) Tryz.underlying38 rfl aP.out ⟨rfl,Fr.refl _ _⟩
   case yA=>
    simp only[show u 3=_ from a 3,show u 2=_ from a 2];refine aB ?_;go_simp;refine(aJ.out _).mono ?_;rintro e a5⟨rfl,f4⟩;exact⟨rfl,f4⟩
   case' yB=>simp only[show u 2=_ from a 2,show u 4=_ from a 4]
   case' yC=>simp only[show u 5=_ from a 5]
   all_goals
    refine aB ?_;go_simp;exact⟨rfl,Fr.refl _ _⟩
  intro w' k;simp only[z1,z2,z3,z4,an,Act.put,z5,z6,z7,z8,z9,jl,jm,Nat.reduceAdd,Nat.zero_add];have Y:=Lib.hid (J.out.trans (F.out.trans k));clear k;go_wp2;go_ret;exact⟨rfl,Y.out⟩
 rw[if_pos ak]at p;obtain⟨m,rfl⟩:∃m:Nat,z=m:=⟨z.toNat,by omega⟩;have i:Hid (m≤L.length):=by simp only[Hid];omega
 rw[Int.toNat_natCast]at p;clear ak;obtain⟨g,r⟩:∃g,cL E (L.take m)=g:=⟨_,rfl⟩;have V:Hid (∀w',Fr af a4 w'→Calls Tryz.prog 24 #[.agg t.toArray, .int .i64 (m:Int)] w' (Kl w' g)):=fun w' f=>by
  rw[←r];exact JY t b E L m w' (bl.out.al f) (bk.out.al (J.out.trans f)) (aO.out.al (J.out.trans f)) (bi.out.more (by decide)) bj.out i.out
 have ad:g.length=m+1:=by rw[←r,je,List.length_take,Nat.min_eq_left i.out]
 have N:∀d∈g,d.length=32:=by rw[←r];exact mu _ _
 have s:(Lt.eX g).length=32:=Lt.jr (m+1) _ ad (by have:=K.out;have:=i.out;omega) N;have H:Hid (∀w' C y,Lt.eF w' (lY (.slice C g.length y)) C g.length g→g.length≤y→y≤9223372036854775807→Fr af a4 w'→Calls Tryz.prog 23 #[.slice C g.length y] w' (aH w' (.tuple #[aL (Lt.eX g), .int .i64 0]))):=fun w' C y bo bq br f=>Lt.Kf _ g C y _ w' bo (by have:=K.out;have:=i.out;omega) bq br (aO.out.al (J.out.trans f));have X:Hid (∀w' B v,bF 38 32 w' (.slice none 0 0) B v g.length (g.flatMap Lt.aq)→∃C y,v= .slice C g.length y∧Lt.eF B (lY v) C g.length g∧g.length≤y∧y≤9223372036854775807∧Fr af w' B):=fun w' B v bt=>Lt.eF.ts bt rfl N;have bm:Hid (∀w:World,(binOp .eql 38 (.agg ((Lt.eX g).map aU).toArray) (.agg ((Lt.eX g).map aU).toArray)).run Tryz.prog w= .ok (.bool true) w):=Jz _ s;have I:Hid (Lt.cy ((Lt.eX g).map aU).toArray):=Lt.cy.of s;rw[r]at p;unfold aL at p H;generalize(Lt.eX g).map aU=M at*;have ab:Hid ((Tryz.prog.info? 38).map (·.size)=some M.length):=by have q:=I.out.info;rw[List.size_toArray]at q;exact q
 clear r ad N s;go_wp2_with fail;refine(p.out _ (Fr.refl _ _)).mono ?_;rintro e a5⟨rfl,f4⟩;have W:=Lib.hid f4;clear f4 p;go_wp2_with(refine I3 rfl rfl 38 9 rfl rfl _ rfl aQ fW ay rfl M.toArray (fun _=>rfl) (fun _=>rfl) I.out.info I.out.zero I.out.one ?_);intro aE g9 _ _ b5 f5;have ap:=Lib.hid b5;have F:=Lib.hid (W.out.trans f5);clear b5 f5 W;have m1:aE.cell? ⟨g8,1,none⟩=some (.slice A nl c):=by
  have q:=aG.out.fr F.out (fun x=>x);rw[←Z.out]at q;exact q.cell 1
 have t1:decide ((m:Int)<0)=false:=decide_eq_false (by omega);have t2:decide ((nl:Int)<(m:Int))=false:=decide_eq_false (by have:=K.out;have:=i.out;omega);have a1:¬(m:Int)<0:=by omega
 have a2:¬(nl:Int)<(m:Int):=by have:=K.out;have:=i.out;omega
 have a3:¬nl<m:=by have:=K.out;have:=i.out;omega
 have aW:Hid (∀j x,t[j]? =some x→aE.cell? ((⟨g8,0,none⟩:Addr).add j)=some x):=fun j x a0=>by rw[Addr.add_mid,Nat.zero_add,(aG.out.fr F.out (fun x=>x)).cell j,List.getElem?_toArray];exact a0
 go_wp2_with(refine aw rfl 28 (.tmp 8) rfl ⟨g8,0,none⟩ rfl t _ ?zC Tryz.underlying28 rfl aV.out (aR.go ?zD));case zC=>first|exact aW.out|exact fun j x a0=>by have q:=aW.out j x a0;rw[Addr.add_mid,Nat.zero_add]at q;exact q
 unfold aR;go_wp2_with fail;refine(V.out _ F.out).mono ?_;rintro e bx⟨v,rfl,ag⟩;obtain⟨bu,bv,rfl,ac,ah,ae,f6⟩:=X.out _ _ _ ag;have aM:=Lib.hid (F.out.trans f6);have R:=Lib.hid (ap.out.fr f6 (fun x=>x));have D:=Lib.hid (H.out _ _ _ ac ah ae aM.out);clear ag ac ah ae f6 V X H m1 t1 t2 a1 a2 a3 aW;generalize g.length=bw at*;go_wp2_with fail;refine D.out.mono ?_;rintro e bz⟨rfl,f7⟩;have a9:=Lib.hid (aM.out.trans f7);have U:=Lib.hid (R.out.fr f7 (fun x=>x));clear f7 D aM R;go_wp2_with(refine I3 rfl rfl 38 11 rfl rfl _ rfl aQ fW ay rfl M.toArray (fun _=>rfl) (fun _=>rfl) I.out.info I.out.zero I.out.one ?_);intro bA g11 _ _ b8 f8;have aF:=Lib.hid b8;have bg:=Lib.hid (a9.out.trans f8);have aI:=Lib.hid (U.out.fr f8 (fun x=>x));clear b8 f8 a9 U;go_upto_region 8 with fail;refine jk 12 [.int .i64 0, .bool true, .bool true, .int .i64 0, .bool true, .bool true, .bool true, .agg M.toArray, .agg M.toArray, .bool true, .bool true, .bool true] ?zE ?_;case zE=>
  refine⟨?yD,?zH,?zI,?zJ,?zK,?zL,?zM,?zN,?zO,?zP,?zA,?zB,trivial⟩;all_goals intro u w' k a
  all_goals simp only[z1,z2,z3,z4,an,Act.put,z5,z6,z7,Nat.reduceAdd,Nat.zero_add]
  case zH=>
   simp only[show u 0=_ from a 0];refine aB ?_;go_simp;exact⟨rfl,Fr.refl _ _⟩
  case' zI=>simp only[show u 1=_ from a 1]
  case' zJ=>simp only[show u 2=_ from a 2]
  case zK=>
   simp only[show u 3=_ from a 3,show u 2=_ from a 2];refine aB ?_;go_simp;exact⟨rfl,Fr.refl _ _⟩
  case' zL=>simp only[show u 2=_ from a 2,show u 4=_ from a 4]
  case' zM=>simp only[show u 5=_ from a 5]
  case zN=>
   simp only[show u 6=_ from a 6];refine aB ?_;exact ar _ _ rfl ⟨g9,0,none⟩ rfl M _ (fun Q v P=>by rw[Addr.add_mid,Nat.zero_add,(aI.out.fr k (fun x=>x)).cell Q,List.getElem?_toArray];exact P) Tryz.underlying38 rfl ab.out ⟨rfl,Fr.refl _ _⟩
  case zO=>
   simp only[show u 6=_ from a 6];refine aB ?_;exact ar _ _ rfl ⟨g11,0,none⟩ rfl M _ (fun Q v P=>by rw[Addr.add_mid,Nat.zero_add,(aF.out.fr k (fun x=>x)).cell Q,List.getElem?_toArray];exact P) Tryz.underlying38 rfl ab.out ⟨rfl,Fr.refl _ _⟩
  case zP=>
   simp only[show u 7=_ from a 7,show u 8=_ from a 8,show u 6=_ from a 6];refine aB ?_;exact ji _ _ _ _ _ rfl _ _ rfl rfl Tryz.eqGuardType38 _ (bm.out _) ⟨rfl,Fr.refl _ _⟩
  case' zA=>simp only[show u 6=_ from a 6,show u 9=_ from a 9]
  case' zB=>simp only[show u 10=_ from a 10]
  all_goals
   refine aB ?_;go_simp;exact⟨rfl,Fr.refl _ _⟩
 intro w' k;simp only[z1,z2,z3,z4,an,Act.put,z5,z6,z7,z8,z9,jl,jm,Nat.reduceAdd,Nat.zero_add];have Y:=Lib.hid (J.out.trans (bg.out.trans k));clear k;go_wp2;go_ret;exact⟨rfl,Y.out⟩
end Go.Proofs.YtphjagkehiklkaaGreatDoor
