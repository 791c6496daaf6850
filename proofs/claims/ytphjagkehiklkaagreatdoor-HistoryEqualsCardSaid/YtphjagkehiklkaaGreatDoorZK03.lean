/- Texts. -/
import Derived.Deep.RegionHeld3
import Derived.LaidMore
import Derived.Lib.ItoaNum
import Derived.OwnWalkIn
import Derived.ProofKit
import Derived.RangeFuncCalls
import Derived.Shelf.Small.Bits
import Derived.Stop.LaidErr
import Derived.TacticsInMore
import Derived.Test.YtphjagkehiklkaaGreatDoorRows
import Derived.Test.YtphjagkehiklkaaGreatDoorZK01
set_option linter.unusedVariables false
set_option linter.unusedSimpArgs false
namespace Go.Proofs.YtphjagkehiklkaaGreatDoor
open Go.RowKit
def ar:List (Option Tmp)→Nat→(Nat→Value)→Act→Act
 |[],_,_,a=>a
 |d::r,k,u,a=>ar r (k+1) u (a.put d (u k))
def dP(u:Nat→Value)(i:Nat)(v:Value):Nat→Value:=fun j=>if j=i then v else u j
theorem Fi(a:Act)(x:Option Tmp)(v b:Value):(a.put x v).put x b=a.put x b:=by
 cases x with
 |none=>rfl
 |some d=>simp[Act.put]
theorem I5(a:Act)(x:Option Tmp):∃v,a.put x v=a:=by
 cases x with
 |none=>exact⟨undef,rfl⟩
 |some d=>
  refine⟨a.tmps.getD d undef,?_⟩;have:a.tmps.setIfInBounds d (a.tmps.getD d undef)=a.tmps:=by
   apply Array.ext;·simp
   ·intro i c b;rw[Array.getElem_setIfInBounds (by simpa using b)];split;·rename_i e;subst e;simp[b]
    ·rfl
  simp only[Act.put,this]
theorem mW:∀(ds:List (Option Tmp))(k:Nat)(u b:Nat→Value)(a:Act),(∀j,k≤j→u j=b j)→ar ds k u a=ar ds k b a
 |[],_,_,_,_,_=>rfl
 |d::r,k,u,b,a,h=>by
  rw[ar,ar,h k (Nat.le_refl _)];exact mW r (k+1) u b _ (fun j c=>h j (by omega))
theorem ug:∀(ds:List (Option Tmp))(k:Nat)(u:Nat→Value)(a:Act)(x:Option Tmp)(v:Value),x∉ds→(ar ds k u a).put x v=ar ds k u (a.put x v)
 |[],_,_,_,_,_,_=>rfl
 |d::r,k,u,a,x,v,h=>by
  rw[ar,ar,ug r (k+1) u _ x v (fun hm=>h (by simp[hm]))];congr 1;exact Act.put_comm a (u k) v (fun e b c=>h (by rw[b,c];simp))
theorem ib:∀(ds:List (Option Tmp))(k:Nat)(a:Act),∃u,ar ds k u a=a
 |[],_,_=>⟨fun _=>undef,rfl⟩
 |d::r,k,a=>by
  obtain⟨v,b⟩:=I5 a d;obtain⟨u,hu⟩:=ib r (k+1) a;refine⟨dP u k v,?_⟩;rw[ar,show dP u k v k=v by simp[dP],b];rw[mW r (k+1) (dP u k v) u a (fun j c=>by simp only[dP];rw[if_neg (by omega)])];exact hu
def cy(p:Nat→Bool):Nat→Nat
 |0=>0
 |n+1=>cy p n+(if p n=true then 1 else 0)
theorem qB(p q:Nat→Bool):∀n,(∀j,j<n→p j=q j)→cy p n=cy q n
 |0,_=>rfl
 |n+1,h=>by rw[cy,cy,qB p q n (fun j a=>h j (by omega)),h n (by omega)]
theorem lI(p q:Nat→Bool)(i:Nat)(a:p i=true)(b:q i=false)(h:∀j,j≠i→q j=p j):∀n,i<n→cy q n+1=cy p n
 |0,d=>by omega
 |n+1,d=>by
  rw[cy,cy];by_cases e:i=n;·subst e;rw[a,b,qB q p i (fun j f=>h j (by omega))];simp
  ·have:=lI p q i a b h n (by omega);rw[h n (fun c=>e c.symm)];omega
theorem mM(p:Nat→Bool):∀n,cy p n≠0→∃j,j<n∧p j=true∧∀k,k<j→p k=false
 |0,h=>absurd rfl h
 |n+1,h=>by
  by_cases c:cy p n=0
  ·have a:∀m,cy p m=0→∀k,k<m→p k=false:=by
    intro m;induction m with
    |zero=>intro _ k f;omega
    |succ m g=>
     intro hm k f;rw[cy]at hm;rcases Nat.lt_or_ge k m with b|b;·exact g (by omega) k b
     ·have:k=m:=by omega
      subst this;cases d:p k;·rfl
      ·rw[d]at hm;simp at hm
   refine⟨n,by omega,?_,a n c⟩;cases d:p n;·rw[cy,c,d]at h;simp at h
   ·rfl
  ·obtain⟨j,i,b,e⟩:=mM p n c;exact⟨j,by omega,b,e⟩
theorem lJ(p:Nat→Bool):∀n,cy p n=0→∀j,j<n→p j=false
 |0,_,_,b=>by omega
 |n+1,h,j,b=>by
  rw[cy]at h;rcases Nat.lt_or_ge j n with a|a;·exact lJ p n (by omega) j a
  ·have:j=n:=by omega
   subst this;cases c:p j;·rfl
   ·rw[c]at h;simp at h
def Kn(ops:Array Oper)(n:Nat):Bool:=
 decide (n≤ops.size)&&
 ((List.range n).all fun i=>match ops[i]? with|some a=>a.dst.isSome&&a.after.all (fun e=>!Region.binds .any e||decide (e.on<i))|none=>false)&&
 decide ((ops.toList.take n).map (·.dst)).Nodup&&
 (decide (n=ops.size)||(Region.sinkB .any ops n&&Region.chainB .any ops n))&&
 Region.seqB .any ops (ops.size-n) n (Array.replicate n true++Array.replicate (ops.size-n) false)
structure Gi(ops:Array Oper)(n:Nat):Prop where
 le:n≤ops.size
 each:∀i a,i<n→ops[i]? =some a→a.dst.isSome=true∧∀e∈a.after,Region.binds .any e=true→e.on<i
 nodup:((ops.toList.take n).map (·.dst)).Nodup
 tail:n=ops.size∨(Region.sinkB .any ops n=true∧Region.chainB .any ops n=true)
 seq:Region.seqB .any ops (ops.size-n) n (Array.replicate n true++Array.replicate (ops.size-n) false)=true
theorem Gi.of{ops:Array Oper}{n:Nat}(h:Kn ops n=true):Gi ops n:=by
 simp only[Kn,Bool.and_eq_true,Bool.or_eq_true,decide_eq_true_eq]at h;obtain⟨⟨⟨⟨a,b⟩,c⟩,d⟩,f⟩:=h;refine⟨a,fun i l j k=>?_,c,d,f⟩;have h:=List.all_eq_true.1 b i (List.mem_range.2 j);rw[k]at h;simp only[Bool.and_eq_true]at h;refine⟨h.1,fun e he g=>?_⟩;have:=(Array.all_eq_true_iff_forall_mem.1 h.2) e he;simpa[g]using this
def DK(a:Act)(d:Option Tmp)(T:Nat→Prop)(w:World)(e:Value→World→Prop)(c:Act)(b:World):Prop:=∃v,c=a.put d v∧Fr T w b∧e v b
def nT(P:Program)(ops:Array Oper)(Q:Exit→Act→World→Prop)(b:Oper)(a:Act)(w:World)(K:Act→World→Prop):Prop:=
 (Region.wanted b (yielded ops a.tmps)=true∧b.wp P a w K Q)∨(Region.wanted b (yielded ops a.tmps)=false∧K (a.put b.dst undef) w)
def pK(P:Program)(ops:Array Oper)(Q:Exit→Act→World→Prop)(C:World→Prop)(T:Nat→Nat→Prop)(E:Nat→World→Prop)(F:(Nat→Value)→Act)(a:Nat→Value→World→Prop):Nat→List Oper→Prop
 |_,[]=>True
 |i,b::r=>(∀u w',C w'→E i w'→(∀j,(_:Region.waitsFor .any ops i j=true:=by kernel_rfl)→a j (u j) w')→nT P ops Q b (F u) w' (DK (F u) b.dst (T i) w' (a i)))∧pK P ops Q C T E F a (i+1) r
theorem pK.at_{P:Program}{ops:Array Oper}{Q:Exit→Act→World→Prop}{C:World→Prop}{T:Nat→Nat→Prop}{E:Nat→World→Prop}{F:(Nat→Value)→Act}{c:Nat→Value→World→Prop}:∀{l:List Oper}{k:Nat},pK P ops Q C T E F c k l→
  ∀i d,l[i]? =some d→∀u w',C w'→E (k+i) w'→(∀j,Region.waitsFor .any ops (k+i) j=true→c j (u j) w')→nT P ops Q d (F u) w' (DK (F u) d.dst (T (k+i)) w' (c (k+i)))
 |[],_,_,_,_,h=>by simp at h
 |b::r,k,h,0,d,a=>by
  have:b=d:=by simpa using a
  subst this;exact h.1
 |b::r,k,h,i+1,d,a=>by
  have:=pK.at_ h.2 i d (by simpa using a);rwa[show k+1+i=k+(i+1)by omega]at this
theorem oT{P:Program}{ops:Array Oper}{Q:Exit→Act→World→Prop}{i:Nat}{c:Oper}{K:Act→World→Prop}{a:Act}{w:World}(b:ops[i]? =some c)(h:nT P ops Q c a w K):wpOp P ops Q i K a w:=by
 unfold wpOp;rw[b];rcases h with⟨hw,h⟩|⟨hw,h⟩;·simp only[hw,if_true];exact .inl h
 ·simp only[hw,Bool.false_eq_true,if_false];exact h
theorem gm{P:Program}{ops:Array Oper}{Q:Exit→Act→World→Prop}{d:Oper}{K b:Act→World→Prop}{a:Act}{w:World}(c:∀a w,K a w→b a w)(h:nT P ops Q d a w K):nT P ops Q d a w b:=by
 rcases h with⟨hw,h⟩|⟨hw,h⟩;·exact .inl ⟨hw,Oper.wp_mono c h⟩
 ·exact .inr ⟨hw,c _ _ h⟩
structure NP(C:World→Prop)(T:Nat→Nat→Prop)(E:Nat→World→Prop)(b:Nat→Value→World→Prop):Prop where
 c:∀i w' a,C w'→Fr (T i) w' a→C a
 e:∀i j w' a,i≠j→C w'→Fr (T i) w' a→E j w'→E j a
 r:∀i j v w' a,i≠j→C w'→Fr (T i) w' a→b j v w'→b j v a
def cp(a:List (Value→World→Prop))(j:Nat):Value→World→Prop:=a.getD j (fun _ _=>True)
def Is(x:Value):Value→World→Prop:=fun v _=>v=x
def dz(T:Nat→Prop)(w:World):List (Value→World→Prop)→Prop
 |[]=>True
 |p::r=>(∀v w' a,Fr T w w'→Fr T w' a→p v w'→p v a)∧dz T w r
theorem dz.at_{T:Nat→Prop}{w:World}:∀{b:List (Value→World→Prop)},dz T w b→∀j v w' a,Fr T w w'→Fr T w' a→cp b j v w'→cp b j v a
 |[],_,_,_,_,_,_,_,_=>trivial
 |_::_,h,0,v,w',a,c,d,e=>h.1 v w' a c d e
 |_::_,h,j+1,v,w',a,c,d,e=>dz.at_ h.2 j v w' a c d e
theorem Is.ah{T:Nat→Prop}{w:World}(x:Value):∀v w' a,Fr T w w'→Fr T w' a→Is x v w'→Is x v a:=fun _ _ _ _ _ h=>h
def uL(P:Program)(ops:Array Oper)(Q:Exit→Act→World→Prop)(T:Nat→Prop)(w:World)(F:(Nat→Value)→Act)(a:Nat→Value→World→Prop):Nat→List Oper→Prop
 |_,[]=>True
 |i,b::r=>(∀u w',Fr T w w'→(∀j,(_:Region.waitsFor .any ops i j=true:=by kernel_rfl)→a j (u j) w')→b.wp P (F u) w' (DK (F u) b.dst T w' (a i)) Q)∧uL P ops Q T w F a (i+1) r
theorem uL.all{P:Program}{ops:Array Oper}{Q:Exit→Act→World→Prop}{T:Nat→Prop}{w:World}{F:(Nat→Value)→Act}{d:Nat→Value→World→Prop}:∀{l:List Oper}{k:Nat},(l.all fun e=>e.guard.isNone)=true→uL P ops Q T w F d k l→pK P ops Q (Fr T w) (fun _=>T) (fun _ _=>True) F d k l
 |[],_,_,_=>trivial
 |e::r,k,a,h=>by
  simp only[List.all_cons,Bool.and_eq_true,Option.isNone_iff_eq_none]at a;exact⟨fun u w' hw _ b=> .inl ⟨by simp[Region.wanted,a.1],h.1 u w' hw (fun j c=>b j c)⟩,uL.all a.2 h.2⟩
end Go.Proofs.YtphjagkehiklkaaGreatDoor
namespace Go.Proofs.YtphjagkehiklkaaGreatDoor
open Go.RowKit
def dq:List (Nat×(World→Prop))→(World→Prop)→(Nat→Bool)→World→Prop
 |[],M,_=>M
 |(p,a)::r,M,d=>if d p=true then dq r a d else M
def eC(ws:List (Nat×(World→Prop)))(i:Nat):Bool:=(ws.map (·.1)).any (fun p=>p==i)
def iE(ws:List (Nat×(World→Prop)))(T:Nat→Prop)(i:Nat):Nat→Prop:=if eC ws i=true then T else ag
def lF:List (Nat×(World→Prop))→Nat→World→Prop
 |[],_=>fun _=>True
 |(p,a)::r,i=>if(p==i)=true then a else lF r i
def mr:List (Nat×(World→Prop))→(World→Prop)→World→Prop
 |[],M=>M
 |(_,a)::r,_=>mr r a
def ik(B:Nat→Nat→Bool):List Nat→Bool
 |[]=>true
 |p::r=>r.all (fun q=>B p q&&!(q==p))&&ik B r
def gC(ops:Array Oper)(n:Nat)(B:Nat→Nat→Bool):Bool:=
 (List.range n).all fun j=>(List.range n).all fun i=>!B i j||(Region.waitsFor .any ops j i||(List.range j).any fun k=>Region.waitsFor .any ops j k&&B i k)
def jo(T:Nat→Prop)(w:World):List (Nat×(World→Prop))→Prop
 |[]=>True
 |(_,M)::r=>(∀w' a,Fr T w w'→Fr ag w' a→M w'→M a)∧jo T w r
theorem kW:∀(ws:List (Nat×(World→Prop)))(M:World→Prop)(d:Nat→Bool),(∀x∈ws,d x.1=false)→dq ws M d=M
 |[],_,_,_=>rfl
 |(p,a)::r,M,d,h=>by
  have:d p=false:=h (p,a) (by simp);simp only[dq,this,Bool.false_eq_true,if_false]
theorem oP:∀(ws:List (Nat×(World→Prop)))(M:World→Prop)(d:Nat→Bool),(∀x∈ws,d x.1=true)→dq ws M d=mr ws M
 |[],_,_,_=>rfl
 |(p,a)::r,M,d,h=>by
  have:d p=true:=h (p,a) (by simp);simp only[dq,this,if_true,mr];exact oP r a d (fun x b=>h x (by simp[b]))
theorem lN:∀(ws:List (Nat×(World→Prop)))(M:World→Prop)(d d':Nat→Bool),(∀x∈ws,d x.1=d' x.1)→dq ws M d=dq ws M d'
 |[],_,_,_,_=>rfl
 |(p,a)::r,M,d,d',h=>by
  have b:d p=d' p:=h (p,a) (by simp);simp only[dq,b,lN r a d d' (fun x c=>h x (by simp[c]))]
theorem kH{T:Nat→Prop}{w w' a:World}(b:Fr T w w')(c:Fr ag w' a):∀(ws:List (Nat×(World→Prop)))(M:World→Prop)(d:Nat→Bool),jo T w ws→(∀w' a,Fr T w w'→Fr ag w' a→M w'→M a)→dq ws M d w'→dq ws M d a
 |[],M,_,_,e,h=>e _ _ b c h
 |(p,i)::r,M,d,g,e,h=>by
  simp only[dq]at h⊢;split at h;·rename_i f;rw[if_pos f];exact kH b c r i d g.2 g.1 h
  ·rename_i f;rw[if_neg f];exact e _ _ b c h
theorem lO(B:Nat→Nat→Bool)(p:Nat)(d d':Nat→Bool)(b:World)(o:d' p=true)(k:∀q,q≠p→d' q=d q):
  ∀(ws:List (Nat×(World→Prop)))(M:World→Prop),ik B (ws.map (·.1))=true→eC ws p=true→(∀x∈ws,B x.1 p=true→d x.1=true)→(∀x∈ws,B p x.1=true→d x.1=false)→lF ws p b→dq ws M d' b
 |[],_,_,hw,_,_,_=>by simp[eC]at hw
 |(q,l)::r,M,i,hw,n,m,g=>by
  simp only[List.map_cons,ik,Bool.and_eq_true,List.all_eq_true]at i;by_cases e:q=p
  ·subst e;simp only[lF,beq_self_eq_true,if_true]at g;simp only[dq,o,if_true];rw[kW];·exact g
   ·intro x c;have f:=i.1 x.1 (List.mem_map.2 ⟨x,c,rfl⟩);simp only[Bool.not_eq_true',beq_eq_false_iff_ne]at f;rw[k _ f.2];exact m x (by simp[c]) f.1
  ·have a:eC r p=true:=by
    simp only[eC,List.map_cons,List.any_cons,Bool.or_eq_true,beq_iff_eq]at hw;rcases hw with h|h;·exact absurd h e
    ·exact h
   have j:p∈r.map (·.1):=by
    simp only[eC,List.any_eq_true,beq_iff_eq]at a;obtain⟨y,u,rfl⟩:=a;exact u
   have f:=i.1 p j;have t:d q=true:=n (q,l) (by simp) f.1;have s:(q==p)=false:=by simpa using e
   simp only[lF,s,Bool.false_eq_true,if_false]at g;simp only[dq,k q e,t,if_true];exact lO B p d d' b o k r l i.2 a (fun x c=>n x (by simp[c])) (fun x c=>m x (by simp[c])) g
def vo(a:Act)(d:Option Tmp)(T:Nat→Prop)(w:World)(e:Value→World→Prop)(M:World→Prop)(c:Act)(b:World):Prop:=∃v,c=a.put d v∧Fr T w b∧e v b∧M b
def iM(P:Program)(ops:Array Oper)(Q:Exit→Act→World→Prop)(T:Nat→Prop)(w:World)(F:(Nat→Value)→Act)(b:Nat→Value→World→Prop)(ws:List (Nat×(World→Prop)))(a:World→Prop)(B:Nat→Nat→Bool)(n:Nat):Nat→List Oper→Prop
 |_,[]=>True
 |i,c::r=>(∀u w' d,Fr T w w'→(∀j,(_:Region.waitsFor .any ops i j=true:=by kernel_rfl)→b j (u j) w')→(∀p,p<n→B p i=true→d p=true)→(∀p,(p==i||B i p)=true→d p=false)→dq ws a d w'→
   nT P ops Q c (F u) w' (vo (F u) c.dst (iE ws T i) w' (b i) (lF ws i)))∧iM P ops Q T w F b ws a B n (i+1) r
theorem iM.at_{P:Program}{ops:Array Oper}{Q:Exit→Act→World→Prop}{T:Nat→Prop}{w:World}{F:(Nat→Value)→Act}{e:Nat→Value→World→Prop}{ws:List (Nat×(World→Prop))}{b:World→Prop}{B:Nat→Nat→Bool}{n:Nat}:
  ∀{l:List Oper}{k:Nat},iM P ops Q T w F e ws b B n k l→∀i f,l[i]? =some f→∀u w' d,Fr T w w'→(∀j,Region.waitsFor .any ops (k+i) j=true→e j (u j) w')→(∀p,p<n→B p (k+i)=true→d p=true)→(∀p,(p==k+i||B (k+i) p)=true→d p=false)→dq ws b d w'→
   nT P ops Q f (F u) w' (vo (F u) f.dst (iE ws T (k+i)) w' (e (k+i)) (lF ws (k+i)))
 |[],_,_,_,_,h=>by simp at h
 |c::r,k,h,0,f,a=>by
  have:c=f:=by simpa using a
  subst this;exact h.1
 |c::r,k,h,i+1,f,a=>by
  have:=iM.at_ h.2 i f (by simpa using a);rw[show k+1+i=k+(i+1)by omega]at this;exact this
theorem iX{ops:Array Oper}{n:Nat}{B:Nat→Nat→Bool}{listed:Array Bool}(o:gC ops n B=true)(inv:HeadInv .any ops n listed):
  ∀j,j<n→listed.getD j false=true→∀i,i<n→B i j=true→listed.getD i false=true:=by
 have direct:∀j k,listed.getD j false=true→Region.waitsFor .any ops j k=true→listed.getD k false=true:=by
  intro j k c d;obtain⟨q,f,e,he,a,g⟩:=Region.waitsFor_spec d;subst g;exact inv.closed j q f c e he a
 intro j;induction j using Nat.strongRecOn with
 |_ j p=>
  intro c m i l a;have h:=List.all_eq_true.1 (List.all_eq_true.1 o j (List.mem_range.2 c)) i (List.mem_range.2 l);simp only[a,Bool.not_true,Bool.false_or,Bool.or_eq_true,List.any_eq_true,Bool.and_eq_true,List.mem_range]at h;rcases h with h|⟨k,d,hw,b⟩;·exact direct j i m h
  ·exact p k d (by omega) (direct j k m hw) i l b
theorem xk:∀(ds:List (Option Tmp))(k i:Nat)(u:Nat→Value)(a:Act)(v:Value),ds[i]? =some none→ar ds k (dP u (k+i) v) a=ar ds k u a
 |[],_,_,_,_,_,h=>by simp at h
 |d::r,k,0,u,a,v,h=>by
  have b:d=none:=by simpa using h
  subst b;rw[ar,ar];exact mW r (k+1) _ _ _ (fun j c=>by simp only[dP];rw[if_neg (by omega)])
 |d::r,k,i+1,u,a,v,h=>by
  rw[ar,ar,show dP u (k+(i+1)) v k=u k by simp only[dP];rw[if_neg (by omega)],show k+(i+1)=(k+1)+i by omega];exact xk r (k+1) i u _ v (by simpa using h)
theorem mx:∀(ds:List (Option Tmp))(k i:Nat)(u:Nat→Value)(a:Act)(x:Option Tmp)(v:Value),(ds.filterMap id).Nodup→ds[i]? =some x→(ar ds k u a).put x v=ar ds k (dP u (k+i) v) a
 |ds,k,i,u,a,none,v,_,h=>by rw[xk ds k i u a v h];rfl
 |[],_,_,_,_,some _,_,_,h=>by simp at h
 |d::r,k,0,u,a,some t,v,b,h=>by
  have g:d=some t:=by simpa using h
  subst g;have e:some t∉r:=by
   intro hm;simp only[List.filterMap_cons_some (show id (some t)=some t from rfl),List.nodup_cons]at b;exact b.1 (List.mem_filterMap.2 ⟨_,hm,rfl⟩)
  rw[ar,ar,ug r (k+1) u _ (some t) v e,Fi];rw[show dP u (k+0) v k=v by simp[dP]];exact mW r (k+1) _ _ _ (fun j l=>by simp only[dP];rw[if_neg (by omega)])
 |d::r,k,i+1,u,a,some t,v,b,h=>by
  have c:(r.filterMap id).Nodup:=by
   cases d with
   |none=>simpa using b
   |some f=>simp only[List.filterMap_cons_some (show id (some f)=some f from rfl),List.nodup_cons]at b;exact b.2
  rw[ar,ar,show dP u (k+(i+1)) v k=u k by simp only[dP];rw[if_neg (by omega)],show k+(i+1)=(k+1)+i by omega];exact mx r (k+1) i u _ (some t) v c (by simpa using h)
def pJ(ops:Array Oper)(n:Nat):Bool:=
 decide (n≤ops.size)&&
 ((List.range n).all fun i=>match ops[i]? with|some a=>a.after.all (fun e=>!Region.binds .any e||decide (e.on<i))|none=>false)&&
 decide (((ops.toList.take n).map (·.dst)).filterMap id).Nodup&&
 (decide (n=ops.size)||(Region.sinkB .any ops n&&Region.chainB .any ops n))&&
 Region.seqB .any ops (ops.size-n) n (Array.replicate n true++Array.replicate (ops.size-n) false)
structure qN(ops:Array Oper)(n:Nat):Prop where
 le:n≤ops.size
 each:∀i a,i<n→ops[i]? =some a→∀e∈a.after,Region.binds .any e=true→e.on<i
 nodup:(((ops.toList.take n).map (·.dst)).filterMap id).Nodup
 tail:n=ops.size∨(Region.sinkB .any ops n=true∧Region.chainB .any ops n=true)
 seq:Region.seqB .any ops (ops.size-n) n (Array.replicate n true++Array.replicate (ops.size-n) false)=true
theorem vO{ops:Array Oper}{n:Nat}(a:((List.range n).all fun i=>match ops[i]? with|some f=>f.after.all (fun e=>!Region.binds .any e||decide (e.on<i))|none=>false)=true):
  ∀i f,i<n→ops[i]? =some f→∀e∈f.after,Region.binds .any e=true→e.on<i:=by
 intro i f c d e he b;have h:=List.all_eq_true.1 a i (List.mem_range.2 c);rw[d]at h;have:=(Array.all_eq_true_iff_forall_mem.1 h) e he;simpa[b]using this
theorem qN.of{ops:Array Oper}{n:Nat}(h:pJ ops n=true):qN ops n:=by
 simp only[pJ,Bool.and_eq_true,Bool.or_eq_true,decide_eq_true_eq]at h;obtain⟨⟨⟨⟨a,b⟩,c⟩,d⟩,e⟩:=h;exact⟨a,vO b,c,d,e⟩
theorem Lr{P:Program}{ops:Array Oper}{Q:Exit→Act→World→Prop}{T:Nat→Prop}{w:World}{a:Act}{X:List (Value→World→Prop)}{ws:List (Nat×(World→Prop))}{t:World→Prop}{B:Nat→Nat→Bool}{n:Nat}(ok:qN ops n)(ab:gC ops n B=true)
  (F:(ik B (ws.map (·.1))&&(ws.map (·.1)).all (fun p=>decide (p<n)))=true)
  (ap:dz T w X)(aq:jo T w ws)(ao:∀w' g,Fr T w w'→Fr ag w' g→t w'→t g)
  (az:iM P ops Q T w (fun u=>ar ((ops.toList.take n).map (·.dst)) 0 u a) (cp X) ws t B n 0 (ops.toList.take n))
  (aC:∀u w',Fr T w w'→(∀j,j<n→cp X j (u j) w')→mr ws t w'→wpList P ops Q (ops.toList.drop n) (ar ((ops.toList.take n).map (·.dst)) 0 u a) w'):
  ∀(f:Nat)(listed:Array Bool)(u:Nat→Value)(w':World),HeadInv .any ops n listed→cy (fun j=>!listed.getD j false) n=f→Fr T w w'→dq ws t (fun j=>listed.getD j false) w'→
   (∀j,j<n→listed.getD j false=true→cp X j (u j) w')→wpAny P .any ops Q (f+(ops.size-n)) listed (ar ((ops.toList.take n).map (·.dst)) 0 u a) w':=by
 rw[Bool.and_eq_true]at F;have S:∀x∈ws,x.1<n:=fun x E=>by simpa using List.all_eq_true.1 F.2 x.1 (List.mem_map.2 ⟨x,E,rfl⟩)
 intro f;induction f with
 |zero=>
  intro listed u w' inv aw L M Y;have hall:∀j,j<n→listed.getD j false=true:=fun j z=>by simpa using lJ _ n aw j z
  have he:listed=Array.replicate n true++Array.replicate (ops.size-n) false:=by
   apply Array.ext;·rw[inv.size];have:=ok.le;simp;omega
   ·intro i aa aG;rcases Nat.lt_or_ge i n with y|y;·have:=hall i y;rw[Array.getElem_append_left (by simpa using y)];simpa[aa]using this
    ·have:=inv.tail i y (by rw[←inv.size];exact aa);rw[Array.getElem_append_right (by simpa using y)];simpa[aa]using this
  rw[oP ws t _ (fun x E=>hall x.1 (S x E))]at M;subst he;have N:(ops.toList.drop n).length=ops.size-n:=by simp
  have:=wpAny_of_seq (P:=P) (md:= .any) (ops:=ops) (Q':=Q) (ops.toList.drop n) n _ (ar ((ops.toList.take n).map (·.dst)) 0 u a) w' (fun j=>by simp[List.getElem?_drop]) (by rw[N];exact ok.seq) (aC u w' L (fun j z=>Y j z (hall j z)) M);rw[N]at this;rwa[Nat.zero_add]
 |succ f aD=>
  intro listed u w' inv aw L M Y;obtain⟨j,z,au,I⟩:=mM (fun j=>!listed.getD j false) n (by omega);have H:j<ops.size:=by have:=ok.le;omega
  have D:listed.getD j true=false:=getD_in (by rw[inv.size];exact H) (by simpa using au);have R:j∈Region.ready .any ops listed:=by
   refine mem_ready.2 ⟨D,ops[j],Array.getElem?_eq_getElem H,fun e he l=>?_⟩;have:=ok.each j _ z (Array.getElem?_eq_getElem H) e he l;simpa using I e.on this
  rw[show f+1+(ops.size-n)=(f+(ops.size-n))+1 by omega];refine⟨fun ax=>(by rw[ax]at R;cases R),fun i y=>?_⟩;obtain⟨al,o,U,W⟩:=mem_ready.1 y;have ak:i<ops.size:=(Array.getElem?_eq_some_iff.1 U).1;have m:i<n:=by
   rcases ok.tail with h|⟨aB,ah⟩;·omega
   ·rcases Nat.lt_or_ge i n with h|h;·exact h
    ·exact absurd y (tail_waits aB ah (by omega) inv (n-j) j rfl z D i h)
  have G:listed.getD i false=false:=getD_both al;have V:(ops.toList.take n)[i]? =some o:=by rw[List.getElem?_take,if_pos m];simpa using U
  have b:∀k,Region.waitsFor .any ops i k=true→k<i∧listed.getD k false=true:=by
   intro k A;obtain⟨aE,am,e,he,l,an⟩:=Region.waitsFor_spec A;have:aE=o:=Option.some.inj (am.symm.trans U);subst this;subst an;exact⟨ok.each i _ m U e he l,W e he l⟩
  have c:∀p,p<n→B p i=true→listed.getD p false=true:=by
   intro p s l;have h:=List.all_eq_true.1 (List.all_eq_true.1 ab i (List.mem_range.2 m)) p (List.mem_range.2 s);simp only[l,Bool.not_true,Bool.false_or,Bool.or_eq_true,List.any_eq_true,Bool.and_eq_true,List.mem_range]at h;rcases h with h|⟨k,A,hw,ae⟩;·exact(b p h).2
   ·exact iX ab inv k (by omega) (b k hw).2 p s ae
  have d:∀p,(p==i||B i p)=true→listed.getD p false=false:=by
   intro p s;simp only[Bool.or_eq_true,beq_iff_eq]at s;rcases s with rfl|l;·exact G
   ·rcases Nat.lt_or_ge p n with J|J
    ·cases Z:listed.getD p false;·rfl
     ·have:=iX ab inv p J Z i m l;rw[G]at this;cases this
    ·rcases Nat.lt_or_ge p ops.size with av|av;·exact getD_both (inv.tail p J av)
     ·have:¬p<listed.size:=by rw[inv.size];omega
      simp[this]
  have hw:=az.at_ i o V u w' (fun j=>listed.getD j false) L (fun k A=>by
   rw[Nat.zero_add]at A;exact Y k (by have:=(b k A).1;omega) (b k A).2) (fun p s l=>by rw[Nat.zero_add]at l;exact c p s l) (fun p s=>by rw[Nat.zero_add]at s;exact d p s) M;rw[Nat.zero_add]at hw;refine oT U (gm (fun aF g ay=>?_) hw);obtain⟨v,rfl,r,ad,ac⟩:=ay;have O:Fr T w' g:=by
   unfold iE at r;split at r;·exact r
   ·exact r.bO
  rw[mx _ 0 i u a o.dst v ok.nodup (by rw[List.getElem?_map,V];rfl),Nat.zero_add];have C:(listed.setIfInBounds i true).getD i false=true:=by
   have aj:i<listed.size:=by rw[inv.size];exact ak
   simp[aj]
  refine aD (listed.setIfInBounds i true) (dP u i v) g (inv.set y m) ?_ (L.trans O) ?_ (fun k A Z=>?_);·have:=lI (fun j=>!listed.getD j false) (fun j=>!(listed.setIfInBounds i true).getD j false) i (by simp only[G];rfl) (by simp only[C];rfl) (fun j z=>by simp only[getD_set_ne false (Ne.symm z)]) n m;omega
  ·cases K:eC ws i
   ·have ai:Fr ag w' g:=by simpa[iE,K]using r
    have af:=lN ws t (fun j=>(listed.setIfInBounds i true).getD j false) (fun j=>listed.getD j false) (fun x E=>by
     have:i≠x.1:=by
      rintro rfl;have:eC ws x.1=true:=by
       simp only[eC,List.any_eq_true,beq_iff_eq];exact⟨x.1,List.mem_map.2 ⟨x,E,rfl⟩,rfl⟩
      rw[K]at this;cases this
     simp only[getD_set_ne false this]);rw[af];exact kH L ai ws t _ aq ao M
   ·exact lO B i (fun j=>listed.getD j false) _ g C (fun q aA=>by simp only[getD_set_ne false (Ne.symm aA)]) ws t F.1 K (fun x E l=>c x.1 (S x E) l) (fun x E l=>d x.1 (by rw[l,Bool.or_true])) ac
  ·by_cases e:k=i;·subst e;simp only[dP,if_true];exact ad
   ·simp only[dP];rw[if_neg e];rw[getD_set_ne false (fun h=>e h.symm)]at Z;exact ap.at_ k (u k) w' g L O (Y k A Z)
theorem ay{P:Program}{id:Nat}{Q:Exit→Act→World→Prop}{a:Act}{w:World}{l:List Oper}(n:Nat)(T:Nat→Prop)(f:List (Value→World→Prop))(ws:List (Nat×(World→Prop)))(b:World→Prop)(B:Nat→Nat→Bool)(hm:P.follows .mixedOrders=true)(z:pJ l.toArray n=true)
  (v:gC l.toArray n B=true)(g:(ik B (ws.map (·.1))&&(ws.map (·.1)).all (fun p=>decide (p<n)))=true)
  (k:dz T w f)(o:jo T w ws)(i:∀w' e,Fr T w w'→Fr ag w' e→b w'→b e)(s:b w.drew)
  (A:iM P l.toArray Q T w (fun u=>ar ((l.take n).map (·.dst)) 0 u a) (cp f) ws b B n 0 (l.take n))
  (q:∀u w',Fr T w w'→(∀j,j<n→cp f j (u j) w')→mr ws b w'→wpList P l.toArray Q (l.drop n) (ar ((l.take n).map (·.dst)) 0 u a) w'):(Code.region id l.toArray true).wp P Q a w:=by
 have ok:=qN.of z;obtain⟨D,r⟩:=ib ((l.take n).map (·.dst)) 0 a;refine wp_region_any hm ?_;have d:HeadInv .any l.toArray n (Array.replicate l.toArray.size false):=
  ⟨by simp,fun j F _ c=>(by rw[getD_replicate_false]at c;cases c),fun t _ q=>getD_in (by simpa using q) (getD_replicate_false _ _)⟩;have y:cy (fun j=>!(Array.replicate l.toArray.size false).getD j false) n=n:=by
  have h:∀m,cy (fun j=>!(Array.replicate l.toArray.size false).getD j false) m=m:=by
   intro m;induction m with
   |zero=>rfl
   |succ m C=>rw[cy,C,getD_replicate_false];rfl
  exact h n
 have:=Lr (P:=P) (Q:=Q) (a:=a) ok v g k o i (by simpa using A) (by simpa using q) n _ D w.drew d y (az.drew) (by rw[kW ws b _ (fun x _=>getD_replicate_false _ _)];exact s) (fun j E c=>by rw[getD_replicate_false]at c;cases c);rw[show(l.toArray.toList.take n).map (·.dst)=(l.take n).map (·.dst)by simp,r,show n+(l.toArray.size-n)=l.toArray.size by have:=ok.le;omega]at this;exact this
theorem vz{ops:Array Oper}{n:Nat}{B:Nat→Nat→Bool}(m:gC ops n B=true)(each:∀i q,i<n→ops[i]? =some q→∀e∈q.after,Region.binds .any e=true→e.on<i):
  ∀j,j<n→∀i,i<n→B i j=true→i<j:=by
 have direct:∀j k,j<n→Region.waitsFor .any ops j k=true→k<j:=by
  intro j k a d;obtain⟨p,f,e,he,b,g⟩:=Region.waitsFor_spec d;subst g;exact each j p a f e he b
 intro j;induction j using Nat.strongRecOn with
 |_ j o=>
  intro a i l b;have h:=List.all_eq_true.1 (List.all_eq_true.1 m j (List.mem_range.2 a)) i (List.mem_range.2 l);simp only[b,Bool.not_true,Bool.false_or,Bool.or_eq_true,List.any_eq_true,Bool.and_eq_true,List.mem_range]at h;rcases h with h|⟨k,d,hw,c⟩;·exact direct j i a h
  ·have:=o k d (by omega) i l c;omega
def zH(ops:Array Oper)(n:Nat):Bool:=
 decide (n≤ops.size)&&
 ((List.range n).all fun i=>match ops[i]? with|some a=>a.after.all (fun e=>!Region.binds .any e||decide (e.on<i))|none=>false)&&
 decide (((ops.toList.take n).map (·.dst)).filterMap id).Nodup
theorem Nq{P:Program}{ops:Array Oper}{Q:Exit→Act→World→Prop}{T:Nat→Prop}{w:World}{a:Act}{D:List (Value→World→Prop)}{ws:List (Nat×(World→Prop))}{m:World→Prop}{B:Nat→Nat→Bool}{n:Nat}(hle:n≤ops.size)
  (each:∀i o,i<n→ops[i]? =some o→∀e∈o.after,Region.binds .any e=true→e.on<i)(nodup:(((ops.toList.take n).map (·.dst)).filterMap id).Nodup)(aa:gC ops n B=true)
  (s:(ik B (ws.map (·.1))&&(ws.map (·.1)).all (fun p=>decide (p<n)))=true)
  (Y:dz T w D)(Z:jo T w ws)(X:∀w' b,Fr T w w'→Fr ag w' b→m w'→m b)
  (ad:iM P ops Q T w (fun u=>ar ((ops.toList.take n).map (·.dst)) 0 u a) (cp D) ws m B n 0 (ops.toList.take n))
  (af:∀u w',Fr T w w'→(∀j,j<n→cp D j (u j) w')→mr ws m w'→wpList P ops Q (ops.toList.drop n) (ar ((ops.toList.take n).map (·.dst)) 0 u a) w'):
  ∀(f k:Nat)(u:Nat→Value)(w':World),k+f=n→Fr T w w'→dq ws m (fun j=>decide (j<k)) w'→(∀j,j<k→cp D j (u j) w')→wpList P ops Q (ops.toList.drop k) (ar ((ops.toList.take n).map (·.dst)) 0 u a) w':=by
 rw[Bool.and_eq_true]at s;have H:∀x∈ws,x.1<n:=fun x A=>by simpa using List.all_eq_true.1 s.2 x.1 (List.mem_map.2 ⟨x,A,rfl⟩)
 intro f;induction f with
 |zero=>
  intro k u w' ae C F M;obtain rfl:k=n:=by omega
  rw[oP ws m _ (fun x A=>de (H x A))]at F;exact af u w' C M F
 |succ f ah=>
  intro k u w' ae C F M;have hkn:k<n:=by omega
  have U:k<ops.size:=by omega
  have J:(ops.toList.take n)[k]? =some ops[k]:=by rw[List.getElem?_take,if_pos hkn];simp
  have t:ops.toList.drop k=ops[k]::ops.toList.drop (k+1):=by
   rw[List.drop_eq_getElem_cons (by simpa using U)];simp
  have c:∀p,p<n→B p k=true→decide (p<k)=true:=fun p r g=>de (vz aa each k hkn p r g);have d:∀p,(p==k||B k p)=true→decide (p<k)=false:=by
   intro p r;simp only[Bool.or_eq_true,beq_iff_eq]at r;rcases r with rfl|g;·simp
   ·rcases Nat.lt_or_ge p n with L|L;·have:=vz aa each p L k hkn g;exact cD (by omega)
    ·exact cD (by omega)
  have hw:=ad.at_ k ops[k] J u w' (fun j=>decide (j<k)) C (fun j S=>by
   rw[Nat.zero_add]at S;obtain⟨ai,V,e,he,g,W⟩:=Region.waitsFor_spec S;subst W;exact M e.on (each k ai hkn V e he g)) (fun p r g=>by rw[Nat.zero_add]at g;exact c p r g) (fun p r=>by rw[Nat.zero_add]at r;exact d p r) F;rw[Nat.zero_add]at hw;rw[t];have goal:∀E b,vo (ar ((ops.toList.take n).map (·.dst)) 0 u a) ops[k].dst (iE ws T k) w' (cp D k) (lF ws k) E b→wpList P ops Q (ops.toList.drop (k+1)) E b:=by
   rintro E b⟨v,rfl,l,O,N⟩;have G:Fr T w' b:=by
    unfold iE at l;split at l;·exact l
    ·exact l.bO
   rw[mx _ 0 k u a ops[k].dst v nodup (by rw[List.getElem?_map,J];rfl),Nat.zero_add];have I:∀q,q≠k→decide (q<k+1)=decide (q<k):=fun q ab=>by
    rcases Nat.lt_or_ge q k with h|h;·rw[decide_eq_true h,de (by omega)]
    ·rw[cD (by omega:¬q<k),cD (by omega)]
   refine ah (k+1) (dP u k v) b (by omega) (C.trans G) ?_ (fun j S=>?_)
   ·cases y:eC ws k
    ·have R:Fr ag w' b:=by simpa[iE,y]using l
     rw[lN ws m (fun j=>decide (j<k+1)) (fun j=>decide (j<k)) (fun x A=>by
      refine I x.1 ?_;rintro e;have:eC ws k=true:=by
       simp only[eC,List.any_eq_true,beq_iff_eq];exact⟨x.1,List.mem_map.2 ⟨x,A,rfl⟩,e⟩
      rw[y]at this;cases this)];exact kH C R ws m _ Z X F
    ·exact lO B k (fun j=>decide (j<k)) _ b (by simp) (fun q ab=>I q ab) ws m s.1 y (fun x A g=>c x.1 (H x A) g) (fun x _ g=>d x.1 (by rw[g,Bool.or_true])) N
   ·by_cases e:j=k;·subst e;simp only[dP,if_true];exact O
    ·simp only[dP];rw[if_neg e];exact Y.at_ j (u j) w' b C G (M j (by omega))
  rcases hw with⟨z,hw⟩|⟨z,hw⟩
  ·exact wpList_step fun K ac=>by
    rw[if_pos z];exact Oper.wp_mono (fun E b h=>ac _ _ (goal E b h)) hw
  ·unfold wpList;simp only[z,Bool.false_eq_true,if_false];exact goal _ _ hw
theorem iG{P:Program}{id:Nat}{Q:Exit→Act→World→Prop}{a:Act}{w:World}{l:List Oper}(n:Nat)(T:Nat→Prop)(e:List (Value→World→Prop))(ws:List (Nat×(World→Prop)))(b:World→Prop)(B:Nat→Nat→Bool)(d:zH l.toArray n=true)
  (o:gC l.toArray n B=true)(f:(ik B (ws.map (·.1))&&(ws.map (·.1)).all (fun p=>decide (p<n)))=true)
  (h:dz T w e)(i:jo T w ws)(g:∀w' c,Fr T w w'→Fr ag w' c→b w'→b c)(m:b w)
  (q:iM P l.toArray Q T w (fun u=>ar ((l.take n).map (·.dst)) 0 u a) (cp e) ws b B n 0 (l.take n))
  (r:∀u w',Fr T w w'→(∀j,j<n→cp e j (u j) w')→mr ws b w'→wpList P l.toArray Q (l.drop n) (ar ((l.take n).map (·.dst)) 0 u a) w'):(Code.region id l.toArray false).wp P Q a w:=by
 simp only[zH,Bool.and_eq_true,decide_eq_true_eq]at d;obtain⟨s,k⟩:=ib ((l.take n).map (·.dst)) 0 a;refine wp_region_lit ?_;have:=Nq (P:=P) (Q:=Q) (a:=a) d.1.1 (vO d.1.2) d.2 o f h i g (by simpa using q) (by simpa using r) n 0 s w (by omega) az (by rw[kW ws b _ (fun x _=>by simp)];exact m) (fun j t=>by omega);rw[show(l.toArray.toList.take n).map (·.dst)=(l.take n).map (·.dst)by simp,k]at this;simpa using this
end Go.Proofs.YtphjagkehiklkaaGreatDoor
namespace Go.Proofs.YtphjagkehiklkaaGreatDoor
open Go.RowKit
def ig(d:Nat→Bool)(i:Nat):Nat→Bool:=fun j=>if j=i then true else d j
def sV(ops:Array Oper)(n:Nat):Bool:=
 decide (n≤ops.size)&&
 ((List.range n).all fun i=>match ops[i]? with|some a=>a.after.all (fun e=>!Region.binds .any e||decide (e.on<i))|none=>false)&&
 decide (((ops.toList.take n).map (·.dst)).filterMap id).Nodup&&
 (decide (n=ops.size)||(Region.sinkB .any ops n&&Region.chainB .any ops n))&&
 Region.seqB .any ops (ops.size-n) n (Array.replicate n true++Array.replicate (ops.size-n) false)
structure sF(ops:Array Oper)(n:Nat):Prop where
 le:n≤ops.size
 each:∀i a,i<n→ops[i]? =some a→∀e∈a.after,Region.binds .any e=true→e.on<i
 nodup:(((ops.toList.take n).map (·.dst)).filterMap id).Nodup
 tail:n=ops.size∨(Region.sinkB .any ops n=true∧Region.chainB .any ops n=true)
 seq:Region.seqB .any ops (ops.size-n) n (Array.replicate n true++Array.replicate (ops.size-n) false)=true
theorem sF.of{ops:Array Oper}{n:Nat}(h:sV ops n=true):sF ops n:=by
 simp only[sV,Bool.and_eq_true,Bool.or_eq_true,decide_eq_true_eq]at h;obtain⟨⟨⟨⟨a,b⟩,c⟩,d⟩,e⟩:=h;exact⟨a,vO b,c,d,e⟩
theorem zP{P:Program}{ops:Array Oper}{Q:Exit→Act→World→Prop}{a:Act}{n:Nat}(ok:sF ops n)(Inv:(Nat→Bool)→(Nat→Value)→World→Prop)
  (V:∀i o,i<n→ops[i]? =some o→∀d u w',d i=false→(∀j k,d j=true→Region.waitsFor .any ops j k=true→d k=true)→(∀j,Region.waitsFor .any ops i j=true→d j=true∧j<n)→Inv d u w'→
   nT P ops Q o (ar ((ops.toList.take n).map (·.dst)) 0 u a) w' (fun R t=>∃v,R=(ar ((ops.toList.take n).map (·.dst)) 0 u a).put o.dst v∧Inv (ig d i) (dP u i v) t))
  (X:∀d u w',(∀j,j<n→d j=true)→Inv d u w'→wpList P ops Q (ops.toList.drop n) (ar ((ops.toList.take n).map (·.dst)) 0 u a) w'):
  ∀(f:Nat)(listed:Array Bool)(u:Nat→Value)(w':World),HeadInv .any ops n listed→cy (fun j=>!listed.getD j false) n=f→Inv (fun j=>listed.getD j false) u w'→
   wpAny P .any ops Q (f+(ops.size-n)) listed (ar ((ops.toList.take n).map (·.dst)) 0 u a) w':=by
 intro f;induction f with
 |zero=>
  intro listed u w' inv S E;have g:∀j,j<n→listed.getD j false=true:=fun j l=>by simpa using lJ _ n S j l
  have he:listed=Array.replicate n true++Array.replicate (ops.size-n) false:=by
   apply Array.ext;·rw[inv.size];have:=ok.le;simp;omega
   ·intro i D Z;rcases Nat.lt_or_ge i n with c|c;·have:=g i c;rw[Array.getElem_append_left (by simpa using c)];simpa[D]using this
    ·have:=inv.tail i c (by rw[←inv.size];exact D);rw[Array.getElem_append_right (by simpa using c)];simpa[D]using this
  have M:=X _ u w' g E;subst he;have y:(ops.toList.drop n).length=ops.size-n:=by simp
  have:=wpAny_of_seq (P:=P) (md:= .any) (ops:=ops) (Q':=Q) (ops.toList.drop n) n _ (ar ((ops.toList.take n).map (·.dst)) 0 u a) w' (fun j=>by simp[List.getElem?_drop]) (by rw[y];exact ok.seq) M;rw[y]at this;rwa[Nat.zero_add]
 |succ f Y=>
  intro listed u w' inv S E;obtain⟨j,l,N,q⟩:=mM (fun j=>!listed.getD j false) n (by omega);have p:j<ops.size:=by have:=ok.le;omega
  have hunj:listed.getD j true=false:=getD_in (by rw[inv.size];exact p) (by simpa using N);have B:j∈Region.ready .any ops listed:=by
   refine mem_ready.2 ⟨hunj,ops[j],Array.getElem?_eq_getElem p,fun e he w=>?_⟩;have:=ok.each j _ l (Array.getElem?_eq_getElem p) e he w;simpa using q e.on this
  rw[show f+1+(ops.size-n)=(f+(ops.size-n))+1 by omega];refine⟨fun T=>(by rw[T]at B;cases B),fun i c=>?_⟩;obtain⟨J,o,x,C⟩:=mem_ready.1 c;have I:i<ops.size:=(Array.getElem?_eq_some_iff.1 x).1;have b:i<n:=by
   rcases ok.tail with h|⟨W,G⟩;·omega
   ·rcases Nat.lt_or_ge i n with h|h;·exact h
    ·exact absurd c (tail_waits W G (by omega) inv (n-j) j rfl l hunj i h)
  have A:listed.getD i false=false:=getD_both J;have L:(ops.toList.take n)[i]? =some o:=by rw[List.getElem?_take,if_pos b];simpa using x
  have hw:=V i o b x (fun j=>listed.getD j false) u w' A (fun j k l K=>by
   obtain⟨O,r,e,he,w,s⟩:=Region.waitsFor_spec K;subst s;exact inv.closed j O r l e he w) (fun k K=>by
   obtain⟨O,r,e,he,w,s⟩:=Region.waitsFor_spec K;have:O=o:=Option.some.inj (r.symm.trans x);subst this;subst s;have:=ok.each i _ b x e he w;exact⟨C e he w,by omega⟩) E;refine oT x (gm (fun R t U=>?_) hw);obtain⟨v,rfl,F⟩:=U;rw[mx _ 0 i u a o.dst v ok.nodup (by rw[List.getElem?_map,L];rfl),Nat.zero_add];have m:(listed.setIfInBounds i true).getD i false=true:=by
   have H:i<listed.size:=by rw[inv.size];exact I
   simp[H]
  have z:(fun j=>(listed.setIfInBounds i true).getD j false)=ig (fun j=>listed.getD j false) i:=by
   funext j;unfold ig;split;·rename_i e;subst e;exact m
   ·rename_i e;exact getD_set_ne false (fun h=>e h.symm)
  refine Y (listed.setIfInBounds i true) (dP u i v) t (inv.set c b) ?_ (by rw[z];exact F);have:=lI (fun j=>!listed.getD j false) (fun j=>!(listed.setIfInBounds i true).getD j false) i (by simp only[A];rfl) (by simp only[m];rfl) (fun j l=>by simp only[getD_set_ne false (Ne.symm l)]) n b;omega
def iW:List (Nat×Nat×Array Value)→Array Value→Nat→(Nat→Bool)→Array Value
 |[],cs,_,_=>cs
 |(i,a,cs')::r,cs,j,d=>if(a==j&&d i)=true then cs' else iW r cs j d
theorem im{i j:Nat}{d:Nat→Bool}:∀(a:List (Nat×Nat×Array Value))(cs:Array Value),(∀x∈a,x.2.1=j→x.1≠i)→iW a cs j (ig d i)=iW a cs j d
 |[],_,_=>rfl
 |(i',c,cs')::r,cs,h=>by
  have g:=im (d:=d) r cs (fun x f=>h x (by simp[f]));unfold iW;rw[g];by_cases e:c=j;·have b:i'≠i:=h (i',c,cs') (by simp) e;simp only[ig,if_neg b]
  ·have:(c==j)=false:=by simpa using e
   simp only[this,Bool.false_and]
theorem kP{j:Nat}{d:Nat→Bool}:∀(b:List (Nat×Nat×Array Value))(cs:Array Value),(∀x∈b,x.2.1=j→d x.1=false)→iW b cs j d=cs
 |[],_,_=>rfl
 |(i',a,cs')::r,cs,h=>by
  have f:=kP (d:=d) r cs (fun x c=>h x (by simp[c]));unfold iW;rw[f];by_cases e:a=j;·have:d i'=false:=h (i',a,cs') (by simp) e;simp[this]
  ·have:(a==j)=false:=by simpa using e
   simp only[this,Bool.false_and,Bool.false_eq_true,if_false]
theorem qR{j i:Nat}{c:Array Value}{d:Nat→Bool}(g:d i=true):∀(b:List (Nat×Nat×Array Value))(cs:Array Value),(i,j,c)∈b→(∀x∈b,x.2.1=j→x=(i,j,c))→iW b cs j d=c
 |[],_,h,_=>by cases h
 |(i',f,cs')::r,cs,h,hu=>by
  unfold iW;by_cases e:f=j;·have:=hu (i',f,cs') (by simp) e;simp only[Prod.mk.injEq]at this;obtain⟨rfl,rfl,rfl⟩:=this;simp[g]
  ·have k:(i,j,c)∈r:=by
    rcases List.mem_cons.1 h with a|a;·simp only[Prod.mk.injEq]at a;exact absurd a.2.1.symm e
    ·exact a
   have:(f==j)=false:=by simpa using e
   simp only[this,Bool.false_and,Bool.false_eq_true,if_false];exact qR g r cs k (fun x l=>hu x (by simp[l]))
theorem ov{j:Nat}{d d':Nat→Bool}:∀(a:List (Nat×Nat×Array Value))(cs:Array Value),(∀x∈a,d x.1=d' x.1)→iW a cs j d=iW a cs j d'
 |[],_,_=>rfl
 |(i',e,cs')::r,cs,h=>by
  have c:=ov r cs (fun x b=>h x (by simp[b])) (d:=d) (d':=d') (j:=j);unfold iW;rw[c,h (i',e,cs') (by simp)]
def jl(a:List (Value→Prop))(j:Nat):Value→Prop:=a.getD j (fun _=>True)
structure MN(w:World)(ty:TypeId)(e:List (Value→Prop))(f:List (Value→World→Prop))(b:List (Nat×Array Value))(c:List (Nat×Nat×Array Value))(n:Nat)(d:Nat→Bool)(u:Nat→Value)(w':World):Prop where
 fr:Fr ag w w'
 facts:∀j,j<n→d j=true→jl e j (u j)
 mem:(∀x∈c,d x.1=false)→∀j,j<n→d j=true→cp f j (u j) w'
 news:∀j cs,(j,cs)∈b→d j=true→∃g,u j= .pointer (some ⟨g,0,none⟩)∧w.heap.size≤g∧aq w' g ty (iW c cs j d)
 apart:∀j cs a cs',(j,cs)∈b→(a,cs')∈b→j≠a→d j=true→d a=true→u j≠u a
def LQ(a:Act)(d:Option Tmp)(e:Value→Prop)(g:Nat)(ty:TypeId)(cs:Array Value)(w':World)(c:Act)(b:World):Prop:=∃v,c=a.put d v∧e v∧aq b g ty cs∧Fr (fun k=>k=g) w' b
def LC(a:Act)(d:Option Tmp)(f:Value→Prop)(c:Value→World→Prop)(ty:TypeId)(cs:Array Value)(w':World)(e:Act)(b:World):Prop:=∃v,e=a.put d v∧f v∧c v b∧v= .pointer (some ⟨w'.heap.size,0,none⟩)∧dm w' b ty cs
def Nf(a:Act)(d:Option Tmp)(f:Value→Prop)(c:Value→World→Prop)(w':World)(e:Act)(b:World):Prop:=∃v,e=a.put d v∧f v∧c v b∧Fr ag w' b
def Mr(P:Program)(ops:Array Oper)(Q:Exit→Act→World→Prop)(w:World)(ty:TypeId)(F:(Nat→Value)→Act)(a:List (Value→Prop))(b:List (Value→World→Prop))(c:List (Nat×Array Value))(d:List (Nat×Nat×Array Value))(i:Nat)(e:Oper):Prop:=
 match d.find? (fun x=>x.1==i)with
 |some (_,j,cs')=>∀u w' g,Fr ag w w'→(∀j,Region.waitsFor .any ops i j=true→jl a j (u j))→u j= .pointer (some ⟨g,0,none⟩)→(∃cs,(j,cs)∈c∧aq w' g ty cs)→
   nT P ops Q e (F u) w' (LQ (F u) e.dst (jl a i) g ty cs' w')
 |none=>match c.find? (fun x=>x.1==i)with
  |some (_,cs)=>∀u w',Fr ag w w'→(∀j,Region.waitsFor .any ops i j=true→jl a j (u j))→
    nT P ops Q e (F u) w' (LC (F u) e.dst (jl a i) (cp b i) ty cs w')
  |none=>∀u w',Fr ag w w'→(∀j,Region.waitsFor .any ops i j=true→jl a j (u j))→(d.all (fun x=>Region.waitsFor .any ops x.1 i)=true→∀j,Region.waitsFor .any ops i j=true→cp b j (u j) w')→
    nT P ops Q e (F u) w' (Nf (F u) e.dst (jl a i) (cp b i) w')
def qZ(P:Program)(ops:Array Oper)(Q:Exit→Act→World→Prop)(w:World)(ty:TypeId)(F:(Nat→Value)→Act)(b:List (Value→Prop))(c:List (Value→World→Prop))(a:List (Nat×Array Value))(d:List (Nat×Nat×Array Value)):Nat→List Oper→Prop
 |_,[]=>True
 |i,e::r=>Mr P ops Q w ty F b c a d i e∧qZ P ops Q w ty F b c a d (i+1) r
theorem qZ.at_{P:Program}{ops:Array Oper}{Q:Exit→Act→World→Prop}{w:World}{ty:TypeId}{F:(Nat→Value)→Act}{c:List (Value→Prop)}{d:List (Value→World→Prop)}{b:List (Nat×Array Value)}{e:List (Nat×Nat×Array Value)}:
  ∀{l:List Oper}{k:Nat},qZ P ops Q w ty F c d b e k l→∀i g,l[i]? =some g→Mr P ops Q w ty F c d b e (k+i) g
 |[],_,_,_,_,h=>by simp at h
 |f::r,k,h,0,g,a=>by
  have:f=g:=by simpa using a
  subst this;exact h.1
 |f::r,k,h,i+1,g,a=>by
  have:=qZ.at_ h.2 i g (by simpa using a);rw[show k+1+i=k+(i+1)by omega]at this;exact this
def KM(ops:Array Oper)(n:Nat)(a:List Nat)(b:List (Nat×Nat)):Bool:=
 a.all (fun j=>decide (j<n))&&b.all (fun x=>decide (x.1<n)&&a.contains x.2&&Region.waitsFor .any ops x.1 x.2&&!a.contains x.1)&&decide (a.Nodup)&&decide ((b.map (·.2)).Nodup)&&decide ((b.map (·.1)).Nodup)
theorem jC{α:Type}{f:α→Nat}:∀{l:List α},(l.map f).Nodup→∀x∈l,∀y∈l,f x=f y→x=y
 |[],_,x,c,_,_,_=>by cases c
 |z::r,h,x,c,y,d,e=>by
  rw[List.map_cons,List.nodup_cons]at h;rcases List.mem_cons.1 c with rfl|a<;>rcases List.mem_cons.1 d with rfl|b;·rfl
  ·exact absurd (List.mem_map.2 ⟨y,b,e.symm⟩) h.1
  ·exact absurd (List.mem_map.2 ⟨x,a,e⟩) h.1
  ·exact jC h.2 x a y b e
theorem xK{P:Program}{id:Nat}{Q:Exit→Act→World→Prop}{a:Act}{w:World}{l:List Oper}(n:Nat)(ty:TypeId)(av:List (Value→Prop))(ay:List (Value→World→Prop))(W:List (Nat×Array Value))(G:List (Nat×Nat×Array Value))(hm:P.follows .mixedOrders=true)(bc:sV l.toArray n=true)
  (aD:KM l.toArray n (W.map (·.1)) (G.map fun x=>(x.1,x.2.1))=true)
  (aW:dz ag w ay)
  (bd:qZ P l.toArray Q w ty (fun u=>ar ((l.take n).map (·.dst)) 0 u a) av ay W G 0 (l.take n))
  (aX:∀u w',Fr ag w w'→(∀j,j<n→jl av j (u j))→(∀j cs,(j,cs)∈W→∃g,u j= .pointer (some ⟨g,0,none⟩)∧w.heap.size≤g∧aq w' g ty (iW G cs j (fun _=>true)))→
   (∀j cs aj cs',(j,cs)∈W→(aj,cs')∈W→j≠aj→u j≠u aj)→wpList P l.toArray Q (l.drop n) (ar ((l.take n).map (·.dst)) 0 u a) w'):(Code.region id l.toArray true).wp P Q a w:=by
 have ok:=sF.of bc;simp only[KM,Bool.and_eq_true,List.all_eq_true,decide_eq_true_eq,Bool.not_eq_true']at aD;obtain⟨⟨⟨⟨bh,bi⟩,bj⟩,a4⟩,a5⟩:=aD;have aK:∀j cs,(j,cs)∈W→j<n:=fun j cs h=>bh j (List.mem_map.2 ⟨_,h,rfl⟩);have aL:∀i j c,(i,j,c)∈G→i<n∧(∃cs,(j,cs)∈W)∧Region.waitsFor .any l.toArray i j=true∧∀cs,(i,cs)∉W:=by
  intro i j c h;obtain⟨⟨⟨aN,aO⟩,aI⟩,a9⟩:=bi (i,j) (List.mem_map.2 ⟨_,h,rfl⟩);refine⟨aN,?_,aI,fun cs aQ=>?_⟩;·have:=List.contains_iff_mem.1 aO;obtain⟨⟨aj,cs⟩,r,e⟩:=List.mem_map.1 this;exact⟨cs,by simp only at e;rw[←e];exact r⟩
  ·have:(W.map (·.1)).contains i=true:=List.contains_iff_mem.2 (List.mem_map.2 ⟨_,aQ,rfl⟩);rw[a9]at this;cases this
 have a1:∀x∈G,∀y∈G,x.2.1=y.2.1→x=y:=fun x r y aG e=>jC (f:=fun x=>x.2.1) (by rw[List.map_map]at a4;exact a4) x r y aG e;have a6:∀x∈G,∀y∈G,x.1=y.1→x=y:=fun x r y aG e=>jC (f:=fun x=>x.1) (by rw[List.map_map]at a5;exact a5) x r y aG e;have a0:∀x∈W,∀y∈W,x.1=y.1→x=y:=fun x r y aG e=>jC (f:=fun x=>x.1) bj x r y aG e;obtain⟨bk,aY⟩:=ib ((l.take n).map (·.dst)) 0 a;refine wp_region_any hm ?_;have aH:HeadInv .any l.toArray n (Array.replicate l.toArray.size false):=
  ⟨by simp,fun j bn _ a3=>(by rw[getD_replicate_false]at a3;cases a3),fun t _ aX=>getD_in (by simpa using aX) (getD_replicate_false _ _)⟩;have aQ:cy (fun j=>!(Array.replicate l.toArray.size false).getD j false) n=n:=by
  have h:∀m,cy (fun j=>!(Array.replicate l.toArray.size false).getD j false) m=m:=by
   intro m;induction m with
   |zero=>rfl
   |succ m bg=>rw[cy,bg,getD_replicate_false];rfl
  exact h n
 have:=zP (P:=P) (Q:=Q) (a:=a) ok (MN w ty av ay W G n) ?_ ?_ n _ bk w.drew aH aQ
  ⟨az.drew,fun j _ h=>(by rw[getD_replicate_false]at h;cases h),fun _ j _ h=>(by rw[getD_replicate_false]at h;cases h),fun j _ _ h=>(by rw[getD_replicate_false]at h;cases h),fun j _ _ _ _ _ _ h=>(by rw[getD_replicate_false]at h;cases h)⟩;·rw[show(l.toArray.toList.take n).map (·.dst)=(l.take n).map (·.dst)by simp,aY,show n+(l.toArray.size-n)=l.toArray.size by have:=ok.le;omega]at this;exact this
 ·intro i o aU bf d u w' aa K A z;have aV:(l.take n)[i]? =some o:=by rw[List.getElem?_take,if_pos aU];simpa using bf
  have V:=bd.at_ i o aV;rw[Nat.zero_add]at V;have aA:(l.toArray.toList.take n).map (·.dst)=(l.take n).map (·.dst):=by simp
  rw[aA];have I:∀j,Region.waitsFor .any l.toArray i j=true→jl av j (u j):=fun j F=>z.facts j (A j F).2 (A j F).1;have B:∀v j,j≠i→dP u i v j=u j:=fun v j F=>by simp[dP,F]
  have O:∀v,dP u i v i=v:=fun v=>by simp[dP]
  have b:∀j,j≠i→ig d i j=d j:=fun j F=>by simp[ig,F]
  have H:∀v,jl av i v→∀j,j<n→ig d i j=true→jl av j (dP u i v j):=by
   intro v ad j F aS;by_cases e:j=i;·subst e;rw[O];exact ad
   ·rw[B v j e];exact z.facts j F (by rw[←b j e];exact aS)
  have ak:∀v R,(∀x∈G,x.1≠i)→cp ay i v R→Fr ag w' R→(∀x∈G,ig d i x.1=false)→∀j,j<n→ig d i j=true→cp ay j (dP u i v j) R:=by
   intro v R Z ad af an j F aS;by_cases e:j=i;·subst e;rw[O];exact ad
   ·rw[B v j e];exact aW.at_ j (u j) w' R z.fr af (z.mem (fun x r=>by rw[←b x.1 (Z x r)];exact an x r) j F (by rw[←b j e];exact aS))
  unfold Mr at V;split at V
  ·rename_i _ i' j cs' E;have C:=List.mem_of_find?_eq_some E;have am:i'=i:=by simpa using List.find?_some E
   subst am;obtain⟨_,⟨cs,ab⟩,aF,U⟩:=aL _ _ _ C;obtain⟨g,ap,aT,aB⟩:=z.news j cs ab (A j aF).1;have aR:iW G cs j d=cs:=kP G cs (fun x r e=>by
    have:=a1 x r _ C e;subst this;exact aa);rw[aR]at aB;refine gm ?_ (V u w' g z.fr I ap ⟨cs,ab,aB⟩);rintro a2 R⟨v,rfl,ad,bb,af⟩;refine⟨v,rfl,⟨z.fr.aw af (fun k bm e=>by have bl:k=g:=e;omega),H v ad,fun an=>(by have:=an _ C;simp[ig]at this),fun q p hj2 s=>?_,fun q p N S hj2 L D s X=>?_⟩⟩
   ·have D:q≠i':=fun e=>U p (by rw[←e];exact hj2);rw[B v q D];rw[b q D]at s;by_cases e:q=j;·subst e;have:=a0 _ hj2 _ ab rfl;simp only[Prod.mk.injEq]at this;obtain⟨_,rfl⟩:=this;refine⟨g,ap,aT,?_⟩;rw[qR (i:=i') (c:=cs') (by simp[ig]) G _ C (fun x r e=>a1 x r _ C e)];exact bb
    ·obtain⟨g2,M,Y,T⟩:=z.news q p hj2 s;refine⟨g2,M,Y,?_⟩;rw[im G p (fun x r ex a8=>by
      have:=a6 x r _ C a8;subst this;exact e ex.symm)];refine T.fr af (fun a7=>?_);have aM:g2=g:=a7;subst aM;exact z.apart q p j cs hj2 ab e s (A j aF).1 (M.trans ap.symm)
   ·have ah:q≠i':=fun e=>U p (by rw[←e];exact hj2);have ai:N≠i':=fun e=>U S (by rw[←e];exact L);rw[B v q ah,B v N ai];exact z.apart q p N S hj2 L D (by rw[←b q ah];exact s) (by rw[←b N ai];exact X)
  ·rename_i ao;have Z:∀x∈G,x.1≠i:=fun x r e=>by
    have:=List.find?_eq_none.1 ao x r;simp[e]at this
   split at V
   ·rename_i _ i' cs E;have C:=List.mem_of_find?_eq_some E;have am:i'=i:=by simpa using List.find?_some E
    subst am;refine gm ?_ (V u w' z.fr I);rintro a2 R⟨v,rfl,ad,au,rfl,aJ⟩;refine⟨_,rfl,⟨z.fr.trans aJ.fr,H _ ad,ak _ _ Z au aJ.fr,fun q p hj2 s=>?_,fun q p N S hj2 L D s X=>?_⟩⟩
    ·rw[im G p (fun x r _=>Z x r)];by_cases e:q=i'
     ·subst e;have:=a0 _ hj2 _ C rfl;simp only[Prod.mk.injEq]at this;obtain⟨_,rfl⟩:=this;refine⟨w'.heap.size,O _,z.fr.size,?_⟩;rw[kP G _ (fun x r ex=>by
       cases al:d x.1;·rfl
       ·have hw:=(aL x.1 x.2.1 x.2.2 r).2.2.1;rw[ex]at hw;rw[K _ _ al hw]at aa;cases aa)];exact aJ.aE
     ·rw[B _ q e];obtain⟨g2,M,Y,T⟩:=z.news q p hj2 (by rw[←b q e];exact s);exact⟨g2,M,Y,T.fr aJ.fr (fun x=>x)⟩
    ·by_cases ae:q=i';·subst ae;rw[O,B _ N (fun e=>D e.symm)];obtain⟨g3,aZ,be,aP⟩:=z.news N S L (by rw[←b N (fun e=>D e.symm)];exact X);rw[aZ];intro e;have:=aP.lt;simp only[Value.pointer.injEq,Option.some.injEq,Addr.mk.injEq,and_true]at e;omega
     ·by_cases ax:N=i';·subst ax;rw[O,B _ q ae];obtain⟨g2,M,Y,T⟩:=z.news q p hj2 (by rw[←b q ae];exact s);rw[M];intro e;have:=T.lt;simp only[Value.pointer.injEq,Option.some.injEq,Addr.mk.injEq,and_true]at e;omega
      ·rw[B _ q ae,B _ N ax];exact z.apart q p N S hj2 L D (by rw[←b q ae];exact s) (by rw[←b N ax];exact X)
   ·rename_i ac;have U:∀x∈W,x.1≠i:=fun x r e=>by
     have:=List.find?_eq_none.1 ac x r;simp[e]at this
    refine gm ?_ (V u w' z.fr I (fun ba j F=>z.mem (fun x r=>by
     cases al:d x.1;·rfl
     ·rw[K _ _ al (List.all_eq_true.1 ba x r)]at aa;cases aa) j (A j F).2 (A j F).1));rintro a2 R⟨v,rfl,ad,au,af⟩;refine⟨v,rfl,⟨z.fr.trans af,H v ad,ak _ _ Z au af,fun q p hj2 s=>?_,fun q p N S hj2 L D s X=>?_⟩⟩;·have e:q≠i:=U _ hj2;rw[im G p (fun x r _=>Z x r),B v q e];obtain⟨g2,M,Y,T⟩:=z.news q p hj2 (by rw[←b q e];exact s);exact⟨g2,M,Y,T.fr af (fun x=>x)⟩
    ·have ae:q≠i:=U _ hj2;have ax:N≠i:=U _ L;rw[B v q ae,B v N ax];exact z.apart q p N S hj2 L D (by rw[←b q ae];exact s) (by rw[←b N ax];exact X)
 ·intro d u w' J z;have:=aX u w' z.fr (fun j F=>z.facts j F (J j F)) (fun j cs F=>by
   obtain⟨g,aN,aO,aI⟩:=z.news j cs F (J j (aK j cs F));rw[ov G cs (d':=fun _=>true) (fun x r=>J x.1 (aL x.1 x.2.1 x.2.2 r).1)]at aI;exact⟨g,aN,aO,aI⟩) (fun j cs aj cs' F aC D=>z.apart j cs aj cs' F aC D (J j (aK j cs F)) (J aj (aK aj cs' aC)));simpa using this
end Go.Proofs.YtphjagkehiklkaaGreatDoor
namespace Go.Proofs.YtphjagkehiklkaaGreatDoor
open Go.RowKit
def iD(a:Oper):Bool:=match a.op with
 | .defer _=>false
 |_=>true
theorem uc{a:Oper}(h:iD a=true):∀c,a.op≠ .defer c:=fun c e=>by unfold iD at h;rw[e]at h;cases h
theorem Ai{n r:Nat}{P:Program}{row:String}{args:Array Value}{w:World}{a:Value→World→Prop}(h:Rows P row args w a):RowsIn (Fence.wide.inRound r) n P row args w a:=
 fun c cs _=>let⟨v,w',q,s⟩:=h c cs;⟨v,w',q,stepsIn_wide.2 s⟩
theorem xd{r n:Nat}{P:Program}{q:Oper}{a:Act}{w:World}{K j:Act→World→Prop}{Q Q':Exit→Act→World→Prop}(l:iD q=true)(b:∀a w,K a w→j a w)(g:∀e a w,Q e a w→Q' e a w)(h:q.wp P a w K Q):
  q.wpIn (Fence.wide.inRound r) n P a w j Q':=by
 refine⟨fun _ _=>trivial,?_⟩;rw[Oper.semAt_plain _ _ _ (uc l)];unfold Oper.wp at h;generalize(execOp a.eval q).run P w=x at*;have c:((Fence.wide.inRound r).depth.isSome=true→1≤n):=fun h=>(by cases h);rcases x with⟨x,w'⟩|⟨x,w'⟩
 ·cases x with
  |value v=>exact b _ _ h
  |skip=>exact b _ _ h
  |defer d=>exact b _ _ h
  |enter f args=>
   refine⟨c,CallsIn.inRound r (callsIn_wide.2 (Calls.mono h fun e i he=>?_))⟩;cases e with
   |returned v=>exact b _ _ he
   |panicked ch=>exact g _ _ _ he
   |outgrown=>obtain⟨k,w3,m⟩:=he;exact⟨k,w3,g _ _ _ m⟩
  |row p args=>exact⟨c,Ai (h.mono fun v i o=>b _ _ o)⟩
  |_=>exact absurd h id
 ·cases x<;>first|exact g _ _ _ h|exact absurd h id
theorem jy{r n:Nat}{P:Program}{ops:Array Oper}{Q:Exit→Act→World→Prop}:∀{l:List Oper}{a:Act}{w:World},(l.all iD)=true→wpList P ops (fun e a w=>Q e a w∧e= .normal) l a w→wpListIn (Fence.wide.inRound r) n P ops Q l a w
 |[],_,_,_,h=>h.1
 |g::rest,a,w,b,h=>by
  rw[List.all_cons,Bool.and_eq_true]at b;unfold wpList at h;unfold wpListIn;split
  ·rename_i hw;rw[if_pos hw]at h;rcases h with h|⟨_,f,w',c⟩;·exact xd b.1 (fun a w d=>jy b.2 d) (fun _ _ _ c=>c.1) h
   ·exact absurd c.2 (by simp)
  ·rename_i hw;rw[if_neg hw]at h;exact⟨fun _ _=>trivial,jy b.2 h⟩
theorem jc{r n:Nat}{P:Program}{md:Region.Mode}{ops:Array Oper}{Q:Exit→Act→World→Prop}(c:∀(i:Nat)(o:Oper),ops[i]? =some o→iD o=true):
  ∀(fuel:Nat)(listed:Array Bool)(a:Act)(w:World),wpAny P md ops (fun e a w=>Q e a w∧e= .normal) fuel listed a w→wpAnyIn (Fence.wide.inRound r) n P md ops Q fuel listed a w
 |0,_,_,_,h=>⟨h.1,h.2.1⟩
 |fuel+1,listed,a,w,h=>by
  refine⟨fun j=>(h.1 j).1,fun i l=>?_⟩;have b:=h.2 i l;unfold wpOp at b;unfold wpOpIn;cases d:ops[i]? with
  |none=>rw[d]at b;exact jc c fuel _ _ _ b
  |some o=>
   rw[d]at b;simp only at b⊢;split at b
   ·rename_i hw;rw[if_pos hw];rcases b with k|⟨_,g,w',f⟩;·exact xd (c i o d) (fun g w' m=>jc c fuel _ g w' m) (fun _ _ _ f=>f.1) k
    ·exact absurd f.2 (by simp)
   ·rename_i hw;rw[if_neg hw];exact⟨fun _ _=>trivial,jc c fuel _ _ _ b⟩
theorem Gc{P:Program}{Q:Exit→Act→World→Prop}{a:Act}{w:World}{l:List Oper}(n:Nat)(ty:TypeId)(av:List (Value→Prop))(ay:List (Value→World→Prop))(W:List (Nat×Array Value))(G:List (Nat×Nat×Array Value))(bc:sV l.toArray n=true)
  (aD:KM l.toArray n (W.map (·.1)) (G.map fun x=>(x.1,x.2.1))=true)
  (aW:dz ag w ay)
  (bd:qZ P l.toArray Q w ty (fun u=>ar ((l.take n).map (·.dst)) 0 u a) av ay W G 0 (l.take n))
  (aX:∀u w',Fr ag w w'→(∀j,j<n→jl av j (u j))→(∀j cs,(j,cs)∈W→∃g,u j= .pointer (some ⟨g,0,none⟩)∧w.heap.size≤g∧aq w' g ty (iW G cs j (fun _=>true)))→
   (∀j cs aj cs',(j,cs)∈W→(aj,cs')∈W→j≠aj→u j≠u aj)→wpList P l.toArray Q (l.drop n) (ar ((l.take n).map (·.dst)) 0 u a) w'):wpAny P .any l.toArray Q l.toArray.size (Array.replicate l.toArray.size false) a w.drew:=by
 have ok:=sF.of bc;simp only[KM,Bool.and_eq_true,List.all_eq_true,decide_eq_true_eq,Bool.not_eq_true']at aD;obtain⟨⟨⟨⟨bh,bi⟩,bj⟩,a4⟩,a5⟩:=aD;have aK:∀j cs,(j,cs)∈W→j<n:=fun j cs h=>bh j (List.mem_map.2 ⟨_,h,rfl⟩);have aL:∀i j c,(i,j,c)∈G→i<n∧(∃cs,(j,cs)∈W)∧Region.waitsFor .any l.toArray i j=true∧∀cs,(i,cs)∉W:=by
  intro i j c h;obtain⟨⟨⟨aN,aO⟩,aI⟩,a9⟩:=bi (i,j) (List.mem_map.2 ⟨_,h,rfl⟩);refine⟨aN,?_,aI,fun cs aQ=>?_⟩;·have:=List.contains_iff_mem.1 aO;obtain⟨⟨aj,cs⟩,r,e⟩:=List.mem_map.1 this;exact⟨cs,by simp only at e;rw[←e];exact r⟩
  ·have:(W.map (·.1)).contains i=true:=List.contains_iff_mem.2 (List.mem_map.2 ⟨_,aQ,rfl⟩);rw[a9]at this;cases this
 have a1:∀x∈G,∀y∈G,x.2.1=y.2.1→x=y:=fun x r y aG e=>jC (f:=fun x=>x.2.1) (by rw[List.map_map]at a4;exact a4) x r y aG e;have a6:∀x∈G,∀y∈G,x.1=y.1→x=y:=fun x r y aG e=>jC (f:=fun x=>x.1) (by rw[List.map_map]at a5;exact a5) x r y aG e;have a0:∀x∈W,∀y∈W,x.1=y.1→x=y:=fun x r y aG e=>jC (f:=fun x=>x.1) bj x r y aG e;obtain⟨bk,aY⟩:=ib ((l.take n).map (·.dst)) 0 a;have aH:HeadInv .any l.toArray n (Array.replicate l.toArray.size false):=
  ⟨by simp,fun j bn _ a3=>(by rw[getD_replicate_false]at a3;cases a3),fun t _ aX=>getD_in (by simpa using aX) (getD_replicate_false _ _)⟩;have aQ:cy (fun j=>!(Array.replicate l.toArray.size false).getD j false) n=n:=by
  have h:∀m,cy (fun j=>!(Array.replicate l.toArray.size false).getD j false) m=m:=by
   intro m;induction m with
   |zero=>rfl
   |succ m bg=>rw[cy,bg,getD_replicate_false];rfl
  exact h n
 have:=zP (P:=P) (Q:=Q) (a:=a) ok (MN w ty av ay W G n) ?_ ?_ n _ bk w.drew aH aQ
  ⟨az.drew,fun j _ h=>(by rw[getD_replicate_false]at h;cases h),fun _ j _ h=>(by rw[getD_replicate_false]at h;cases h),fun j _ _ h=>(by rw[getD_replicate_false]at h;cases h),fun j _ _ _ _ _ _ h=>(by rw[getD_replicate_false]at h;cases h)⟩;·rw[show(l.toArray.toList.take n).map (·.dst)=(l.take n).map (·.dst)by simp,aY,show n+(l.toArray.size-n)=l.toArray.size by have:=ok.le;omega]at this;exact this
 ·intro i o aU bf d u w' aa K A z;have aV:(l.take n)[i]? =some o:=by rw[List.getElem?_take,if_pos aU];simpa using bf
  have V:=bd.at_ i o aV;rw[Nat.zero_add]at V;have aA:(l.toArray.toList.take n).map (·.dst)=(l.take n).map (·.dst):=by simp
  rw[aA];have I:∀j,Region.waitsFor .any l.toArray i j=true→jl av j (u j):=fun j F=>z.facts j (A j F).2 (A j F).1;have B:∀v j,j≠i→dP u i v j=u j:=fun v j F=>by simp[dP,F]
  have O:∀v,dP u i v i=v:=fun v=>by simp[dP]
  have b:∀j,j≠i→ig d i j=d j:=fun j F=>by simp[ig,F]
  have H:∀v,jl av i v→∀j,j<n→ig d i j=true→jl av j (dP u i v j):=by
   intro v ad j F aS;by_cases e:j=i;·subst e;rw[O];exact ad
   ·rw[B v j e];exact z.facts j F (by rw[←b j e];exact aS)
  have ak:∀v R,(∀x∈G,x.1≠i)→cp ay i v R→Fr ag w' R→(∀x∈G,ig d i x.1=false)→∀j,j<n→ig d i j=true→cp ay j (dP u i v j) R:=by
   intro v R Z ad af an j F aS;by_cases e:j=i;·subst e;rw[O];exact ad
   ·rw[B v j e];exact aW.at_ j (u j) w' R z.fr af (z.mem (fun x r=>by rw[←b x.1 (Z x r)];exact an x r) j F (by rw[←b j e];exact aS))
  unfold Mr at V;split at V
  ·rename_i _ i' j cs' E;have C:=List.mem_of_find?_eq_some E;have am:i'=i:=by simpa using List.find?_some E
   subst am;obtain⟨_,⟨cs,ab⟩,aF,U⟩:=aL _ _ _ C;obtain⟨g,ap,aT,aB⟩:=z.news j cs ab (A j aF).1;have aR:iW G cs j d=cs:=kP G cs (fun x r e=>by
    have:=a1 x r _ C e;subst this;exact aa);rw[aR]at aB;refine gm ?_ (V u w' g z.fr I ap ⟨cs,ab,aB⟩);rintro a2 R⟨v,rfl,ad,bb,af⟩;refine⟨v,rfl,⟨z.fr.aw af (fun k bm e=>by have bl:k=g:=e;omega),H v ad,fun an=>(by have:=an _ C;simp[ig]at this),fun q p hj2 s=>?_,fun q p N S hj2 L D s X=>?_⟩⟩
   ·have D:q≠i':=fun e=>U p (by rw[←e];exact hj2);rw[B v q D];rw[b q D]at s;by_cases e:q=j;·subst e;have:=a0 _ hj2 _ ab rfl;simp only[Prod.mk.injEq]at this;obtain⟨_,rfl⟩:=this;refine⟨g,ap,aT,?_⟩;rw[qR (i:=i') (c:=cs') (by simp[ig]) G _ C (fun x r e=>a1 x r _ C e)];exact bb
    ·obtain⟨g2,M,Y,T⟩:=z.news q p hj2 s;refine⟨g2,M,Y,?_⟩;rw[im G p (fun x r ex a8=>by
      have:=a6 x r _ C a8;subst this;exact e ex.symm)];refine T.fr af (fun a7=>?_);have aM:g2=g:=a7;subst aM;exact z.apart q p j cs hj2 ab e s (A j aF).1 (M.trans ap.symm)
   ·have ah:q≠i':=fun e=>U p (by rw[←e];exact hj2);have ai:N≠i':=fun e=>U S (by rw[←e];exact L);rw[B v q ah,B v N ai];exact z.apart q p N S hj2 L D (by rw[←b q ah];exact s) (by rw[←b N ai];exact X)
  ·rename_i ao;have Z:∀x∈G,x.1≠i:=fun x r e=>by
    have:=List.find?_eq_none.1 ao x r;simp[e]at this
   split at V
   ·rename_i _ i' cs E;have C:=List.mem_of_find?_eq_some E;have am:i'=i:=by simpa using List.find?_some E
    subst am;refine gm ?_ (V u w' z.fr I);rintro a2 R⟨v,rfl,ad,au,rfl,aJ⟩;refine⟨_,rfl,⟨z.fr.trans aJ.fr,H _ ad,ak _ _ Z au aJ.fr,fun q p hj2 s=>?_,fun q p N S hj2 L D s X=>?_⟩⟩
    ·rw[im G p (fun x r _=>Z x r)];by_cases e:q=i'
     ·subst e;have:=a0 _ hj2 _ C rfl;simp only[Prod.mk.injEq]at this;obtain⟨_,rfl⟩:=this;refine⟨w'.heap.size,O _,z.fr.size,?_⟩;rw[kP G _ (fun x r ex=>by
       cases al:d x.1;·rfl
       ·have hw:=(aL x.1 x.2.1 x.2.2 r).2.2.1;rw[ex]at hw;rw[K _ _ al hw]at aa;cases aa)];exact aJ.aE
     ·rw[B _ q e];obtain⟨g2,M,Y,T⟩:=z.news q p hj2 (by rw[←b q e];exact s);exact⟨g2,M,Y,T.fr aJ.fr (fun x=>x)⟩
    ·by_cases ae:q=i';·subst ae;rw[O,B _ N (fun e=>D e.symm)];obtain⟨g3,aZ,be,aP⟩:=z.news N S L (by rw[←b N (fun e=>D e.symm)];exact X);rw[aZ];intro e;have:=aP.lt;simp only[Value.pointer.injEq,Option.some.injEq,Addr.mk.injEq,and_true]at e;omega
     ·by_cases ax:N=i';·subst ax;rw[O,B _ q ae];obtain⟨g2,M,Y,T⟩:=z.news q p hj2 (by rw[←b q ae];exact s);rw[M];intro e;have:=T.lt;simp only[Value.pointer.injEq,Option.some.injEq,Addr.mk.injEq,and_true]at e;omega
      ·rw[B _ q ae,B _ N ax];exact z.apart q p N S hj2 L D (by rw[←b q ae];exact s) (by rw[←b N ax];exact X)
   ·rename_i ac;have U:∀x∈W,x.1≠i:=fun x r e=>by
     have:=List.find?_eq_none.1 ac x r;simp[e]at this
    refine gm ?_ (V u w' z.fr I (fun ba j F=>z.mem (fun x r=>by
     cases al:d x.1;·rfl
     ·rw[K _ _ al (List.all_eq_true.1 ba x r)]at aa;cases aa) j (A j F).2 (A j F).1));rintro a2 R⟨v,rfl,ad,au,af⟩;refine⟨v,rfl,⟨z.fr.trans af,H v ad,ak _ _ Z au af,fun q p hj2 s=>?_,fun q p N S hj2 L D s X=>?_⟩⟩;·have e:q≠i:=U _ hj2;rw[im G p (fun x r _=>Z x r),B v q e];obtain⟨g2,M,Y,T⟩:=z.news q p hj2 (by rw[←b q e];exact s);exact⟨g2,M,Y,T.fr af (fun x=>x)⟩
    ·have ae:q≠i:=U _ hj2;have ax:N≠i:=U _ L;rw[B v q ae,B v N ax];exact z.apart q p N S hj2 L D (by rw[←b q ae];exact s) (by rw[←b N ax];exact X)
 ·intro d u w' J z;have:=aX u w' z.fr (fun j F=>z.facts j F (J j F)) (fun j cs F=>by
   obtain⟨g,aN,aO,aI⟩:=z.news j cs F (J j (aK j cs F));rw[ov G cs (d':=fun _=>true) (fun x r=>J x.1 (aL x.1 x.2.1 x.2.2 r).1)]at aI;exact⟨g,aN,aO,aI⟩) (fun j cs aj cs' F aC D=>z.apart j cs aj cs' F aC D (J j (aK j cs F)) (J aj (aK aj cs' aC)));simpa using this
theorem pc{r m:Nat}{P:Program}{id:Nat}{Q:Exit→Act→World→Prop}{a:Act}{w:World}{l:List Oper}(n:Nat)(ty:TypeId)(d:List (Value→Prop))(f:List (Value→World→Prop))(b:List (Nat×Array Value))(c:List (Nat×Nat×Array Value))(hm:P.follows .mixedOrders=true)(p:(l.all iD)=true)(q:sV l.toArray n=true)
  (h:KM l.toArray n (b.map (·.1)) (c.map fun x=>(x.1,x.2.1))=true)
  (k:dz ag w f)
  (s:qZ P l.toArray (fun e a w=>Q e a w∧e= .normal) w ty (fun u=>ar ((l.take n).map (·.dst)) 0 u a) d f b c 0 (l.take n))
  (v:∀u w',Fr ag w w'→(∀j,j<n→jl d j (u j))→(∀j cs,(j,cs)∈b→∃g,u j= .pointer (some ⟨g,0,none⟩)∧w.heap.size≤g∧aq w' g ty (iW c cs j (fun _=>true)))→
   (∀j cs o cs',(j,cs)∈b→(o,cs')∈b→j≠o→u j≠u o)→wpList P l.toArray (fun e a w=>Q e a w∧e= .normal) (l.drop n) (ar ((l.take n).map (·.dst)) 0 u a) w'):(Code.region id l.toArray true).wpIn (Fence.wide.inRound r) m P Q a w:=by
 refine wpIn_region_any hm (jc (fun i y t=>?_) _ _ _ _ (Gc n ty d f b c q h k s v));exact List.all_eq_true.1 p y (List.mem_of_getElem? (by simpa using t))
theorem dz.is{T:Nat→Prop}{w:World}:∀V:List Value,dz T w (V.map Is)
 |[]=>trivial
 |x::r=>⟨Is.ah x,dz.is r⟩
theorem vU:∀(V:List Value)(j:Nat)(w:World),cp (V.map Is) j (V.getD j undef) w
 |[],_,_=>trivial
 |_::_,0,_=>rfl
 |_::r,j+1,w=>vU r j w
theorem pH:∀(V:List Value)(j:Nat)(v:Value)(w:World),j<V.length→cp (V.map Is) j v w→v=V.getD j undef
 |_::_,0,_,_,_,h=>h
 |_::r,j+1,v,w,a,h=>pH r j v w (by simpa using a) h
def JE(a:Act)(d:Option Tmp)(w:World)(v:Value)(b:Act)(w':World):Prop:=b=a.put d v∧Fr ag w w'
def qo(P:Program)(ops:Array Oper)(Q:Exit→Act→World→Prop)(w:World)(F:(Nat→Value)→Act)(V:List Value):Nat→List Oper→Prop
 |_,[]=>True
 |i,a::r=>(∀u w',Fr ag w w'→(∀j,(_:Region.waitsFor .any ops i j=true:=by kernel_rfl)→cp (V.map Is) j (u j) w')→nT P ops Q a (F u) w' (JE (F u) a.dst w' (V.getD i undef)))∧qo P ops Q w F V (i+1) r
theorem qo.st{P:Program}{ops:Array Oper}{Q:Exit→Act→World→Prop}{w:World}{F:(Nat→Value)→Act}{V:List Value}{n:Nat}:∀{l:List Oper}{i:Nat},qo P ops Q w F V i l→iM P ops Q ag w F (cp (V.map Is)) [] (fun _=>True) (fun _ _=>false) n i l
 |[],_,_=>trivial
 |_::_,i,h=>⟨fun u w' _ c b _ _ _=>gm (fun _ a⟨e,f⟩=>⟨_,e,f,vU V i a,trivial⟩) (h.1 u w' c (fun j d=>b j d)),qo.st h.2⟩
theorem bV{P:Program}{ops:Array Oper}{Q:Exit→Act→World→Prop}{b:Oper}{a:Act}{w:World}(h:Region.wanted b (yielded ops a.tmps)=false:=by kernel_rfl):nT P ops Q b a w (JE a b.dst w undef):= .inr ⟨h,rfl,az⟩
theorem aF{P:Program}{ops:Array Oper}{Q:Exit→Act→World→Prop}{b:Oper}{a:Act}{w:World}{K:Act→World→Prop}(h:b.wp P a w K Q)(hw:Region.wanted b (yielded ops a.tmps)=true:=by kernel_rfl):nT P ops Q b a w K:= .inl ⟨hw,h⟩
theorem z1{α:Type}{n:Nat}{a:α}{l:List α}:(a::l).take (n+1)=a::l.take n:=rfl
theorem z2{α:Type}{l:List α}:l.take 0=[]:=rfl
theorem z3{α β:Type}{f:α→β}{a:α}{l:List α}:(a::l).map f=f a::l.map f:=rfl
theorem z4{α β:Type}{f:α→β}:([]:List α).map f=[]:=rfl
theorem z5{α:Type}{i:Nat}{a:α}{l:List α}:l.toArray.setIfInBounds i a=(l.set i a).toArray:=List.setIfInBounds_toArray ..
theorem z6{α:Type}{a b:α}{l:List α}:(a::l).set 0 b=b::l:=rfl
theorem z7{α:Type}{n:Nat}{a b:α}{l:List α}:(a::l).set (n+1) b=a::l.set n b:=rfl
theorem z8{α:Type}{n:Nat}{a:α}{l:List α}:(a::l).drop (n+1)=l.drop n:=rfl
theorem z9{α:Type}{l:List α}:l.drop 0=l:=rfl
theorem jX{α:Type}{a d:α}{l:List α}:(a::l).getD 0 d=a:=rfl
theorem jY{α:Type}{n:Nat}{a d:α}{l:List α}:(a::l).getD (n+1) d=l.getD n d:=rfl
theorem Cx(ds:List (Option Tmp))(V:List Value)(u:Nat→Value)(a:Act)(e:ds.length≤V.length)(h:∀j,j<V.length→u j=V.getD j undef):ar ds 0 u a=ar ds 0 (fun j=>V.getD j undef) a:=by
 have:∀(ds:List (Option Tmp))(k:Nat)(a:Act),k+ds.length≤V.length→ar ds k u a=ar ds k (fun j=>V.getD j undef) a:=by
  intro ds;induction ds with
  |nil=>intro k a _;rfl
  |cons d r c=>
   intro k a b;simp only[List.length_cons]at b;rw[ar,ar,h k (by omega)];exact c (k+1) _ (by omega)
 exact this ds 0 a (by omega)
theorem jn{P:Program}{id:Nat}{Q:Exit→Act→World→Prop}{a:Act}{w:World}{l:List Oper}(n:Nat)(V:List Value)
  (f:qo P l.toArray Q w (fun u=>ar ((l.take n).map (·.dst)) 0 u a) V 0 (l.take n))
  (k:∀w',Fr ag w w'→wpList P l.toArray Q (l.drop n) (ar ((l.take n).map (·.dst)) 0 (fun j=>V.getD j undef) a) w')(i:V.length=n:=by rfl)(hm:P.follows .mixedOrders=true:=by kernel_rfl)(e:pJ l.toArray n=true:=by kernel_rfl)(b:gC l.toArray n (fun _ _=>false)=true:=by kernel_rfl):(Code.region id l.toArray true).wp P Q a w:=by
 refine ay n ag (V.map Is) [] (fun _=>True) (fun _ _=>false) hm e b (by simp[ik]) (dz.is V) trivial (fun _ _ _ _ h=>h) trivial f.st ?_;intro u w' d c _;rw[Cx _ V u a (by rw[i,List.length_map,List.length_take];omega) (fun j g=>pH V j (u j) w' g (c j (by omega)))];exact k w' d
theorem ln{P:Program}{id:Nat}{Q:Exit→Act→World→Prop}{a:Act}{w:World}{l:List Oper}(n:Nat)(V:List Value)
  (f:qo P l.toArray Q w (fun u=>ar ((l.take n).map (·.dst)) 0 u a) V 0 (l.take n))
  (k:∀w',Fr ag w w'→wpList P l.toArray Q (l.drop n) (ar ((l.take n).map (·.dst)) 0 (fun j=>V.getD j undef) a) w')(i:V.length=n:=by rfl)(e:zH l.toArray n=true:=by kernel_rfl)(b:gC l.toArray n (fun _ _=>false)=true:=by kernel_rfl):(Code.region id l.toArray false).wp P Q a w:=by
 refine iG n ag (V.map Is) [] (fun _=>True) (fun _ _=>false) e b (by simp[ik]) (dz.is V) trivial (fun _ _ _ _ h=>h) trivial f.st ?_;intro u w' d c _;rw[Cx _ V u a (by rw[i,List.length_map,List.length_take];omega) (fun j g=>pH V j (u j) w' g (c j (by omega)))];exact k w' d
structure Fact where
 p:Value→World→Prop
 st:∀v w w',Fr ag w w'→p v w→p v w'
def iS(x:Value):Fact:=⟨Is x,fun _ _ _ _ h=>h⟩
def lZ:Fact:=⟨fun _ _=>True,fun _ _ _ _ _=>trivial⟩
theorem dz.fact{w:World}:∀V:List Fact,dz ag w (V.map Fact.p)
 |[]=>trivial
 |x::r=>⟨fun v w' a _ f h=>x.st v w' a f h,dz.fact r⟩
theorem jP:∀(V:List Fact)(j:Nat),cp (V.map Fact.p) j=(V.getD j lZ).p
 |[],_=>rfl
 |_::_,0=>rfl
 |_::r,j+1=>jP r j
def JD(a:Act)(d:Option Tmp)(w:World)(p:Value→World→Prop)(b:Act)(w':World):Prop:=∃v,b=a.put d v∧Fr ag w w'∧p v w'
def qm(P:Program)(ops:Array Oper)(Q:Exit→Act→World→Prop)(w:World)(F:(Nat→Value)→Act)(V:List Fact):Nat→List Oper→Prop
 |_,[]=>True
 |i,a::r=>(∀u w',Fr ag w w'→(∀j,(_:Region.waitsFor .any ops i j=true:=by kernel_rfl)→(V.getD j lZ).p (u j) w')→nT P ops Q a (F u) w' (JD (F u) a.dst w' (V.getD i lZ).p))∧qm P ops Q w F V (i+1) r
theorem qm.st{P:Program}{ops:Array Oper}{Q:Exit→Act→World→Prop}{w:World}{F:(Nat→Value)→Act}{V:List Fact}{n:Nat}:∀{l:List Oper}{i:Nat},qm P ops Q w F V i l→iM P ops Q ag w F (cp (V.map Fact.p)) [] (fun _=>True) (fun _ _=>false) n i l
 |[],_,_=>trivial
 |_::_,i,h=>⟨fun u w' _ b a _ _ _=>gm (fun _ d⟨v,e,f,q⟩=>⟨v,e,f,by rw[jP];exact q,trivial⟩) (h.1 u w' b (fun j c=>by have:=a j c;rw[jP]at this;exact this)),qm.st h.2⟩
theorem jL{P:Program}{ops:Array Oper}{Q:Exit→Act→World→Prop}{b:Oper}{a:Act}{w:World}(h:Region.wanted b (yielded ops a.tmps)=false:=by kernel_rfl):nT P ops Q b a w (JD a b.dst w (Is undef)):= .inr ⟨h,_,rfl,az,rfl⟩
theorem xJ{P:Program}{id:Nat}{Q:Exit→Act→World→Prop}{a:Act}{w:World}{l:List Oper}(n:Nat)(V:List Fact)
  (f:qm P l.toArray Q w (fun u=>ar ((l.take n).map (·.dst)) 0 u a) V 0 (l.take n))
  (i:∀u w',Fr ag w w'→(∀j,j<n→(V.getD j lZ).p (u j) w')→wpList P l.toArray Q (l.drop n) (ar ((l.take n).map (·.dst)) 0 u a) w')
  (hm:P.follows .mixedOrders=true:=by kernel_rfl)(e:pJ l.toArray n=true:=by kernel_rfl)(b:gC l.toArray n (fun _ _=>false)=true:=by kernel_rfl):(Code.region id l.toArray true).wp P Q a w:=by
 refine ay n ag (V.map Fact.p) [] (fun _=>True) (fun _ _=>false) hm e b (by simp[ik]) (dz.fact V) trivial (fun _ _ _ _ h=>h) trivial f.st ?_;intro u w' d c _;exact i u w' d (fun j g=>by have:=c j g;rw[jP]at this;exact this)
theorem At{P:Program}{id:Nat}{Q:Exit→Act→World→Prop}{a:Act}{w:World}{l:List Oper}(n:Nat)(V:List Fact)
  (f:qm P l.toArray Q w (fun u=>ar ((l.take n).map (·.dst)) 0 u a) V 0 (l.take n))
  (i:∀u w',Fr ag w w'→(∀j,j<n→(V.getD j lZ).p (u j) w')→wpList P l.toArray Q (l.drop n) (ar ((l.take n).map (·.dst)) 0 u a) w')
  (e:zH l.toArray n=true:=by kernel_rfl)(b:gC l.toArray n (fun _ _=>false)=true:=by kernel_rfl):(Code.region id l.toArray false).wp P Q a w:=by
 refine iG n ag (V.map Fact.p) [] (fun _=>True) (fun _ _=>false) e b (by simp[ik]) (dz.fact V) trivial (fun _ _ _ _ h=>h) trivial f.st ?_;intro u w' d c _;exact i u w' d (fun j g=>by have:=c j g;rw[jP]at this;exact this)
end Go.Proofs.YtphjagkehiklkaaGreatDoor
namespace Go.Proofs.YtphjagkehiklkaaGreatDoor.Lt
open Go.RowKit
def bm(w:World)(v:Value)(e:Ending)(w':World):Prop:=e= .returned v∧w=w'
end Go.Proofs.YtphjagkehiklkaaGreatDoor.Lt
