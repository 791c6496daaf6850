/- Texts. -/
import Derived.Deep.RegionHeld3
import Derived.LaidMore
import Derived.Lib.ItoaNum
import Derived.OwnWalkIn
import Derived.ProofKit
import Derived.RangeFuncCalls
import Derived.Shelf.Small.Bits
import Derived.Stop.LaidErr
import Derived.TacticsInMore
import Derived.Test.YtphjagkehiklkaaGreatDoorRows
import Derived.Test.YtphjagkehiklkaaGreatDoorXK01
set_option linter.unusedVariables false
set_option linter.unusedSimpArgs false
namespace Go.Proofs.YtphjagkehiklkaaGreatDoor
open Go.RowKit
def ar:List (Option Tmp)→Nat→(Nat→Value)→Act→Act
 |[],_,_,a=>a
 |d::r,k,u,a=>ar r (k+1) u (a.put d (u k))
def dN(u:Nat→Value)(i:Nat)(v:Value):Nat→Value:=fun j=>if j=i then v else u j
theorem DJ(a:Act)(x:Option Tmp)(v b:Value):(a.put x v).put x b=a.put x b:=by
 cases x with
 |none=>rfl
 |some d=>simp[Act.put]
theorem GJ(a:Act)(x:Option Tmp):∃v,a.put x v=a:=by
 cases x with
 |none=>exact⟨undef,rfl⟩
 |some d=>
  refine⟨a.tmps.getD d undef,?_⟩;have:a.tmps.setIfInBounds d (a.tmps.getD d undef)=a.tmps:=by
   apply Array.ext;·simp
   ·intro i c b;rw[Array.getElem_setIfInBounds (by simpa using b)];split;·rename_i e;subst e;simp[b]
    ·rfl
  simp only[Act.put,this]
theorem mx:∀(ds:List (Option Tmp))(k:Nat)(u b:Nat→Value)(a:Act),(∀j,k≤j→u j=b j)→ar ds k u a=ar ds k b a
 |[],_,_,_,_,_=>rfl
 |d::r,k,u,b,a,h=>by
  rw[ar,ar,h k (Nat.le_refl _)];exact mx r (k+1) u b _ (fun j c=>h j (by omega))
theorem tj:∀(ds:List (Option Tmp))(k:Nat)(u:Nat→Value)(a:Act)(x:Option Tmp)(v:Value),x∉ds→(ar ds k u a).put x v=ar ds k u (a.put x v)
 |[],_,_,_,_,_,_=>rfl
 |d::r,k,u,a,x,v,h=>by
  rw[ar,ar,tj r (k+1) u _ x v (fun hm=>h (by simp[hm]))];congr 1;exact Act.put_comm a (u k) v (fun e b c=>h (by rw[b,c];simp))
theorem gH:∀(ds:List (Option Tmp))(k:Nat)(a:Act),∃u,ar ds k u a=a
 |[],_,_=>⟨fun _=>undef,rfl⟩
 |d::r,k,a=>by
  obtain⟨v,b⟩:=GJ a d;obtain⟨u,hu⟩:=gH r (k+1) a;refine⟨dN u k v,?_⟩;rw[ar,show dN u k v k=v by simp[dN],b];rw[mx r (k+1) (dN u k v) u a (fun j c=>by simp only[dN];rw[if_neg (by omega)])];exact hu
def ct(p:Nat→Bool):Nat→Nat
 |0=>0
 |n+1=>ct p n+(if p n=true then 1 else 0)
theorem pT(p q:Nat→Bool):∀n,(∀j,j<n→p j=q j)→ct p n=ct q n
 |0,_=>rfl
 |n+1,h=>by rw[ct,ct,pT p q n (fun j a=>h j (by omega)),h n (by omega)]
theorem kT(p q:Nat→Bool)(i:Nat)(a:p i=true)(b:q i=false)(h:∀j,j≠i→q j=p j):∀n,i<n→ct q n+1=ct p n
 |0,d=>by omega
 |n+1,d=>by
  rw[ct,ct];by_cases e:i=n;·subst e;rw[a,b,pT q p i (fun j f=>h j (by omega))];simp
  ·have:=kT p q i a b h n (by omega);rw[h n (fun c=>e c.symm)];omega
theorem mj(p:Nat→Bool):∀n,ct p n≠0→∃j,j<n∧p j=true∧∀k,k<j→p k=false
 |0,h=>absurd rfl h
 |n+1,h=>by
  by_cases c:ct p n=0
  ·have a:∀m,ct p m=0→∀k,k<m→p k=false:=by
    intro m;induction m with
    |zero=>intro _ k f;omega
    |succ m g=>
     intro hm k f;rw[ct]at hm;rcases Nat.lt_or_ge k m with b|b;·exact g (by omega) k b
     ·have:k=m:=by omega
      subst this;cases d:p k;·rfl
      ·rw[d]at hm;simp at hm
   refine⟨n,by omega,?_,a n c⟩;cases d:p n;·rw[ct,c,d]at h;simp at h
   ·rfl
  ·obtain⟨j,i,b,e⟩:=mj p n c;exact⟨j,by omega,b,e⟩
theorem kU(p:Nat→Bool):∀n,ct p n=0→∀j,j<n→p j=false
 |0,_,_,b=>by omega
 |n+1,h,j,b=>by
  rw[ct]at h;rcases Nat.lt_or_ge j n with a|a;·exact kU p n (by omega) j a
  ·have:j=n:=by omega
   subst this;cases c:p j;·rfl
   ·rw[c]at h;simp at h
def IF(ops:Array Oper)(n:Nat):Bool:=
 decide (n≤ops.size)&&
 ((List.range n).all fun i=>match ops[i]? with|some a=>a.dst.isSome&&a.after.all (fun e=>!Region.binds .any e||decide (e.on<i))|none=>false)&&
 decide ((ops.toList.take n).map (·.dst)).Nodup&&
 (decide (n=ops.size)||(Region.sinkB .any ops n&&Region.chainB .any ops n))&&
 Region.seqB .any ops (ops.size-n) n (Array.replicate n true++Array.replicate (ops.size-n) false)
structure Ek(ops:Array Oper)(n:Nat):Prop where
 le:n≤ops.size
 each:∀i a,i<n→ops[i]? =some a→a.dst.isSome=true∧∀e∈a.after,Region.binds .any e=true→e.on<i
 nodup:((ops.toList.take n).map (·.dst)).Nodup
 tail:n=ops.size∨(Region.sinkB .any ops n=true∧Region.chainB .any ops n=true)
 seq:Region.seqB .any ops (ops.size-n) n (Array.replicate n true++Array.replicate (ops.size-n) false)=true
theorem Ek.of{ops:Array Oper}{n:Nat}(h:IF ops n=true):Ek ops n:=by
 simp only[IF,Bool.and_eq_true,Bool.or_eq_true,decide_eq_true_eq]at h;obtain⟨⟨⟨⟨a,b⟩,c⟩,d⟩,f⟩:=h;refine⟨a,fun i l j k=>?_,c,d,f⟩;have h:=List.all_eq_true.1 b i (List.mem_range.2 j);rw[k]at h;simp only[Bool.and_eq_true]at h;refine⟨h.1,fun e he g=>?_⟩;have:=(Array.all_eq_true_iff_forall_mem.1 h.2) e he;simpa[g]using this
def BV(a:Act)(d:Option Tmp)(T:Nat→Prop)(w:World)(e:Value→World→Prop)(c:Act)(b:World):Prop:=∃v,c=a.put d v∧Fr T w b∧e v b
def mX(P:Program)(ops:Array Oper)(Q:Exit→Act→World→Prop)(b:Oper)(a:Act)(w:World)(K:Act→World→Prop):Prop:=
 (Region.wanted b (yielded ops a.tmps)=true∧b.wp P a w K Q)∨(Region.wanted b (yielded ops a.tmps)=false∧K (a.put b.dst undef) w)
def oV(P:Program)(ops:Array Oper)(Q:Exit→Act→World→Prop)(C:World→Prop)(T:Nat→Nat→Prop)(E:Nat→World→Prop)(F:(Nat→Value)→Act)(a:Nat→Value→World→Prop):Nat→List Oper→Prop
 |_,[]=>True
 |i,b::r=>(∀u w',C w'→E i w'→(∀j,(_:Region.waitsFor .any ops i j=true:=by kernel_rfl)→a j (u j) w')→mX P ops Q b (F u) w' (BV (F u) b.dst (T i) w' (a i)))∧oV P ops Q C T E F a (i+1) r
theorem oV.at_{P:Program}{ops:Array Oper}{Q:Exit→Act→World→Prop}{C:World→Prop}{T:Nat→Nat→Prop}{E:Nat→World→Prop}{F:(Nat→Value)→Act}{c:Nat→Value→World→Prop}:∀{l:List Oper}{k:Nat},oV P ops Q C T E F c k l→
  ∀i d,l[i]? =some d→∀u w',C w'→E (k+i) w'→(∀j,Region.waitsFor .any ops (k+i) j=true→c j (u j) w')→mX P ops Q d (F u) w' (BV (F u) d.dst (T (k+i)) w' (c (k+i)))
 |[],_,_,_,_,h=>by simp at h
 |b::r,k,h,0,d,a=>by
  have:b=d:=by simpa using a
  subst this;exact h.1
 |b::r,k,h,i+1,d,a=>by
  have:=oV.at_ h.2 i d (by simpa using a);rwa[show k+1+i=k+(i+1)by omega]at this
theorem og{P:Program}{ops:Array Oper}{Q:Exit→Act→World→Prop}{i:Nat}{c:Oper}{K:Act→World→Prop}{a:Act}{w:World}(b:ops[i]? =some c)(h:mX P ops Q c a w K):wpOp P ops Q i K a w:=by
 unfold wpOp;rw[b];rcases h with⟨hw,h⟩|⟨hw,h⟩;·simp only[hw,if_true];exact .inl h
 ·simp only[hw,Bool.false_eq_true,if_false];exact h
theorem fK{P:Program}{ops:Array Oper}{Q:Exit→Act→World→Prop}{d:Oper}{K b:Act→World→Prop}{a:Act}{w:World}(c:∀a w,K a w→b a w)(h:mX P ops Q d a w K):mX P ops Q d a w b:=by
 rcases h with⟨hw,h⟩|⟨hw,h⟩;·exact .inl ⟨hw,Oper.wp_mono c h⟩
 ·exact .inr ⟨hw,c _ _ h⟩
structure LD(C:World→Prop)(T:Nat→Nat→Prop)(E:Nat→World→Prop)(b:Nat→Value→World→Prop):Prop where
 c:∀i w' a,C w'→Fr (T i) w' a→C a
 e:∀i j w' a,i≠j→C w'→Fr (T i) w' a→E j w'→E j a
 r:∀i j v w' a,i≠j→C w'→Fr (T i) w' a→b j v w'→b j v a
def cm(a:List (Value→World→Prop))(j:Nat):Value→World→Prop:=a.getD j (fun _ _=>True)
def Is(x:Value):Value→World→Prop:=fun v _=>v=x
def du(T:Nat→Prop)(w:World):List (Value→World→Prop)→Prop
 |[]=>True
 |p::r=>(∀v w' a,Fr T w w'→Fr T w' a→p v w'→p v a)∧du T w r
theorem du.at_{T:Nat→Prop}{w:World}:∀{b:List (Value→World→Prop)},du T w b→∀j v w' a,Fr T w w'→Fr T w' a→cm b j v w'→cm b j v a
 |[],_,_,_,_,_,_,_,_=>trivial
 |_::_,h,0,v,w',a,c,d,e=>h.1 v w' a c d e
 |_::_,h,j+1,v,w',a,c,d,e=>du.at_ h.2 j v w' a c d e
theorem Is.ag{T:Nat→Prop}{w:World}(x:Value):∀v w' a,Fr T w w'→Fr T w' a→Is x v w'→Is x v a:=fun _ _ _ _ _ h=>h
def tO(P:Program)(ops:Array Oper)(Q:Exit→Act→World→Prop)(T:Nat→Prop)(w:World)(F:(Nat→Value)→Act)(a:Nat→Value→World→Prop):Nat→List Oper→Prop
 |_,[]=>True
 |i,b::r=>(∀u w',Fr T w w'→(∀j,(_:Region.waitsFor .any ops i j=true:=by kernel_rfl)→a j (u j) w')→b.wp P (F u) w' (BV (F u) b.dst T w' (a i)) Q)∧tO P ops Q T w F a (i+1) r
theorem tO.all{P:Program}{ops:Array Oper}{Q:Exit→Act→World→Prop}{T:Nat→Prop}{w:World}{F:(Nat→Value)→Act}{d:Nat→Value→World→Prop}:∀{l:List Oper}{k:Nat},(l.all fun e=>e.guard.isNone)=true→tO P ops Q T w F d k l→oV P ops Q (Fr T w) (fun _=>T) (fun _ _=>True) F d k l
 |[],_,_,_=>trivial
 |e::r,k,a,h=>by
  simp only[List.all_cons,Bool.and_eq_true,Option.isNone_iff_eq_none]at a;exact⟨fun u w' hw _ b=> .inl ⟨by simp[Region.wanted,a.1],h.1 u w' hw (fun j c=>b j c)⟩,tO.all a.2 h.2⟩
end Go.Proofs.YtphjagkehiklkaaGreatDoor
namespace Go.Proofs.YtphjagkehiklkaaGreatDoor
open Go.RowKit
def dn:List (Nat×(World→Prop))→(World→Prop)→(Nat→Bool)→World→Prop
 |[],M,_=>M
 |(p,a)::r,M,d=>if d p=true then dn r a d else M
def ep(ws:List (Nat×(World→Prop)))(i:Nat):Bool:=(ws.map (·.1)).any (fun p=>p==i)
def gU(ws:List (Nat×(World→Prop)))(T:Nat→Prop)(i:Nat):Nat→Prop:=if ep ws i=true then T else ah
def kP:List (Nat×(World→Prop))→Nat→World→Prop
 |[],_=>fun _=>True
 |(p,a)::r,i=>if(p==i)=true then a else kP r i
def lQ:List (Nat×(World→Prop))→(World→Prop)→World→Prop
 |[],M=>M
 |(_,a)::r,_=>lQ r a
def gK(B:Nat→Nat→Bool):List Nat→Bool
 |[]=>true
 |p::r=>r.all (fun q=>B p q&&!(q==p))&&gK B r
def fN(ops:Array Oper)(n:Nat)(B:Nat→Nat→Bool):Bool:=
 (List.range n).all fun j=>(List.range n).all fun i=>!B i j||(Region.waitsFor .any ops j i||(List.range j).any fun k=>Region.waitsFor .any ops j k&&B i k)
def iX(T:Nat→Prop)(w:World):List (Nat×(World→Prop))→Prop
 |[]=>True
 |(_,M)::r=>(∀w' a,Fr T w w'→Fr ah w' a→M w'→M a)∧iX T w r
theorem kA:∀(ws:List (Nat×(World→Prop)))(M:World→Prop)(d:Nat→Bool),(∀x∈ws,d x.1=false)→dn ws M d=M
 |[],_,_,_=>rfl
 |(p,a)::r,M,d,h=>by
  have:d p=false:=h (p,a) (by simp);simp only[dn,this,Bool.false_eq_true,if_false]
theorem oa:∀(ws:List (Nat×(World→Prop)))(M:World→Prop)(d:Nat→Bool),(∀x∈ws,d x.1=true)→dn ws M d=lQ ws M
 |[],_,_,_=>rfl
 |(p,a)::r,M,d,h=>by
  have:d p=true:=h (p,a) (by simp);simp only[dn,this,if_true,lQ];exact oa r a d (fun x b=>h x (by simp[b]))
theorem kZ:∀(ws:List (Nat×(World→Prop)))(M:World→Prop)(d d':Nat→Bool),(∀x∈ws,d x.1=d' x.1)→dn ws M d=dn ws M d'
 |[],_,_,_,_=>rfl
 |(p,a)::r,M,d,d',h=>by
  have b:d p=d' p:=h (p,a) (by simp);simp only[dn,b,kZ r a d d' (fun x c=>h x (by simp[c]))]
theorem kj{T:Nat→Prop}{w w' a:World}(b:Fr T w w')(c:Fr ah w' a):∀(ws:List (Nat×(World→Prop)))(M:World→Prop)(d:Nat→Bool),iX T w ws→(∀w' a,Fr T w w'→Fr ah w' a→M w'→M a)→dn ws M d w'→dn ws M d a
 |[],M,_,_,e,h=>e _ _ b c h
 |(p,i)::r,M,d,g,e,h=>by
  simp only[dn]at h⊢;split at h;·rename_i f;rw[if_pos f];exact kj b c r i d g.2 g.1 h
  ·rename_i f;rw[if_neg f];exact e _ _ b c h
theorem ld(B:Nat→Nat→Bool)(p:Nat)(d d':Nat→Bool)(b:World)(o:d' p=true)(k:∀q,q≠p→d' q=d q):
  ∀(ws:List (Nat×(World→Prop)))(M:World→Prop),gK B (ws.map (·.1))=true→ep ws p=true→(∀x∈ws,B x.1 p=true→d x.1=true)→(∀x∈ws,B p x.1=true→d x.1=false)→kP ws p b→dn ws M d' b
 |[],_,_,hw,_,_,_=>by simp[ep]at hw
 |(q,l)::r,M,i,hw,n,m,g=>by
  simp only[List.map_cons,gK,Bool.and_eq_true,List.all_eq_true]at i;by_cases e:q=p
  ·subst e;simp only[kP,beq_self_eq_true,if_true]at g;simp only[dn,o,if_true];rw[kA];·exact g
   ·intro x c;have f:=i.1 x.1 (List.mem_map.2 ⟨x,c,rfl⟩);simp only[Bool.not_eq_true',beq_eq_false_iff_ne]at f;rw[k _ f.2];exact m x (by simp[c]) f.1
  ·have a:ep r p=true:=by
    simp only[ep,List.map_cons,List.any_cons,Bool.or_eq_true,beq_iff_eq]at hw;rcases hw with h|h;·exact absurd h e
    ·exact h
   have j:p∈r.map (·.1):=by
    simp only[ep,List.any_eq_true,beq_iff_eq]at a;obtain⟨y,u,rfl⟩:=a;exact u
   have f:=i.1 p j;have t:d q=true:=n (q,l) (by simp) f.1;have s:(q==p)=false:=by simpa using e
   simp only[kP,s,Bool.false_eq_true,if_false]at g;simp only[dn,k q e,t,if_true];exact ld B p d d' b o k r l i.2 a (fun x c=>n x (by simp[c])) (fun x c=>m x (by simp[c])) g
def uh(a:Act)(d:Option Tmp)(T:Nat→Prop)(w:World)(e:Value→World→Prop)(M:World→Prop)(c:Act)(b:World):Prop:=∃v,c=a.put d v∧Fr T w b∧e v b∧M b
def ig(P:Program)(ops:Array Oper)(Q:Exit→Act→World→Prop)(T:Nat→Prop)(w:World)(F:(Nat→Value)→Act)(b:Nat→Value→World→Prop)(ws:List (Nat×(World→Prop)))(a:World→Prop)(B:Nat→Nat→Bool)(n:Nat):Nat→List Oper→Prop
 |_,[]=>True
 |i,c::r=>(∀u w' d,Fr T w w'→(∀j,(_:Region.waitsFor .any ops i j=true:=by kernel_rfl)→b j (u j) w')→(∀p,p<n→B p i=true→d p=true)→(∀p,(p==i||B i p)=true→d p=false)→dn ws a d w'→
   mX P ops Q c (F u) w' (uh (F u) c.dst (gU ws T i) w' (b i) (kP ws i)))∧ig P ops Q T w F b ws a B n (i+1) r
theorem ig.at_{P:Program}{ops:Array Oper}{Q:Exit→Act→World→Prop}{T:Nat→Prop}{w:World}{F:(Nat→Value)→Act}{e:Nat→Value→World→Prop}{ws:List (Nat×(World→Prop))}{b:World→Prop}{B:Nat→Nat→Bool}{n:Nat}:
  ∀{l:List Oper}{k:Nat},ig P ops Q T w F e ws b B n k l→∀i f,l[i]? =some f→∀u w' d,Fr T w w'→(∀j,Region.waitsFor .any ops (k+i) j=true→e j (u j) w')→(∀p,p<n→B p (k+i)=true→d p=true)→(∀p,(p==k+i||B (k+i) p)=true→d p=false)→dn ws b d w'→
   mX P ops Q f (F u) w' (uh (F u) f.dst (gU ws T (k+i)) w' (e (k+i)) (kP ws (k+i)))
 |[],_,_,_,_,h=>by simp at h
 |c::r,k,h,0,f,a=>by
  have:c=f:=by simpa using a
  subst this;exact h.1
 |c::r,k,h,i+1,f,a=>by
  have:=ig.at_ h.2 i f (by simpa using a);rw[show k+1+i=k+(i+1)by omega]at this;exact this
theorem iB{ops:Array Oper}{n:Nat}{B:Nat→Nat→Bool}{listed:Array Bool}(o:fN ops n B=true)(inv:HeadInv .any ops n listed):
  ∀j,j<n→listed.getD j false=true→∀i,i<n→B i j=true→listed.getD i false=true:=by
 have direct:∀j k,listed.getD j false=true→Region.waitsFor .any ops j k=true→listed.getD k false=true:=by
  intro j k c d;obtain⟨q,f,e,he,a,g⟩:=Region.waitsFor_spec d;subst g;exact inv.closed j q f c e he a
 intro j;induction j using Nat.strongRecOn with
 |_ j p=>
  intro c m i l a;have h:=List.all_eq_true.1 (List.all_eq_true.1 o j (List.mem_range.2 c)) i (List.mem_range.2 l);simp only[a,Bool.not_true,Bool.false_or,Bool.or_eq_true,List.any_eq_true,Bool.and_eq_true,List.mem_range]at h;rcases h with h|⟨k,d,hw,b⟩;·exact direct j i m h
  ·exact p k d (by omega) (direct j k m hw) i l b
theorem vw:∀(ds:List (Option Tmp))(k i:Nat)(u:Nat→Value)(a:Act)(v:Value),ds[i]? =some none→ar ds k (dN u (k+i) v) a=ar ds k u a
 |[],_,_,_,_,_,h=>by simp at h
 |d::r,k,0,u,a,v,h=>by
  have b:d=none:=by simpa using h
  subst b;rw[ar,ar];exact mx r (k+1) _ _ _ (fun j c=>by simp only[dN];rw[if_neg (by omega)])
 |d::r,k,i+1,u,a,v,h=>by
  rw[ar,ar,show dN u (k+(i+1)) v k=u k by simp only[dN];rw[if_neg (by omega)],show k+(i+1)=(k+1)+i by omega];exact vw r (k+1) i u _ v (by simpa using h)
theorem lT:∀(ds:List (Option Tmp))(k i:Nat)(u:Nat→Value)(a:Act)(x:Option Tmp)(v:Value),(ds.filterMap id).Nodup→ds[i]? =some x→(ar ds k u a).put x v=ar ds k (dN u (k+i) v) a
 |ds,k,i,u,a,none,v,_,h=>by rw[vw ds k i u a v h];rfl
 |[],_,_,_,_,some _,_,_,h=>by simp at h
 |d::r,k,0,u,a,some t,v,b,h=>by
  have g:d=some t:=by simpa using h
  subst g;have e:some t∉r:=by
   intro hm;simp only[List.filterMap_cons_some (show id (some t)=some t from rfl),List.nodup_cons]at b;exact b.1 (List.mem_filterMap.2 ⟨_,hm,rfl⟩)
  rw[ar,ar,tj r (k+1) u _ (some t) v e,DJ];rw[show dN u (k+0) v k=v by simp[dN]];exact mx r (k+1) _ _ _ (fun j l=>by simp only[dN];rw[if_neg (by omega)])
 |d::r,k,i+1,u,a,some t,v,b,h=>by
  have c:(r.filterMap id).Nodup:=by
   cases d with
   |none=>simpa using b
   |some f=>simp only[List.filterMap_cons_some (show id (some f)=some f from rfl),List.nodup_cons]at b;exact b.2
  rw[ar,ar,show dN u (k+(i+1)) v k=u k by simp only[dN];rw[if_neg (by omega)],show k+(i+1)=(k+1)+i by omega];exact lT r (k+1) i u _ (some t) v c (by simpa using h)
def oU(ops:Array Oper)(n:Nat):Bool:=
 decide (n≤ops.size)&&
 ((List.range n).all fun i=>match ops[i]? with|some a=>a.after.all (fun e=>!Region.binds .any e||decide (e.on<i))|none=>false)&&
 decide (((ops.toList.take n).map (·.dst)).filterMap id).Nodup&&
 (decide (n=ops.size)||(Region.sinkB .any ops n&&Region.chainB .any ops n))&&
 Region.seqB .any ops (ops.size-n) n (Array.replicate n true++Array.replicate (ops.size-n) false)
structure qd(ops:Array Oper)(n:Nat):Prop where
 le:n≤ops.size
 each:∀i a,i<n→ops[i]? =some a→∀e∈a.after,Region.binds .any e=true→e.on<i
 nodup:(((ops.toList.take n).map (·.dst)).filterMap id).Nodup
 tail:n=ops.size∨(Region.sinkB .any ops n=true∧Region.chainB .any ops n=true)
 seq:Region.seqB .any ops (ops.size-n) n (Array.replicate n true++Array.replicate (ops.size-n) false)=true
theorem uJ{ops:Array Oper}{n:Nat}(a:((List.range n).all fun i=>match ops[i]? with|some f=>f.after.all (fun e=>!Region.binds .any e||decide (e.on<i))|none=>false)=true):
  ∀i f,i<n→ops[i]? =some f→∀e∈f.after,Region.binds .any e=true→e.on<i:=by
 intro i f c d e he b;have h:=List.all_eq_true.1 a i (List.mem_range.2 c);rw[d]at h;have:=(Array.all_eq_true_iff_forall_mem.1 h) e he;simpa[b]using this
theorem qd.of{ops:Array Oper}{n:Nat}(h:oU ops n=true):qd ops n:=by
 simp only[oU,Bool.and_eq_true,Bool.or_eq_true,decide_eq_true_eq]at h;obtain⟨⟨⟨⟨a,b⟩,c⟩,d⟩,e⟩:=h;exact⟨a,uJ b,c,d,e⟩
theorem Jk{P:Program}{ops:Array Oper}{Q:Exit→Act→World→Prop}{T:Nat→Prop}{w:World}{a:Act}{X:List (Value→World→Prop)}{ws:List (Nat×(World→Prop))}{t:World→Prop}{B:Nat→Nat→Bool}{n:Nat}(ok:qd ops n)(ab:fN ops n B=true)
  (F:(gK B (ws.map (·.1))&&(ws.map (·.1)).all (fun p=>decide (p<n)))=true)
  (ap:du T w X)(aq:iX T w ws)(ao:∀w' g,Fr T w w'→Fr ah w' g→t w'→t g)
  (az:ig P ops Q T w (fun u=>ar ((ops.toList.take n).map (·.dst)) 0 u a) (cm X) ws t B n 0 (ops.toList.take n))
  (aC:∀u w',Fr T w w'→(∀j,j<n→cm X j (u j) w')→lQ ws t w'→wpList P ops Q (ops.toList.drop n) (ar ((ops.toList.take n).map (·.dst)) 0 u a) w'):
  ∀(f:Nat)(listed:Array Bool)(u:Nat→Value)(w':World),HeadInv .any ops n listed→ct (fun j=>!listed.getD j false) n=f→Fr T w w'→dn ws t (fun j=>listed.getD j false) w'→
   (∀j,j<n→listed.getD j false=true→cm X j (u j) w')→wpAny P .any ops Q (f+(ops.size-n)) listed (ar ((ops.toList.take n).map (·.dst)) 0 u a) w':=by
 rw[Bool.and_eq_true]at F;have S:∀x∈ws,x.1<n:=fun x E=>by simpa using List.all_eq_true.1 F.2 x.1 (List.mem_map.2 ⟨x,E,rfl⟩)
 intro f;induction f with
 |zero=>
  intro listed u w' inv aw L M Y;have hall:∀j,j<n→listed.getD j false=true:=fun j z=>by simpa using kU _ n aw j z
  have he:listed=Array.replicate n true++Array.replicate (ops.size-n) false:=by
   apply Array.ext;·rw[inv.size];have:=ok.le;simp;omega
   ·intro i aa aG;rcases Nat.lt_or_ge i n with y|y;·have:=hall i y;rw[Array.getElem_append_left (by simpa using y)];simpa[aa]using this
    ·have:=inv.tail i y (by rw[←inv.size];exact aa);rw[Array.getElem_append_right (by simpa using y)];simpa[aa]using this
  rw[oa ws t _ (fun x E=>hall x.1 (S x E))]at M;subst he;have N:(ops.toList.drop n).length=ops.size-n:=by simp
  have:=wpAny_of_seq (P:=P) (md:= .any) (ops:=ops) (Q':=Q) (ops.toList.drop n) n _ (ar ((ops.toList.take n).map (·.dst)) 0 u a) w' (fun j=>by simp[List.getElem?_drop]) (by rw[N];exact ok.seq) (aC u w' L (fun j z=>Y j z (hall j z)) M);rw[N]at this;rwa[Nat.zero_add]
 |succ f aD=>
  intro listed u w' inv aw L M Y;obtain⟨j,z,au,I⟩:=mj (fun j=>!listed.getD j false) n (by omega);have H:j<ops.size:=by have:=ok.le;omega
  have D:listed.getD j true=false:=getD_in (by rw[inv.size];exact H) (by simpa using au);have R:j∈Region.ready .any ops listed:=by
   refine mem_ready.2 ⟨D,ops[j],Array.getElem?_eq_getElem H,fun e he l=>?_⟩;have:=ok.each j _ z (Array.getElem?_eq_getElem H) e he l;simpa using I e.on this
  rw[show f+1+(ops.size-n)=(f+(ops.size-n))+1 by omega];refine⟨fun ax=>(by rw[ax]at R;cases R),fun i y=>?_⟩;obtain⟨al,o,U,W⟩:=mem_ready.1 y;have ak:i<ops.size:=(Array.getElem?_eq_some_iff.1 U).1;have m:i<n:=by
   rcases ok.tail with h|⟨aB,ag⟩;·omega
   ·rcases Nat.lt_or_ge i n with h|h;·exact h
    ·exact absurd y (tail_waits aB ag (by omega) inv (n-j) j rfl z D i h)
  have G:listed.getD i false=false:=getD_both al;have V:(ops.toList.take n)[i]? =some o:=by rw[List.getElem?_take,if_pos m];simpa using U
  have b:∀k,Region.waitsFor .any ops i k=true→k<i∧listed.getD k false=true:=by
   intro k A;obtain⟨aE,am,e,he,l,an⟩:=Region.waitsFor_spec A;have:aE=o:=Option.some.inj (am.symm.trans U);subst this;subst an;exact⟨ok.each i _ m U e he l,W e he l⟩
  have c:∀p,p<n→B p i=true→listed.getD p false=true:=by
   intro p s l;have h:=List.all_eq_true.1 (List.all_eq_true.1 ab i (List.mem_range.2 m)) p (List.mem_range.2 s);simp only[l,Bool.not_true,Bool.false_or,Bool.or_eq_true,List.any_eq_true,Bool.and_eq_true,List.mem_range]at h;rcases h with h|⟨k,A,hw,ae⟩;·exact(b p h).2
   ·exact iB ab inv k (by omega) (b k hw).2 p s ae
  have d:∀p,(p==i||B i p)=true→listed.getD p false=false:=by
   intro p s;simp only[Bool.or_eq_true,beq_iff_eq]at s;rcases s with rfl|l;·exact G
   ·rcases Nat.lt_or_ge p n with J|J
    ·cases Z:listed.getD p false;·rfl
     ·have:=iB ab inv p J Z i m l;rw[G]at this;cases this
    ·rcases Nat.lt_or_ge p ops.size with av|av;·exact getD_both (inv.tail p J av)
     ·have:¬p<listed.size:=by rw[inv.size];omega
      simp[this]
  have hw:=az.at_ i o V u w' (fun j=>listed.getD j false) L (fun k A=>by
   rw[Nat.zero_add]at A;exact Y k (by have:=(b k A).1;omega) (b k A).2) (fun p s l=>by rw[Nat.zero_add]at l;exact c p s l) (fun p s=>by rw[Nat.zero_add]at s;exact d p s) M;rw[Nat.zero_add]at hw;refine og U (fK (fun aF g ay=>?_) hw);obtain⟨v,rfl,r,ad,ac⟩:=ay;have O:Fr T w' g:=by
   unfold gU at r;split at r;·exact r
   ·exact r.bJ
  rw[lT _ 0 i u a o.dst v ok.nodup (by rw[List.getElem?_map,V];rfl),Nat.zero_add];have C:(listed.setIfInBounds i true).getD i false=true:=by
   have aj:i<listed.size:=by rw[inv.size];exact ak
   simp[aj]
  refine aD (listed.setIfInBounds i true) (dN u i v) g (inv.set y m) ?_ (L.trans O) ?_ (fun k A Z=>?_);·have:=kT (fun j=>!listed.getD j false) (fun j=>!(listed.setIfInBounds i true).getD j false) i (by simp only[G];rfl) (by simp only[C];rfl) (fun j z=>by simp only[getD_set_ne false (Ne.symm z)]) n m;omega
  ·cases K:ep ws i
   ·have ai:Fr ah w' g:=by simpa[gU,K]using r
    have af:=kZ ws t (fun j=>(listed.setIfInBounds i true).getD j false) (fun j=>listed.getD j false) (fun x E=>by
     have:i≠x.1:=by
      rintro rfl;have:ep ws x.1=true:=by
       simp only[ep,List.any_eq_true,beq_iff_eq];exact⟨x.1,List.mem_map.2 ⟨x,E,rfl⟩,rfl⟩
      rw[K]at this;cases this
     simp only[getD_set_ne false this]);rw[af];exact kj L ai ws t _ aq ao M
   ·exact ld B i (fun j=>listed.getD j false) _ g C (fun q aA=>by simp only[getD_set_ne false (Ne.symm aA)]) ws t F.1 K (fun x E l=>c x.1 (S x E) l) (fun x E l=>d x.1 (by rw[l,Bool.or_true])) ac
  ·by_cases e:k=i;·subst e;simp only[dN,if_true];exact ad
   ·simp only[dN];rw[if_neg e];rw[getD_set_ne false (fun h=>e h.symm)]at Z;exact ap.at_ k (u k) w' g L O (Y k A Z)
theorem ay{P:Program}{id:Nat}{Q:Exit→Act→World→Prop}{a:Act}{w:World}{l:List Oper}(n:Nat)(T:Nat→Prop)(f:List (Value→World→Prop))(ws:List (Nat×(World→Prop)))(b:World→Prop)(B:Nat→Nat→Bool)(hm:P.follows .mixedOrders=true)(z:oU l.toArray n=true)
  (v:fN l.toArray n B=true)(g:(gK B (ws.map (·.1))&&(ws.map (·.1)).all (fun p=>decide (p<n)))=true)
  (k:du T w f)(o:iX T w ws)(i:∀w' e,Fr T w w'→Fr ah w' e→b w'→b e)(s:b w.drew)
  (A:ig P l.toArray Q T w (fun u=>ar ((l.take n).map (·.dst)) 0 u a) (cm f) ws b B n 0 (l.take n))
  (q:∀u w',Fr T w w'→(∀j,j<n→cm f j (u j) w')→lQ ws b w'→wpList P l.toArray Q (l.drop n) (ar ((l.take n).map (·.dst)) 0 u a) w'):(Code.region id l.toArray true).wp P Q a w:=by
 have ok:=qd.of z;obtain⟨D,r⟩:=gH ((l.take n).map (·.dst)) 0 a;refine wp_region_any hm ?_;have d:HeadInv .any l.toArray n (Array.replicate l.toArray.size false):=
  ⟨by simp,fun j F _ c=>(by rw[getD_replicate_false]at c;cases c),fun t _ q=>getD_in (by simpa using q) (getD_replicate_false _ _)⟩;have y:ct (fun j=>!(Array.replicate l.toArray.size false).getD j false) n=n:=by
  have h:∀m,ct (fun j=>!(Array.replicate l.toArray.size false).getD j false) m=m:=by
   intro m;induction m with
   |zero=>rfl
   |succ m C=>rw[ct,C,getD_replicate_false];rfl
  exact h n
 have:=Jk (P:=P) (Q:=Q) (a:=a) ok v g k o i (by simpa using A) (by simpa using q) n _ D w.drew d y (az.drew) (by rw[kA ws b _ (fun x _=>getD_replicate_false _ _)];exact s) (fun j E c=>by rw[getD_replicate_false]at c;cases c);rw[show(l.toArray.toList.take n).map (·.dst)=(l.take n).map (·.dst)by simp,r,show n+(l.toArray.size-n)=l.toArray.size by have:=ok.le;omega]at this;exact this
theorem uu{ops:Array Oper}{n:Nat}{B:Nat→Nat→Bool}(m:fN ops n B=true)(each:∀i q,i<n→ops[i]? =some q→∀e∈q.after,Region.binds .any e=true→e.on<i):
  ∀j,j<n→∀i,i<n→B i j=true→i<j:=by
 have direct:∀j k,j<n→Region.waitsFor .any ops j k=true→k<j:=by
  intro j k a d;obtain⟨p,f,e,he,b,g⟩:=Region.waitsFor_spec d;subst g;exact each j p a f e he b
 intro j;induction j using Nat.strongRecOn with
 |_ j o=>
  intro a i l b;have h:=List.all_eq_true.1 (List.all_eq_true.1 m j (List.mem_range.2 a)) i (List.mem_range.2 l);simp only[b,Bool.not_true,Bool.false_or,Bool.or_eq_true,List.any_eq_true,Bool.and_eq_true,List.mem_range]at h;rcases h with h|⟨k,d,hw,c⟩;·exact direct j i a h
  ·have:=o k d (by omega) i l c;omega
def yu(ops:Array Oper)(n:Nat):Bool:=
 decide (n≤ops.size)&&
 ((List.range n).all fun i=>match ops[i]? with|some a=>a.after.all (fun e=>!Region.binds .any e||decide (e.on<i))|none=>false)&&
 decide (((ops.toList.take n).map (·.dst)).filterMap id).Nodup
theorem Lb{P:Program}{ops:Array Oper}{Q:Exit→Act→World→Prop}{T:Nat→Prop}{w:World}{a:Act}{D:List (Value→World→Prop)}{ws:List (Nat×(World→Prop))}{m:World→Prop}{B:Nat→Nat→Bool}{n:Nat}(hle:n≤ops.size)
  (each:∀i o,i<n→ops[i]? =some o→∀e∈o.after,Region.binds .any e=true→e.on<i)(nodup:(((ops.toList.take n).map (·.dst)).filterMap id).Nodup)(aa:fN ops n B=true)
  (s:(gK B (ws.map (·.1))&&(ws.map (·.1)).all (fun p=>decide (p<n)))=true)
  (Y:du T w D)(Z:iX T w ws)(X:∀w' b,Fr T w w'→Fr ah w' b→m w'→m b)
  (ad:ig P ops Q T w (fun u=>ar ((ops.toList.take n).map (·.dst)) 0 u a) (cm D) ws m B n 0 (ops.toList.take n))
  (af:∀u w',Fr T w w'→(∀j,j<n→cm D j (u j) w')→lQ ws m w'→wpList P ops Q (ops.toList.drop n) (ar ((ops.toList.take n).map (·.dst)) 0 u a) w'):
  ∀(f k:Nat)(u:Nat→Value)(w':World),k+f=n→Fr T w w'→dn ws m (fun j=>decide (j<k)) w'→(∀j,j<k→cm D j (u j) w')→wpList P ops Q (ops.toList.drop k) (ar ((ops.toList.take n).map (·.dst)) 0 u a) w':=by
 rw[Bool.and_eq_true]at s;have H:∀x∈ws,x.1<n:=fun x A=>by simpa using List.all_eq_true.1 s.2 x.1 (List.mem_map.2 ⟨x,A,rfl⟩)
 intro f;induction f with
 |zero=>
  intro k u w' ae C F M;obtain rfl:k=n:=by omega
  rw[oa ws m _ (fun x A=>cT (H x A))]at F;exact af u w' C M F
 |succ f ag=>
  intro k u w' ae C F M;have hkn:k<n:=by omega
  have U:k<ops.size:=by omega
  have J:(ops.toList.take n)[k]? =some ops[k]:=by rw[List.getElem?_take,if_pos hkn];simp
  have t:ops.toList.drop k=ops[k]::ops.toList.drop (k+1):=by
   rw[List.drop_eq_getElem_cons (by simpa using U)];simp
  have c:∀p,p<n→B p k=true→decide (p<k)=true:=fun p r g=>cT (uu aa each k hkn p r g);have d:∀p,(p==k||B k p)=true→decide (p<k)=false:=by
   intro p r;simp only[Bool.or_eq_true,beq_iff_eq]at r;rcases r with rfl|g;·simp
   ·rcases Nat.lt_or_ge p n with L|L;·have:=uu aa each p L k hkn g;exact bZ (by omega)
    ·exact bZ (by omega)
  have hw:=ad.at_ k ops[k] J u w' (fun j=>decide (j<k)) C (fun j S=>by
   rw[Nat.zero_add]at S;obtain⟨ai,V,e,he,g,W⟩:=Region.waitsFor_spec S;subst W;exact M e.on (each k ai hkn V e he g)) (fun p r g=>by rw[Nat.zero_add]at g;exact c p r g) (fun p r=>by rw[Nat.zero_add]at r;exact d p r) F;rw[Nat.zero_add]at hw;rw[t];have goal:∀E b,uh (ar ((ops.toList.take n).map (·.dst)) 0 u a) ops[k].dst (gU ws T k) w' (cm D k) (kP ws k) E b→wpList P ops Q (ops.toList.drop (k+1)) E b:=by
   rintro E b⟨v,rfl,l,O,N⟩;have G:Fr T w' b:=by
    unfold gU at l;split at l;·exact l
    ·exact l.bJ
   rw[lT _ 0 k u a ops[k].dst v nodup (by rw[List.getElem?_map,J];rfl),Nat.zero_add];have I:∀q,q≠k→decide (q<k+1)=decide (q<k):=fun q ab=>by
    rcases Nat.lt_or_ge q k with h|h;·rw[decide_eq_true h,cT (by omega)]
    ·rw[bZ (by omega:¬q<k),bZ (by omega)]
   refine ag (k+1) (dN u k v) b (by omega) (C.trans G) ?_ (fun j S=>?_)
   ·cases y:ep ws k
    ·have R:Fr ah w' b:=by simpa[gU,y]using l
     rw[kZ ws m (fun j=>decide (j<k+1)) (fun j=>decide (j<k)) (fun x A=>by
      refine I x.1 ?_;rintro e;have:ep ws k=true:=by
       simp only[ep,List.any_eq_true,beq_iff_eq];exact⟨x.1,List.mem_map.2 ⟨x,A,rfl⟩,e⟩
      rw[y]at this;cases this)];exact kj C R ws m _ Z X F
    ·exact ld B k (fun j=>decide (j<k)) _ b (by simp) (fun q ab=>I q ab) ws m s.1 y (fun x A g=>c x.1 (H x A) g) (fun x _ g=>d x.1 (by rw[g,Bool.or_true])) N
   ·by_cases e:j=k;·subst e;simp only[dN,if_true];exact O
    ·simp only[dN];rw[if_neg e];exact Y.at_ j (u j) w' b C G (M j (by omega))
  rcases hw with⟨z,hw⟩|⟨z,hw⟩
  ·exact wpList_step fun K ac=>by
    rw[if_pos z];exact Oper.wp_mono (fun E b h=>ac _ _ (goal E b h)) hw
  ·unfold wpList;simp only[z,Bool.false_eq_true,if_false];exact goal _ _ hw
theorem gW{P:Program}{id:Nat}{Q:Exit→Act→World→Prop}{a:Act}{w:World}{l:List Oper}(n:Nat)(T:Nat→Prop)(e:List (Value→World→Prop))(ws:List (Nat×(World→Prop)))(b:World→Prop)(B:Nat→Nat→Bool)(d:yu l.toArray n=true)
  (o:fN l.toArray n B=true)(f:(gK B (ws.map (·.1))&&(ws.map (·.1)).all (fun p=>decide (p<n)))=true)
  (h:du T w e)(i:iX T w ws)(g:∀w' c,Fr T w w'→Fr ah w' c→b w'→b c)(m:b w)
  (q:ig P l.toArray Q T w (fun u=>ar ((l.take n).map (·.dst)) 0 u a) (cm e) ws b B n 0 (l.take n))
  (r:∀u w',Fr T w w'→(∀j,j<n→cm e j (u j) w')→lQ ws b w'→wpList P l.toArray Q (l.drop n) (ar ((l.take n).map (·.dst)) 0 u a) w'):(Code.region id l.toArray false).wp P Q a w:=by
 simp only[yu,Bool.and_eq_true,decide_eq_true_eq]at d;obtain⟨s,k⟩:=gH ((l.take n).map (·.dst)) 0 a;refine wp_region_lit ?_;have:=Lb (P:=P) (Q:=Q) (a:=a) d.1.1 (uJ d.1.2) d.2 o f h i g (by simpa using q) (by simpa using r) n 0 s w (by omega) az (by rw[kA ws b _ (fun x _=>by simp)];exact m) (fun j t=>by omega);rw[show(l.toArray.toList.take n).map (·.dst)=(l.take n).map (·.dst)by simp,k]at this;simpa using this
end Go.Proofs.YtphjagkehiklkaaGreatDoor
namespace Go.Proofs.YtphjagkehiklkaaGreatDoor
open Go.RowKit
def gI(d:Nat→Bool)(i:Nat):Nat→Bool:=fun j=>if j=i then true else d j
def r7(ops:Array Oper)(n:Nat):Bool:=
 decide (n≤ops.size)&&
 ((List.range n).all fun i=>match ops[i]? with|some a=>a.after.all (fun e=>!Region.binds .any e||decide (e.on<i))|none=>false)&&
 decide (((ops.toList.take n).map (·.dst)).filterMap id).Nodup&&
 (decide (n=ops.size)||(Region.sinkB .any ops n&&Region.chainB .any ops n))&&
 Region.seqB .any ops (ops.size-n) n (Array.replicate n true++Array.replicate (ops.size-n) false)
structure rM(ops:Array Oper)(n:Nat):Prop where
 le:n≤ops.size
 each:∀i a,i<n→ops[i]? =some a→∀e∈a.after,Region.binds .any e=true→e.on<i
 nodup:(((ops.toList.take n).map (·.dst)).filterMap id).Nodup
 tail:n=ops.size∨(Region.sinkB .any ops n=true∧Region.chainB .any ops n=true)
 seq:Region.seqB .any ops (ops.size-n) n (Array.replicate n true++Array.replicate (ops.size-n) false)=true
theorem rM.of{ops:Array Oper}{n:Nat}(h:r7 ops n=true):rM ops n:=by
 simp only[r7,Bool.and_eq_true,Bool.or_eq_true,decide_eq_true_eq]at h;obtain⟨⟨⟨⟨a,b⟩,c⟩,d⟩,e⟩:=h;exact⟨a,uJ b,c,d,e⟩
theorem yD{P:Program}{ops:Array Oper}{Q:Exit→Act→World→Prop}{a:Act}{n:Nat}(ok:rM ops n)(Inv:(Nat→Bool)→(Nat→Value)→World→Prop)
  (V:∀i o,i<n→ops[i]? =some o→∀d u w',d i=false→(∀j k,d j=true→Region.waitsFor .any ops j k=true→d k=true)→(∀j,Region.waitsFor .any ops i j=true→d j=true∧j<n)→Inv d u w'→
   mX P ops Q o (ar ((ops.toList.take n).map (·.dst)) 0 u a) w' (fun R t=>∃v,R=(ar ((ops.toList.take n).map (·.dst)) 0 u a).put o.dst v∧Inv (gI d i) (dN u i v) t))
  (X:∀d u w',(∀j,j<n→d j=true)→Inv d u w'→wpList P ops Q (ops.toList.drop n) (ar ((ops.toList.take n).map (·.dst)) 0 u a) w'):
  ∀(f:Nat)(listed:Array Bool)(u:Nat→Value)(w':World),HeadInv .any ops n listed→ct (fun j=>!listed.getD j false) n=f→Inv (fun j=>listed.getD j false) u w'→
   wpAny P .any ops Q (f+(ops.size-n)) listed (ar ((ops.toList.take n).map (·.dst)) 0 u a) w':=by
 intro f;induction f with
 |zero=>
  intro listed u w' inv S E;have g:∀j,j<n→listed.getD j false=true:=fun j l=>by simpa using kU _ n S j l
  have he:listed=Array.replicate n true++Array.replicate (ops.size-n) false:=by
   apply Array.ext;·rw[inv.size];have:=ok.le;simp;omega
   ·intro i D Z;rcases Nat.lt_or_ge i n with c|c;·have:=g i c;rw[Array.getElem_append_left (by simpa using c)];simpa[D]using this
    ·have:=inv.tail i c (by rw[←inv.size];exact D);rw[Array.getElem_append_right (by simpa using c)];simpa[D]using this
  have M:=X _ u w' g E;subst he;have y:(ops.toList.drop n).length=ops.size-n:=by simp
  have:=wpAny_of_seq (P:=P) (md:= .any) (ops:=ops) (Q':=Q) (ops.toList.drop n) n _ (ar ((ops.toList.take n).map (·.dst)) 0 u a) w' (fun j=>by simp[List.getElem?_drop]) (by rw[y];exact ok.seq) M;rw[y]at this;rwa[Nat.zero_add]
 |succ f Y=>
  intro listed u w' inv S E;obtain⟨j,l,N,q⟩:=mj (fun j=>!listed.getD j false) n (by omega);have p:j<ops.size:=by have:=ok.le;omega
  have hunj:listed.getD j true=false:=getD_in (by rw[inv.size];exact p) (by simpa using N);have B:j∈Region.ready .any ops listed:=by
   refine mem_ready.2 ⟨hunj,ops[j],Array.getElem?_eq_getElem p,fun e he w=>?_⟩;have:=ok.each j _ l (Array.getElem?_eq_getElem p) e he w;simpa using q e.on this
  rw[show f+1+(ops.size-n)=(f+(ops.size-n))+1 by omega];refine⟨fun T=>(by rw[T]at B;cases B),fun i c=>?_⟩;obtain⟨J,o,x,C⟩:=mem_ready.1 c;have I:i<ops.size:=(Array.getElem?_eq_some_iff.1 x).1;have b:i<n:=by
   rcases ok.tail with h|⟨W,G⟩;·omega
   ·rcases Nat.lt_or_ge i n with h|h;·exact h
    ·exact absurd c (tail_waits W G (by omega) inv (n-j) j rfl l hunj i h)
  have A:listed.getD i false=false:=getD_both J;have L:(ops.toList.take n)[i]? =some o:=by rw[List.getElem?_take,if_pos b];simpa using x
  have hw:=V i o b x (fun j=>listed.getD j false) u w' A (fun j k l K=>by
   obtain⟨O,r,e,he,w,s⟩:=Region.waitsFor_spec K;subst s;exact inv.closed j O r l e he w) (fun k K=>by
   obtain⟨O,r,e,he,w,s⟩:=Region.waitsFor_spec K;have:O=o:=Option.some.inj (r.symm.trans x);subst this;subst s;have:=ok.each i _ b x e he w;exact⟨C e he w,by omega⟩) E;refine og x (fK (fun R t U=>?_) hw);obtain⟨v,rfl,F⟩:=U;rw[lT _ 0 i u a o.dst v ok.nodup (by rw[List.getElem?_map,L];rfl),Nat.zero_add];have m:(listed.setIfInBounds i true).getD i false=true:=by
   have H:i<listed.size:=by rw[inv.size];exact I
   simp[H]
  have z:(fun j=>(listed.setIfInBounds i true).getD j false)=gI (fun j=>listed.getD j false) i:=by
   funext j;unfold gI;split;·rename_i e;subst e;exact m
   ·rename_i e;exact getD_set_ne false (fun h=>e h.symm)
  refine Y (listed.setIfInBounds i true) (dN u i v) t (inv.set c b) ?_ (by rw[z];exact F);have:=kT (fun j=>!listed.getD j false) (fun j=>!(listed.setIfInBounds i true).getD j false) i (by simp only[A];rfl) (by simp only[m];rfl) (fun j l=>by simp only[getD_set_ne false (Ne.symm l)]) n b;omega
def iA:List (Nat×Nat×Array Value)→Array Value→Nat→(Nat→Bool)→Array Value
 |[],cs,_,_=>cs
 |(i,a,cs')::r,cs,j,d=>if(a==j&&d i)=true then cs' else iA r cs j d
theorem gL{i j:Nat}{d:Nat→Bool}:∀(a:List (Nat×Nat×Array Value))(cs:Array Value),(∀x∈a,x.2.1=j→x.1≠i)→iA a cs j (gI d i)=iA a cs j d
 |[],_,_=>rfl
 |(i',c,cs')::r,cs,h=>by
  have g:=gL (d:=d) r cs (fun x f=>h x (by simp[f]));unfold iA;rw[g];by_cases e:c=j;·have b:i'≠i:=h (i',c,cs') (by simp) e;simp only[gI,if_neg b]
  ·have:(c==j)=false:=by simpa using e
   simp only[this,Bool.false_and]
theorem kr{j:Nat}{d:Nat→Bool}:∀(b:List (Nat×Nat×Array Value))(cs:Array Value),(∀x∈b,x.2.1=j→d x.1=false)→iA b cs j d=cs
 |[],_,_=>rfl
 |(i',a,cs')::r,cs,h=>by
  have f:=kr (d:=d) r cs (fun x c=>h x (by simp[c]));unfold iA;rw[f];by_cases e:a=j;·have:d i'=false:=h (i',a,cs') (by simp) e;simp[this]
  ·have:(a==j)=false:=by simpa using e
   simp only[this,Bool.false_and,Bool.false_eq_true,if_false]
theorem qg{j i:Nat}{c:Array Value}{d:Nat→Bool}(g:d i=true):∀(b:List (Nat×Nat×Array Value))(cs:Array Value),(i,j,c)∈b→(∀x∈b,x.2.1=j→x=(i,j,c))→iA b cs j d=c
 |[],_,h,_=>by cases h
 |(i',f,cs')::r,cs,h,hu=>by
  unfold iA;by_cases e:f=j;·have:=hu (i',f,cs') (by simp) e;simp only[Prod.mk.injEq]at this;obtain⟨rfl,rfl,rfl⟩:=this;simp[g]
  ·have k:(i,j,c)∈r:=by
    rcases List.mem_cons.1 h with a|a;·simp only[Prod.mk.injEq]at a;exact absurd a.2.1.symm e
    ·exact a
   have:(f==j)=false:=by simpa using e
   simp only[this,Bool.false_and,Bool.false_eq_true,if_false];exact qg g r cs k (fun x l=>hu x (by simp[l]))
theorem nG{j:Nat}{d d':Nat→Bool}:∀(a:List (Nat×Nat×Array Value))(cs:Array Value),(∀x∈a,d x.1=d' x.1)→iA a cs j d=iA a cs j d'
 |[],_,_=>rfl
 |(i',e,cs')::r,cs,h=>by
  have c:=nG r cs (fun x b=>h x (by simp[b])) (d:=d) (d':=d') (j:=j);unfold iA;rw[c,h (i',e,cs') (by simp)]
def iU(a:List (Value→Prop))(j:Nat):Value→Prop:=a.getD j (fun _=>True)
structure Ks(w:World)(ty:TypeId)(e:List (Value→Prop))(f:List (Value→World→Prop))(b:List (Nat×Array Value))(c:List (Nat×Nat×Array Value))(n:Nat)(d:Nat→Bool)(u:Nat→Value)(w':World):Prop where
 fr:Fr ah w w'
 facts:∀j,j<n→d j=true→iU e j (u j)
 mem:(∀x∈c,d x.1=false)→∀j,j<n→d j=true→cm f j (u j) w'
 news:∀j cs,(j,cs)∈b→d j=true→∃g,u j= .pointer (some ⟨g,0,none⟩)∧w.heap.size≤g∧aq w' g ty (iA c cs j d)
 apart:∀j cs a cs',(j,cs)∈b→(a,cs')∈b→j≠a→d j=true→d a=true→u j≠u a
def JC(a:Act)(d:Option Tmp)(e:Value→Prop)(g:Nat)(ty:TypeId)(cs:Array Value)(w':World)(c:Act)(b:World):Prop:=∃v,c=a.put d v∧e v∧aq b g ty cs∧Fr (fun k=>k=g) w' b
def Js(a:Act)(d:Option Tmp)(f:Value→Prop)(c:Value→World→Prop)(ty:TypeId)(cs:Array Value)(w':World)(e:Act)(b:World):Prop:=∃v,e=a.put d v∧f v∧c v b∧v= .pointer (some ⟨w'.heap.size,0,none⟩)∧dh w' b ty cs
def KQ(a:Act)(d:Option Tmp)(f:Value→Prop)(c:Value→World→Prop)(w':World)(e:Act)(b:World):Prop:=∃v,e=a.put d v∧f v∧c v b∧Fr ah w' b
def Kb(P:Program)(ops:Array Oper)(Q:Exit→Act→World→Prop)(w:World)(ty:TypeId)(F:(Nat→Value)→Act)(a:List (Value→Prop))(b:List (Value→World→Prop))(c:List (Nat×Array Value))(d:List (Nat×Nat×Array Value))(i:Nat)(e:Oper):Prop:=
 match d.find? (fun x=>x.1==i)with
 |some (_,j,cs')=>∀u w' g,Fr ah w w'→(∀j,Region.waitsFor .any ops i j=true→iU a j (u j))→u j= .pointer (some ⟨g,0,none⟩)→(∃cs,(j,cs)∈c∧aq w' g ty cs)→
   mX P ops Q e (F u) w' (JC (F u) e.dst (iU a i) g ty cs' w')
 |none=>match c.find? (fun x=>x.1==i)with
  |some (_,cs)=>∀u w',Fr ah w w'→(∀j,Region.waitsFor .any ops i j=true→iU a j (u j))→
    mX P ops Q e (F u) w' (Js (F u) e.dst (iU a i) (cm b i) ty cs w')
  |none=>∀u w',Fr ah w w'→(∀j,Region.waitsFor .any ops i j=true→iU a j (u j))→(d.all (fun x=>Region.waitsFor .any ops x.1 i)=true→∀j,Region.waitsFor .any ops i j=true→cm b j (u j) w')→
    mX P ops Q e (F u) w' (KQ (F u) e.dst (iU a i) (cm b i) w')
def qp(P:Program)(ops:Array Oper)(Q:Exit→Act→World→Prop)(w:World)(ty:TypeId)(F:(Nat→Value)→Act)(b:List (Value→Prop))(c:List (Value→World→Prop))(a:List (Nat×Array Value))(d:List (Nat×Nat×Array Value)):Nat→List Oper→Prop
 |_,[]=>True
 |i,e::r=>Kb P ops Q w ty F b c a d i e∧qp P ops Q w ty F b c a d (i+1) r
theorem qp.at_{P:Program}{ops:Array Oper}{Q:Exit→Act→World→Prop}{w:World}{ty:TypeId}{F:(Nat→Value)→Act}{c:List (Value→Prop)}{d:List (Value→World→Prop)}{b:List (Nat×Array Value)}{e:List (Nat×Nat×Array Value)}:
  ∀{l:List Oper}{k:Nat},qp P ops Q w ty F c d b e k l→∀i g,l[i]? =some g→Kb P ops Q w ty F c d b e (k+i) g
 |[],_,_,_,_,h=>by simp at h
 |f::r,k,h,0,g,a=>by
  have:f=g:=by simpa using a
  subst this;exact h.1
 |f::r,k,h,i+1,g,a=>by
  have:=qp.at_ h.2 i g (by simpa using a);rw[show k+1+i=k+(i+1)by omega]at this;exact this
def IW(ops:Array Oper)(n:Nat)(a:List Nat)(b:List (Nat×Nat)):Bool:=
 a.all (fun j=>decide (j<n))&&b.all (fun x=>decide (x.1<n)&&a.contains x.2&&Region.waitsFor .any ops x.1 x.2&&!a.contains x.1)&&decide (a.Nodup)&&decide ((b.map (·.2)).Nodup)&&decide ((b.map (·.1)).Nodup)
theorem jh{α:Type}{f:α→Nat}:∀{l:List α},(l.map f).Nodup→∀x∈l,∀y∈l,f x=f y→x=y
 |[],_,x,c,_,_,_=>by cases c
 |z::r,h,x,c,y,d,e=>by
  rw[List.map_cons,List.nodup_cons]at h;rcases List.mem_cons.1 c with rfl|a<;>rcases List.mem_cons.1 d with rfl|b;·rfl
  ·exact absurd (List.mem_map.2 ⟨y,b,e.symm⟩) h.1
  ·exact absurd (List.mem_map.2 ⟨x,a,e⟩) h.1
  ·exact jh h.2 x a y b e
theorem vW{P:Program}{id:Nat}{Q:Exit→Act→World→Prop}{a:Act}{w:World}{l:List Oper}(n:Nat)(ty:TypeId)(aw:List (Value→Prop))(ay:List (Value→World→Prop))(W:List (Nat×Array Value))(G:List (Nat×Nat×Array Value))(hm:P.follows .mixedOrders=true)(bc:r7 l.toArray n=true)
  (aE:IW l.toArray n (W.map (·.1)) (G.map fun x=>(x.1,x.2.1))=true)
  (aW:du ah w ay)
  (bd:qp P l.toArray Q w ty (fun u=>ar ((l.take n).map (·.dst)) 0 u a) aw ay W G 0 (l.take n))
  (aX:∀u w',Fr ah w w'→(∀j,j<n→iU aw j (u j))→(∀j cs,(j,cs)∈W→∃g,u j= .pointer (some ⟨g,0,none⟩)∧w.heap.size≤g∧aq w' g ty (iA G cs j (fun _=>true)))→
   (∀j cs aj cs',(j,cs)∈W→(aj,cs')∈W→j≠aj→u j≠u aj)→wpList P l.toArray Q (l.drop n) (ar ((l.take n).map (·.dst)) 0 u a) w'):(Code.region id l.toArray true).wp P Q a w:=by
 have ok:=rM.of bc;simp only[IW,Bool.and_eq_true,List.all_eq_true,decide_eq_true_eq,Bool.not_eq_true']at aE;obtain⟨⟨⟨⟨bh,bi⟩,bj⟩,a4⟩,a5⟩:=aE;have aK:∀j cs,(j,cs)∈W→j<n:=fun j cs h=>bh j (List.mem_map.2 ⟨_,h,rfl⟩);have aL:∀i j c,(i,j,c)∈G→i<n∧(∃cs,(j,cs)∈W)∧Region.waitsFor .any l.toArray i j=true∧∀cs,(i,cs)∉W:=by
  intro i j c h;obtain⟨⟨⟨aN,aO⟩,aI⟩,a9⟩:=bi (i,j) (List.mem_map.2 ⟨_,h,rfl⟩);refine⟨aN,?_,aI,fun cs aQ=>?_⟩;·have:=List.contains_iff_mem.1 aO;obtain⟨⟨aj,cs⟩,r,e⟩:=List.mem_map.1 this;exact⟨cs,by simp only at e;rw[←e];exact r⟩
  ·have:(W.map (·.1)).contains i=true:=List.contains_iff_mem.2 (List.mem_map.2 ⟨_,aQ,rfl⟩);rw[a9]at this;cases this
 have a1:∀x∈G,∀y∈G,x.2.1=y.2.1→x=y:=fun x r y aG e=>jh (f:=fun x=>x.2.1) (by rw[List.map_map]at a4;exact a4) x r y aG e;have a6:∀x∈G,∀y∈G,x.1=y.1→x=y:=fun x r y aG e=>jh (f:=fun x=>x.1) (by rw[List.map_map]at a5;exact a5) x r y aG e;have a0:∀x∈W,∀y∈W,x.1=y.1→x=y:=fun x r y aG e=>jh (f:=fun x=>x.1) bj x r y aG e;obtain⟨bk,aY⟩:=gH ((l.take n).map (·.dst)) 0 a;refine wp_region_any hm ?_;have aH:HeadInv .any l.toArray n (Array.replicate l.toArray.size false):=
  ⟨by simp,fun j bn _ a3=>(by rw[getD_replicate_false]at a3;cases a3),fun t _ aX=>getD_in (by simpa using aX) (getD_replicate_false _ _)⟩;have aQ:ct (fun j=>!(Array.replicate l.toArray.size false).getD j false) n=n:=by
  have h:∀m,ct (fun j=>!(Array.replicate l.toArray.size false).getD j false) m=m:=by
   intro m;induction m with
   |zero=>rfl
   |succ m bg=>rw[ct,bg,getD_replicate_false];rfl
  exact h n
 have:=yD (P:=P) (Q:=Q) (a:=a) ok (Ks w ty aw ay W G n) ?_ ?_ n _ bk w.drew aH aQ
  ⟨az.drew,fun j _ h=>(by rw[getD_replicate_false]at h;cases h),fun _ j _ h=>(by rw[getD_replicate_false]at h;cases h),fun j _ _ h=>(by rw[getD_replicate_false]at h;cases h),fun j _ _ _ _ _ _ h=>(by rw[getD_replicate_false]at h;cases h)⟩;·rw[show(l.toArray.toList.take n).map (·.dst)=(l.take n).map (·.dst)by simp,aY,show n+(l.toArray.size-n)=l.toArray.size by have:=ok.le;omega]at this;exact this
 ·intro i o aU bf d u w' aa K A z;have aV:(l.take n)[i]? =some o:=by rw[List.getElem?_take,if_pos aU];simpa using bf
  have V:=bd.at_ i o aV;rw[Nat.zero_add]at V;have aA:(l.toArray.toList.take n).map (·.dst)=(l.take n).map (·.dst):=by simp
  rw[aA];have I:∀j,Region.waitsFor .any l.toArray i j=true→iU aw j (u j):=fun j F=>z.facts j (A j F).2 (A j F).1;have B:∀v j,j≠i→dN u i v j=u j:=fun v j F=>by simp[dN,F]
  have O:∀v,dN u i v i=v:=fun v=>by simp[dN]
  have b:∀j,j≠i→gI d i j=d j:=fun j F=>by simp[gI,F]
  have H:∀v,iU aw i v→∀j,j<n→gI d i j=true→iU aw j (dN u i v j):=by
   intro v ad j F aS;by_cases e:j=i;·subst e;rw[O];exact ad
   ·rw[B v j e];exact z.facts j F (by rw[←b j e];exact aS)
  have ak:∀v R,(∀x∈G,x.1≠i)→cm ay i v R→Fr ah w' R→(∀x∈G,gI d i x.1=false)→∀j,j<n→gI d i j=true→cm ay j (dN u i v j) R:=by
   intro v R Z ad af an j F aS;by_cases e:j=i;·subst e;rw[O];exact ad
   ·rw[B v j e];exact aW.at_ j (u j) w' R z.fr af (z.mem (fun x r=>by rw[←b x.1 (Z x r)];exact an x r) j F (by rw[←b j e];exact aS))
  unfold Kb at V;split at V
  ·rename_i _ i' j cs' E;have C:=List.mem_of_find?_eq_some E;have am:i'=i:=by simpa using List.find?_some E
   subst am;obtain⟨_,⟨cs,ab⟩,aF,U⟩:=aL _ _ _ C;obtain⟨g,ap,aT,aB⟩:=z.news j cs ab (A j aF).1;have aR:iA G cs j d=cs:=kr G cs (fun x r e=>by
    have:=a1 x r _ C e;subst this;exact aa);rw[aR]at aB;refine fK ?_ (V u w' g z.fr I ap ⟨cs,ab,aB⟩);rintro a2 R⟨v,rfl,ad,bb,af⟩;refine⟨v,rfl,⟨z.fr.au af (fun k bm e=>by have bl:k=g:=e;omega),H v ad,fun an=>(by have:=an _ C;simp[gI]at this),fun q p hj2 s=>?_,fun q p N S hj2 L D s X=>?_⟩⟩
   ·have D:q≠i':=fun e=>U p (by rw[←e];exact hj2);rw[B v q D];rw[b q D]at s;by_cases e:q=j;·subst e;have:=a0 _ hj2 _ ab rfl;simp only[Prod.mk.injEq]at this;obtain⟨_,rfl⟩:=this;refine⟨g,ap,aT,?_⟩;rw[qg (i:=i') (c:=cs') (by simp[gI]) G _ C (fun x r e=>a1 x r _ C e)];exact bb
    ·obtain⟨g2,M,Y,T⟩:=z.news q p hj2 s;refine⟨g2,M,Y,?_⟩;rw[gL G p (fun x r ex a8=>by
      have:=a6 x r _ C a8;subst this;exact e ex.symm)];refine T.fr af (fun a7=>?_);have aM:g2=g:=a7;subst aM;exact z.apart q p j cs hj2 ab e s (A j aF).1 (M.trans ap.symm)
   ·have ag:q≠i':=fun e=>U p (by rw[←e];exact hj2);have ai:N≠i':=fun e=>U S (by rw[←e];exact L);rw[B v q ag,B v N ai];exact z.apart q p N S hj2 L D (by rw[←b q ag];exact s) (by rw[←b N ai];exact X)
  ·rename_i ao;have Z:∀x∈G,x.1≠i:=fun x r e=>by
    have:=List.find?_eq_none.1 ao x r;simp[e]at this
   split at V
   ·rename_i _ i' cs E;have C:=List.mem_of_find?_eq_some E;have am:i'=i:=by simpa using List.find?_some E
    subst am;refine fK ?_ (V u w' z.fr I);rintro a2 R⟨v,rfl,ad,av,rfl,aJ⟩;refine⟨_,rfl,⟨z.fr.trans aJ.fr,H _ ad,ak _ _ Z av aJ.fr,fun q p hj2 s=>?_,fun q p N S hj2 L D s X=>?_⟩⟩
    ·rw[gL G p (fun x r _=>Z x r)];by_cases e:q=i'
     ·subst e;have:=a0 _ hj2 _ C rfl;simp only[Prod.mk.injEq]at this;obtain⟨_,rfl⟩:=this;refine⟨w'.heap.size,O _,z.fr.size,?_⟩;rw[kr G _ (fun x r ex=>by
       cases al:d x.1;·rfl
       ·have hw:=(aL x.1 x.2.1 x.2.2 r).2.2.1;rw[ex]at hw;rw[K _ _ al hw]at aa;cases aa)];exact aJ.aD
     ·rw[B _ q e];obtain⟨g2,M,Y,T⟩:=z.news q p hj2 (by rw[←b q e];exact s);exact⟨g2,M,Y,T.fr aJ.fr (fun x=>x)⟩
    ·by_cases ae:q=i';·subst ae;rw[O,B _ N (fun e=>D e.symm)];obtain⟨g3,aZ,be,aP⟩:=z.news N S L (by rw[←b N (fun e=>D e.symm)];exact X);rw[aZ];intro e;have:=aP.lt;simp only[Value.pointer.injEq,Option.some.injEq,Addr.mk.injEq,and_true]at e;omega
     ·by_cases ax:N=i';·subst ax;rw[O,B _ q ae];obtain⟨g2,M,Y,T⟩:=z.news q p hj2 (by rw[←b q ae];exact s);rw[M];intro e;have:=T.lt;simp only[Value.pointer.injEq,Option.some.injEq,Addr.mk.injEq,and_true]at e;omega
      ·rw[B _ q ae,B _ N ax];exact z.apart q p N S hj2 L D (by rw[←b q ae];exact s) (by rw[←b N ax];exact X)
   ·rename_i ac;have U:∀x∈W,x.1≠i:=fun x r e=>by
     have:=List.find?_eq_none.1 ac x r;simp[e]at this
    refine fK ?_ (V u w' z.fr I (fun ba j F=>z.mem (fun x r=>by
     cases al:d x.1;·rfl
     ·rw[K _ _ al (List.all_eq_true.1 ba x r)]at aa;cases aa) j (A j F).2 (A j F).1));rintro a2 R⟨v,rfl,ad,av,af⟩;refine⟨v,rfl,⟨z.fr.trans af,H v ad,ak _ _ Z av af,fun q p hj2 s=>?_,fun q p N S hj2 L D s X=>?_⟩⟩;·have e:q≠i:=U _ hj2;rw[gL G p (fun x r _=>Z x r),B v q e];obtain⟨g2,M,Y,T⟩:=z.news q p hj2 (by rw[←b q e];exact s);exact⟨g2,M,Y,T.fr af (fun x=>x)⟩
    ·have ae:q≠i:=U _ hj2;have ax:N≠i:=U _ L;rw[B v q ae,B v N ax];exact z.apart q p N S hj2 L D (by rw[←b q ae];exact s) (by rw[←b N ax];exact X)
 ·intro d u w' J z;have:=aX u w' z.fr (fun j F=>z.facts j F (J j F)) (fun j cs F=>by
   obtain⟨g,aN,aO,aI⟩:=z.news j cs F (J j (aK j cs F));rw[nG G cs (d':=fun _=>true) (fun x r=>J x.1 (aL x.1 x.2.1 x.2.2 r).1)]at aI;exact⟨g,aN,aO,aI⟩) (fun j cs aj cs' F aC D=>z.apart j cs aj cs' F aC D (J j (aK j cs F)) (J aj (aK aj cs' aC)));simpa using this
end Go.Proofs.YtphjagkehiklkaaGreatDoor
namespace Go.Proofs.YtphjagkehiklkaaGreatDoor
open Go.RowKit
def gT(a:Oper):Bool:=match a.op with
 | .defer _=>false
 |_=>true
theorem tc{a:Oper}(h:gT a=true):∀c,a.op≠ .defer c:=fun c e=>by unfold gT at h;rw[e]at h;cases h
theorem yS{n r:Nat}{P:Program}{row:String}{args:Array Value}{w:World}{a:Value→World→Prop}(h:Rows P row args w a):RowsIn (Fence.wide.inRound r) n P row args w a:=
 fun c cs _=>let⟨v,w',q,s⟩:=h c cs;⟨v,w',q,stepsIn_wide.2 s⟩
theorem uZ{r n:Nat}{P:Program}{q:Oper}{a:Act}{w:World}{K j:Act→World→Prop}{Q Q':Exit→Act→World→Prop}(l:gT q=true)(b:∀a w,K a w→j a w)(g:∀e a w,Q e a w→Q' e a w)(h:q.wp P a w K Q):
  q.wpIn (Fence.wide.inRound r) n P a w j Q':=by
 refine⟨fun _ _=>trivial,?_⟩;rw[Oper.semAt_plain _ _ _ (tc l)];unfold Oper.wp at h;generalize(execOp a.eval q).run P w=x at*;have c:((Fence.wide.inRound r).depth.isSome=true→1≤n):=fun h=>(by cases h);rcases x with⟨x,w'⟩|⟨x,w'⟩
 ·cases x with
  |value v=>exact b _ _ h
  |skip=>exact b _ _ h
  |defer d=>exact b _ _ h
  |enter f args=>
   refine⟨c,CallsIn.inRound r (callsIn_wide.2 (Calls.mono h fun e i he=>?_))⟩;cases e with
   |returned v=>exact b _ _ he
   |panicked ch=>exact g _ _ _ he
   |outgrown=>obtain⟨k,w3,m⟩:=he;exact⟨k,w3,g _ _ _ m⟩
  |row p args=>exact⟨c,yS (h.mono fun v i o=>b _ _ o)⟩
  |_=>exact absurd h id
 ·cases x<;>first|exact g _ _ _ h|exact absurd h id
theorem je{r n:Nat}{P:Program}{ops:Array Oper}{Q:Exit→Act→World→Prop}:∀{l:List Oper}{a:Act}{w:World},(l.all gT)=true→wpList P ops (fun e a w=>Q e a w∧e= .normal) l a w→wpListIn (Fence.wide.inRound r) n P ops Q l a w
 |[],_,_,_,h=>h.1
 |g::rest,a,w,b,h=>by
  rw[List.all_cons,Bool.and_eq_true]at b;unfold wpList at h;unfold wpListIn;split
  ·rename_i hw;rw[if_pos hw]at h;rcases h with h|⟨_,f,w',c⟩;·exact uZ b.1 (fun a w d=>je b.2 d) (fun _ _ _ c=>c.1) h
   ·exact absurd c.2 (by simp)
  ·rename_i hw;rw[if_neg hw]at h;exact⟨fun _ _=>trivial,je b.2 h⟩
theorem iH{r n:Nat}{P:Program}{md:Region.Mode}{ops:Array Oper}{Q:Exit→Act→World→Prop}(c:∀(i:Nat)(o:Oper),ops[i]? =some o→gT o=true):
  ∀(fuel:Nat)(listed:Array Bool)(a:Act)(w:World),wpAny P md ops (fun e a w=>Q e a w∧e= .normal) fuel listed a w→wpAnyIn (Fence.wide.inRound r) n P md ops Q fuel listed a w
 |0,_,_,_,h=>⟨h.1,h.2.1⟩
 |fuel+1,listed,a,w,h=>by
  refine⟨fun j=>(h.1 j).1,fun i l=>?_⟩;have b:=h.2 i l;unfold wpOp at b;unfold wpOpIn;cases d:ops[i]? with
  |none=>rw[d]at b;exact iH c fuel _ _ _ b
  |some o=>
   rw[d]at b;simp only at b⊢;split at b
   ·rename_i hw;rw[if_pos hw];rcases b with k|⟨_,g,w',f⟩;·exact uZ (c i o d) (fun g w' m=>iH c fuel _ g w' m) (fun _ _ _ f=>f.1) k
    ·exact absurd f.2 (by simp)
   ·rename_i hw;rw[if_neg hw];exact⟨fun _ _=>trivial,iH c fuel _ _ _ b⟩
theorem Ee{P:Program}{Q:Exit→Act→World→Prop}{a:Act}{w:World}{l:List Oper}(n:Nat)(ty:TypeId)(aw:List (Value→Prop))(ay:List (Value→World→Prop))(W:List (Nat×Array Value))(G:List (Nat×Nat×Array Value))(bc:r7 l.toArray n=true)
  (aE:IW l.toArray n (W.map (·.1)) (G.map fun x=>(x.1,x.2.1))=true)
  (aW:du ah w ay)
  (bd:qp P l.toArray Q w ty (fun u=>ar ((l.take n).map (·.dst)) 0 u a) aw ay W G 0 (l.take n))
  (aX:∀u w',Fr ah w w'→(∀j,j<n→iU aw j (u j))→(∀j cs,(j,cs)∈W→∃g,u j= .pointer (some ⟨g,0,none⟩)∧w.heap.size≤g∧aq w' g ty (iA G cs j (fun _=>true)))→
   (∀j cs aj cs',(j,cs)∈W→(aj,cs')∈W→j≠aj→u j≠u aj)→wpList P l.toArray Q (l.drop n) (ar ((l.take n).map (·.dst)) 0 u a) w'):wpAny P .any l.toArray Q l.toArray.size (Array.replicate l.toArray.size false) a w.drew:=by
 have ok:=rM.of bc;simp only[IW,Bool.and_eq_true,List.all_eq_true,decide_eq_true_eq,Bool.not_eq_true']at aE;obtain⟨⟨⟨⟨bh,bi⟩,bj⟩,a4⟩,a5⟩:=aE;have aK:∀j cs,(j,cs)∈W→j<n:=fun j cs h=>bh j (List.mem_map.2 ⟨_,h,rfl⟩);have aL:∀i j c,(i,j,c)∈G→i<n∧(∃cs,(j,cs)∈W)∧Region.waitsFor .any l.toArray i j=true∧∀cs,(i,cs)∉W:=by
  intro i j c h;obtain⟨⟨⟨aN,aO⟩,aI⟩,a9⟩:=bi (i,j) (List.mem_map.2 ⟨_,h,rfl⟩);refine⟨aN,?_,aI,fun cs aQ=>?_⟩;·have:=List.contains_iff_mem.1 aO;obtain⟨⟨aj,cs⟩,r,e⟩:=List.mem_map.1 this;exact⟨cs,by simp only at e;rw[←e];exact r⟩
  ·have:(W.map (·.1)).contains i=true:=List.contains_iff_mem.2 (List.mem_map.2 ⟨_,aQ,rfl⟩);rw[a9]at this;cases this
 have a1:∀x∈G,∀y∈G,x.2.1=y.2.1→x=y:=fun x r y aG e=>jh (f:=fun x=>x.2.1) (by rw[List.map_map]at a4;exact a4) x r y aG e;have a6:∀x∈G,∀y∈G,x.1=y.1→x=y:=fun x r y aG e=>jh (f:=fun x=>x.1) (by rw[List.map_map]at a5;exact a5) x r y aG e;have a0:∀x∈W,∀y∈W,x.1=y.1→x=y:=fun x r y aG e=>jh (f:=fun x=>x.1) bj x r y aG e;obtain⟨bk,aY⟩:=gH ((l.take n).map (·.dst)) 0 a;have aH:HeadInv .any l.toArray n (Array.replicate l.toArray.size false):=
  ⟨by simp,fun j bn _ a3=>(by rw[getD_replicate_false]at a3;cases a3),fun t _ aX=>getD_in (by simpa using aX) (getD_replicate_false _ _)⟩;have aQ:ct (fun j=>!(Array.replicate l.toArray.size false).getD j false) n=n:=by
  have h:∀m,ct (fun j=>!(Array.replicate l.toArray.size false).getD j false) m=m:=by
   intro m;induction m with
   |zero=>rfl
   |succ m bg=>rw[ct,bg,getD_replicate_false];rfl
  exact h n
 have:=yD (P:=P) (Q:=Q) (a:=a) ok (Ks w ty aw ay W G n) ?_ ?_ n _ bk w.drew aH aQ
  ⟨az.drew,fun j _ h=>(by rw[getD_replicate_false]at h;cases h),fun _ j _ h=>(by rw[getD_replicate_false]at h;cases h),fun j _ _ h=>(by rw[getD_replicate_false]at h;cases h),fun j _ _ _ _ _ _ h=>(by rw[getD_replicate_false]at h;cases h)⟩;·rw[show(l.toArray.toList.take n).map (·.dst)=(l.take n).map (·.dst)by simp,aY,show n+(l.toArray.size-n)=l.toArray.size by have:=ok.le;omega]at this;exact this
 ·intro i o aU bf d u w' aa K A z;have aV:(l.take n)[i]? =some o:=by rw[List.getElem?_take,if_pos aU];simpa using bf
  have V:=bd.at_ i o aV;rw[Nat.zero_add]at V;have aA:(l.toArray.toList.take n).map (·.dst)=(l.take n).map (·.dst):=by simp
  rw[aA];have I:∀j,Region.waitsFor .any l.toArray i j=true→iU aw j (u j):=fun j F=>z.facts j (A j F).2 (A j F).1;have B:∀v j,j≠i→dN u i v j=u j:=fun v j F=>by simp[dN,F]
  have O:∀v,dN u i v i=v:=fun v=>by simp[dN]
  have b:∀j,j≠i→gI d i j=d j:=fun j F=>by simp[gI,F]
  have H:∀v,iU aw i v→∀j,j<n→gI d i j=true→iU aw j (dN u i v j):=by
   intro v ad j F aS;by_cases e:j=i;·subst e;rw[O];exact ad
   ·rw[B v j e];exact z.facts j F (by rw[←b j e];exact aS)
  have ak:∀v R,(∀x∈G,x.1≠i)→cm ay i v R→Fr ah w' R→(∀x∈G,gI d i x.1=false)→∀j,j<n→gI d i j=true→cm ay j (dN u i v j) R:=by
   intro v R Z ad af an j F aS;by_cases e:j=i;·subst e;rw[O];exact ad
   ·rw[B v j e];exact aW.at_ j (u j) w' R z.fr af (z.mem (fun x r=>by rw[←b x.1 (Z x r)];exact an x r) j F (by rw[←b j e];exact aS))
  unfold Kb at V;split at V
  ·rename_i _ i' j cs' E;have C:=List.mem_of_find?_eq_some E;have am:i'=i:=by simpa using List.find?_some E
   subst am;obtain⟨_,⟨cs,ab⟩,aF,U⟩:=aL _ _ _ C;obtain⟨g,ap,aT,aB⟩:=z.news j cs ab (A j aF).1;have aR:iA G cs j d=cs:=kr G cs (fun x r e=>by
    have:=a1 x r _ C e;subst this;exact aa);rw[aR]at aB;refine fK ?_ (V u w' g z.fr I ap ⟨cs,ab,aB⟩);rintro a2 R⟨v,rfl,ad,bb,af⟩;refine⟨v,rfl,⟨z.fr.au af (fun k bm e=>by have bl:k=g:=e;omega),H v ad,fun an=>(by have:=an _ C;simp[gI]at this),fun q p hj2 s=>?_,fun q p N S hj2 L D s X=>?_⟩⟩
   ·have D:q≠i':=fun e=>U p (by rw[←e];exact hj2);rw[B v q D];rw[b q D]at s;by_cases e:q=j;·subst e;have:=a0 _ hj2 _ ab rfl;simp only[Prod.mk.injEq]at this;obtain⟨_,rfl⟩:=this;refine⟨g,ap,aT,?_⟩;rw[qg (i:=i') (c:=cs') (by simp[gI]) G _ C (fun x r e=>a1 x r _ C e)];exact bb
    ·obtain⟨g2,M,Y,T⟩:=z.news q p hj2 s;refine⟨g2,M,Y,?_⟩;rw[gL G p (fun x r ex a8=>by
      have:=a6 x r _ C a8;subst this;exact e ex.symm)];refine T.fr af (fun a7=>?_);have aM:g2=g:=a7;subst aM;exact z.apart q p j cs hj2 ab e s (A j aF).1 (M.trans ap.symm)
   ·have ag:q≠i':=fun e=>U p (by rw[←e];exact hj2);have ai:N≠i':=fun e=>U S (by rw[←e];exact L);rw[B v q ag,B v N ai];exact z.apart q p N S hj2 L D (by rw[←b q ag];exact s) (by rw[←b N ai];exact X)
  ·rename_i ao;have Z:∀x∈G,x.1≠i:=fun x r e=>by
    have:=List.find?_eq_none.1 ao x r;simp[e]at this
   split at V
   ·rename_i _ i' cs E;have C:=List.mem_of_find?_eq_some E;have am:i'=i:=by simpa using List.find?_some E
    subst am;refine fK ?_ (V u w' z.fr I);rintro a2 R⟨v,rfl,ad,av,rfl,aJ⟩;refine⟨_,rfl,⟨z.fr.trans aJ.fr,H _ ad,ak _ _ Z av aJ.fr,fun q p hj2 s=>?_,fun q p N S hj2 L D s X=>?_⟩⟩
    ·rw[gL G p (fun x r _=>Z x r)];by_cases e:q=i'
     ·subst e;have:=a0 _ hj2 _ C rfl;simp only[Prod.mk.injEq]at this;obtain⟨_,rfl⟩:=this;refine⟨w'.heap.size,O _,z.fr.size,?_⟩;rw[kr G _ (fun x r ex=>by
       cases al:d x.1;·rfl
       ·have hw:=(aL x.1 x.2.1 x.2.2 r).2.2.1;rw[ex]at hw;rw[K _ _ al hw]at aa;cases aa)];exact aJ.aD
     ·rw[B _ q e];obtain⟨g2,M,Y,T⟩:=z.news q p hj2 (by rw[←b q e];exact s);exact⟨g2,M,Y,T.fr aJ.fr (fun x=>x)⟩
    ·by_cases ae:q=i';·subst ae;rw[O,B _ N (fun e=>D e.symm)];obtain⟨g3,aZ,be,aP⟩:=z.news N S L (by rw[←b N (fun e=>D e.symm)];exact X);rw[aZ];intro e;have:=aP.lt;simp only[Value.pointer.injEq,Option.some.injEq,Addr.mk.injEq,and_true]at e;omega
     ·by_cases ax:N=i';·subst ax;rw[O,B _ q ae];obtain⟨g2,M,Y,T⟩:=z.news q p hj2 (by rw[←b q ae];exact s);rw[M];intro e;have:=T.lt;simp only[Value.pointer.injEq,Option.some.injEq,Addr.mk.injEq,and_true]at e;omega
      ·rw[B _ q ae,B _ N ax];exact z.apart q p N S hj2 L D (by rw[←b q ae];exact s) (by rw[←b N ax];exact X)
   ·rename_i ac;have U:∀x∈W,x.1≠i:=fun x r e=>by
     have:=List.find?_eq_none.1 ac x r;simp[e]at this
    refine fK ?_ (V u w' z.fr I (fun ba j F=>z.mem (fun x r=>by
     cases al:d x.1;·rfl
     ·rw[K _ _ al (List.all_eq_true.1 ba x r)]at aa;cases aa) j (A j F).2 (A j F).1));rintro a2 R⟨v,rfl,ad,av,af⟩;refine⟨v,rfl,⟨z.fr.trans af,H v ad,ak _ _ Z av af,fun q p hj2 s=>?_,fun q p N S hj2 L D s X=>?_⟩⟩;·have e:q≠i:=U _ hj2;rw[gL G p (fun x r _=>Z x r),B v q e];obtain⟨g2,M,Y,T⟩:=z.news q p hj2 (by rw[←b q e];exact s);exact⟨g2,M,Y,T.fr af (fun x=>x)⟩
    ·have ae:q≠i:=U _ hj2;have ax:N≠i:=U _ L;rw[B v q ae,B v N ax];exact z.apart q p N S hj2 L D (by rw[←b q ae];exact s) (by rw[←b N ax];exact X)
 ·intro d u w' J z;have:=aX u w' z.fr (fun j F=>z.facts j F (J j F)) (fun j cs F=>by
   obtain⟨g,aN,aO,aI⟩:=z.news j cs F (J j (aK j cs F));rw[nG G cs (d':=fun _=>true) (fun x r=>J x.1 (aL x.1 x.2.1 x.2.2 r).1)]at aI;exact⟨g,aN,aO,aI⟩) (fun j cs aj cs' F aC D=>z.apart j cs aj cs' F aC D (J j (aK j cs F)) (J aj (aK aj cs' aC)));simpa using this
theorem ou{r m:Nat}{P:Program}{id:Nat}{Q:Exit→Act→World→Prop}{a:Act}{w:World}{l:List Oper}(n:Nat)(ty:TypeId)(d:List (Value→Prop))(f:List (Value→World→Prop))(b:List (Nat×Array Value))(c:List (Nat×Nat×Array Value))(hm:P.follows .mixedOrders=true)(p:(l.all gT)=true)(q:r7 l.toArray n=true)
  (h:IW l.toArray n (b.map (·.1)) (c.map fun x=>(x.1,x.2.1))=true)
  (k:du ah w f)
  (s:qp P l.toArray (fun e a w=>Q e a w∧e= .normal) w ty (fun u=>ar ((l.take n).map (·.dst)) 0 u a) d f b c 0 (l.take n))
  (v:∀u w',Fr ah w w'→(∀j,j<n→iU d j (u j))→(∀j cs,(j,cs)∈b→∃g,u j= .pointer (some ⟨g,0,none⟩)∧w.heap.size≤g∧aq w' g ty (iA c cs j (fun _=>true)))→
   (∀j cs o cs',(j,cs)∈b→(o,cs')∈b→j≠o→u j≠u o)→wpList P l.toArray (fun e a w=>Q e a w∧e= .normal) (l.drop n) (ar ((l.take n).map (·.dst)) 0 u a) w'):(Code.region id l.toArray true).wpIn (Fence.wide.inRound r) m P Q a w:=by
 refine wpIn_region_any hm (iH (fun i y t=>?_) _ _ _ _ (Ee n ty d f b c q h k s v));exact List.all_eq_true.1 p y (List.mem_of_getElem? (by simpa using t))
theorem du.is{T:Nat→Prop}{w:World}:∀V:List Value,du T w (V.map Is)
 |[]=>trivial
 |x::r=>⟨Is.ag x,du.is r⟩
theorem uO:∀(V:List Value)(j:Nat)(w:World),cm (V.map Is) j (V.getD j undef) w
 |[],_,_=>trivial
 |_::_,0,_=>rfl
 |_::r,j+1,w=>uO r j w
theorem oT:∀(V:List Value)(j:Nat)(v:Value)(w:World),j<V.length→cm (V.map Is) j v w→v=V.getD j undef
 |_::_,0,_,_,_,h=>h
 |_::r,j+1,v,w,a,h=>oT r j v w (by simpa using a) h
def Hr(a:Act)(d:Option Tmp)(w:World)(v:Value)(b:Act)(w':World):Prop:=b=a.put d v∧Fr ah w w'
def pH(P:Program)(ops:Array Oper)(Q:Exit→Act→World→Prop)(w:World)(F:(Nat→Value)→Act)(V:List Value):Nat→List Oper→Prop
 |_,[]=>True
 |i,a::r=>(∀u w',Fr ah w w'→(∀j,(_:Region.waitsFor .any ops i j=true:=by kernel_rfl)→cm (V.map Is) j (u j) w')→mX P ops Q a (F u) w' (Hr (F u) a.dst w' (V.getD i undef)))∧pH P ops Q w F V (i+1) r
theorem pH.st{P:Program}{ops:Array Oper}{Q:Exit→Act→World→Prop}{w:World}{F:(Nat→Value)→Act}{V:List Value}{n:Nat}:∀{l:List Oper}{i:Nat},pH P ops Q w F V i l→ig P ops Q ah w F (cm (V.map Is)) [] (fun _=>True) (fun _ _=>false) n i l
 |[],_,_=>trivial
 |_::_,i,h=>⟨fun u w' _ c b _ _ _=>fK (fun _ a⟨e,f⟩=>⟨_,e,f,uO V i a,trivial⟩) (h.1 u w' c (fun j d=>b j d)),pH.st h.2⟩
theorem bS{P:Program}{ops:Array Oper}{Q:Exit→Act→World→Prop}{b:Oper}{a:Act}{w:World}(h:Region.wanted b (yielded ops a.tmps)=false:=by kernel_rfl):mX P ops Q b a w (Hr a b.dst w undef):= .inr ⟨h,rfl,az⟩
theorem aF{P:Program}{ops:Array Oper}{Q:Exit→Act→World→Prop}{b:Oper}{a:Act}{w:World}{K:Act→World→Prop}(h:b.wp P a w K Q)(hw:Region.wanted b (yielded ops a.tmps)=true:=by kernel_rfl):mX P ops Q b a w K:= .inl ⟨hw,h⟩
theorem z1{α:Type}{n:Nat}{a:α}{l:List α}:(a::l).take (n+1)=a::l.take n:=rfl
theorem z2{α:Type}{l:List α}:l.take 0=[]:=rfl
theorem z3{α β:Type}{f:α→β}{a:α}{l:List α}:(a::l).map f=f a::l.map f:=rfl
theorem z4{α β:Type}{f:α→β}:([]:List α).map f=[]:=rfl
theorem z5{α:Type}{i:Nat}{a:α}{l:List α}:l.toArray.setIfInBounds i a=(l.set i a).toArray:=List.setIfInBounds_toArray ..
theorem z6{α:Type}{a b:α}{l:List α}:(a::l).set 0 b=b::l:=rfl
theorem z7{α:Type}{n:Nat}{a b:α}{l:List α}:(a::l).set (n+1) b=a::l.set n b:=rfl
theorem z8{α:Type}{n:Nat}{a:α}{l:List α}:(a::l).drop (n+1)=l.drop n:=rfl
theorem z9{α:Type}{l:List α}:l.drop 0=l:=rfl
theorem jn{α:Type}{a d:α}{l:List α}:(a::l).getD 0 d=a:=rfl
theorem jo{α:Type}{n:Nat}{a d:α}{l:List α}:(a::l).getD (n+1) d=l.getD n d:=rfl
theorem AT(ds:List (Option Tmp))(V:List Value)(u:Nat→Value)(a:Act)(e:ds.length≤V.length)(h:∀j,j<V.length→u j=V.getD j undef):ar ds 0 u a=ar ds 0 (fun j=>V.getD j undef) a:=by
 have:∀(ds:List (Option Tmp))(k:Nat)(a:Act),k+ds.length≤V.length→ar ds k u a=ar ds k (fun j=>V.getD j undef) a:=by
  intro ds;induction ds with
  |nil=>intro k a _;rfl
  |cons d r c=>
   intro k a b;simp only[List.length_cons]at b;rw[ar,ar,h k (by omega)];exact c (k+1) _ (by omega)
 exact this ds 0 a (by omega)
theorem iW{P:Program}{id:Nat}{Q:Exit→Act→World→Prop}{a:Act}{w:World}{l:List Oper}(n:Nat)(V:List Value)
  (f:pH P l.toArray Q w (fun u=>ar ((l.take n).map (·.dst)) 0 u a) V 0 (l.take n))
  (k:∀w',Fr ah w w'→wpList P l.toArray Q (l.drop n) (ar ((l.take n).map (·.dst)) 0 (fun j=>V.getD j undef) a) w')(i:V.length=n:=by rfl)(hm:P.follows .mixedOrders=true:=by kernel_rfl)(e:oU l.toArray n=true:=by kernel_rfl)(b:fN l.toArray n (fun _ _=>false)=true:=by kernel_rfl):(Code.region id l.toArray true).wp P Q a w:=by
 refine ay n ah (V.map Is) [] (fun _=>True) (fun _ _=>false) hm e b (by simp[gK]) (du.is V) trivial (fun _ _ _ _ h=>h) trivial f.st ?_;intro u w' d c _;rw[AT _ V u a (by rw[i,List.length_map,List.length_take];omega) (fun j g=>oT V j (u j) w' g (c j (by omega)))];exact k w' d
theorem jm{P:Program}{id:Nat}{Q:Exit→Act→World→Prop}{a:Act}{w:World}{l:List Oper}(n:Nat)(V:List Value)
  (f:pH P l.toArray Q w (fun u=>ar ((l.take n).map (·.dst)) 0 u a) V 0 (l.take n))
  (k:∀w',Fr ah w w'→wpList P l.toArray Q (l.drop n) (ar ((l.take n).map (·.dst)) 0 (fun j=>V.getD j undef) a) w')(i:V.length=n:=by rfl)(e:yu l.toArray n=true:=by kernel_rfl)(b:fN l.toArray n (fun _ _=>false)=true:=by kernel_rfl):(Code.region id l.toArray false).wp P Q a w:=by
 refine gW n ah (V.map Is) [] (fun _=>True) (fun _ _=>false) e b (by simp[gK]) (du.is V) trivial (fun _ _ _ _ h=>h) trivial f.st ?_;intro u w' d c _;rw[AT _ V u a (by rw[i,List.length_map,List.length_take];omega) (fun j g=>oT V j (u j) w' g (c j (by omega)))];exact k w' d
structure Fact where
 p:Value→World→Prop
 st:∀v w w',Fr ah w w'→p v w→p v w'
def iS(x:Value):Fact:=⟨Is x,fun _ _ _ _ h=>h⟩
def lD:Fact:=⟨fun _ _=>True,fun _ _ _ _ _=>trivial⟩
theorem du.fact{w:World}:∀V:List Fact,du ah w (V.map Fact.p)
 |[]=>trivial
 |x::r=>⟨fun v w' a _ f h=>x.st v w' a f h,du.fact r⟩
theorem jB:∀(V:List Fact)(j:Nat),cm (V.map Fact.p) j=(V.getD j lD).p
 |[],_=>rfl
 |_::_,0=>rfl
 |_::r,j+1=>jB r j
def Hq(a:Act)(d:Option Tmp)(w:World)(p:Value→World→Prop)(b:Act)(w':World):Prop:=∃v,b=a.put d v∧Fr ah w w'∧p v w'
def pG(P:Program)(ops:Array Oper)(Q:Exit→Act→World→Prop)(w:World)(F:(Nat→Value)→Act)(V:List Fact):Nat→List Oper→Prop
 |_,[]=>True
 |i,a::r=>(∀u w',Fr ah w w'→(∀j,(_:Region.waitsFor .any ops i j=true:=by kernel_rfl)→(V.getD j lD).p (u j) w')→mX P ops Q a (F u) w' (Hq (F u) a.dst w' (V.getD i lD).p))∧pG P ops Q w F V (i+1) r
theorem pG.st{P:Program}{ops:Array Oper}{Q:Exit→Act→World→Prop}{w:World}{F:(Nat→Value)→Act}{V:List Fact}{n:Nat}:∀{l:List Oper}{i:Nat},pG P ops Q w F V i l→ig P ops Q ah w F (cm (V.map Fact.p)) [] (fun _=>True) (fun _ _=>false) n i l
 |[],_,_=>trivial
 |_::_,i,h=>⟨fun u w' _ b a _ _ _=>fK (fun _ d⟨v,e,f,q⟩=>⟨v,e,f,by rw[jB];exact q,trivial⟩) (h.1 u w' b (fun j c=>by have:=a j c;rw[jB]at this;exact this)),pG.st h.2⟩
theorem jw{P:Program}{ops:Array Oper}{Q:Exit→Act→World→Prop}{b:Oper}{a:Act}{w:World}(h:Region.wanted b (yielded ops a.tmps)=false:=by kernel_rfl):mX P ops Q b a w (Hq a b.dst w (Is undef)):= .inr ⟨h,_,rfl,az,rfl⟩
theorem y8{P:Program}{id:Nat}{Q:Exit→Act→World→Prop}{a:Act}{w:World}{l:List Oper}(n:Nat)(V:List Fact)
  (f:pG P l.toArray Q w (fun u=>ar ((l.take n).map (·.dst)) 0 u a) V 0 (l.take n))
  (i:∀u w',Fr ah w w'→(∀j,j<n→(V.getD j lD).p (u j) w')→wpList P l.toArray Q (l.drop n) (ar ((l.take n).map (·.dst)) 0 u a) w')
  (hm:P.follows .mixedOrders=true:=by kernel_rfl)(e:oU l.toArray n=true:=by kernel_rfl)(b:fN l.toArray n (fun _ _=>false)=true:=by kernel_rfl):(Code.region id l.toArray true).wp P Q a w:=by
 refine ay n ah (V.map Fact.p) [] (fun _=>True) (fun _ _=>false) hm e b (by simp[gK]) (du.fact V) trivial (fun _ _ _ _ h=>h) trivial f.st ?_;intro u w' d c _;exact i u w' d (fun j g=>by have:=c j g;rw[jB]at this;exact this)
theorem y9{P:Program}{id:Nat}{Q:Exit→Act→World→Prop}{a:Act}{w:World}{l:List Oper}(n:Nat)(V:List Fact)
  (f:pG P l.toArray Q w (fun u=>ar ((l.take n).map (·.dst)) 0 u a) V 0 (l.take n))
  (i:∀u w',Fr ah w w'→(∀j,j<n→(V.getD j lD).p (u j) w')→wpList P l.toArray Q (l.drop n) (ar ((l.take n).map (·.dst)) 0 u a) w')
  (e:yu l.toArray n=true:=by kernel_rfl)(b:fN l.toArray n (fun _ _=>false)=true:=by kernel_rfl):(Code.region id l.toArray false).wp P Q a w:=by
 refine gW n ah (V.map Fact.p) [] (fun _=>True) (fun _ _=>false) e b (by simp[gK]) (du.fact V) trivial (fun _ _ _ _ h=>h) trivial f.st ?_;intro u w' d c _;exact i u w' d (fun j g=>by have:=c j g;rw[jB]at this;exact this)
end Go.Proofs.YtphjagkehiklkaaGreatDoor
namespace Go.Proofs.YtphjagkehiklkaaGreatDoor.Lt
open Go.RowKit
def bG(w:World)(v:Value)(e:Ending)(w':World):Prop:=e= .returned v∧w=w'
end Go.Proofs.YtphjagkehiklkaaGreatDoor.Lt
