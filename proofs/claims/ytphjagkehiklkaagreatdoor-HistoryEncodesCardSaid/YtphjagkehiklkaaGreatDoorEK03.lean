/- Texts. -/
import Derived.Test.YtphjagkehiklkaaGreatDoorEK01
set_option linter.unusedVariables false
set_option linter.unusedSimpArgs false
namespace Go.Proofs.YtphjagkehiklkaaGreatDoor
open Proofs.Tryz Go.RowKit
def ar:List (Option Tmp)->Nat->(Nat->Value)->Act->Act
 |[],_,_,a=>a
 |d::r,k,u,a=>ar r (k+1) u (a.put d (u k))
def dW(u:Nat->Value)(i:Nat)(v:Value):Nat->Value:=λj=>if j=i then v else u j
theorem EZ(a:Act)(x:Option Tmp)(v b:Value):(a.put x v).put x b=a.put x b:=by
 cases x with
 |none=>rfl
 |some d=>simp[Act.put]
theorem IG(a:Act)(x:Option Tmp):∃v,a.put x v=a:=by
 cases x with
 |none=>exact⟨undef,rfl⟩
 |some d=>
  refine⟨a.tmps.getD d undef,?_⟩;have:a.tmps.setIfInBounds d (a.tmps.getD d undef)=a.tmps:=by
   apply Array.ext;·simp
   ·intro i c b;rw[Array.getElem_setIfInBounds (by simpa using b)];split;·rename_i e;subst e;simp[b]
    ·rfl
  simp only[Act.put,this]
theorem mZ:∀(ds:List (Option Tmp))(k:Nat)(u b:Nat->Value)(a:Act),(∀j,k<=j->u j=b j)->ar ds k u a=ar ds k b a
 |[],_,_,_,_,_=>rfl
 |d::r,k,u,b,a,h=>by
  rw[ar,ar,h k (Nat.le_refl _)];exact mZ r (k+1) u b _ (λj c=>h j (by omega))
theorem ug:∀(ds:List (Option Tmp))(k:Nat)(u:Nat->Value)(a:Act)(x:Option Tmp)(v:Value),x∉ds->(ar ds k u a).put x v=ar ds k u (a.put x v)
 |[],_,_,_,_,_,_=>rfl
 |d::r,k,u,a,x,v,h=>by
  rw[ar,ar,ug r (k+1) u _ x v (λhm=>h (by simp[hm]))];congr 1;exact Act.put_comm a (u k) v (λe b c=>h (by rw[b,c];simp))
theorem gT:∀(ds:List (Option Tmp))(k:Nat)(a:Act),∃u,ar ds k u a=a
 |[],_,_=>⟨λ_=>undef,rfl⟩
 |d::r,k,a=>by
  obtain⟨v,b⟩:=IG a d;obtain⟨u,hu⟩:=gT r (k+1) a;refine⟨dW u k v,?_⟩;rw[ar,show dW u k v k=v by simp[dW],b];rw[mZ r (k+1) (dW u k v) u a (λj c=>by simp only[dW];rw[if_neg (by omega)])];exact hu
def cI(p:Nat->Bool):Nat->Nat
 |0=>0
 |n+1=>cI p n+(if p n=true then 1 else 0)
theorem qv(p q:Nat->Bool):∀n,(∀j,j<n->p j=q j)->cI p n=cI q n
 |0,_=>rfl
 |n+1,h=>by rw[cI,cI,qv p q n (λj a=>h j (by omega)),h n (by omega)]
theorem lP(p q:Nat->Bool)(i:Nat)(a:p i=true)(b:q i=false)(h:∀j,j≠i->q j=p j):∀n,i<n->cI q n+1=cI p n
 |0,d=>by omega
 |n+1,d=>by
  rw[cI,cI];by_cases e:i=n;·subst e;rw[a,b,qv q p i (λj f=>h j (by omega))];simp
  ·have:=lP p q i a b h n (by omega);rw[h n (λc=>e c.symm)];omega
theorem mR(p:Nat->Bool):∀n,cI p n≠0->∃j,j<n/\p j=true/\∀k,k<j->p k=false
 |0,h=>absurd rfl h
 |n+1,h=>by
  by_cases c:cI p n=0
  ·have a:∀m,cI p m=0->∀k,k<m->p k=false:=by
    intro m;induction m with
    |zero=>intro _ k f;omega
    |succ m g=>
     intro hm k f;rw[cI]at hm;rcases Nat.lt_or_ge k m with b|b;·exact g (by omega) k b
     ·have:k=m:=by omega
      subst this;cases d:p k;·rfl
      ·rw[d]at hm;simp at hm
   refine⟨n,by omega,?_,a n c⟩;cases d:p n;·rw[cI,c,d]at h;simp at h
   ·rfl
  ·obtain⟨j,i,b,e⟩:=mR p n c;exact⟨j,by omega,b,e⟩
theorem lQ(p:Nat->Bool):∀n,cI p n=0->∀j,j<n->p j=false
 |0,_,_,b=>by omega
 |n+1,h,j,b=>by
  rw[cI]at h;rcases Nat.lt_or_ge j n with a|a;·exact lQ p n (by omega) j a
  ·have:j=n:=by omega
   subst this;cases c:p j;·rfl
   ·rw[c]at h;simp at h
def JR(ops:Array Oper)(n:Nat):Bool:=
 decide (n<=ops.size)&&
 ((List.range n).all λi=>match ops[i]? with|some a=>a.dst.isSome&&a.after.all (λe=>!Region.binds .any e||decide (e.on<i))|none=>false)&&
 decide ((ops.toList.take n).map (·.dst)).Nodup&&
 (decide (n=ops.size)||(Region.sinkB .any ops n&&Region.chainB .any ops n))&&
 Region.seqB .any ops (ops.size-n) n (Array.replicate n true++Array.replicate (ops.size-n) false)
structure FQ(ops:Array Oper)(n:Nat):Prop where
 le:n<=ops.size
 each:∀i a,i<n->ops[i]? =some a->a.dst.isSome=true/\∀e∈a.after,Region.binds .any e=true->e.on<i
 nodup:((ops.toList.take n).map (·.dst)).Nodup
 tail:n=ops.size\/(Region.sinkB .any ops n=true/\Region.chainB .any ops n=true)
 seq:Region.seqB .any ops (ops.size-n) n (Array.replicate n true++Array.replicate (ops.size-n) false)=true
theorem FQ.of{ops:Array Oper}{n:Nat}(h:JR ops n=true):FQ ops n:=by
 simp only[JR,Bool.and_eq_true,Bool.or_eq_true,decide_eq_true_eq]at h;obtain⟨⟨⟨⟨a,b⟩,c⟩,d⟩,f⟩:=h;refine⟨a,λi l j k=>?_,c,d,f⟩;have h:=List.all_eq_true.1 b i (List.mem_range.2 j);rw[k]at h;simp only[Bool.and_eq_true]at h;refine⟨h.1,λe he g=>?_⟩;have:=(Array.all_eq_true_iff_forall_mem.1 h.2) e he;simpa[g]using this
def Dt(a:Act)(d:Option Tmp)(T:Nat->Prop)(w:World)(e:Value->World->Prop)(c:Act)(b:World):Prop:=∃v,c=a.put d v/\Fr T w b/\e v b
def nU(P:Program)(ops:Array Oper)(Q:Exit->Act->World->Prop)(b:Oper)(a:Act)(w:World)(K:Act->World->Prop):Prop:=
 (Region.wanted b (yielded ops a.tmps)=true/\b.wp P a w K Q)\/(Region.wanted b (yielded ops a.tmps)=false/\K (a.put b.dst undef) w)
def pB(P:Program)(ops:Array Oper)(Q:Exit->Act->World->Prop)(C:World->Prop)(T:Nat->Nat->Prop)(E:Nat->World->Prop)(F:(Nat->Value)->Act)(a:Nat->Value->World->Prop):Nat->List Oper->Prop
 |_,[]=>True
 |i,b::r=>(∀u w',C w'->E i w'->(∀j,(_:Region.waitsFor .any ops i j=true:=by kernel_rfl)->a j (u j) w')->nU P ops Q b (F u) w' (Dt (F u) b.dst (T i) w' (a i)))/\pB P ops Q C T E F a (i+1) r
theorem pB.at_{P:Program}{ops:Array Oper}{Q:Exit->Act->World->Prop}{C:World->Prop}{T:Nat->Nat->Prop}{E:Nat->World->Prop}{F:(Nat->Value)->Act}{c:Nat->Value->World->Prop}:∀{l:List Oper}{k:Nat},pB P ops Q C T E F c k l->
  ∀i d,l[i]? =some d->∀u w',C w'->E (k+i) w'->(∀j,Region.waitsFor .any ops (k+i) j=true->c j (u j) w')->nU P ops Q d (F u) w' (Dt (F u) d.dst (T (k+i)) w' (c (k+i)))
 |[],_,_,_,_,h=>by simp at h
 |b::r,k,h,0,d,a=>by
  have:b=d:=by simpa using a
  subst this;exact h.1
 |b::r,k,h,i+1,d,a=>by
  have:=pB.at_ h.2 i d (by simpa using a);rwa[show k+1+i=k+(i+1)by omega]at this
theorem oL{P:Program}{ops:Array Oper}{Q:Exit->Act->World->Prop}{i:Nat}{c:Oper}{K:Act->World->Prop}{a:Act}{w:World}(b:ops[i]? =some c)(h:nU P ops Q c a w K):wpOp P ops Q i K a w:=by
 unfold wpOp;rw[b];rcases h with⟨hw,h⟩|⟨hw,h⟩;·simp only[hw,if_true];exact .inl h
 ·simp only[hw,Bool.false_eq_true,if_false];exact h
theorem fV{P:Program}{ops:Array Oper}{Q:Exit->Act->World->Prop}{d:Oper}{K b:Act->World->Prop}{a:Act}{w:World}(c:∀a w,K a w->b a w)(h:nU P ops Q d a w K):nU P ops Q d a w b:=by
 rcases h with⟨hw,h⟩|⟨hw,h⟩;·exact .inl ⟨hw,Oper.wp_mono c h⟩
 ·exact .inr ⟨hw,c _ _ h⟩
structure Nz(C:World->Prop)(T:Nat->Nat->Prop)(E:Nat->World->Prop)(b:Nat->Value->World->Prop):Prop where
 c:∀i w' a,C w'->Fr (T i) w' a->C a
 e:∀i j w' a,i≠j->C w'->Fr (T i) w' a->E j w'->E j a
 r:∀i j v w' a,i≠j->C w'->Fr (T i) w' a->b j v w'->b j v a
def cF(a:List (Value->World->Prop))(j:Nat):Value->World->Prop:=a.getD j (λ_ _=>True)
def Is(x:Value):Value->World->Prop:=λv _=>v=x
def dB(T:Nat->Prop)(w:World):List (Value->World->Prop)->Prop
 |[]=>True
 |p::r=>(∀v w' a,Fr T w w'->Fr T w' a->p v w'->p v a)/\dB T w r
theorem dB.at_{T:Nat->Prop}{w:World}:∀{b:List (Value->World->Prop)},dB T w b->∀j v w' a,Fr T w w'->Fr T w' a->cF b j v w'->cF b j v a
 |[],_,_,_,_,_,_,_,_=>trivial
 |_::_,h,0,v,w',a,c,d,e=>h.1 v w' a c d e
 |_::_,h,j+1,v,w',a,c,d,e=>dB.at_ h.2 j v w' a c d e
theorem Is.ag{T:Nat->Prop}{w:World}(x:Value):∀v w' a,Fr T w w'->Fr T w' a->Is x v w'->Is x v a:=λ_ _ _ _ _ h=>h
def uH(P:Program)(ops:Array Oper)(Q:Exit->Act->World->Prop)(T:Nat->Prop)(w:World)(F:(Nat->Value)->Act)(a:Nat->Value->World->Prop):Nat->List Oper->Prop
 |_,[]=>True
 |i,b::r=>(∀u w',Fr T w w'->(∀j,(_:Region.waitsFor .any ops i j=true:=by kernel_rfl)->a j (u j) w')->b.wp P (F u) w' (Dt (F u) b.dst T w' (a i)) Q)/\uH P ops Q T w F a (i+1) r
theorem uH.all{P:Program}{ops:Array Oper}{Q:Exit->Act->World->Prop}{T:Nat->Prop}{w:World}{F:(Nat->Value)->Act}{d:Nat->Value->World->Prop}:∀{l:List Oper}{k:Nat},(l.all λe=>e.guard.isNone)=true->uH P ops Q T w F d k l->pB P ops Q (Fr T w) (λ_=>T) (λ_ _=>True) F d k l
 |[],_,_,_=>trivial
 |e::r,k,a,h=>by
  simp only[List.all_cons,Bool.and_eq_true,Option.isNone_iff_eq_none]at a;exact⟨λu w' hw _ b=> .inl ⟨by simp[Region.wanted,a.1],h.1 u w' hw (λj c=>b j c)⟩,uH.all a.2 h.2⟩
end Go.Proofs.YtphjagkehiklkaaGreatDoor
namespace Go.Proofs.YtphjagkehiklkaaGreatDoor
open Proofs.Tryz Go.RowKit
def dx:List (Nat×(World->Prop))->(World->Prop)->(Nat->Bool)->World->Prop
 |[],M,_=>M
 |(p,a)::r,M,d=>if d p=true then dx r a d else M
def eI(ws:List (Nat×(World->Prop)))(i:Nat):Bool:=(ws.map (·.1)).any (λp=>p==i)
def iB(ws:List (Nat×(World->Prop)))(T:Nat->Prop)(i:Nat):Nat->Prop:=if eI ws i=true then T else Nothing
def lL:List (Nat×(World->Prop))->Nat->World->Prop
 |[],_=>λ_=>True
 |(p,a)::r,i=>if(p==i)=true then a else lL r i
def mA:List (Nat×(World->Prop))->(World->Prop)->World->Prop
 |[],M=>M
 |(_,a)::r,_=>mA r a
def gW(B:Nat->Nat->Bool):List Nat->Bool
 |[]=>true
 |p::r=>r.all (λq=>B p q&&!(q==p))&&gW B r
def fY(ops:Array Oper)(n:Nat)(B:Nat->Nat->Bool):Bool:=
 (List.range n).all λj=>(List.range n).all λi=>!B i j||(Region.waitsFor .any ops j i||(List.range j).any λk=>Region.waitsFor .any ops j k&&B i k)
def jv(T:Nat->Prop)(w:World):List (Nat×(World->Prop))->Prop
 |[]=>True
 |(_,M)::r=>(∀w' a,Fr T w w'->Fr Nothing w' a->M w'->M a)/\jv T w r
theorem lx:∀(ws:List (Nat×(World->Prop)))(M:World->Prop)(d:Nat->Bool),(∀x∈ws,d x.1=false)->dx ws M d=M
 |[],_,_,_=>rfl
 |(p,a)::r,M,d,h=>by
  have:d p=false:=h (p,a) (by simp);simp only[dx,this,Bool.false_eq_true,if_false]
theorem oI:∀(ws:List (Nat×(World->Prop)))(M:World->Prop)(d:Nat->Bool),(∀x∈ws,d x.1=true)->dx ws M d=mA ws M
 |[],_,_,_=>rfl
 |(p,a)::r,M,d,h=>by
  have:d p=true:=h (p,a) (by simp);simp only[dx,this,if_true,mA];exact oI r a d (λx b=>h x (by simp[b]))
theorem lU:∀(ws:List (Nat×(World->Prop)))(M:World->Prop)(d d':Nat->Bool),(∀x∈ws,d x.1=d' x.1)->dx ws M d=dx ws M d'
 |[],_,_,_,_=>rfl
 |(p,a)::r,M,d,d',h=>by
  have b:d p=d' p:=h (p,a) (by simp);simp only[dx,b,lU r a d d' (λx c=>h x (by simp[c]))]
theorem kU{T:Nat->Prop}{w w' a:World}(b:Fr T w w')(c:Fr Nothing w' a):∀(ws:List (Nat×(World->Prop)))(M:World->Prop)(d:Nat->Bool),jv T w ws->(∀w' a,Fr T w w'->Fr Nothing w' a->M w'->M a)->dx ws M d w'->dx ws M d a
 |[],M,_,_,e,h=>e _ _ b c h
 |(p,i)::r,M,d,g,e,h=>by
  simp only[dx]at h⊢;split at h;·rename_i f;rw[if_pos f];exact kU b c r i d g.2 g.1 h
  ·rename_i f;rw[if_neg f];exact e _ _ b c h
theorem lV(B:Nat->Nat->Bool)(p:Nat)(d d':Nat->Bool)(b:World)(o:d' p=true)(k:∀q,q≠p->d' q=d q):
  ∀(ws:List (Nat×(World->Prop)))(M:World->Prop),gW B (ws.map (·.1))=true->eI ws p=true->(∀x∈ws,B x.1 p=true->d x.1=true)->(∀x∈ws,B p x.1=true->d x.1=false)->lL ws p b->dx ws M d' b
 |[],_,_,hw,_,_,_=>by simp[eI]at hw
 |(q,l)::r,M,i,hw,n,m,g=>by
  simp only[List.map_cons,gW,Bool.and_eq_true,List.all_eq_true]at i;by_cases e:q=p
  ·subst e;simp only[lL,beq_self_eq_true,if_true]at g;simp only[dx,o,if_true];rw[lx];·exact g
   ·intro x c;have f:=i.1 x.1 (List.mem_map.2 ⟨x,c,rfl⟩);simp only[Bool.not_eq_true',beq_eq_false_iff_ne]at f;rw[k _ f.2];exact m x (by simp[c]) f.1
  ·have a:eI r p=true:=by
    simp only[eI,List.map_cons,List.any_cons,Bool.or_eq_true,beq_iff_eq]at hw;rcases hw with h|h;·exact absurd h e
    ·exact h
   have j:p∈r.map (·.1):=by
    simp only[eI,List.any_eq_true,beq_iff_eq]at a;obtain⟨y,u,rfl⟩:=a;exact u
   have f:=i.1 p j;have t:d q=true:=n (q,l) (by simp) f.1;have s:(q==p)=false:=by simpa using e
   simp only[lL,s,Bool.false_eq_true,if_false]at g;simp only[dx,k q e,t,if_true];exact lV B p d d' b o k r l i.2 a (λx c=>n x (by simp[c])) (λx c=>m x (by simp[c])) g
def uV(a:Act)(d:Option Tmp)(T:Nat->Prop)(w:World)(e:Value->World->Prop)(M:World->Prop)(c:Act)(b:World):Prop:=∃v,c=a.put d v/\Fr T w b/\e v b/\M b
def iL(P:Program)(ops:Array Oper)(Q:Exit->Act->World->Prop)(T:Nat->Prop)(w:World)(F:(Nat->Value)->Act)(b:Nat->Value->World->Prop)(ws:List (Nat×(World->Prop)))(a:World->Prop)(B:Nat->Nat->Bool)(n:Nat):Nat->List Oper->Prop
 |_,[]=>True
 |i,c::r=>(∀u w' d,Fr T w w'->(∀j,(_:Region.waitsFor .any ops i j=true:=by kernel_rfl)->b j (u j) w')->(∀p,p<n->B p i=true->d p=true)->(∀p,(p==i||B i p)=true->d p=false)->dx ws a d w'->
   nU P ops Q c (F u) w' (uV (F u) c.dst (iB ws T i) w' (b i) (lL ws i)))/\iL P ops Q T w F b ws a B n (i+1) r
theorem iL.at_{P:Program}{ops:Array Oper}{Q:Exit->Act->World->Prop}{T:Nat->Prop}{w:World}{F:(Nat->Value)->Act}{e:Nat->Value->World->Prop}{ws:List (Nat×(World->Prop))}{b:World->Prop}{B:Nat->Nat->Bool}{n:Nat}:
  ∀{l:List Oper}{k:Nat},iL P ops Q T w F e ws b B n k l->∀i f,l[i]? =some f->∀u w' d,Fr T w w'->(∀j,Region.waitsFor .any ops (k+i) j=true->e j (u j) w')->(∀p,p<n->B p (k+i)=true->d p=true)->(∀p,(p==k+i||B (k+i) p)=true->d p=false)->dx ws b d w'->
   nU P ops Q f (F u) w' (uV (F u) f.dst (iB ws T (k+i)) w' (e (k+i)) (lL ws (k+i)))
 |[],_,_,_,_,h=>by simp at h
 |c::r,k,h,0,f,a=>by
  have:c=f:=by simpa using a
  subst this;exact h.1
 |c::r,k,h,i+1,f,a=>by
  have:=iL.at_ h.2 i f (by simpa using a);rw[show k+1+i=k+(i+1)by omega]at this;exact this
theorem ja{ops:Array Oper}{n:Nat}{B:Nat->Nat->Bool}{listed:Array Bool}(o:fY ops n B=true)(inv:HeadInv .any ops n listed):
  ∀j,j<n->listed.getD j false=true->∀i,i<n->B i j=true->listed.getD i false=true:=by
 have direct:∀j k,listed.getD j false=true->Region.waitsFor .any ops j k=true->listed.getD k false=true:=by
  intro j k c d;obtain⟨q,f,e,he,a,g⟩:=Region.waitsFor_spec d;subst g;exact inv.closed j q f c e he a
 intro j;induction j using Nat.strongRecOn with
 |_ j p=>
  intro c m i l a;have h:=List.all_eq_true.1 (List.all_eq_true.1 o j (List.mem_range.2 c)) i (List.mem_range.2 l);simp only[a,Bool.not_true,Bool.false_or,Bool.or_eq_true,List.any_eq_true,Bool.and_eq_true,List.mem_range]at h;rcases h with h|⟨k,d,hw,b⟩;·exact direct j i m h
  ·exact p k d (by omega) (direct j k m hw) i l b
theorem wL:∀(ds:List (Option Tmp))(k i:Nat)(u:Nat->Value)(a:Act)(v:Value),ds[i]? =some none->ar ds k (dW u (k+i) v) a=ar ds k u a
 |[],_,_,_,_,_,h=>by simp at h
 |d::r,k,0,u,a,v,h=>by
  have b:d=none:=by simpa using h
  subst b;rw[ar,ar];exact mZ r (k+1) _ _ _ (λj c=>by simp only[dW];rw[if_neg (by omega)])
 |d::r,k,i+1,u,a,v,h=>by
  rw[ar,ar,show dW u (k+(i+1)) v k=u k by simp only[dW];rw[if_neg (by omega)],show k+(i+1)=(k+1)+i by omega];exact wL r (k+1) i u _ v (by simpa using h)
theorem mE:∀(ds:List (Option Tmp))(k i:Nat)(u:Nat->Value)(a:Act)(x:Option Tmp)(v:Value),(ds.filterMap id).Nodup->ds[i]? =some x->(ar ds k u a).put x v=ar ds k (dW u (k+i) v) a
 |ds,k,i,u,a,none,v,_,h=>by rw[wL ds k i u a v h];rfl
 |[],_,_,_,_,some _,_,_,h=>by simp at h
 |d::r,k,0,u,a,some t,v,b,h=>by
  have g:d=some t:=by simpa using h
  subst g;have e:some t∉r:=by
   intro hm;simp only[List.filterMap_cons_some (show id (some t)=some t from rfl),List.nodup_cons]at b;exact b.1 (List.mem_filterMap.2 ⟨_,hm,rfl⟩)
  rw[ar,ar,ug r (k+1) u _ (some t) v e,EZ];rw[show dW u (k+0) v k=v by simp[dW]];exact mZ r (k+1) _ _ _ (λj l=>by simp only[dW];rw[if_neg (by omega)])
 |d::r,k,i+1,u,a,some t,v,b,h=>by
  have c:(r.filterMap id).Nodup:=by
   cases d with
   |none=>simpa using b
   |some f=>simp only[List.filterMap_cons_some (show id (some f)=some f from rfl),List.nodup_cons]at b;exact b.2
  rw[ar,ar,show dW u (k+(i+1)) v k=u k by simp only[dW];rw[if_neg (by omega)],show k+(i+1)=(k+1)+i by omega];exact mE r (k+1) i u _ (some t) v c (by simpa using h)
def pA(ops:Array Oper)(n:Nat):Bool:=
 decide (n<=ops.size)&&
 ((List.range n).all λi=>match ops[i]? with|some a=>a.after.all (λe=>!Region.binds .any e||decide (e.on<i))|none=>false)&&
 decide (((ops.toList.take n).map (·.dst)).filterMap id).Nodup&&
 (decide (n=ops.size)||(Region.sinkB .any ops n&&Region.chainB .any ops n))&&
 Region.seqB .any ops (ops.size-n) n (Array.replicate n true++Array.replicate (ops.size-n) false)
structure qI(ops:Array Oper)(n:Nat):Prop where
 le:n<=ops.size
 each:∀i a,i<n->ops[i]? =some a->∀e∈a.after,Region.binds .any e=true->e.on<i
 nodup:(((ops.toList.take n).map (·.dst)).filterMap id).Nodup
 tail:n=ops.size\/(Region.sinkB .any ops n=true/\Region.chainB .any ops n=true)
 seq:Region.seqB .any ops (ops.size-n) n (Array.replicate n true++Array.replicate (ops.size-n) false)=true
theorem vL{ops:Array Oper}{n:Nat}(a:((List.range n).all λi=>match ops[i]? with|some f=>f.after.all (λe=>!Region.binds .any e||decide (e.on<i))|none=>false)=true):
  ∀i f,i<n->ops[i]? =some f->∀e∈f.after,Region.binds .any e=true->e.on<i:=by
 intro i f c d e he b;have h:=List.all_eq_true.1 a i (List.mem_range.2 c);rw[d]at h;have:=(Array.all_eq_true_iff_forall_mem.1 h) e he;simpa[b]using this
theorem qI.of{ops:Array Oper}{n:Nat}(h:pA ops n=true):qI ops n:=by
 simp only[pA,Bool.and_eq_true,Bool.or_eq_true,decide_eq_true_eq]at h;obtain⟨⟨⟨⟨a,b⟩,c⟩,d⟩,e⟩:=h;exact⟨a,vL b,c,d,e⟩
theorem KM{P:Program}{ops:Array Oper}{Q:Exit->Act->World->Prop}{T:Nat->Prop}{w:World}{a:Act}{X:List (Value->World->Prop)}{ws:List (Nat×(World->Prop))}{t:World->Prop}{B:Nat->Nat->Bool}{n:Nat}(ok:qI ops n)(ab:fY ops n B=true)
  (F:(gW B (ws.map (·.1))&&(ws.map (·.1)).all (λp=>decide (p<n)))=true)
  (ao:dB T w X)(ap:jv T w ws)(an:∀w' g,Fr T w w'->Fr Nothing w' g->t w'->t g)
  (ay:iL P ops Q T w (λu=>ar ((ops.toList.take n).map (·.dst)) 0 u a) (cF X) ws t B n 0 (ops.toList.take n))
  (aB:∀u w',Fr T w w'->(∀j,j<n->cF X j (u j) w')->mA ws t w'->wpList P ops Q (ops.toList.drop n) (ar ((ops.toList.take n).map (·.dst)) 0 u a) w'):
  ∀(f:Nat)(listed:Array Bool)(u:Nat->Value)(w':World),HeadInv .any ops n listed->cI (λj=>!listed.getD j false) n=f->Fr T w w'->dx ws t (λj=>listed.getD j false) w'->
   (∀j,j<n->listed.getD j false=true->cF X j (u j) w')->wpAny P .any ops Q (f+(ops.size-n)) listed (ar ((ops.toList.take n).map (·.dst)) 0 u a) w':=by
 rw[Bool.and_eq_true]at F;have S:∀x∈ws,x.1<n:=λx E=>by simpa using List.all_eq_true.1 F.2 x.1 (List.mem_map.2 ⟨x,E,rfl⟩)
 intro f;induction f with
 |zero=>
  intro listed u w' inv av L M Y;have hall:∀j,j<n->listed.getD j false=true:=λj z=>by simpa using lQ _ n av j z
  have he:listed=Array.replicate n true++Array.replicate (ops.size-n) false:=by
   apply Array.ext;·rw[inv.size];have:=ok.le;simp;omega
   ·intro i aa aF;rcases Nat.lt_or_ge i n with y|y;·have:=hall i y;rw[Array.getElem_append_left (by simpa using y)];simpa[aa]using this
    ·have:=inv.tail i y (by rw[<-inv.size];exact aa);rw[Array.getElem_append_right (by simpa using y)];simpa[aa]using this
  rw[oI ws t _ (λx E=>hall x.1 (S x E))]at M;subst he;have N:(ops.toList.drop n).length=ops.size-n:=by simp
  have:=wpAny_of_seq (P:=P) (md:= .any) (ops:=ops) (Q':=Q) (ops.toList.drop n) n _ (ar ((ops.toList.take n).map (·.dst)) 0 u a) w' (λj=>by simp[List.getElem?_drop]) (by rw[N];exact ok.seq) (aB u w' L (λj z=>Y j z (hall j z)) M);rw[N]at this;rwa[Nat.zero_add]
 |succ f aC=>
  intro listed u w' inv av L M Y;obtain⟨j,z,aq,I⟩:=mR (λj=>!listed.getD j false) n (by omega);have H:j<ops.size:=by have:=ok.le;omega
  have D:listed.getD j true=false:=getD_in (by rw[inv.size];exact H) (by simpa using aq);have R:j∈Region.ready .any ops listed:=by
   refine mem_ready.2 ⟨D,ops[j],Array.getElem?_eq_getElem H,λe he l=>?_⟩;have:=ok.each j _ z (Array.getElem?_eq_getElem H) e he l;simpa using I e.on this
  rw[show f+1+(ops.size-n)=(f+(ops.size-n))+1 by omega];refine⟨λaw=>(by rw[aw]at R;cases R),λi y=>?_⟩;obtain⟨ak,o,U,W⟩:=mem_ready.1 y;have aj:i<ops.size:=(Array.getElem?_eq_some_iff.1 U).1;have m:i<n:=by
   rcases ok.tail with h|⟨aA,ag⟩;·omega
   ·rcases Nat.lt_or_ge i n with h|h;·exact h
    ·exact absurd y (tail_waits aA ag (by omega) inv (n-j) j rfl z D i h)
  have G:listed.getD i false=false:=getD_both ak;have V:(ops.toList.take n)[i]? =some o:=by rw[List.getElem?_take,if_pos m];simpa using U
  have b:∀k,Region.waitsFor .any ops i k=true->k<i/\listed.getD k false=true:=by
   intro k A;obtain⟨aD,al,e,he,l,am⟩:=Region.waitsFor_spec A;have:aD=o:=Option.some.inj (al.symm.trans U);subst this;subst am;exact⟨ok.each i _ m U e he l,W e he l⟩
  have c:∀p,p<n->B p i=true->listed.getD p false=true:=by
   intro p s l;have h:=List.all_eq_true.1 (List.all_eq_true.1 ab i (List.mem_range.2 m)) p (List.mem_range.2 s);simp only[l,Bool.not_true,Bool.false_or,Bool.or_eq_true,List.any_eq_true,Bool.and_eq_true,List.mem_range]at h;rcases h with h|⟨k,A,hw,ae⟩;·exact(b p h).2
   ·exact ja ab inv k (by omega) (b k hw).2 p s ae
  have d:∀p,(p==i||B i p)=true->listed.getD p false=false:=by
   intro p s;simp only[Bool.or_eq_true,beq_iff_eq]at s;rcases s with rfl|l;·exact G
   ·rcases Nat.lt_or_ge p n with J|J
    ·cases Z:listed.getD p false;·rfl
     ·have:=ja ab inv p J Z i m l;rw[G]at this;cases this
    ·rcases Nat.lt_or_ge p ops.size with au|au;·exact getD_both (inv.tail p J au)
     ·have:¬p<listed.size:=by rw[inv.size];omega
      simp[this]
  have hw:=ay.at_ i o V u w' (λj=>listed.getD j false) L (λk A=>by
   rw[Nat.zero_add]at A;exact Y k (by have:=(b k A).1;omega) (b k A).2) (λp s l=>by rw[Nat.zero_add]at l;exact c p s l) (λp s=>by rw[Nat.zero_add]at s;exact d p s) M;rw[Nat.zero_add]at hw;refine oL U (fV (λaE g ax=>?_) hw);obtain⟨v,rfl,r,ad,ac⟩:=ax;have O:Fr T w' g:=by
   unfold iB at r;split at r;·exact r
   ·exact r.bR
  rw[mE _ 0 i u a o.dst v ok.nodup (by rw[List.getElem?_map,V];rfl),Nat.zero_add];have C:(listed.setIfInBounds i true).getD i false=true:=by
   have ai:i<listed.size:=by rw[inv.size];exact aj
   simp[ai]
  refine aC (listed.setIfInBounds i true) (dW u i v) g (inv.set y m) ?_ (L.trans O) ?_ (λk A Z=>?_);·have:=lP (λj=>!listed.getD j false) (λj=>!(listed.setIfInBounds i true).getD j false) i (by simp only[G];rfl) (by simp only[C];rfl) (λj z=>by simp only[getD_set_ne false (Ne.symm z)]) n m;omega
  ·cases K:eI ws i
   ·have ah:Fr Nothing w' g:=by simpa[iB,K]using r
    have af:=lU ws t (λj=>(listed.setIfInBounds i true).getD j false) (λj=>listed.getD j false) (λx E=>by
     have:i≠x.1:=by
      rintro rfl;have:eI ws x.1=true:=by
       simp only[eI,List.any_eq_true,beq_iff_eq];exact⟨x.1,List.mem_map.2 ⟨x,E,rfl⟩,rfl⟩
      rw[K]at this;cases this
     simp only[getD_set_ne false this]);rw[af];exact kU L ah ws t _ ap an M
   ·exact lV B i (λj=>listed.getD j false) _ g C (λq az=>by simp only[getD_set_ne false (Ne.symm az)]) ws t F.1 K (λx E l=>c x.1 (S x E) l) (λx E l=>d x.1 (by rw[l,Bool.or_true])) ac
  ·by_cases e:k=i;·subst e;simp only[dW,if_true];exact ad
   ·simp only[dW];rw[if_neg e];rw[getD_set_ne false (λh=>e h.symm)]at Z;exact ao.at_ k (u k) w' g L O (Y k A Z)
theorem ay{P:Program}{id:Nat}{Q:Exit->Act->World->Prop}{a:Act}{w:World}{l:List Oper}(n:Nat)(T:Nat->Prop)(f:List (Value->World->Prop))(ws:List (Nat×(World->Prop)))(b:World->Prop)(B:Nat->Nat->Bool)(hm:P.follows .mixedOrders=true)(z:pA l.toArray n=true)
  (v:fY l.toArray n B=true)(g:(gW B (ws.map (·.1))&&(ws.map (·.1)).all (λp=>decide (p<n)))=true)
  (k:dB T w f)(o:jv T w ws)(i:∀w' e,Fr T w w'->Fr Nothing w' e->b w'->b e)(s:b w.drew)
  (A:iL P l.toArray Q T w (λu=>ar ((l.take n).map (·.dst)) 0 u a) (cF f) ws b B n 0 (l.take n))
  (q:∀u w',Fr T w w'->(∀j,j<n->cF f j (u j) w')->mA ws b w'->wpList P l.toArray Q (l.drop n) (ar ((l.take n).map (·.dst)) 0 u a) w'):(Code.region id l.toArray true).wp P Q a w:=by
 have ok:=qI.of z;obtain⟨D,r⟩:=gT ((l.take n).map (·.dst)) 0 a;refine wp_region_any hm ?_;have d:HeadInv .any l.toArray n (Array.replicate l.toArray.size false):=
  ⟨by simp,λj F _ c=>(by rw[getD_replicate_false]at c;cases c),λt _ q=>getD_in (by simpa using q) (getD_replicate_false _ _)⟩;have y:cI (λj=>!(Array.replicate l.toArray.size false).getD j false) n=n:=by
  have h:∀m,cI (λj=>!(Array.replicate l.toArray.size false).getD j false) m=m:=by
   intro m;induction m with
   |zero=>rfl
   |succ m C=>rw[cI,C,getD_replicate_false];rfl
  exact h n
 have:=KM (P:=P) (Q:=Q) (a:=a) ok v g k o i (by simpa using A) (by simpa using q) n _ D w.drew d y (aA.drew) (by rw[lx ws b _ (λx _=>getD_replicate_false _ _)];exact s) (λj E c=>by rw[getD_replicate_false]at c;cases c);rw[show(l.toArray.toList.take n).map (·.dst)=(l.take n).map (·.dst)by simp,r,show n+(l.toArray.size-n)=l.toArray.size by have:=ok.le;omega]at this;exact this
theorem vi{ops:Array Oper}{n:Nat}{B:Nat->Nat->Bool}(m:fY ops n B=true)(each:∀i q,i<n->ops[i]? =some q->∀e∈q.after,Region.binds .any e=true->e.on<i):
  ∀j,j<n->∀i,i<n->B i j=true->i<j:=by
 have direct:∀j k,j<n->Region.waitsFor .any ops j k=true->k<j:=by
  intro j k a d;obtain⟨p,f,e,he,b,g⟩:=Region.waitsFor_spec d;subst g;exact each j p a f e he b
 intro j;induction j using Nat.strongRecOn with
 |_ j o=>
  intro a i l b;have h:=List.all_eq_true.1 (List.all_eq_true.1 m j (List.mem_range.2 a)) i (List.mem_range.2 l);simp only[b,Bool.not_true,Bool.false_or,Bool.or_eq_true,List.any_eq_true,Bool.and_eq_true,List.mem_range]at h;rcases h with h|⟨k,d,hw,c⟩;·exact direct j i a h
  ·have:=o k d (by omega) i l c;omega
def zu(ops:Array Oper)(n:Nat):Bool:=
 decide (n<=ops.size)&&
 ((List.range n).all λi=>match ops[i]? with|some a=>a.after.all (λe=>!Region.binds .any e||decide (e.on<i))|none=>false)&&
 decide (((ops.toList.take n).map (·.dst)).filterMap id).Nodup
theorem Nf{P:Program}{ops:Array Oper}{Q:Exit->Act->World->Prop}{T:Nat->Prop}{w:World}{a:Act}{D:List (Value->World->Prop)}{ws:List (Nat×(World->Prop))}{m:World->Prop}{B:Nat->Nat->Bool}{n:Nat}(hle:n<=ops.size)
  (each:∀i o,i<n->ops[i]? =some o->∀e∈o.after,Region.binds .any e=true->e.on<i)(nodup:(((ops.toList.take n).map (·.dst)).filterMap id).Nodup)(aa:fY ops n B=true)
  (s:(gW B (ws.map (·.1))&&(ws.map (·.1)).all (λp=>decide (p<n)))=true)
  (Y:dB T w D)(Z:jv T w ws)(X:∀w' b,Fr T w w'->Fr Nothing w' b->m w'->m b)
  (ad:iL P ops Q T w (λu=>ar ((ops.toList.take n).map (·.dst)) 0 u a) (cF D) ws m B n 0 (ops.toList.take n))
  (af:∀u w',Fr T w w'->(∀j,j<n->cF D j (u j) w')->mA ws m w'->wpList P ops Q (ops.toList.drop n) (ar ((ops.toList.take n).map (·.dst)) 0 u a) w'):
  ∀(f k:Nat)(u:Nat->Value)(w':World),k+f=n->Fr T w w'->dx ws m (λj=>decide (j<k)) w'->(∀j,j<k->cF D j (u j) w')->wpList P ops Q (ops.toList.drop k) (ar ((ops.toList.take n).map (·.dst)) 0 u a) w':=by
 rw[Bool.and_eq_true]at s;have H:∀x∈ws,x.1<n:=λx A=>by simpa using List.all_eq_true.1 s.2 x.1 (List.mem_map.2 ⟨x,A,rfl⟩)
 intro f;induction f with
 |zero=>
  intro k u w' ae C F M;obtain rfl:k=n:=by omega
  rw[oI ws m _ (λx A=>cX (H x A))]at F;exact af u w' C M F
 |succ f ag=>
  intro k u w' ae C F M;have hkn:k<n:=by omega
  have U:k<ops.size:=by omega
  have J:(ops.toList.take n)[k]? =some ops[k]:=by rw[List.getElem?_take,if_pos hkn];simp
  have t:ops.toList.drop k=ops[k]::ops.toList.drop (k+1):=by
   rw[List.drop_eq_getElem_cons (by simpa using U)];simp
  have c:∀p,p<n->B p k=true->decide (p<k)=true:=λp r g=>cX (vi aa each k hkn p r g);have d:∀p,(p==k||B k p)=true->decide (p<k)=false:=by
   intro p r;simp only[Bool.or_eq_true,beq_iff_eq]at r;rcases r with rfl|g;·simp
   ·rcases Nat.lt_or_ge p n with L|L;·have:=vi aa each p L k hkn g;exact ct (by omega)
    ·exact ct (by omega)
  have hw:=ad.at_ k ops[k] J u w' (λj=>decide (j<k)) C (λj S=>by
   rw[Nat.zero_add]at S;obtain⟨ah,V,e,he,g,W⟩:=Region.waitsFor_spec S;subst W;exact M e.on (each k ah hkn V e he g)) (λp r g=>by rw[Nat.zero_add]at g;exact c p r g) (λp r=>by rw[Nat.zero_add]at r;exact d p r) F;rw[Nat.zero_add]at hw;rw[t];have goal:∀E b,uV (ar ((ops.toList.take n).map (·.dst)) 0 u a) ops[k].dst (iB ws T k) w' (cF D k) (lL ws k) E b->wpList P ops Q (ops.toList.drop (k+1)) E b:=by
   rintro E b⟨v,rfl,l,O,N⟩;have G:Fr T w' b:=by
    unfold iB at l;split at l;·exact l
    ·exact l.bR
   rw[mE _ 0 k u a ops[k].dst v nodup (by rw[List.getElem?_map,J];rfl),Nat.zero_add];have I:∀q,q≠k->decide (q<k+1)=decide (q<k):=λq ab=>by
    rcases Nat.lt_or_ge q k with h|h;·rw[decide_eq_true h,cX (by omega)]
    ·rw[ct (by omega:¬q<k),ct (by omega)]
   refine ag (k+1) (dW u k v) b (by omega) (C.trans G) ?_ (λj S=>?_)
   ·cases y:eI ws k
    ·have R:Fr Nothing w' b:=by simpa[iB,y]using l
     rw[lU ws m (λj=>decide (j<k+1)) (λj=>decide (j<k)) (λx A=>by
      refine I x.1 ?_;rintro e;have:eI ws k=true:=by
       simp only[eI,List.any_eq_true,beq_iff_eq];exact⟨x.1,List.mem_map.2 ⟨x,A,rfl⟩,e⟩
      rw[y]at this;cases this)];exact kU C R ws m _ Z X F
    ·exact lV B k (λj=>decide (j<k)) _ b (by simp) (λq ab=>I q ab) ws m s.1 y (λx A g=>c x.1 (H x A) g) (λx _ g=>d x.1 (by rw[g,Bool.or_true])) N
   ·by_cases e:j=k;·subst e;simp only[dW,if_true];exact O
    ·simp only[dW];rw[if_neg e];exact Y.at_ j (u j) w' b C G (M j (by omega))
  rcases hw with⟨z,hw⟩|⟨z,hw⟩
  ·exact wpList_step λK ac=>by
    rw[if_pos z];exact Oper.wp_mono (λE b h=>ac _ _ (goal E b h)) hw
  ·unfold wpList;simp only[z,Bool.false_eq_true,if_false];exact goal _ _ hw
theorem iD{P:Program}{id:Nat}{Q:Exit->Act->World->Prop}{a:Act}{w:World}{l:List Oper}(n:Nat)(T:Nat->Prop)(e:List (Value->World->Prop))(ws:List (Nat×(World->Prop)))(b:World->Prop)(B:Nat->Nat->Bool)(d:zu l.toArray n=true)
  (o:fY l.toArray n B=true)(f:(gW B (ws.map (·.1))&&(ws.map (·.1)).all (λp=>decide (p<n)))=true)
  (h:dB T w e)(i:jv T w ws)(g:∀w' c,Fr T w w'->Fr Nothing w' c->b w'->b c)(m:b w)
  (q:iL P l.toArray Q T w (λu=>ar ((l.take n).map (·.dst)) 0 u a) (cF e) ws b B n 0 (l.take n))
  (r:∀u w',Fr T w w'->(∀j,j<n->cF e j (u j) w')->mA ws b w'->wpList P l.toArray Q (l.drop n) (ar ((l.take n).map (·.dst)) 0 u a) w'):(Code.region id l.toArray false).wp P Q a w:=by
 simp only[zu,Bool.and_eq_true,decide_eq_true_eq]at d;obtain⟨s,k⟩:=gT ((l.take n).map (·.dst)) 0 a;refine wp_region_lit ?_;have:=Nf (P:=P) (Q:=Q) (a:=a) d.1.1 (vL d.1.2) d.2 o f h i g (by simpa using q) (by simpa using r) n 0 s w (by omega) aA (by rw[lx ws b _ (λx _=>by simp)];exact m) (λj t=>by omega);rw[show(l.toArray.toList.take n).map (·.dst)=(l.take n).map (·.dst)by simp,k]at this;simpa using this
end Go.Proofs.YtphjagkehiklkaaGreatDoor
namespace Go.Proofs.YtphjagkehiklkaaGreatDoor
open Proofs.Tryz Go.RowKit
def gU(d:Nat->Bool)(i:Nat):Nat->Bool:=λj=>if j=i then true else d j
def sQ(ops:Array Oper)(n:Nat):Bool:=
 decide (n<=ops.size)&&
 ((List.range n).all λi=>match ops[i]? with|some a=>a.after.all (λe=>!Region.binds .any e||decide (e.on<i))|none=>false)&&
 decide (((ops.toList.take n).map (·.dst)).filterMap id).Nodup&&
 (decide (n=ops.size)||(Region.sinkB .any ops n&&Region.chainB .any ops n))&&
 Region.seqB .any ops (ops.size-n) n (Array.replicate n true++Array.replicate (ops.size-n) false)
structure sv(ops:Array Oper)(n:Nat):Prop where
 le:n<=ops.size
 each:∀i a,i<n->ops[i]? =some a->∀e∈a.after,Region.binds .any e=true->e.on<i
 nodup:(((ops.toList.take n).map (·.dst)).filterMap id).Nodup
 tail:n=ops.size\/(Region.sinkB .any ops n=true/\Region.chainB .any ops n=true)
 seq:Region.seqB .any ops (ops.size-n) n (Array.replicate n true++Array.replicate (ops.size-n) false)=true
theorem sv.of{ops:Array Oper}{n:Nat}(h:sQ ops n=true):sv ops n:=by
 simp only[sQ,Bool.and_eq_true,Bool.or_eq_true,decide_eq_true_eq]at h;obtain⟨⟨⟨⟨a,b⟩,c⟩,d⟩,e⟩:=h;exact⟨a,vL b,c,d,e⟩
theorem zF{P:Program}{ops:Array Oper}{Q:Exit->Act->World->Prop}{a:Act}{n:Nat}(ok:sv ops n)(Inv:(Nat->Bool)->(Nat->Value)->World->Prop)
  (V:∀i o,i<n->ops[i]? =some o->∀d u w',d i=false->(∀j k,d j=true->Region.waitsFor .any ops j k=true->d k=true)->(∀j,Region.waitsFor .any ops i j=true->d j=true/\j<n)->Inv d u w'->
   nU P ops Q o (ar ((ops.toList.take n).map (·.dst)) 0 u a) w' (λR t=>∃v,R=(ar ((ops.toList.take n).map (·.dst)) 0 u a).put o.dst v/\Inv (gU d i) (dW u i v) t))
  (X:∀d u w',(∀j,j<n->d j=true)->Inv d u w'->wpList P ops Q (ops.toList.drop n) (ar ((ops.toList.take n).map (·.dst)) 0 u a) w'):
  ∀(f:Nat)(listed:Array Bool)(u:Nat->Value)(w':World),HeadInv .any ops n listed->cI (λj=>!listed.getD j false) n=f->Inv (λj=>listed.getD j false) u w'->
   wpAny P .any ops Q (f+(ops.size-n)) listed (ar ((ops.toList.take n).map (·.dst)) 0 u a) w':=by
 intro f;induction f with
 |zero=>
  intro listed u w' inv S E;have g:∀j,j<n->listed.getD j false=true:=λj l=>by simpa using lQ _ n S j l
  have he:listed=Array.replicate n true++Array.replicate (ops.size-n) false:=by
   apply Array.ext;·rw[inv.size];have:=ok.le;simp;omega
   ·intro i D Z;rcases Nat.lt_or_ge i n with c|c;·have:=g i c;rw[Array.getElem_append_left (by simpa using c)];simpa[D]using this
    ·have:=inv.tail i c (by rw[<-inv.size];exact D);rw[Array.getElem_append_right (by simpa using c)];simpa[D]using this
  have M:=X _ u w' g E;subst he;have y:(ops.toList.drop n).length=ops.size-n:=by simp
  have:=wpAny_of_seq (P:=P) (md:= .any) (ops:=ops) (Q':=Q) (ops.toList.drop n) n _ (ar ((ops.toList.take n).map (·.dst)) 0 u a) w' (λj=>by simp[List.getElem?_drop]) (by rw[y];exact ok.seq) M;rw[y]at this;rwa[Nat.zero_add]
 |succ f Y=>
  intro listed u w' inv S E;obtain⟨j,l,N,q⟩:=mR (λj=>!listed.getD j false) n (by omega);have p:j<ops.size:=by have:=ok.le;omega
  have hunj:listed.getD j true=false:=getD_in (by rw[inv.size];exact p) (by simpa using N);have B:j∈Region.ready .any ops listed:=by
   refine mem_ready.2 ⟨hunj,ops[j],Array.getElem?_eq_getElem p,λe he w=>?_⟩;have:=ok.each j _ l (Array.getElem?_eq_getElem p) e he w;simpa using q e.on this
  rw[show f+1+(ops.size-n)=(f+(ops.size-n))+1 by omega];refine⟨λT=>(by rw[T]at B;cases B),λi c=>?_⟩;obtain⟨J,o,x,C⟩:=mem_ready.1 c;have I:i<ops.size:=(Array.getElem?_eq_some_iff.1 x).1;have b:i<n:=by
   rcases ok.tail with h|⟨W,G⟩;·omega
   ·rcases Nat.lt_or_ge i n with h|h;·exact h
    ·exact absurd c (tail_waits W G (by omega) inv (n-j) j rfl l hunj i h)
  have A:listed.getD i false=false:=getD_both J;have L:(ops.toList.take n)[i]? =some o:=by rw[List.getElem?_take,if_pos b];simpa using x
  have hw:=V i o b x (λj=>listed.getD j false) u w' A (λj k l K=>by
   obtain⟨O,r,e,he,w,s⟩:=Region.waitsFor_spec K;subst s;exact inv.closed j O r l e he w) (λk K=>by
   obtain⟨O,r,e,he,w,s⟩:=Region.waitsFor_spec K;have:O=o:=Option.some.inj (r.symm.trans x);subst this;subst s;have:=ok.each i _ b x e he w;exact⟨C e he w,by omega⟩) E;refine oL x (fV (λR t U=>?_) hw);obtain⟨v,rfl,F⟩:=U;rw[mE _ 0 i u a o.dst v ok.nodup (by rw[List.getElem?_map,L];rfl),Nat.zero_add];have m:(listed.setIfInBounds i true).getD i false=true:=by
   have H:i<listed.size:=by rw[inv.size];exact I
   simp[H]
  have z:(λj=>(listed.setIfInBounds i true).getD j false)=gU (λj=>listed.getD j false) i:=by
   funext j;unfold gU;split;·rename_i e;subst e;exact m
   ·rename_i e;exact getD_set_ne false (λh=>e h.symm)
  refine Y (listed.setIfInBounds i true) (dW u i v) t (inv.set c b) ?_ (by rw[z];exact F);have:=lP (λj=>!listed.getD j false) (λj=>!(listed.setIfInBounds i true).getD j false) i (by simp only[A];rfl) (by simp only[m];rfl) (λj l=>by simp only[getD_set_ne false (Ne.symm l)]) n b;omega
def iV:List (Nat×Nat×Array Value)->Array Value->Nat->(Nat->Bool)->Array Value
 |[],cs,_,_=>cs
 |(i,a,cs')::r,cs,j,d=>if(a==j&&d i)=true then cs' else iV r cs j d
theorem gX{i j:Nat}{d:Nat->Bool}:∀(a:List (Nat×Nat×Array Value))(cs:Array Value),(∀x∈a,x.2.1=j->x.1≠i)->iV a cs j (gU d i)=iV a cs j d
 |[],_,_=>rfl
 |(i',c,cs')::r,cs,h=>by
  have g:=gX (d:=d) r cs (λx f=>h x (by simp[f]));unfold iV;rw[g];by_cases e:c=j;·have b:i'≠i:=h (i',c,cs') (by simp) e;simp only[gU,if_neg b]
  ·have:(c==j)=false:=by simpa using e
   simp only[this,Bool.false_and]
theorem lg{j:Nat}{d:Nat->Bool}:∀(b:List (Nat×Nat×Array Value))(cs:Array Value),(∀x∈b,x.2.1=j->d x.1=false)->iV b cs j d=cs
 |[],_,_=>rfl
 |(i',a,cs')::r,cs,h=>by
  have f:=lg (d:=d) r cs (λx c=>h x (by simp[c]));unfold iV;rw[f];by_cases e:a=j;·have:d i'=false:=h (i',a,cs') (by simp) e;simp[this]
  ·have:(a==j)=false:=by simpa using e
   simp only[this,Bool.false_and,Bool.false_eq_true,if_false]
theorem qK{j i:Nat}{c:Array Value}{d:Nat->Bool}(g:d i=true):∀(b:List (Nat×Nat×Array Value))(cs:Array Value),(i,j,c)∈b->(∀x∈b,x.2.1=j->x=(i,j,c))->iV b cs j d=c
 |[],_,h,_=>by cases h
 |(i',f,cs')::r,cs,h,hu=>by
  unfold iV;by_cases e:f=j;·have:=hu (i',f,cs') (by simp) e;simp only[Prod.mk.injEq]at this;obtain⟨rfl,rfl,rfl⟩:=this;simp[g]
  ·have k:(i,j,c)∈r:=by
    rcases List.mem_cons.1 h with a|a;·simp only[Prod.mk.injEq]at a;exact absurd a.2.1.symm e
    ·exact a
   have:(f==j)=false:=by simpa using e
   simp only[this,Bool.false_and,Bool.false_eq_true,if_false];exact qK g r cs k (λx l=>hu x (by simp[l]))
theorem oq{j:Nat}{d d':Nat->Bool}:∀(a:List (Nat×Nat×Array Value))(cs:Array Value),(∀x∈a,d x.1=d' x.1)->iV a cs j d=iV a cs j d'
 |[],_,_=>rfl
 |(i',e,cs')::r,cs,h=>by
  have c:=oq r cs (λx b=>h x (by simp[b])) (d:=d) (d':=d') (j:=j);unfold iV;rw[c,h (i',e,cs') (by simp)]
def ju(a:List (Value->Prop))(j:Nat):Value->Prop:=a.getD j (λ_=>True)
structure Mt(w:World)(ty:TypeId)(e:List (Value->Prop))(f:List (Value->World->Prop))(b:List (Nat×Array Value))(c:List (Nat×Nat×Array Value))(n:Nat)(d:Nat->Bool)(u:Nat->Value)(w':World):Prop where
 fr:Fr Nothing w w'
 facts:∀j,j<n->d j=true->ju e j (u j)
 mem:(∀x∈c,d x.1=false)->∀j,j<n->d j=true->cF f j (u j) w'
 news:∀j cs,(j,cs)∈b->d j=true->∃g,u j= .pointer (some ⟨g,0,none⟩)/\w.heap.size<=g/\aq w' g ty (iV c cs j d)
 apart:∀j cs a cs',(j,cs)∈b->(a,cs')∈b->j≠a->d j=true->d a=true->u j≠u a
def Lj(a:Act)(d:Option Tmp)(e:Value->Prop)(g:Nat)(ty:TypeId)(cs:Array Value)(w':World)(c:Act)(b:World):Prop:=∃v,c=a.put d v/\e v/\aq b g ty cs/\Fr (λk=>k=g) w' b
def K6(a:Act)(d:Option Tmp)(f:Value->Prop)(c:Value->World->Prop)(ty:TypeId)(cs:Array Value)(w':World)(e:Act)(b:World):Prop:=∃v,e=a.put d v/\f v/\c v b/\v= .pointer (some ⟨w'.heap.size,0,none⟩)/\dN w' b ty cs
def MN(a:Act)(d:Option Tmp)(f:Value->Prop)(c:Value->World->Prop)(w':World)(e:Act)(b:World):Prop:=∃v,e=a.put d v/\f v/\c v b/\Fr Nothing w' b
def Mb(P:Program)(ops:Array Oper)(Q:Exit->Act->World->Prop)(w:World)(ty:TypeId)(F:(Nat->Value)->Act)(a:List (Value->Prop))(b:List (Value->World->Prop))(c:List (Nat×Array Value))(d:List (Nat×Nat×Array Value))(i:Nat)(e:Oper):Prop:=
 match d.find? (λx=>x.1==i)with
 |some (_,j,cs')=>∀u w' g,Fr Nothing w w'->(∀j,Region.waitsFor .any ops i j=true->ju a j (u j))->u j= .pointer (some ⟨g,0,none⟩)->(∃cs,(j,cs)∈c/\aq w' g ty cs)->
   nU P ops Q e (F u) w' (Lj (F u) e.dst (ju a i) g ty cs' w')
 |none=>match c.find? (λx=>x.1==i)with
  |some (_,cs)=>∀u w',Fr Nothing w w'->(∀j,Region.waitsFor .any ops i j=true->ju a j (u j))->
    nU P ops Q e (F u) w' (K6 (F u) e.dst (ju a i) (cF b i) ty cs w')
  |none=>∀u w',Fr Nothing w w'->(∀j,Region.waitsFor .any ops i j=true->ju a j (u j))->(d.all (λx=>Region.waitsFor .any ops x.1 i)=true->∀j,Region.waitsFor .any ops i j=true->cF b j (u j) w')->
    nU P ops Q e (F u) w' (MN (F u) e.dst (ju a i) (cF b i) w')
def qR(P:Program)(ops:Array Oper)(Q:Exit->Act->World->Prop)(w:World)(ty:TypeId)(F:(Nat->Value)->Act)(b:List (Value->Prop))(c:List (Value->World->Prop))(a:List (Nat×Array Value))(d:List (Nat×Nat×Array Value)):Nat->List Oper->Prop
 |_,[]=>True
 |i,e::r=>Mb P ops Q w ty F b c a d i e/\qR P ops Q w ty F b c a d (i+1) r
theorem qR.at_{P:Program}{ops:Array Oper}{Q:Exit->Act->World->Prop}{w:World}{ty:TypeId}{F:(Nat->Value)->Act}{c:List (Value->Prop)}{d:List (Value->World->Prop)}{b:List (Nat×Array Value)}{e:List (Nat×Nat×Array Value)}:
  ∀{l:List Oper}{k:Nat},qR P ops Q w ty F c d b e k l->∀i g,l[i]? =some g->Mb P ops Q w ty F c d b e (k+i) g
 |[],_,_,_,_,h=>by simp at h
 |f::r,k,h,0,g,a=>by
  have:f=g:=by simpa using a
  subst this;exact h.1
 |f::r,k,h,i+1,g,a=>by
  have:=qR.at_ h.2 i g (by simpa using a);rw[show k+1+i=k+(i+1)by omega]at this;exact this
def Kh(ops:Array Oper)(n:Nat)(a:List Nat)(b:List (Nat×Nat)):Bool:=
 a.all (λj=>decide (j<n))&&b.all (λx=>decide (x.1<n)&&a.contains x.2&&Region.waitsFor .any ops x.1 x.2&&!a.contains x.1)&&decide (a.Nodup)&&decide ((b.map (·.2)).Nodup)&&decide ((b.map (·.1)).Nodup)
theorem jI{α:Type}{f:α->Nat}:∀{l:List α},(l.map f).Nodup->∀x∈l,∀y∈l,f x=f y->x=y
 |[],_,x,c,_,_,_=>by cases c
 |z::r,h,x,c,y,d,e=>by
  rw[List.map_cons,List.nodup_cons]at h;rcases List.mem_cons.1 c with rfl|a<;>rcases List.mem_cons.1 d with rfl|b;·rfl
  ·exact absurd (List.mem_map.2 ⟨y,b,e.symm⟩) h.1
  ·exact absurd (List.mem_map.2 ⟨x,a,e⟩) h.1
  ·exact jI h.2 x a y b e
theorem xi{P:Program}{id:Nat}{Q:Exit->Act->World->Prop}{a:Act}{w:World}{l:List Oper}(n:Nat)(ty:TypeId)(au:List (Value->Prop))(ax:List (Value->World->Prop))(W:List (Nat×Array Value))(G:List (Nat×Nat×Array Value))(hm:P.follows .mixedOrders=true)(ba:sQ l.toArray n=true)
  (aC:Kh l.toArray n (W.map (·.1)) (G.map λx=>(x.1,x.2.1))=true)
  (aU:dB Nothing w ax)
  (bb:qR P l.toArray Q w ty (λu=>ar ((l.take n).map (·.dst)) 0 u a) au ax W G 0 (l.take n))
  (aV:∀u w',Fr Nothing w w'->(∀j,j<n->ju au j (u j))->(∀j cs,(j,cs)∈W->∃g,u j= .pointer (some ⟨g,0,none⟩)/\w.heap.size<=g/\aq w' g ty (iV G cs j (λ_=>true)))->
   (∀j cs ai cs',(j,cs)∈W->(ai,cs')∈W->j≠ai->u j≠u ai)->wpList P l.toArray Q (l.drop n) (ar ((l.take n).map (·.dst)) 0 u a) w'):(Code.region id l.toArray true).wp P Q a w:=by
 have ok:=sv.of ba;simp only[Kh,Bool.and_eq_true,List.all_eq_true,decide_eq_true_eq,Bool.not_eq_true']at aC;obtain⟨⟨⟨⟨bf,bg⟩,bh⟩,a2⟩,a3⟩:=aC;have aI:∀j cs,(j,cs)∈W->j<n:=λj cs h=>bf j (List.mem_map.2 ⟨_,h,rfl⟩);have aJ:∀i j c,(i,j,c)∈G->i<n/\(∃cs,(j,cs)∈W)/\Region.waitsFor .any l.toArray i j=true/\∀cs,(i,cs)∉W:=by
  intro i j c h;obtain⟨⟨⟨aL,aM⟩,aH⟩,a7⟩:=bg (i,j) (List.mem_map.2 ⟨_,h,rfl⟩);refine⟨aL,?_,aH,λcs aO=>?_⟩;·have:=List.contains_iff_mem.1 aM;obtain⟨⟨ai,cs⟩,r,e⟩:=List.mem_map.1 this;exact⟨cs,by simp only at e;rw[<-e];exact r⟩
  ·have:(W.map (·.1)).contains i=true:=List.contains_iff_mem.2 (List.mem_map.2 ⟨_,aO,rfl⟩);rw[a7]at this;cases this
 have aZ:∀x∈G,∀y∈G,x.2.1=y.2.1->x=y:=λx r y aE e=>jI (f:=λx=>x.2.1) (by rw[List.map_map]at a2;exact a2) x r y aE e;have a4:∀x∈G,∀y∈G,x.1=y.1->x=y:=λx r y aE e=>jI (f:=λx=>x.1) (by rw[List.map_map]at a3;exact a3) x r y aE e;have aY:∀x∈W,∀y∈W,x.1=y.1->x=y:=λx r y aE e=>jI (f:=λx=>x.1) bh x r y aE e;obtain⟨bi,aW⟩:=gT ((l.take n).map (·.dst)) 0 a;refine wp_region_any hm ?_;have aG:HeadInv .any l.toArray n (Array.replicate l.toArray.size false):=
  ⟨by simp,λj bl _ a1=>(by rw[getD_replicate_false]at a1;cases a1),λt _ aV=>getD_in (by simpa using aV) (getD_replicate_false _ _)⟩;have aO:cI (λj=>!(Array.replicate l.toArray.size false).getD j false) n=n:=by
  have h:∀m,cI (λj=>!(Array.replicate l.toArray.size false).getD j false) m=m:=by
   intro m;induction m with
   |zero=>rfl
   |succ m be=>rw[cI,be,getD_replicate_false];rfl
  exact h n
 have:=zF (P:=P) (Q:=Q) (a:=a) ok (Mt w ty au ax W G n) ?_ ?_ n _ bi w.drew aG aO
  ⟨aA.drew,λj _ h=>(by rw[getD_replicate_false]at h;cases h),λ_ j _ h=>(by rw[getD_replicate_false]at h;cases h),λj _ _ h=>(by rw[getD_replicate_false]at h;cases h),λj _ _ _ _ _ _ h=>(by rw[getD_replicate_false]at h;cases h)⟩;·rw[show(l.toArray.toList.take n).map (·.dst)=(l.take n).map (·.dst)by simp,aW,show n+(l.toArray.size-n)=l.toArray.size by have:=ok.le;omega]at this;exact this
 ·intro i o aS bd d u w' aa K A z;have aT:(l.take n)[i]? =some o:=by rw[List.getElem?_take,if_pos aS];simpa using bd
  have V:=bb.at_ i o aT;rw[Nat.zero_add]at V;have ay:(l.toArray.toList.take n).map (·.dst)=(l.take n).map (·.dst):=by simp
  rw[ay];have I:∀j,Region.waitsFor .any l.toArray i j=true->ju au j (u j):=λj F=>z.facts j (A j F).2 (A j F).1;have B:∀v j,j≠i->dW u i v j=u j:=λv j F=>by simp[dW,F]
  have O:∀v,dW u i v i=v:=λv=>by simp[dW]
  have b:∀j,j≠i->gU d i j=d j:=λj F=>by simp[gU,F]
  have H:∀v,ju au i v->∀j,j<n->gU d i j=true->ju au j (dW u i v j):=by
   intro v ad j F aQ;by_cases e:j=i;·subst e;rw[O];exact ad
   ·rw[B v j e];exact z.facts j F (by rw[<-b j e];exact aQ)
  have aj:∀v R,(∀x∈G,x.1≠i)->cF ax i v R->Fr Nothing w' R->(∀x∈G,gU d i x.1=false)->∀j,j<n->gU d i j=true->cF ax j (dW u i v j) R:=by
   intro v R Z ad af am j F aQ;by_cases e:j=i;·subst e;rw[O];exact ad
   ·rw[B v j e];exact aU.at_ j (u j) w' R z.fr af (z.mem (λx r=>by rw[<-b x.1 (Z x r)];exact am x r) j F (by rw[<-b j e];exact aQ))
  unfold Mb at V;split at V
  ·rename_i _ i' j cs' E;have C:=List.mem_of_find?_eq_some E;have al:i'=i:=by simpa using List.find?_some E
   subst al;obtain⟨_,⟨cs,ab⟩,aD,U⟩:=aJ _ _ _ C;obtain⟨g,ao,aR,az⟩:=z.news j cs ab (A j aD).1;have aP:iV G cs j d=cs:=lg G cs (λx r e=>by
    have:=aZ x r _ C e;subst this;exact aa);rw[aP]at az;refine fV ?_ (V u w' g z.fr I ao ⟨cs,ab,az⟩);rintro a0 R⟨v,rfl,ad,a9,af⟩;refine⟨v,rfl,⟨z.fr.aw af (λk bk e=>by have bj:k=g:=e;omega),H v ad,λam=>(by have:=am _ C;simp[gU]at this),λq p hj2 s=>?_,λq p N S hj2 L D s X=>?_⟩⟩
   ·have D:q≠i':=λe=>U p (by rw[<-e];exact hj2);rw[B v q D];rw[b q D]at s;by_cases e:q=j;·subst e;have:=aY _ hj2 _ ab rfl;simp only[Prod.mk.injEq]at this;obtain⟨_,rfl⟩:=this;refine⟨g,ao,aR,?_⟩;rw[qK (i:=i') (c:=cs') (by simp[gU]) G _ C (λx r e=>aZ x r _ C e)];exact a9
    ·obtain⟨g2,M,Y,T⟩:=z.news q p hj2 s;refine⟨g2,M,Y,?_⟩;rw[gX G p (λx r ex a6=>by
      have:=a4 x r _ C a6;subst this;exact e ex.symm)];refine T.fr af (λa5=>?_);have aK:g2=g:=a5;subst aK;exact z.apart q p j cs hj2 ab e s (A j aD).1 (M.trans ao.symm)
   ·have ag:q≠i':=λe=>U p (by rw[<-e];exact hj2);have ah:N≠i':=λe=>U S (by rw[<-e];exact L);rw[B v q ag,B v N ah];exact z.apart q p N S hj2 L D (by rw[<-b q ag];exact s) (by rw[<-b N ah];exact X)
  ·rename_i an;have Z:∀x∈G,x.1≠i:=λx r e=>by
    have:=List.find?_eq_none.1 an x r;simp[e]at this
   split at V
   ·rename_i _ i' cs E;have C:=List.mem_of_find?_eq_some E;have al:i'=i:=by simpa using List.find?_some E
    subst al;refine fV ?_ (V u w' z.fr I);rintro a0 R⟨v,rfl,ad,ap,rfl,hN⟩;refine⟨_,rfl,⟨z.fr.trans hN.fr,H _ ad,aj _ _ Z ap hN.fr,λq p hj2 s=>?_,λq p N S hj2 L D s X=>?_⟩⟩
    ·rw[gX G p (λx r _=>Z x r)];by_cases e:q=i'
     ·subst e;have:=aY _ hj2 _ C rfl;simp only[Prod.mk.injEq]at this;obtain⟨_,rfl⟩:=this;refine⟨w'.heap.size,O _,z.fr.size,?_⟩;rw[lg G _ (λx r ex=>by
       cases ak:d x.1;·rfl
       ·have hw:=(aJ x.1 x.2.1 x.2.2 r).2.2.1;rw[ex]at hw;rw[K _ _ ak hw]at aa;cases aa)];exact hN.aF
     ·rw[B _ q e];obtain⟨g2,M,Y,T⟩:=z.news q p hj2 (by rw[<-b q e];exact s);exact⟨g2,M,Y,T.fr hN.fr (λx=>x)⟩
    ·by_cases ae:q=i';·subst ae;rw[O,B _ N (λe=>D e.symm)];obtain⟨g3,aX,bc,aN⟩:=z.news N S L (by rw[<-b N (λe=>D e.symm)];exact X);rw[aX];intro e;have:=aN.lt;simp only[Value.pointer.injEq,Option.some.injEq,Addr.mk.injEq,and_true]at e;omega
     ·by_cases av:N=i';·subst av;rw[O,B _ q ae];obtain⟨g2,M,Y,T⟩:=z.news q p hj2 (by rw[<-b q ae];exact s);rw[M];intro e;have:=T.lt;simp only[Value.pointer.injEq,Option.some.injEq,Addr.mk.injEq,and_true]at e;omega
      ·rw[B _ q ae,B _ N av];exact z.apart q p N S hj2 L D (by rw[<-b q ae];exact s) (by rw[<-b N av];exact X)
   ·rename_i ac;have U:∀x∈W,x.1≠i:=λx r e=>by
     have:=List.find?_eq_none.1 ac x r;simp[e]at this
    refine fV ?_ (V u w' z.fr I (λa8 j F=>z.mem (λx r=>by
     cases ak:d x.1;·rfl
     ·rw[K _ _ ak (List.all_eq_true.1 a8 x r)]at aa;cases aa) j (A j F).2 (A j F).1));rintro a0 R⟨v,rfl,ad,ap,af⟩;refine⟨v,rfl,⟨z.fr.trans af,H v ad,aj _ _ Z ap af,λq p hj2 s=>?_,λq p N S hj2 L D s X=>?_⟩⟩;·have e:q≠i:=U _ hj2;rw[gX G p (λx r _=>Z x r),B v q e];obtain⟨g2,M,Y,T⟩:=z.news q p hj2 (by rw[<-b q e];exact s);exact⟨g2,M,Y,T.fr af (λx=>x)⟩
    ·have ae:q≠i:=U _ hj2;have av:N≠i:=U _ L;rw[B v q ae,B v N av];exact z.apart q p N S hj2 L D (by rw[<-b q ae];exact s) (by rw[<-b N av];exact X)
 ·intro d u w' J z;have:=aV u w' z.fr (λj F=>z.facts j F (J j F)) (λj cs F=>by
   obtain⟨g,aL,aM,aH⟩:=z.news j cs F (J j (aI j cs F));rw[oq G cs (d':=λ_=>true) (λx r=>J x.1 (aJ x.1 x.2.1 x.2.2 r).1)]at aH;exact⟨g,aL,aM,aH⟩) (λj cs ai cs' F aB D=>z.apart j cs ai cs' F aB D (J j (aI j cs F)) (J ai (aI ai cs' aB)));simpa using this
end Go.Proofs.YtphjagkehiklkaaGreatDoor
namespace Go.Proofs.YtphjagkehiklkaaGreatDoor
open Proofs.Tryz Go.RowKit
def iA(a:Oper):Bool:=match a.op with
 | .defer _=>false
 |_=>true
theorem uc{a:Oper}(h:iA a=true):∀c,a.op≠ .defer c:=λc e=>by unfold iA at h;rw[e]at h;cases h
theorem zX{n r:Nat}{P:Program}{row:String}{args:Array Value}{w:World}{a:Value->World->Prop}(h:Rows P row args w a):RowsIn (Fence.wide.inRound r) n P row args w a:=
 λc cs _=>let⟨v,w',q,s⟩:=h c cs;⟨v,w',q,stepsIn_wide.2 s⟩
theorem wE{r n:Nat}{P:Program}{q:Oper}{a:Act}{w:World}{K j:Act->World->Prop}{Q Q':Exit->Act->World->Prop}(l:iA q=true)(b:∀a w,K a w->j a w)(g:∀e a w,Q e a w->Q' e a w)(h:q.wp P a w K Q):
  q.wpIn (Fence.wide.inRound r) n P a w j Q':=by
 refine⟨λ_ _=>trivial,?_⟩;rw[Oper.semAt_plain _ _ _ (uc l)];unfold Oper.wp at h;generalize(execOp a.eval q).run P w=x at*;have c:((Fence.wide.inRound r).depth.isSome=true->1<=n):=λh=>(by cases h);rcases x with⟨x,w'⟩|⟨x,w'⟩
 ·cases x with
  |value v=>exact b _ _ h
  |skip=>exact b _ _ h
  |defer d=>exact b _ _ h
  |enter f args=>
   refine⟨c,CallsIn.inRound r (callsIn_wide.2 (Calls.mono h λe i he=>?_))⟩;cases e with
   |returned v=>exact b _ _ he
   |panicked ch=>exact g _ _ _ he
   |outgrown=>obtain⟨k,w3,m⟩:=he;exact⟨k,w3,g _ _ _ m⟩
  |row p args=>exact⟨c,zX (h.mono λv i o=>b _ _ o)⟩
  |_=>exact absurd h id
 ·cases x<;>first|exact g _ _ _ h|exact absurd h id
theorem jD{r n:Nat}{P:Program}{ops:Array Oper}{Q:Exit->Act->World->Prop}:∀{l:List Oper}{a:Act}{w:World},(l.all iA)=true->wpList P ops (λe a w=>Q e a w/\e= .normal) l a w->wpListIn (Fence.wide.inRound r) n P ops Q l a w
 |[],_,_,_,h=>h.1
 |g::rest,a,w,b,h=>by
  rw[List.all_cons,Bool.and_eq_true]at b;unfold wpList at h;unfold wpListIn;split
  ·rename_i hw;rw[if_pos hw]at h;rcases h with h|⟨_,f,w',c⟩;·exact wE b.1 (λa w d=>jD b.2 d) (λ_ _ _ c=>c.1) h
   ·exact absurd c.2 (by simp)
  ·rename_i hw;rw[if_neg hw]at h;exact⟨λ_ _=>trivial,jD b.2 h⟩
theorem jf{r n:Nat}{P:Program}{md:Region.Mode}{ops:Array Oper}{Q:Exit->Act->World->Prop}(c:∀(i:Nat)(o:Oper),ops[i]? =some o->iA o=true):
  ∀(fuel:Nat)(listed:Array Bool)(a:Act)(w:World),wpAny P md ops (λe a w=>Q e a w/\e= .normal) fuel listed a w->wpAnyIn (Fence.wide.inRound r) n P md ops Q fuel listed a w
 |0,_,_,_,h=>⟨h.1,h.2.1⟩
 |fuel+1,listed,a,w,h=>by
  refine⟨λj=>(h.1 j).1,λi l=>?_⟩;have b:=h.2 i l;unfold wpOp at b;unfold wpOpIn;cases d:ops[i]? with
  |none=>rw[d]at b;exact jf c fuel _ _ _ b
  |some o=>
   rw[d]at b;simp only at b⊢;split at b
   ·rename_i hw;rw[if_pos hw];rcases b with k|⟨_,g,w',f⟩;·exact wE (c i o d) (λg w' m=>jf c fuel _ g w' m) (λ_ _ _ f=>f.1) k
    ·exact absurd f.2 (by simp)
   ·rename_i hw;rw[if_neg hw];exact⟨λ_ _=>trivial,jf c fuel _ _ _ b⟩
theorem FD{P:Program}{Q:Exit->Act->World->Prop}{a:Act}{w:World}{l:List Oper}(n:Nat)(ty:TypeId)(au:List (Value->Prop))(ax:List (Value->World->Prop))(W:List (Nat×Array Value))(G:List (Nat×Nat×Array Value))(ba:sQ l.toArray n=true)
  (aC:Kh l.toArray n (W.map (·.1)) (G.map λx=>(x.1,x.2.1))=true)
  (aU:dB Nothing w ax)
  (bb:qR P l.toArray Q w ty (λu=>ar ((l.take n).map (·.dst)) 0 u a) au ax W G 0 (l.take n))
  (aV:∀u w',Fr Nothing w w'->(∀j,j<n->ju au j (u j))->(∀j cs,(j,cs)∈W->∃g,u j= .pointer (some ⟨g,0,none⟩)/\w.heap.size<=g/\aq w' g ty (iV G cs j (λ_=>true)))->
   (∀j cs ai cs',(j,cs)∈W->(ai,cs')∈W->j≠ai->u j≠u ai)->wpList P l.toArray Q (l.drop n) (ar ((l.take n).map (·.dst)) 0 u a) w'):wpAny P .any l.toArray Q l.toArray.size (Array.replicate l.toArray.size false) a w.drew:=by
 have ok:=sv.of ba;simp only[Kh,Bool.and_eq_true,List.all_eq_true,decide_eq_true_eq,Bool.not_eq_true']at aC;obtain⟨⟨⟨⟨bf,bg⟩,bh⟩,a2⟩,a3⟩:=aC;have aI:∀j cs,(j,cs)∈W->j<n:=λj cs h=>bf j (List.mem_map.2 ⟨_,h,rfl⟩);have aJ:∀i j c,(i,j,c)∈G->i<n/\(∃cs,(j,cs)∈W)/\Region.waitsFor .any l.toArray i j=true/\∀cs,(i,cs)∉W:=by
  intro i j c h;obtain⟨⟨⟨aL,aM⟩,aH⟩,a7⟩:=bg (i,j) (List.mem_map.2 ⟨_,h,rfl⟩);refine⟨aL,?_,aH,λcs aO=>?_⟩;·have:=List.contains_iff_mem.1 aM;obtain⟨⟨ai,cs⟩,r,e⟩:=List.mem_map.1 this;exact⟨cs,by simp only at e;rw[<-e];exact r⟩
  ·have:(W.map (·.1)).contains i=true:=List.contains_iff_mem.2 (List.mem_map.2 ⟨_,aO,rfl⟩);rw[a7]at this;cases this
 have aZ:∀x∈G,∀y∈G,x.2.1=y.2.1->x=y:=λx r y aE e=>jI (f:=λx=>x.2.1) (by rw[List.map_map]at a2;exact a2) x r y aE e;have a4:∀x∈G,∀y∈G,x.1=y.1->x=y:=λx r y aE e=>jI (f:=λx=>x.1) (by rw[List.map_map]at a3;exact a3) x r y aE e;have aY:∀x∈W,∀y∈W,x.1=y.1->x=y:=λx r y aE e=>jI (f:=λx=>x.1) bh x r y aE e;obtain⟨bi,aW⟩:=gT ((l.take n).map (·.dst)) 0 a;have aG:HeadInv .any l.toArray n (Array.replicate l.toArray.size false):=
  ⟨by simp,λj bl _ a1=>(by rw[getD_replicate_false]at a1;cases a1),λt _ aV=>getD_in (by simpa using aV) (getD_replicate_false _ _)⟩;have aO:cI (λj=>!(Array.replicate l.toArray.size false).getD j false) n=n:=by
  have h:∀m,cI (λj=>!(Array.replicate l.toArray.size false).getD j false) m=m:=by
   intro m;induction m with
   |zero=>rfl
   |succ m be=>rw[cI,be,getD_replicate_false];rfl
  exact h n
 have:=zF (P:=P) (Q:=Q) (a:=a) ok (Mt w ty au ax W G n) ?_ ?_ n _ bi w.drew aG aO
  ⟨aA.drew,λj _ h=>(by rw[getD_replicate_false]at h;cases h),λ_ j _ h=>(by rw[getD_replicate_false]at h;cases h),λj _ _ h=>(by rw[getD_replicate_false]at h;cases h),λj _ _ _ _ _ _ h=>(by rw[getD_replicate_false]at h;cases h)⟩;·rw[show(l.toArray.toList.take n).map (·.dst)=(l.take n).map (·.dst)by simp,aW,show n+(l.toArray.size-n)=l.toArray.size by have:=ok.le;omega]at this;exact this
 ·intro i o aS bd d u w' aa K A z;have aT:(l.take n)[i]? =some o:=by rw[List.getElem?_take,if_pos aS];simpa using bd
  have V:=bb.at_ i o aT;rw[Nat.zero_add]at V;have ay:(l.toArray.toList.take n).map (·.dst)=(l.take n).map (·.dst):=by simp
  rw[ay];have I:∀j,Region.waitsFor .any l.toArray i j=true->ju au j (u j):=λj F=>z.facts j (A j F).2 (A j F).1;have B:∀v j,j≠i->dW u i v j=u j:=λv j F=>by simp[dW,F]
  have O:∀v,dW u i v i=v:=λv=>by simp[dW]
  have b:∀j,j≠i->gU d i j=d j:=λj F=>by simp[gU,F]
  have H:∀v,ju au i v->∀j,j<n->gU d i j=true->ju au j (dW u i v j):=by
   intro v ad j F aQ;by_cases e:j=i;·subst e;rw[O];exact ad
   ·rw[B v j e];exact z.facts j F (by rw[<-b j e];exact aQ)
  have aj:∀v R,(∀x∈G,x.1≠i)->cF ax i v R->Fr Nothing w' R->(∀x∈G,gU d i x.1=false)->∀j,j<n->gU d i j=true->cF ax j (dW u i v j) R:=by
   intro v R Z ad af am j F aQ;by_cases e:j=i;·subst e;rw[O];exact ad
   ·rw[B v j e];exact aU.at_ j (u j) w' R z.fr af (z.mem (λx r=>by rw[<-b x.1 (Z x r)];exact am x r) j F (by rw[<-b j e];exact aQ))
  unfold Mb at V;split at V
  ·rename_i _ i' j cs' E;have C:=List.mem_of_find?_eq_some E;have al:i'=i:=by simpa using List.find?_some E
   subst al;obtain⟨_,⟨cs,ab⟩,aD,U⟩:=aJ _ _ _ C;obtain⟨g,ao,aR,az⟩:=z.news j cs ab (A j aD).1;have aP:iV G cs j d=cs:=lg G cs (λx r e=>by
    have:=aZ x r _ C e;subst this;exact aa);rw[aP]at az;refine fV ?_ (V u w' g z.fr I ao ⟨cs,ab,az⟩);rintro a0 R⟨v,rfl,ad,a9,af⟩;refine⟨v,rfl,⟨z.fr.aw af (λk bk e=>by have bj:k=g:=e;omega),H v ad,λam=>(by have:=am _ C;simp[gU]at this),λq p hj2 s=>?_,λq p N S hj2 L D s X=>?_⟩⟩
   ·have D:q≠i':=λe=>U p (by rw[<-e];exact hj2);rw[B v q D];rw[b q D]at s;by_cases e:q=j;·subst e;have:=aY _ hj2 _ ab rfl;simp only[Prod.mk.injEq]at this;obtain⟨_,rfl⟩:=this;refine⟨g,ao,aR,?_⟩;rw[qK (i:=i') (c:=cs') (by simp[gU]) G _ C (λx r e=>aZ x r _ C e)];exact a9
    ·obtain⟨g2,M,Y,T⟩:=z.news q p hj2 s;refine⟨g2,M,Y,?_⟩;rw[gX G p (λx r ex a6=>by
      have:=a4 x r _ C a6;subst this;exact e ex.symm)];refine T.fr af (λa5=>?_);have aK:g2=g:=a5;subst aK;exact z.apart q p j cs hj2 ab e s (A j aD).1 (M.trans ao.symm)
   ·have ag:q≠i':=λe=>U p (by rw[<-e];exact hj2);have ah:N≠i':=λe=>U S (by rw[<-e];exact L);rw[B v q ag,B v N ah];exact z.apart q p N S hj2 L D (by rw[<-b q ag];exact s) (by rw[<-b N ah];exact X)
  ·rename_i an;have Z:∀x∈G,x.1≠i:=λx r e=>by
    have:=List.find?_eq_none.1 an x r;simp[e]at this
   split at V
   ·rename_i _ i' cs E;have C:=List.mem_of_find?_eq_some E;have al:i'=i:=by simpa using List.find?_some E
    subst al;refine fV ?_ (V u w' z.fr I);rintro a0 R⟨v,rfl,ad,ap,rfl,hN⟩;refine⟨_,rfl,⟨z.fr.trans hN.fr,H _ ad,aj _ _ Z ap hN.fr,λq p hj2 s=>?_,λq p N S hj2 L D s X=>?_⟩⟩
    ·rw[gX G p (λx r _=>Z x r)];by_cases e:q=i'
     ·subst e;have:=aY _ hj2 _ C rfl;simp only[Prod.mk.injEq]at this;obtain⟨_,rfl⟩:=this;refine⟨w'.heap.size,O _,z.fr.size,?_⟩;rw[lg G _ (λx r ex=>by
       cases ak:d x.1;·rfl
       ·have hw:=(aJ x.1 x.2.1 x.2.2 r).2.2.1;rw[ex]at hw;rw[K _ _ ak hw]at aa;cases aa)];exact hN.aF
     ·rw[B _ q e];obtain⟨g2,M,Y,T⟩:=z.news q p hj2 (by rw[<-b q e];exact s);exact⟨g2,M,Y,T.fr hN.fr id⟩
    ·by_cases ae:q=i';·subst ae;rw[O,B _ N (λe=>D e.symm)];obtain⟨g3,aX,bc,aN⟩:=z.news N S L (by rw[<-b N (λe=>D e.symm)];exact X);rw[aX];intro e;have:=aN.lt;simp only[Value.pointer.injEq,Option.some.injEq,Addr.mk.injEq,and_true]at e;omega
     ·by_cases av:N=i';·subst av;rw[O,B _ q ae];obtain⟨g2,M,Y,T⟩:=z.news q p hj2 (by rw[<-b q ae];exact s);rw[M];intro e;have:=T.lt;simp only[Value.pointer.injEq,Option.some.injEq,Addr.mk.injEq,and_true]at e;omega
      ·rw[B _ q ae,B _ N av];exact z.apart q p N S hj2 L D (by rw[<-b q ae];exact s) (by rw[<-b N av];exact X)
   ·rename_i ac;have U:∀x∈W,x.1≠i:=λx r e=>by
     have:=List.find?_eq_none.1 ac x r;simp[e]at this
    refine fV ?_ (V u w' z.fr I (λa8 j F=>z.mem (λx r=>by
     cases ak:d x.1;·rfl
     ·rw[K _ _ ak (List.all_eq_true.1 a8 x r)]at aa;cases aa) j (A j F).2 (A j F).1));rintro a0 R⟨v,rfl,ad,ap,af⟩;refine⟨v,rfl,⟨z.fr.trans af,H v ad,aj _ _ Z ap af,λq p hj2 s=>?_,λq p N S hj2 L D s X=>?_⟩⟩;·have e:q≠i:=U _ hj2;rw[gX G p (λx r _=>Z x r),B v q e];obtain⟨g2,M,Y,T⟩:=z.news q p hj2 (by rw[<-b q e];exact s);exact⟨g2,M,Y,T.fr af id⟩
    ·have ae:q≠i:=U _ hj2;have av:N≠i:=U _ L;rw[B v q ae,B v N av];exact z.apart q p N S hj2 L D (by rw[<-b q ae];exact s) (by rw[<-b N av];exact X)
 ·intro d u w' J z;have:=aV u w' z.fr (λj F=>z.facts j F (J j F)) (λj cs F=>by
   obtain⟨g,aL,aM,aH⟩:=z.news j cs F (J j (aI j cs F));rw[oq G cs (d':=λ_=>true) (λx r=>J x.1 (aJ x.1 x.2.1 x.2.2 r).1)]at aH;exact⟨g,aL,aM,aH⟩) (λj cs ai cs' F aB D=>z.apart j cs ai cs' F aB D (J j (aI j cs F)) (J ai (aI ai cs' aB)));simpa using this
theorem oT{r m:Nat}{P:Program}{id:Nat}{Q:Exit->Act->World->Prop}{a:Act}{w:World}{l:List Oper}(n:Nat)(ty:TypeId)(d:List (Value->Prop))(f:List (Value->World->Prop))(b:List (Nat×Array Value))(c:List (Nat×Nat×Array Value))(hm:P.follows .mixedOrders=true)(p:(l.all iA)=true)(q:sQ l.toArray n=true)
  (h:Kh l.toArray n (b.map (·.1)) (c.map λx=>(x.1,x.2.1))=true)
  (k:dB Nothing w f)
  (s:qR P l.toArray (λe a w=>Q e a w/\e= .normal) w ty (λu=>ar ((l.take n).map (·.dst)) 0 u a) d f b c 0 (l.take n))
  (v:∀u w',Fr Nothing w w'->(∀j,j<n->ju d j (u j))->(∀j cs,(j,cs)∈b->∃g,u j= .pointer (some ⟨g,0,none⟩)/\w.heap.size<=g/\aq w' g ty (iV c cs j (λ_=>true)))->
   (∀j cs o cs',(j,cs)∈b->(o,cs')∈b->j≠o->u j≠u o)->wpList P l.toArray (λe a w=>Q e a w/\e= .normal) (l.drop n) (ar ((l.take n).map (·.dst)) 0 u a) w'):(Code.region id l.toArray true).wpIn (Fence.wide.inRound r) m P Q a w:=by
 refine wpIn_region_any hm (jf (λi y t=>?_) _ _ _ _ (FD n ty d f b c q h k s v));exact List.all_eq_true.1 p y (List.mem_of_getElem? (by simpa using t))
theorem dB.is{T:Nat->Prop}{w:World}:∀V:List Value,dB T w (V.map Is)
 |[]=>trivial
 |x::r=>⟨Is.ag x,dB.is r⟩
theorem vR:∀(V:List Value)(j:Nat)(w:World),cF (V.map Is) j (V.getD j undef) w
 |[],_,_=>trivial
 |_::_,0,_=>rfl
 |_::r,j+1,w=>vR r j w
theorem pw:∀(V:List Value)(j:Nat)(v:Value)(w:World),j<V.length->cF (V.map Is) j v w->v=V.getD j undef
 |_::_,0,_,_,_,h=>h
 |_::r,j+1,v,w,a,h=>pw r j v w (by simpa using a) h
def Jj(a:Act)(d:Option Tmp)(w:World)(v:Value)(b:Act)(w':World):Prop:=b=a.put d v/\Fr Nothing w w'
def qj(P:Program)(ops:Array Oper)(Q:Exit->Act->World->Prop)(w:World)(F:(Nat->Value)->Act)(V:List Value):Nat->List Oper->Prop
 |_,[]=>True
 |i,a::r=>(∀u w',Fr Nothing w w'->(∀j,(_:Region.waitsFor .any ops i j=true:=by kernel_rfl)->cF (V.map Is) j (u j) w')->nU P ops Q a (F u) w' (Jj (F u) a.dst w' (V.getD i undef)))/\qj P ops Q w F V (i+1) r
theorem qj.st{P:Program}{ops:Array Oper}{Q:Exit->Act->World->Prop}{w:World}{F:(Nat->Value)->Act}{V:List Value}{n:Nat}:∀{l:List Oper}{i:Nat},qj P ops Q w F V i l->iL P ops Q Nothing w F (cF (V.map Is)) [] (λ_=>True) (λ_ _=>false) n i l
 |[],_,_=>trivial
 |_::_,i,h=>⟨λu w' _ c b _ _ _=>fV (λ_ a⟨e,f⟩=>⟨_,e,f,vR V i a,trivial⟩) (h.1 u w' c (λj d=>b j d)),qj.st h.2⟩
theorem bS{P:Program}{ops:Array Oper}{Q:Exit->Act->World->Prop}{b:Oper}{a:Act}{w:World}(h:Region.wanted b (yielded ops a.tmps)=false:=by kernel_rfl):nU P ops Q b a w (Jj a b.dst w undef):= .inr ⟨h,rfl,aA⟩
theorem aI{P:Program}{ops:Array Oper}{Q:Exit->Act->World->Prop}{b:Oper}{a:Act}{w:World}{K:Act->World->Prop}(h:b.wp P a w K Q)(hw:Region.wanted b (yielded ops a.tmps)=true:=by kernel_rfl):nU P ops Q b a w K:= .inl ⟨hw,h⟩
theorem z1{α:Type}{n:Nat}{a:α}{l:List α}:(a::l).take (n+1)=a::l.take n:=rfl
theorem z2{α:Type}{l:List α}:l.take 0=[]:=rfl
theorem z3{α β:Type}{f:α->β}{a:α}{l:List α}:(a::l).map f=f a::l.map f:=rfl
theorem z4{α β:Type}{f:α->β}:([]:List α).map f=[]:=rfl
theorem z5{α:Type}{i:Nat}{a:α}{l:List α}:l.toArray.setIfInBounds i a=(l.set i a).toArray:=List.setIfInBounds_toArray ..
theorem z6{α:Type}{a b:α}{l:List α}:(a::l).set 0 b=b::l:=rfl
theorem z7{α:Type}{n:Nat}{a b:α}{l:List α}:(a::l).set (n+1) b=a::l.set n b:=rfl
theorem z8{α:Type}{n:Nat}{a:α}{l:List α}:(a::l).drop (n+1)=l.drop n:=rfl
theorem z9{α:Type}{l:List α}:l.drop 0=l:=rfl
theorem jS{α:Type}{a d:α}{l:List α}:(a::l).getD 0 d=a:=rfl
theorem jT{α:Type}{n:Nat}{a d:α}{l:List α}:(a::l).getD (n+1) d=l.getD n d:=rfl
theorem Ci(ds:List (Option Tmp))(V:List Value)(u:Nat->Value)(a:Act)(e:ds.length<=V.length)(h:∀j,j<V.length->u j=V.getD j undef):ar ds 0 u a=ar ds 0 (λj=>V.getD j undef) a:=by
 have:∀(ds:List (Option Tmp))(k:Nat)(a:Act),k+ds.length<=V.length->ar ds k u a=ar ds k (λj=>V.getD j undef) a:=by
  intro ds;induction ds with
  |nil=>intro k a _;rfl
  |cons d r c=>
   intro k a b;simp only[List.length_cons]at b;rw[ar,ar,h k (by omega)];exact c (k+1) _ (by omega)
 exact this ds 0 a (by omega)
theorem iH{P:Program}{id:Nat}{Q:Exit->Act->World->Prop}{a:Act}{w:World}{l:List Oper}(n:Nat)(V:List Value)
  (f:qj P l.toArray Q w (λu=>ar ((l.take n).map (·.dst)) 0 u a) V 0 (l.take n))
  (k:∀w',Fr Nothing w w'->wpList P l.toArray Q (l.drop n) (ar ((l.take n).map (·.dst)) 0 (λj=>V.getD j undef) a) w')(i:V.length=n:=by rfl)(hm:P.follows .mixedOrders=true:=by kernel_rfl)(e:pA l.toArray n=true:=by kernel_rfl)(b:fY l.toArray n (λ_ _=>false)=true:=by kernel_rfl):(Code.region id l.toArray true).wp P Q a w:=by
 refine ay n Nothing (V.map Is) [] (λ_=>True) (λ_ _=>false) hm e b (by simp[gW]) (dB.is V) trivial (λ_ _ _ _ h=>h) trivial f.st ?_;intro u w' d c _;rw[Ci _ V u a (by rw[i,List.length_map,List.length_take];omega) (λj g=>pw V j (u j) w' g (c j (by omega)))];exact k w' d
theorem lF{P:Program}{id:Nat}{Q:Exit->Act->World->Prop}{a:Act}{w:World}{l:List Oper}(n:Nat)(V:List Value)
  (f:qj P l.toArray Q w (λu=>ar ((l.take n).map (·.dst)) 0 u a) V 0 (l.take n))
  (k:∀w',Fr Nothing w w'->wpList P l.toArray Q (l.drop n) (ar ((l.take n).map (·.dst)) 0 (λj=>V.getD j undef) a) w')(i:V.length=n:=by rfl)(e:zu l.toArray n=true:=by kernel_rfl)(b:fY l.toArray n (λ_ _=>false)=true:=by kernel_rfl):(Code.region id l.toArray false).wp P Q a w:=by
 refine iD n Nothing (V.map Is) [] (λ_=>True) (λ_ _=>false) e b (by simp[gW]) (dB.is V) trivial (λ_ _ _ _ h=>h) trivial f.st ?_;intro u w' d c _;rw[Ci _ V u a (by rw[i,List.length_map,List.length_take];omega) (λj g=>pw V j (u j) w' g (c j (by omega)))];exact k w' d
structure Fact where
 p:Value->World->Prop
 st:∀v w w',Fr Nothing w w'->p v w->p v w'
def iS(x:Value):Fact:=⟨Is x,λ_ _ _ _ h=>h⟩
def ml:Fact:=⟨λ_ _=>True,λ_ _ _ _ _=>trivial⟩
theorem dB.fact{w:World}:∀V:List Fact,dB Nothing w (V.map Fact.p)
 |[]=>trivial
 |x::r=>⟨λv w' a _ f h=>x.st v w' a f h,dB.fact r⟩
theorem jY:∀(V:List Fact)(j:Nat),cF (V.map Fact.p) j=(V.getD j ml).p
 |[],_=>rfl
 |_::_,0=>rfl
 |_::r,j+1=>jY r j
def Ji(a:Act)(d:Option Tmp)(w:World)(p:Value->World->Prop)(b:Act)(w':World):Prop:=∃v,b=a.put d v/\Fr Nothing w w'/\p v w'
def qi(P:Program)(ops:Array Oper)(Q:Exit->Act->World->Prop)(w:World)(F:(Nat->Value)->Act)(V:List Fact):Nat->List Oper->Prop
 |_,[]=>True
 |i,a::r=>(∀u w',Fr Nothing w w'->(∀j,(_:Region.waitsFor .any ops i j=true:=by kernel_rfl)->(V.getD j ml).p (u j) w')->nU P ops Q a (F u) w' (Ji (F u) a.dst w' (V.getD i ml).p))/\qi P ops Q w F V (i+1) r
theorem qi.st{P:Program}{ops:Array Oper}{Q:Exit->Act->World->Prop}{w:World}{F:(Nat->Value)->Act}{V:List Fact}{n:Nat}:∀{l:List Oper}{i:Nat},qi P ops Q w F V i l->iL P ops Q Nothing w F (cF (V.map Fact.p)) [] (λ_=>True) (λ_ _=>false) n i l
 |[],_,_=>trivial
 |_::_,i,h=>⟨λu w' _ b a _ _ _=>fV (λ_ d⟨v,e,f,q⟩=>⟨v,e,f,by rw[jY];exact q,trivial⟩) (h.1 u w' b (λj c=>by have:=a j c;rw[jY]at this;exact this)),qi.st h.2⟩
theorem jR{P:Program}{ops:Array Oper}{Q:Exit->Act->World->Prop}{b:Oper}{a:Act}{w:World}(h:Region.wanted b (yielded ops a.tmps)=false:=by kernel_rfl):nU P ops Q b a w (Ji a b.dst w (Is undef)):= .inr ⟨h,_,rfl,aA,rfl⟩
theorem Ae{P:Program}{id:Nat}{Q:Exit->Act->World->Prop}{a:Act}{w:World}{l:List Oper}(n:Nat)(V:List Fact)
  (f:qi P l.toArray Q w (λu=>ar ((l.take n).map (·.dst)) 0 u a) V 0 (l.take n))
  (i:∀u w',Fr Nothing w w'->(∀j,j<n->(V.getD j ml).p (u j) w')->wpList P l.toArray Q (l.drop n) (ar ((l.take n).map (·.dst)) 0 u a) w')
  (hm:P.follows .mixedOrders=true:=by kernel_rfl)(e:pA l.toArray n=true:=by kernel_rfl)(b:fY l.toArray n (λ_ _=>false)=true:=by kernel_rfl):(Code.region id l.toArray true).wp P Q a w:=by
 refine ay n Nothing (V.map Fact.p) [] (λ_=>True) (λ_ _=>false) hm e b (by simp[gW]) (dB.fact V) trivial (λ_ _ _ _ h=>h) trivial f.st ?_;intro u w' d c _;exact i u w' d (λj g=>by have:=c j g;rw[jY]at this;exact this)
theorem Af{P:Program}{id:Nat}{Q:Exit->Act->World->Prop}{a:Act}{w:World}{l:List Oper}(n:Nat)(V:List Fact)
  (f:qi P l.toArray Q w (λu=>ar ((l.take n).map (·.dst)) 0 u a) V 0 (l.take n))
  (i:∀u w',Fr Nothing w w'->(∀j,j<n->(V.getD j ml).p (u j) w')->wpList P l.toArray Q (l.drop n) (ar ((l.take n).map (·.dst)) 0 u a) w')
  (e:zu l.toArray n=true:=by kernel_rfl)(b:fY l.toArray n (λ_ _=>false)=true:=by kernel_rfl):(Code.region id l.toArray false).wp P Q a w:=by
 refine iD n Nothing (V.map Fact.p) [] (λ_=>True) (λ_ _=>false) e b (by simp[gW]) (dB.fact V) trivial (λ_ _ _ _ h=>h) trivial f.st ?_;intro u w' d c _;exact i u w' d (λj g=>by have:=c j g;rw[jY]at this;exact this)
end Go.Proofs.YtphjagkehiklkaaGreatDoor
namespace Go.Proofs.YtphjagkehiklkaaGreatDoor.Lt
open Proofs.Tryz Go.RowKit
def bJ(w:World)(v:Value)(e:Ending)(w':World):Prop:=e= .returned v/\w=w'
end Go.Proofs.YtphjagkehiklkaaGreatDoor.Lt
