/- Texts. -/
import Derived.Test.YtphjagkehiklkaaGreatDoorWK05
set_option linter.unusedVariables false
set_option linter.unusedSimpArgs false
namespace Go.Proofs.YtphjagkehiklkaaGreatDoor
open Go.RowKit
structure ik{α:Type}(c:α→α→Int):Prop where
 eq:∀a b,c a b=0→a=b
 refl:∀a,c a a=0
 lS:∀a b,c b a=-c a b
 trans:∀a b d,c a b<0→c b d<0→c a d<0
theorem ik.Kx{α:Type}{c:α→α→Int}(h:ik c){a b d:α}(g:c a b≤0)(f:c b d<0):c a d<0:=by
 by_cases e:c a b=0;·rw[h.eq a b e];exact f
 ·exact h.trans a b d (by omega) f
def aV(x y:Int):Int:=if x=0 then y else x
theorem ik.lex{α β:Type}{c:α→α→Int}{d:β→β→Int}(h:ik c)(k:ik d):ik (fun(a b:α×β)=>aV (c a.1 b.1) (d a.2 b.2))where
 eq a b e:=by
  unfold aV at e;split at e;·rename_i g;exact Prod.ext (h.eq _ _ g) (k.eq _ _ e)
  ·contradiction
 refl _:=by simp[aV,h.refl,k.refl]
 lS a b:=by
  have:=h.lS a.1 b.1;have:=k.lS a.2 b.2;unfold aV;split<;>split<;>omega
 trans a b e g l:=by
  have n:=h.lS;by_cases i:c a.1 b.1=0
  ·by_cases f:c b.1 e.1=0
   ·have j:c a.1 e.1=0:=by rw[h.eq _ _ i,h.eq _ _ f];exact h.refl _
    simp only[aV,i,f,j,if_true]at*;exact k.trans _ _ _ g l
   ·simp only[aV,i,f,if_true,if_false]at g l;have j:c a.1 e.1=c b.1 e.1:=by rw[h.eq _ _ i]
    simp only[aV,j,f,if_false];exact l
  ·by_cases f:c b.1 e.1=0
   ·simp only[aV,i,f,if_true,if_false]at g l;have j:c a.1 e.1=c a.1 b.1:=by rw[h.eq _ _ f]
    simp only[aV,j,i,if_false];exact g
   ·simp only[aV,i,f,if_false]at g l;have j:=h.trans _ _ _ g l;have m:c a.1 e.1≠0:=by omega
    simp only[aV,m,if_false];exact j
theorem ik.pull{α β:Type}{c:β→β→Int}(h:ik c)(f:α→β)(d:∀a b,f a=f b→a=b):ik (fun a b=>c (f a) (f b))where
 eq _ _ e:=d _ _ (h.eq _ _ e)
 refl _:=h.refl _
 lS _ _:=h.lS _ _
 trans _ _ _:=h.trans _ _ _
def dN(a b:Int):Int:=if a<b then-1 else if b<a then 1 else 0
theorem eS:ik dN where
 eq a b e:=by unfold dN at e;split at e<;>(try split at e)<;>omega
 refl _:=by unfold dN;simp
 lS a b:=by unfold dN;split<;>split<;>(try split)<;>omega
 trans a b d c f:=by unfold dN at*;split at c<;>(try split at c)<;>split at f<;>(try split at f)<;>(try split)<;>omega
def cmpL{α:Type}(c:α→α→Int):List α→List α→Int
 |[],[]=>0
 |[],_::_=>-1
 |_::_,[]=>1
 |x::xs,y::a=>aV (c x y) (cmpL c xs a)
theorem oC{α:Type}{c:α→α→Int}(h:ik c):ik (cmpL c)where
 eq:=by
  intro a;induction a with
  |nil=>intro b e;cases b<;>simp[cmpL]at e⊢
  |cons x xs l=>
   intro b e;cases b with
   |nil=>simp[cmpL]at e
   |cons y m=>
    simp only[cmpL,aV]at e;split at e;·rename_i f;rw[h.eq _ _ f,l _ e]
    ·contradiction
 refl:=by
  intro a;induction a with
  |nil=>rfl
  |cons x xs l=>simp[cmpL,aV,h.refl,l]
 lS:=by
  intro a;induction a with
  |nil=>intro b;cases b<;>simp[cmpL]
  |cons x xs l=>
   intro b;cases b with
   |nil=>simp[cmpL]
   |cons y m=>
    have:=h.lS x y;have:=l m;simp only[cmpL,aV];split<;>split<;>omega
 trans:=by
  intro a;induction a with
  |nil=>
   intro b d f g;cases d with
   |nil=>cases b<;>simp[cmpL]at f g
   |cons z o=>simp[cmpL]
  |cons x xs l=>
   intro b d f g;cases b with
   |nil=>simp[cmpL]at f
   |cons y m=>
    cases d with
    |nil=>simp[cmpL]at g
    |cons z o=>
     simp only[cmpL]at*;by_cases j:c x y=0
     ·by_cases i:c y z=0
      ·have k:c x z=0:=by rw[h.eq _ _ j,h.eq _ _ i];exact h.refl _
       simp only[aV,j,i,k,if_true]at*;exact l _ _ f g
      ·simp only[aV,j,i,if_true,if_false]at f g;have k:c x z=c y z:=by rw[h.eq _ _ j]
       simp only[aV,k,i,if_false];exact g
     ·by_cases i:c y z=0
      ·simp only[aV,j,i,if_true,if_false]at f g;have k:c x z=c x y:=by rw[h.eq _ _ i]
       simp only[aV,k,j,if_false];exact f
      ·simp only[aV,j,i,if_false]at f g;have k:=h.trans _ _ _ f g;have n:c x z≠0:=by omega
       simp only[aV,n,if_false];exact k
def pH(a b:UInt8):Int:=dN a.toNat b.toNat
theorem tZ:ik pH:=eS.pull (fun u:UInt8=>(u.toNat:Int)) (fun a b h=>UInt8.toNat_inj.1 (by have c:(a.toNat:Int)=b.toNat:=h;omega))
def ld(a b:ByteArray):Int:=cmpL pH a.toList b.toList
theorem toList_inj{a b:ByteArray}(h:a.toList=b.toList):a=b:=by
 rw[ByteArray.toList_eq,ByteArray.toList_eq]at h;cases a;cases b;simp only[ByteArray.mk.injEq];exact Array.toList_inj.1 h
theorem tW:ik ld:=(oC tZ).pull ByteArray.toList (fun _ _ h=>toList_inj h)
theorem oA:∀(x y:List UInt8),Op.bytesLess x y=decide (cmpL pH x y<0)
 |[],[]=>by simp[Op.bytesLess,cmpL]
 |_::_,[]=>by simp[Op.bytesLess,cmpL]
 |[],_::_=>by simp[Op.bytesLess,cmpL]
 |a::x,b::y=>by
  rw[Op.bytesLess,oA x y];simp only[cmpL,aV,pH,dN];by_cases c:a<b
  ·have e:(a.toNat:Int)<b.toNat:=by have:=UInt8.lt_iff_toNat_lt.1 c;omega
   simp[c,e]
  ·by_cases d:a=b;·subst d;simp
   ·have f:¬(a.toNat:Int)<b.toNat:=by
     intro h;exact c (UInt8.lt_iff_toNat_lt.2 (by omega))
    have g:(b.toNat:Int)<a.toNat:=by
     have:a.toNat≠b.toNat:=fun h=>d (UInt8.toNat_inj.1 h);omega
    simp[c,d,f,g]
theorem tX(a b:ByteArray):ld a b=if Op.bytesLess a.toList b.toList=true then-1 else if a=b then 0 else 1:=by
 have f:∀(x y:List UInt8),cmpL pH x y=-1∨cmpL pH x y=0∨cmpL pH x y=1:=by
  intro x;induction x with
  |nil=>intro y;cases y<;>simp[cmpL]
  |cons p x g=>
   intro y;cases y with
   |nil=>simp[cmpL]
   |cons q y=>
    have:=g y;simp only[cmpL,aV,pH,dN];split<;>(try split)<;>(try split)<;>omega
 rw[oA];have h:=f a.toList b.toList;unfold ld;by_cases e:a=b;·subst e;rw[(oC tZ).refl];simp
 ·have i:cmpL pH a.toList b.toList≠0:=fun d=>e (toList_inj ((oC tZ).eq _ _ d));simp only[e,if_false];by_cases c:cmpL pH a.toList b.toList<0;·simp[c];omega
  ·simp[c];omega
def lP(b:UInt8):Bool:=48≤b.toNat&&b.toNat≤57
def dy:Nat→List UInt8→List UInt8
 |0,_=>[]
 |_+1,[]=>[]
 |n+1,b::l=>if lP b then b::dy n l else[]
def eT(ds:List UInt8):Nat:=ds.foldl (fun n b=>n*10+(b.toNat-48)) 0
structure Part where
 ord:Nat
 at_:Nat
 e:Nat
def cR(count at_:Nat)(l:List UInt8):Part×Nat:=
 let ds:=dy 7 l
 if count=8 then(⟨0,at_,9⟩,at_)else if l=[]then(⟨0,at_,4⟩,at_)else if ds=[]then(⟨0,at_,6⟩,at_)else if l[0]? =some 48 then(⟨0,at_,3⟩,at_)
 else if 6<ds.length then(⟨0,at_,2⟩,at_)else(⟨eT ds,at_,0⟩,at_+ds.length)
def dq:Nat→Nat→List UInt8→List Part
 |0,at_,_=>[⟨0,at_,9⟩]
 |n+1,at_,l=>
  let p:=(cR (7-n) at_ l).1
  if p.e≠0 then[p]else
   let k:=(dy 7 l).length
   if l.length≤k then[p]else if l[k]? ≠some 46 then[p,⟨0,at_+k,6⟩]else p::dq n (at_+k+1) (l.drop (k+1))
def fR(s:ByteArray):List Part:=if s.size=0 then[]else dq 8 0 s.toList
def dc(s:ByteArray):Bool:=(fR s).all (fun p=>p.e==0)
def ji(s:ByteArray):List Int:=(fR s).map (fun p=>(p.ord:Int))
theorem kI:∀(n:Nat)(l:List UInt8),(dy n l).length≤n∧(dy n l).length≤l.length
 |0,l=>by simp[dy]
 |n+1,[]=>by simp[dy]
 |n+1,b::l=>by
  have:=kI n l;rw[dy];split<;>simp<;>omega
theorem nS:∀(n:Nat)(l:List UInt8),dy n l=l.take (dy n l).length
 |0,l=>by simp[dy]
 |n+1,[]=>by simp[dy]
 |n+1,b::l=>by
  rw[dy];split;·rw[List.length_cons,List.take_succ_cons,←nS n l]
  ·simp
theorem rT:∀(n:Nat)(l:List UInt8),∀b∈dy n l,lP b=true
 |0,l=>by simp[dy]
 |n+1,[]=>by simp[dy]
 |n+1,b::l=>by
  intro x a;rw[dy]at a;split at a
  ·rename_i h;rcases List.mem_cons.1 a with rfl|c;·exact h
   ·exact rT n l x c
  ·simp at a
theorem uU:∀(n:Nat)(l:List UInt8)(j:Nat),j≤(dy n l).length→(j<(dy n l).length↔j<n∧∃b,l[j]? =some b∧lP b=true)
 |0,l,j,h=>by simp[dy]
 |n+1,[],j,h=>by simp[dy]
 |n+1,b::l,0,h=>by
  rw[dy];by_cases a:lP b=true;·simp[a]
  ·simp[a]
 |n+1,b::l,j+1,h=>by
  rw[dy]at h⊢;by_cases a:lP b=true;·simp only[a,if_true,List.length_cons]at h⊢;have:=uU n l j (by omega);simp only[List.getElem?_cons_succ];rw[show(j+1<(dy n l).length+1)↔(j<(dy n l).length)by omega,show(j+1<n+1)↔(j<n)by omega];exact this
  ·simp[a]at h
theorem lB(ds:List UInt8)(b:UInt8):eT (ds++[b])=eT ds*10+(b.toNat-48):=by simp[eT]
theorem Ho:∀(n:Nat)(ds:List UInt8),ds.length=n→(∀b∈ds,lP b=true)→eT ds<10^n:=by
 intro n;induction n with
 |zero=>
  intro ds h _;rw[List.eq_nil_of_length_eq_zero h];decide
 |succ n e=>
  intro ds h a;obtain⟨init,b,rfl⟩:∃init b,ds=init++[b]:=by
   rcases List.eq_nil_or_concat ds with rfl|⟨i,b,rfl⟩;·simp at h
   ·exact⟨i,b,by simp⟩
  rw[lB];have f:=e init (by simpa using h) (fun x d=>a x (by simp[d]));have c:=a b (by simp);simp only[lP,Bool.and_eq_true,decide_eq_true_eq]at c;rw[Nat.pow_succ];omega
end Go.Proofs.YtphjagkehiklkaaGreatDoor
