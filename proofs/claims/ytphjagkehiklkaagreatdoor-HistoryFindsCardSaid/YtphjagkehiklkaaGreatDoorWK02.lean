/- Texts. -/
import Derived.Test.YtphjagkehiklkaaGreatDoorWK01
set_option linter.unusedVariables false
set_option linter.unusedSimpArgs false
set_option maxRecDepth 100000
set_option maxHeartbeats 1000000
namespace Go.Proofs.YtphjagkehiklkaaGreatDoor
def b8(n:Nat):UInt8:=UInt8.ofNat n
def bv(b:UInt8):Value:= .int .u8 b.toNat
def lead:List UInt8→Nat→Nat
 |[],_=>0
 |_::_,0=>0
 |b::l,m+1=>if 128≤b.toNat then lead l m+1 else 0
def val:List UInt8→Nat
 |[]=>0
 |b::l=>b.toNat%128+128*val l
def pn(l:List UInt8)(m:Nat):Nat×Nat×Nat:=
 let k:=lead l m
 if k=m then(0,0,3)
 else if k=l.length then(0,0,28)
 else if 0<k∧(l[k]?.getD 0).toNat=0 then(0,0,3)
 else if k=9∧1<(l[k]?.getD 0).toNat then(0,0,3)
 else(val (l.take (k+1)),k+1,0)
theorem zB:∀(l:List UInt8)(m:Nat),lead l m≤m∧lead l m≤l.length
 |[],m=>by simp[lead]
 |b::l,0=>by simp[lead]
 |b::l,m+1=>by
  have:=zB l m;simp only[lead,List.length_cons];split<;>omega
theorem BG(l:List UInt8)(m k:Nat)(b:k<l.length)(d:k<m)(a:128≤(l[k]?.getD 0).toNat):
  lead (l.drop k) (m-k)=1+lead (l.drop (k+1)) (m-(k+1)):=by
 have e:l.drop k=l[k]::l.drop (k+1):=List.drop_eq_getElem_cons b;obtain⟨j,c⟩:∃j,m-k=j+1:=⟨m-k-1,by omega⟩;rw[e,c];rw[List.getElem?_eq_getElem b]at a;simp only[Option.getD_some]at a;rw[lead,if_pos a,show m-(k+1)=j by omega];omega
theorem BH(l:List UInt8)(m k:Nat)(h:l.length≤k∨m≤k∨(l[k]?.getD 0).toNat<128):lead (l.drop k) (m-k)=0:=by
 rcases Nat.lt_or_ge k l.length with a|a
 ·have e:l.drop k=l[k]::l.drop (k+1):=List.drop_eq_getElem_cons a;rw[e];rcases Nat.lt_or_ge k m with b|b;·obtain⟨j,c⟩:∃j,m-k=j+1:=⟨m-k-1,by omega⟩;rw[c];rw[List.getElem?_eq_getElem a]at h;simp only[Option.getD_some]at h;rw[lead,if_neg (by omega)]
  ·rw[show m-k=0 by omega];rfl
 ·rw[List.drop_of_length_le a];simp[lead]
theorem zS(l:List UInt8)(m:Nat)(h:lead l m=m):pn l m=(0,0,3):=by simp[pn,h]
theorem xb(l:List UInt8)(m k:Nat)(h:lead l m=k)(b:k<m)(a:k=l.length):pn l m=(0,0,28):=by
 unfold pn;rw[h];simp only;rw[if_neg (by omega),if_pos a]
theorem yh(l:List UInt8)(m k:Nat)(h:lead l m=k)(a:k<m)(b:k<l.length):pn l m=
  if 0<k∧(l[k]?.getD 0).toNat=0 then(0,0,3)else if k=9∧1<(l[k]?.getD 0).toNat then(0,0,3)else(val (l.take (k+1)),k+1,0):=by
 unfold pn;rw[h];simp only;rw[if_neg (by omega),if_neg (by omega)]
theorem sQ(l r:List UInt8):val (l++r)=val l+128^l.length*val r:=by
 induction l with
 |nil=>simp[val]
 |cons x l a=>simp only[List.cons_append,val,a,List.length_cons,Nat.pow_succ];rw[Nat.mul_add];rw[Nat.mul_comm (128^l.length) 128,Nat.mul_assoc];omega
theorem yu(l:List UInt8):val l<128^l.length:=by
 induction l with
 |nil=>simp[val]
 |cons x l a=>simp only[val,List.length_cons,Nat.pow_succ];have:=Nat.mod_lt x.toNat (show 128>0 by omega);omega
theorem FU(l:List UInt8)(k j:Nat)(b:k<l.length)(a:j≤k):
  val ((l.take (k+1)).drop j)=val ((l.take (k+1)).drop (j+1))*128+(l[j]?.getD 0).toNat%128:=by
 have h:j<(l.take (k+1)).length:=by simp;omega
 rw[List.drop_eq_getElem_cons h,val];have e:(l.take (k+1))[j]=l[j]?.getD 0:=by
  rw[List.getElem_take,List.getElem?_eq_getElem (by omega),Option.getD_some]
 rw[e];omega
theorem Da(l:List UInt8)(k j:Nat)(d:k<l.length)(o:k≤9)(m:k=9→(l[k]?.getD 0).toNat≤1):val ((l.take (k+1)).drop (j+1))<144115188075855872:=by
 by_cases h:k≤8
 ·have f:=yu ((l.take (k+1)).drop (j+1));have a:((l.take (k+1)).drop (j+1)).length≤8:=by simp;omega
  have c:(128:Nat)^((l.take (k+1)).drop (j+1)).length≤128^8:=Nat.pow_le_pow_right (by omega) a;have g:(128:Nat)^8=72057594037927936:=by decide
  omega
 ·obtain rfl:k=9:=by omega
  have b:=m rfl;have e:l.take (9+1)=l.take 9++[l[9]]:=List.take_succ_eq_append_getElem d;rcases Nat.lt_or_ge j 9 with n|n
  ·rw[e,List.drop_append_of_le_length (by simp;omega),sQ];have f:=yu ((l.take 9).drop (j+1));have a:((l.take 9).drop (j+1)).length≤8:=by simp;omega
   have c:(128:Nat)^((l.take 9).drop (j+1)).length≤128^8:=Nat.pow_le_pow_right (by omega) a;have g:(128:Nat)^8=72057594037927936:=by decide
   rw[List.getElem?_eq_getElem d,Option.getD_some]at b;have i:val [l[9]]≤1:=by simp only[val];omega
   have p:=Nat.mul_le_mul c i;omega
  ·rw[List.drop_of_length_le (by simp;omega)];simp[val]
theorem EO(x b:Nat)(e:x<144115188075855872)(d:b<2^8):bits .or .u64 (↑x*128) (IntKind.u64.wrap (bits .and .u8 ↑b 127))=((x*128+b%128:Nat):Int):=by
 have a:bits .and .u8 (b:Int) 127=((b%128:Nat):Int):=by
  have:=u8_and_nat b 127 (by simpa using d) (by omega);rw[nat_mask7]at this;exact this
 rw[a];have c:IntKind.u64.wrap ((b%128:Nat):Int)=((b%128:Nat):Int):=by
  simp only[IntKind.wrap,IntKind.bits,IntKind.signed];simp;omega
 rw[c,show((x:Int)*128)=((x*128:Nat):Int)by omega,u64_or_nat _ _ (by omega) (by omega),nat_join 7 _ _ (by omega) (by omega)]
theorem rQ(l:List UInt8)(m:Nat)(hm:m≤10):(pn l m=(0,0,3)∨pn l m=(0,0,28))∨
  ∃k,lead l m=k∧k<m∧k<l.length∧(0<k→(l[k]?.getD 0).toNat≠0)∧(k=9→(l[k]?.getD 0).toNat≤1)∧(l[k]?.getD 0).toNat<128∧pn l m=(val (l.take (k+1)),k+1,0):=by
 have hle:=zB l m;by_cases c:lead l m=m;·exact .inl (.inl (zS l m c))
 by_cases a:lead l m=l.length;·exact .inl (.inr (xb l m _ rfl (by omega) a))
 have he:=yh l m _ rfl (by omega) (by omega);by_cases d:0<lead l m∧(l[lead l m]?.getD 0).toNat=0;·rw[if_pos d]at he;exact .inl (.inl he)
 rw[if_neg d]at he;by_cases f:lead l m=9∧1<(l[lead l m]?.getD 0).toNat;·rw[if_pos f]at he;exact .inl (.inl he)
 rw[if_neg f]at he;refine .inr ⟨lead l m,rfl,by omega,by omega,fun h g=>d ⟨h,g⟩,fun h=>by omega,?_,he⟩;have key:∀(l:List UInt8)(m:Nat),lead l m<m→lead l m<l.length→(l[lead l m]?.getD 0).toNat<128:=by
  intro l;induction l with
  |nil=>intro m _ h;simp at h
  |cons b l i=>
   intro m c a;cases m with
   |zero=>omega
   |succ m=>
    simp only[lead]at c a⊢;split at c;·rename_i e;rw[if_pos e]at a⊢;simp only[List.length_cons]at a;simpa using i m (by omega) (by omega)
    ·rename_i e;rw[if_neg e];simp;omega
 exact key l m (by omega) (by omega)
theorem yi(l:List UInt8):(pn l 9).1<9223372036854775808:=by
 rcases rQ l 9 (by omega)with(h|h)|⟨k,_,b,c,_,_,_,h⟩;·rw[h];decide
 ·rw[h];decide
 ·rw[h];have d:=yu (l.take (k+1));have a:(l.take (k+1)).length≤9:=by simp;omega
  have e:(128:Nat)^(l.take (k+1)).length≤128^9:=Nat.pow_le_pow_right (by omega) a;have f:(128:Nat)^9=9223372036854775808:=by decide
  show val (l.take (k+1))<_;omega
theorem zT(l:List UInt8)(m:Nat)(hm:m≤10):(pn l m).2.1≤10∧(pn l m).2.1≤l.length:=by
 rcases rQ l m hm with(h|h)|⟨k,_,a,b,_,c,_,h⟩;·rw[h];simp
 ·rw[h];simp
 ·rw[h];show k+1≤10∧k+1≤l.length;omega
theorem zD(x:Nat):bits .or .u8 ((x:Int)%256) 128=((x%128+128:Nat):Int):=by
 have h:=u8_or_nat (x%256) 128 (by omega) (by omega);have e:((x:Int)%256)=((x%256:Nat):Int):=by omega
 rw[e];refine h.trans ?_;congr 1;have b:x%256=x/128%2*128+x%128:=by omega
 rw[b];rcases Nat.mod_two_eq_zero_or_one (x/128)with a|a;·rw[a,Nat.zero_mul,Nat.zero_add,Nat.or_comm,nat_join 7 128 _ (by omega) (by omega)];omega
 ·rw[a,Nat.one_mul,←nat_join 7 128 (x%128) (by omega) (by omega),Nat.or_comm,←Nat.or_assoc,Nat.or_self,nat_join 7 128 _ (by omega) (by omega)];omega
def dp:Nat→Nat→List UInt8
 |0,n=>[b8 n]
 |k+1,n=>if n<128 then[b8 n]else b8 (n%128+128)::dp k (n/128)
def enc(n:Nat):List UInt8:=dp 9 n
theorem nt:∀(k n:Nat),(dp k n).length≤k+1
 |0,n=>by simp[dp]
 |k+1,n=>by
  simp only[dp];split;·simp
  ·have:=nt k (n/128);simp only[List.length_cons];omega
theorem aW(n:Nat):(enc n).length≤10:=nt 9 n
theorem Bg{n:Nat}(h:n<128):enc n=[b8 n]:=by simp[enc,dp,h]
theorem lh(k n:Nat)(h:128≤n):dp (k+1) n=b8 (n%128+128)::dp k (n/128):=by simp[dp,Nat.not_lt.2 h]
theorem pY:∀(k j n:Nat),n<128^(k+1)→k≤j→dp j n=dp k n
 |0,j,n,h,_=>by
  cases j with
  |zero=>rfl
  |succ j=>simp[dp,show n<128 by simpa using h]
 |k+1,0,n,h,a=>by omega
 |k+1,j+1,n,h,a=>by
  by_cases b:n<128;·simp[dp,b]
  ·have:n/128<128^(k+1):=by
    rw[Nat.pow_succ]at h;exact Nat.div_lt_of_lt_mul (by rw[Nat.mul_comm];exact h)
   rw[lh _ _ (by omega),lh _ _ (by omega),pY k j _ this (by omega)]
theorem EF{n:Nat}(h:128≤n)(a:n<18446744073709551616):enc n=b8 (n%128+128)::enc (n/128):=by
 unfold enc;rw[lh _ _ h,pY 8 9 (n/128) (by
  have:(128:Nat)^(8+1)=9223372036854775808:=by decide
  omega) (by omega)]
theorem wT:∀(l:List UInt8)(m j:Nat),j<lead l m→128≤(l[j]?.getD 0).toNat
 |[],m,j,h=>by simp[lead]at h
 |b::l,0,j,h=>by simp[lead]at h
 |b::l,m+1,j,h=>by
  simp only[lead]at h;split at h
  ·rename_i a;cases j with
   |zero=>simpa using a
   |succ j=>simpa using wT l m j (by omega)
  ·omega
theorem ry(b:UInt8):b8 b.toNat=b:=by simp[b8]
theorem wJ:∀(r:List UInt8)(j:Nat),r≠[]→r.length≤j+1→(∀i,i+1<r.length→128≤(r[i]?.getD 0).toNat)→(r[r.length-1]?.getD 0).toNat<128→
  (1<r.length→(r[r.length-1]?.getD 0).toNat≠0)→dp j (val r)=r
 |[],_,h,_,_,_,_=>absurd rfl h
 |[b],j,_,_,_,a,_=>by
  simp at a;have e:val [b]=b.toNat:=by simp[val];omega
  rw[e];cases j with
  |zero=>simp[dp,ry]
  |succ j=>simp[dp,a,ry]
 |b::c::r,0,_,k,_,_,_=>by simp at k
 |b::c::r,j+1,_,k,l,a,p=>by
  have s:=l 0 (by simp);simp at s;have u:=b.toNat_lt;have d:=p (by simp);have m:1≤val (c::r):=by
   have key:∀(q:List UInt8),q≠[]→(q[q.length-1]?.getD 0).toNat<128→(q[q.length-1]?.getD 0).toNat≠0→1≤val q:=by
    intro q;induction q with
    |nil=>intro h;exact absurd rfl h
    |cons x q v=>
     intro _ f g;cases q with
     |nil=>simp at f g;simp only[val];omega
     |cons y q=>
      have:=v (by simp) (by simpa using f) (by simpa using g);simp only[val]at this⊢;omega
   exact key _ (by simp) (by simpa using a) (by simpa using d)
  have w:val (b::c::r)=b.toNat%128+128*val (c::r):=rfl;rw[lh _ _ (by omega)];have n:val (b::c::r)/128=val (c::r):=by omega
  have o:val (b::c::r)%128+128=b.toNat:=by omega
  rw[n,o,ry,wJ (c::r) j (by simp) (by simp at k⊢;omega) (fun i t=>by simpa using l (i+1) (by simp at t⊢;omega)) (by simpa using a) (fun _=>by simpa using d)]
theorem GU(l:List UInt8)(m k:Nat)(e:lead l m=k)(hm:m≤10)(f:k<m)(g:k<l.length)(b:0<k→(l[k]?.getD 0).toNat≠0)(c:(l[k]?.getD 0).toNat<128):enc (val (l.take (k+1)))=l.take (k+1):=by
 have hlen:(l.take (k+1)).length=k+1:=by simp;omega
 have a:∀i,i≤k→(l.take (k+1))[i]? =l[i]? :=fun i d=>by rw[List.getElem?_take,if_pos (by omega)]
 refine wJ (l.take (k+1)) 9 (by intro h;rw[h]at hlen;simp at hlen) (by omega) (fun i d=>?_) ?_ (fun h=>?_);·rw[a i (by omega)];exact wT l m i (by omega)
 ·rw[hlen,Nat.add_sub_cancel,a k (Nat.le_refl _)];exact c
 ·rw[hlen,Nat.add_sub_cancel,a k (Nat.le_refl _)];exact b (by omega)
theorem xB(n:Nat)(h:n<256):(b8 n).toNat=n:=by
 unfold b8;rw[UInt8.toNat_ofNat_of_lt' (by simpa using h)]
theorem qN(k n:Nat):1≤(dp k n).length:=by
 cases k with
 |zero=>simp[dp]
 |succ k=>simp only[dp];split<;>simp
theorem sA:∀(k n:Nat),n<128^(k+1)→(∀i,i+1<(dp k n).length→128≤((dp k n)[i]?.getD 0).toNat)∧((dp k n)[(dp k n).length-1]?.getD 0).toNat<128∧
  (1<(dp k n).length→((dp k n)[(dp k n).length-1]?.getD 0).toNat≠0)∧val (dp k n)=n
 |0,n,h=>by
  have o:n<128:=by simpa using h
  simp[dp,xB n (by omega),val,o]
 |k+1,n,h=>by
  by_cases t:n<128;·simp[dp,t,xB n (by omega),val]
  ·have p:n/128<128^(k+1):=by
    rw[Nat.pow_succ]at h;exact Nat.div_lt_of_lt_mul (by rw[Nat.mul_comm];exact h)
   obtain⟨u,l,m,f⟩:=sA k (n/128) p;have e:=qN k (n/128);rw[lh _ _ (by omega)];have a:∀i,(b8 (n%128+128)::dp k (n/128))[i+1]? =(dp k (n/128))[i]? :=fun i=>by simp
   obtain⟨j,b⟩:∃j,(dp k (n/128)).length=j+1:=⟨_,(Nat.sub_add_cancel e).symm⟩;refine⟨fun i r=>?_,?_,fun _=>?_,?_⟩
   ·cases i with
    |zero=>simp[xB (n%128+128) (by omega)]
    |succ i=>rw[a];exact u i (by simpa using r)
   ·rw[List.length_cons,Nat.add_sub_cancel,b,a];rw[b,Nat.add_sub_cancel]at l;exact l
   ·rw[List.length_cons,Nat.add_sub_cancel,b,a];rw[b,Nat.add_sub_cancel]at m;rcases Nat.eq_zero_or_pos j with g|g
    ·subst g;have s:∃c,dp k (n/128)=[c]:=List.length_eq_one_iff.1 (by omega);obtain⟨c,q⟩:=s;rw[q]at f⊢;simp[val]at f⊢;intro d;have:c.toNat=0:=by rw[d]
     omega
    ·exact m (by omega)
   ·show(b8 (n%128+128)).toNat%128+128*val (dp k (n/128))=n;rw[f,xB _ (by omega)];omega
theorem zC:∀(l:List UInt8)(m j:Nat),(∀i,i<j→128≤(l[i]?.getD 0).toNat)→(l[j]?.getD 0).toNat<128→j<l.length→j<m→lead l m=j
 |[],m,j,_,_,h,_=>by simp at h
 |b::l,0,j,_,_,_,h=>by omega
 |b::l,m+1,0,_,h,_,_=>by
  simp at h;rw[lead,if_neg (by omega)]
 |b::l,m+1,j+1,a,d,e,f=>by
  have c:=a 0 (by omega);simp at c;rw[lead,if_pos c,zC l m j (fun i g=>by simpa using a (i+1) (by omega)) (by simpa using d) (by simpa using e) (by omega)]
theorem Hy(k n m:Nat)(r:List UInt8)(w:n<128^(k+1))(u:n<18446744073709551616)(hm:m≤10)(hlen:(dp k n).length≤m):pn (dp k n++r) m=(n,(dp k n).length,0):=by
 obtain⟨x,f,y,q⟩:=sA k n w;have j:=qN k n;have b:∀i,i<(dp k n).length→(dp k n++r)[i]? =(dp k n)[i]? :=fun i p=>List.getElem?_append_left p;have v:lead (dp k n++r) m=(dp k n).length-1:=by
  refine zC _ _ _ (fun i p=>?_) ?_ (by simp;omega) (by omega);·rw[b i (by omega)];exact x i (by omega)
  ·rw[b _ (by omega)];exact f
 rw[yh _ m _ v (by omega) (by simp;omega),b _ (by omega)];rw[if_neg (fun h=>y (by omega) h.2)];have c:¬((dp k n).length-1=9∧1<((dp k n)[(dp k n).length-1]?.getD 0).toNat):=by
  rintro⟨t,g⟩;have a:(dp k n).length=10:=by omega
  rw[t]at g f;generalize dp k n=e at q g a f;have l:e=e.take 9++e.drop 9:=(List.take_append_drop 9 e).symm;have s:e.drop 9=[e[9]]:=by
   rw[List.drop_eq_getElem_cons (by omega)];simp[List.drop_of_length_le,a]
  rw[s]at l;have z:val e=val (e.take 9)+128^9*val [e[9]]:=by
   conv=>lhs;rw[l]
   rw[sQ];simp[a]
  rw[List.getElem?_eq_getElem (by omega),Option.getD_some]at g;have o:(128:Nat)^9=9223372036854775808:=by decide
  have d:2≤val [e[9]]∨128≤e[9].toNat:=by
   simp only[val];omega
  rcases d with d|d;·have:=Nat.mul_le_mul_left (128^9) d;omega
  ·rw[List.getElem?_eq_getElem (by omega),Option.getD_some]at f;omega
 rw[if_neg c];rw[List.take_append_of_le_length (by omega),List.take_of_length_le (by omega),q,Nat.sub_add_cancel j]
theorem Cl:(128:Nat)^(9+1)=1180591620717411303424:=by decide
theorem Fq:(128:Nat)^(8+1)=9223372036854775808:=by decide
theorem xL(n:Nat)(h:n<9223372036854775808):(enc n).length≤9:=by
 unfold enc;rw[pY 8 9 n (by rw[Fq];exact h) (by omega)];exact nt 8 n
theorem zR(n:Nat)(r:List UInt8)(h:n<9223372036854775808):pn (enc n++r) 9=(n,(enc n).length,0):=
 Hy 9 n 9 r (by rw[Cl];omega) (by omega) (by omega) (xL n h)
end Go.Proofs.YtphjagkehiklkaaGreatDoor
namespace Go.Proofs.YtphjagkehiklkaaGreatDoor
open Go.RowKit
theorem Rd.byte{w:World}{S:Nat→Prop}{A:Option Addr}{n k:Nat}{l:List UInt8}(h:Rd w S 1 A n (l.map bv))(g:k<n):
  ∃c,A=some c∧w.cell? (c.add k)=some (.int .u8 ((l[k]?.getD 0).toNat:Int)):=by
 obtain⟨c,u,e,_,a,f⟩:=h.at_ g;refine⟨c,e,?_⟩;rw[f];rw[List.getElem?_map]at a;cases d:l[k]? with
 |none=>simp[d]at a
 |some b=>rw[d]at a;simp[bv]at a;simp[a]
theorem re(A:Option Addr)(n c:Nat)(l:List UInt8)(aP:Nat)(w:World)(S:Nat→Prop)(R:Rd w S 1 A n (l.map bv))(ai:n≤1099511627776)(ad:1≤aP)(hm:aP≤10):
  Calls Tryz.prog 171 #[.slice A n c, .int .i64 aP] w fun e w'=>e= .returned (.tuple #[.int .u64 ((pn l aP).1:Nat), .int .i64 ((pn l aP).2.1:Nat), .int .i64 ((pn l aP).2.2:Nat)])∧w=w':=by
 have hlen:l.length=n:=by have:=R.1;simpa using this
 have t:=af hlen;clear hlen;have J:=af R;clear R;go_enter Tryz.func171,Tryz.ntmps171;go_wp2;go_loop[7](fun i=>∃k:Nat,k≤n∧k≤aP∧i= .int .i64 k∧Hid (lead l aP=k+lead (l.drop k) (aP-k)))(fun i=>n-(intOf i).toNat);case atStart=>exact⟨0,Nat.zero_le _,Nat.zero_le _,rfl,by simp[Hid]⟩
 case round=>
  obtain⟨k,ab,ac,rfl,H⟩:=hrel;by_cases a:k<n∧k<aP∧128≤(l[k]?.getD 0).toNat
  ·obtain⟨B,O,m⟩:=a;obtain⟨V,rfl,q⟩:=J.out.byte B;have E:=af (BG l aP k (by rw[t.out];exact B) O m);have N:(128:Int)≤((l[k]?.getD 0).toNat:Int):=by omega
   clear m;generalize((l[k]?.getD 0).toNat)=b at q N;go_wp2;go_round;case rel=>exact⟨k+1,by omega,by omega,by go_num,by have:=H.out;have:=E.out;simp only[Hid];omega⟩
   case measure=>simp[intOf];omega
  ·have E:=af (BH l aP k (by rw[t.out];omega));have I:Hid (lead l aP=k):=by have:=H.out;have:=E.out;simp only[Hid];omega
   clear H E;by_cases g:k=aP
   ·clear a;have d:=af (zS l aP (I.out.trans g));obtain rfl:=g;go_wp2;all_goals
     go_ret3;exact⟨by rw[d.out];rfl,rfl⟩
   ·have h:k<aP:=by omega
    have Q:((k:Int)==(aP:Int))=false:=ku (by omega);by_cases r:k=n;·clear a;have d:=af (xb l aP k I.out h (by rw[t.out];exact r));clear g;obtain rfl:=r;go_wp2;go_ret3;exact⟨by rw[d.out];rfl,rfl⟩
    ·have D:k<n:=by omega
     have C:((k:Int)==(n:Int))=false:=ku (by omega);have m:(l[k]?.getD 0).toNat<128:=by omega
     clear a g r;obtain⟨V,rfl,q⟩:=J.out.byte D;have F:=af (yh l aP k I.out h (by rw[t.out];omega));have o:((l[k]?.getD 0).toNat:Int)<128:=by omega
     have p:decide ((128:Int)≤((l[k]?.getD 0).toNat:Int))=false:=by simp;omega
     clear m;by_cases v:0<k∧(l[k]?.getD 0).toNat=0;·have d:=af (F.out.trans (if_pos v));clear F;have T:0<k:=v.1;have s:(((l[k]?.getD 0).toNat:Int)==0)=true:=beq_iff_eq.2 (by omega);clear v;generalize((l[k]?.getD 0).toNat)=b at q o p s;go_wp2;go_ret3;exact⟨by rw[d.out];rfl,rfl⟩
     ·have f:=af (F.out.trans (if_neg v));clear F;by_cases G:k=9∧1<(l[k]?.getD 0).toNat
      ·have d:=af (f.out.trans (if_pos G));clear f;have T:0<k:=by omega
       have s:(((l[k]?.getD 0).toNat:Int)==0)=false:=ku (by omega);have ag:((k:Int)==9)=true:=beq_iff_eq.2 (by omega);have U:(1:Int)<((l[k]?.getD 0).toNat:Int):=by omega
       clear v G;generalize((l[k]?.getD 0).toNat)=b at q o p s U;go_wp2;go_ret3;exact⟨by rw[d.out];rfl,rfl⟩
      ·have d:=af (f.out.trans (if_neg G));clear f;have X:Hid (k=9→(l[k]?.getD 0).toNat≤1):=by simp only[Hid];omega
       have ah:Hid (0<k→(l[k]?.getD 0).toNat≠0):=by simp only[Hid];omega
       have P:(((k:Int)==9)=true∧0<k∧(((l[k]?.getD 0).toNat:Int)==0)=false∧decide ((1:Int)<((l[k]?.getD 0).toNat:Int))=false)∨(((k:Int)==9)=false∧0<k∧(((l[k]?.getD 0).toNat:Int)==0)=false)∨(((k:Int)==9)=false∧decide (0<k)=false):=by
        by_cases L:k=9;·exact .inl ⟨beq_iff_eq.2 (by omega),by omega,ku (by omega),by simp;omega⟩
        ·by_cases z:0<k;·exact .inr (.inl ⟨ku (by omega),z,ku (by omega)⟩)
         ·exact .inr (.inr ⟨ku (by omega),by simpa using z⟩)
       clear v G;rcases P with⟨L,z,M,Z⟩|⟨L,z,M⟩|⟨L,z⟩;all_goals
        go_wp2;clear o p Q C q;go_loop[8,9](fun u i=>(∃j:Nat,j≤k∧i= .int .i64 j∧∃x:Nat,x<144115188075855872∧Hid (x=val ((l.take (k+1)).drop (j+1)))∧u= .int .u64 x)∨(i= .int .i64 (-1)∧u= .int .u64 (val (l.take (k+1)))))(fun _ i=>(intOf i+1).toNat);case atStart=>exact .inl ⟨k,Nat.le_refl _,rfl,0,by omega,by simp only[Hid];rw[List.drop_of_length_le (by simp;omega)];rfl,rfl⟩
        case round=>
         rcases hrel with⟨j,aa,rfl,x,ae,Y,rfl⟩|⟨rfl,rfl⟩
         ·obtain⟨K,e,q⟩:=J.out.byte (k:=j) (by omega);obtain rfl:V=K:=by injection e
          clear e;have m:=(l[j]?.getD 0).toNat_lt;generalize y:(l[j]?.getD 0).toNat=b at q m;have HB:=af y;clear y;go_wp2;have W:=FU l k j (by rw[t.out];omega) aa;rw[←Y.out,HB.out]at W;rw[EO x b ae m,←W];rcases j with _|j;·refine⟨.inr ⟨rfl,by rw[List.drop_zero]⟩,by simp[intOf]⟩
          ·refine⟨.inl ⟨j,by omega,by go_num,_,Da l k j (by rw[t.out];omega) (by omega) X.out,rfl,rfl⟩,by simp[intOf];omega⟩
         ·go_wp2;go_ret3;exact⟨by rw[d.out];rfl,rfl⟩
theorem sq(A:Option Addr)(n c:Nat)(l:List UInt8)(w:World)(S:Nat→Prop)(b:Rd w S 1 A n (l.map bv))(g:n≤1099511627776):
  Calls Tryz.prog 147 #[.slice A n c] w fun e w'=>e= .returned (.tuple #[.int .i64 ((pn l 9).1:Nat), .int .i64 ((pn l 9).2.1:Nat), .int .i64 ((pn l 9).2.2:Nat)])∧w=w':=by
 have a:=re A n c l 9 w S b g (by omega) (by omega);have f:=yi l;generalize(pn l 9).1=h at a f⊢;generalize(pn l 9).2.1=a2 at a⊢;generalize(pn l 9).2.2=a3 at a⊢;have d:=af a;clear a b;go_enter Tryz.func147,Tryz.ntmps147;go_wp2_with fail;refine d.out.mono ?_;rintro e w1⟨rfl,rfl⟩;go_wp2;go_ret3;exact⟨rfl,rfl⟩
end Go.Proofs.YtphjagkehiklkaaGreatDoor
namespace Go.Proofs.YtphjagkehiklkaaGreatDoor
open Go.RowKit
theorem qU:(Tryz.prog.info? 5).map (fun i=>(i.zero,i.size,i.bytes))=some (some (.int .u8 0),1,1):=by kernel_rfl
theorem zH(l:List UInt8):∀u∈l.map bv,u.oneCell'=true:=by
 intro u hu;obtain⟨b,_,rfl⟩:=List.mem_map.1 hu;rfl
theorem wC(n:Nat)(h:n<256):bv (b8 n)= .int .u8 (n:Int):=by
 unfold bv b8;rw[UInt8.toNat_ofNat_of_lt' (by simpa using h)]
abbrev gS(w:World)(v:Value)(w':World)(a:Value)(l:List UInt8):Prop:=bW 5 1 w v w' a l.length (l.map bv)
abbrev pF(w:World)(v:Value)(l:List UInt8):Prop:=w.ownsRow 0 5 1 v l.length (l.map bv)
def tL(w:World)(v:Value)(l:List UInt8)(e:Ending)(w':World):Prop:=∃a,e= .returned a∧gS w v w' a l
theorem kY(v:Value)(l:List UInt8)(u:Nat)(w:World)(b:pF w v l)(q:l.length≤1099511627776)(hu:u<18446744073709551616):
  Calls Tryz.prog 114 #[v, .int .u64 u] w (tL w v (l++enc u)):=by
 obtain⟨i0,m,d,f,g⟩:=info_parts qU;have n:=af b;clear b;go_enter Tryz.func114,Tryz.ntmps114;go_wp2;go_loopw[0,1](fun p t wr=>∃(x:Nat)(i:List UInt8),x<18446744073709551616∧t= .int .u64 x∧Hid (enc u=i++enc x)∧gS w v wr p (l++i))(fun _ t _=>(intOf t).toNat);case atStart=>exact⟨u,[],hu,rfl,rfl,by simpa using bW.start n.out⟩
 case round=>
  obtain⟨x,i,o,rfl,h,c⟩:=hrel;by_cases k:128≤x
  ·go_wp2_with(at_builtin;refine da _ rfl _ _ 61 rfl 5 i0 _ 1 1 Tryz.underlying61 m d f g rfl (by omega) _ _ _ rfl c.own 1 _ _ rfl rfl rfl ?zA ?zB (by omega) ?_);case zA=>simp[Value.oneCell']
   case zB=>have:=aW u;rw[h.out]at this;simp at this⊢;omega
   intro v2 w2 a;rw[zD]at a;have j:Hid (gS w v w2 v2 (l++(i++[b8 (x%128+128)]))):=by
    have:=c.trans a;simpa[Hid,gS,wC _ (show x%128+128<256 by omega),Nat.add_assoc]using this
   clear c a;rw[zD];go_wp2;go_roundw;case rel=>exact⟨x/128,_,by omega,by go_num,by simp only[Hid];rw[h.out,EF k o];simp,j.out⟩
   case measure=>simp[intOf];omega
  ·go_wp2_with(at_builtin;refine da _ rfl _ _ 61 rfl 5 i0 _ 1 1 Tryz.underlying61 m d f g rfl (by omega) _ _ _ rfl c.own 1 _ _ rfl rfl rfl ?d1 ?d2 (by omega) ?_);case d1=>simp[Value.oneCell']
   case d2=>have:=aW u;rw[h.out]at this;simp at this⊢;omega
   intro v2 w2 a;have j:Hid (gS w v w2 v2 (l++enc u)):=by
    have:=c.trans a;have e:(x:Int)%256=(x:Int):=by omega
    rw[h.out,Bg (by omega)];simpa[Hid,gS,wC _ (show x<256 by omega),Nat.add_assoc,e]using this
   clear c a;go_wp2;go_ret;exact⟨_,rfl,j.out⟩
theorem tu(A:Option Addr)(n c:Nat)(l:List UInt8)(w:World)(S:Nat→Prop)(d:Rd w S 1 A n (l.map bv))(s:n≤1099511627776):
  Calls Tryz.prog 116 #[.slice A n c] w (tL w (.slice none 0 0) l):=by
 obtain⟨i0,q,g,i,j⟩:=info_parts qU;have t:=fun(w:World)=>Lib.run_eql_slice_nil (P:=Tryz.prog) w 61 5 A n c 0 0 Tryz.underlying61;have hlen:l.length=n:=by have:=d.1;simpa using this
 have m:=af hlen;clear hlen;rcases A with _|p
 ·have b:n=0:=by
   rcases Nat.eq_zero_or_pos n with h|h;·exact h
   ·obtain⟨p,e,_⟩:=d.2 h;cases e
  have f:l=[]:=List.eq_nil_of_length_eq_zero (by rw[m.out];exact b);subst f;subst b;clear d;go_enter Tryz.func116,Tryz.ntmps116;go_wp2;go_ret;exact⟨_,rfl,bW.start (World.ownsRow_nil _ _ _ _)⟩
 ·go_enter Tryz.func116,Tryz.ntmps116;go_wp2_with(at_builtin;refine iE _ rfl _ _ 61 rfl 5 i0 _ 1 1 Tryz.underlying61 q g i j rfl (by omega) _ 0 [] rfl ?zA _ _ n c _ rfl (d.ar (aD.alloc _)) (zH _) (by omega) (by omega) ?_);case zA=>exact World.ownsRow_lit (size:=1) _ _ 0 (Nat.zero_le _) (by simp[maxLen]) rfl
  intro v2 w2 a;have o:Hid (gS w (.slice none 0 0) w2 v2 l):=by
   have:=bW.fresh (aD.alloc _) (fun k r=>by simp[Value.ownBlock]at r;omega) a;have e:=m.out;simpa[Hid,gS,e]using this
  clear a;go_wp2;go_ret;exact⟨_,rfl,o.out⟩
def Gt(w:World)(v:Value)(l:List UInt8)(err:Int)(e:Ending)(w':World):Prop:=∃a,e= .returned (.tuple #[a, .int .i64 err])∧gS w v w' a l
end Go.Proofs.YtphjagkehiklkaaGreatDoor
namespace Go.Proofs.YtphjagkehiklkaaGreatDoor
open Go.RowKit
structure Wr(w:World)(g:Nat)(v:Value)(l:List UInt8)(f:Int):Prop where
 aH:aq w g 185 #[v, .int .i64 f]
 own:pF w v l
def ID(g:Nat)(v:Value):Nat→Prop:=fun k=>k=g∨v.ownBlock=some k
structure dj(w:World)(g:Nat)(v:Value)(w':World)(a:Value)(st:List UInt8×Int):Prop where
 wr:Wr w' g a st.1 st.2
 fr:Fr (ID g v) w w'
 ew:∀k,a.ownBlock=some k→v.ownBlock=some k∨w.heap.size≤k
def xy(w:World)(g:Nat)(v:Value)(st:List UInt8×Int)(e:Ending)(w':World):Prop:=e= .returned (.tuple #[])∧∃a,dj w g v w' a st
section
variable{w w1 w2:World}{g:Nat}{v v1 v2:Value}{l:List UInt8}{f:Int}{st st1 st2:List UInt8×Int}{T:Nat→Prop}
theorem Wr.cN(h:Wr w g v l f)(b:Fr T w w1)(a:∀k,ID g v k→¬T k):Wr w1 g v l f:=
 ⟨h.aH.fr b (a g (.inl rfl)),aQ h.own b (fun k c=>a k (.inr c))⟩
theorem dj.start(h:Wr w g v l f):dj w g v w v (l,f):=⟨h,aD,fun _ a=> .inl a⟩
theorem dj.trans(h:dj w g v w1 v1 st1)(k:dj w1 g v1 w2 v2 st2):dj w g v w2 v2 st2:=
  ⟨k.wr,h.fr.aw k.fr (fun i c b=>by
      rcases b with b|b;· exact .inl b
      · rcases h.ew i b with a|a;· exact .inr a
        · omega),
   fun i c=>by
    rcases k.ew i c with a|a;· exact h.ew i a
    · exact .inr (Nat.le_trans h.fr.size a)⟩
theorem dj.store(h:Wr w g v l f){m:List UInt8}(k:gS w v w1 v1 m):dj w g v (w1.setCell ⟨g,0,none⟩ v1) v1 (m,f):=by
 have b:v.ownBlock≠some g:=bG h.own h.aH (by decide);have d:aq w1 g 185 #[v, .int .i64 f]:=h.aH.fr k.fr (fun o=>b o);have n:=h.aH.lt;have c:∀i,v1.ownBlock=some i→i≠g:=fun i a e=>by
  subst e;rcases k.ew i a with j|j;·exact b j
  ·omega
 refine⟨⟨by simpa using d.jC 0 v1,aQ k.own ((Fr.refl (fun k=>k=g) w1).setCell (fun _=>rfl) _) (fun i a=>c i a)⟩,?_,k.ew⟩;exact(k.fr.mono (fun i _ a=> .inr a)).setCell (fun _=> .inl rfl) _
theorem dj.fail(h:Wr w g v l f)(a:Int):dj w g v (w.setCell ⟨g,1,none⟩ (.int .i64 a)) v (l,a):=by
 have b:v.ownBlock≠some g:=bG h.own h.aH (by decide);refine⟨⟨by simpa using h.aH.jC 1 (.int .i64 a),aQ h.own ((Fr.refl (fun k=>k=g) w).setCell (fun _=>rfl) _) (fun i c e=>b (e▸c))⟩,?_,fun _ d=> .inl d⟩;exact aD.setCell (fun _=> .inl rfl) _
end
def aR(s:ByteArray):List UInt8:=s.data.toList
def o6(st:List UInt8×Int)(n:Int):List UInt8×Int:=if st.2=0 then(if n<0 then(st.1,2)else(st.1++enc n.toNat,0))else st
theorem iL(l:List UInt8)(u:Nat):o6 (l,0) (u:Int)=(l++enc u,0):=by
 unfold o6;rw[if_pos rfl,if_neg (by omega)];rfl
def r8(st:List UInt8×Int)(b:Bool):List UInt8×Int:=if st.2=0 then(st.1++[if b then 1 else 0],0)else st
def sa(st:List UInt8×Int)(s:List UInt8):List UInt8×Int:=if st.2=0 then(if 16777216<s.length then(st.1,5)else(st.1++(enc s.length++s),0))else st
theorem aO(s:ByteArray):(aR s).length=s.size:=by simp[aR]
theorem yr(s:ByteArray):Lib.strCells s=(aR s).map bv:=rfl
theorem Dc(l:List UInt8)(s:ByteArray)(h:16777216<s.size):sa (l,0) (aR s)=(l,5):=by
 unfold sa;rw[if_pos rfl,if_pos (by rw[aO];exact h)]
theorem iM(l:List UInt8)(s:ByteArray)(h:¬16777216<s.size):sa (l,0) (aR s)=(l++(enc s.size++aR s),0):=by
 unfold sa;rw[if_pos rfl,if_neg (by rw[aO];exact h),aO]
theorem gK(g:Nat)(v:Value)(f:Int)(w:World)(a:aq w g 185 #[v, .int .i64 f])(B:Bool)(c:(f==0)=B):
  Calls Tryz.prog 113 #[.pointer (some ⟨g,0,none⟩)] w fun e w'=>e= .returned (.bool B)∧w=w':=by
 have b:w.cell? ⟨g,1,none⟩=some (.int .i64 f):=a.cell 1;clear a;go_enter Tryz.func113,Tryz.ntmps113;go_wp2;go_ret;exact⟨rfl,rfl⟩
theorem jv(g:Nat)(v:Value)(l:List UInt8)(f:Int)(n:Int)(w:World)(h:Wr w g v l f)(t:l.length≤1099511627776)(z:n≤9223372036854775807):
  Calls Tryz.prog 63 #[.pointer (some ⟨g,0,none⟩), .int .i64 n] w (xy w g v (o6 (l,f) n)):=by
 have a:=af h;have m:w.cell? ⟨g,0,none⟩=some v:=h.aH.cell 0;have o:w.cell? ⟨g,1,none⟩=some (.int .i64 f):=h.aH.cell 1;have q:=h.aH.frozen 0;have r:=h.aH.frozen 1;clear h;by_cases d:f=0
 ·subst d;by_cases c:n<0;·go_enter Tryz.func63,Tryz.ntmps63;go_wp2_with fail;refine(gK g v 0 _ a.out.aH true rfl).mono ?_;rintro e w1⟨rfl,rfl⟩;go_wp2;go_end0;exact⟨rfl,v,by simpa[o6,c]using dj.fail a.out 2⟩
  ·obtain⟨u,rfl⟩:=Int.eq_ofNat_of_zero_le (by omega:0≤n);go_enter Tryz.func63,Tryz.ntmps63;go_wp2_with fail;refine(gK g v 0 _ a.out.aH true rfl).mono ?_;rintro e w1⟨rfl,rfl⟩;go_wp2_with fail;refine(kY v l u _ a.out.own t (by omega)).mono ?_;rintro e w2⟨v2,rfl,b⟩;obtain⟨x,A,y,rfl,_,_⟩:=aU b.own;have k:=af (dj.store a.out b);have s:w2.frozen? ⟨g,0,none⟩=false:=(aq.fr a.out.aH b.fr (fun j=>bG a.out.own a.out.aH (by decide) j)).frozen 0;have p:w2.cell? ⟨g,0,none⟩=some v:=(aq.fr a.out.aH b.fr (fun j=>bG a.out.own a.out.aH (by decide) j)).cell 0;clear b;go_wp2;go_end0;exact⟨rfl,_,by rw[iL];exact k.out⟩
 ·have i:(f==0)=false:=ku d;go_enter Tryz.func63,Tryz.ntmps63;go_wp2_with fail;refine(gK g v f _ a.out.aH false i).mono ?_;rintro e w1⟨rfl,rfl⟩;go_wp2;go_end0;exact⟨rfl,v,by simpa[o6,d]using dj.start a.out⟩
theorem Db(g:Nat)(v:Value)(l:List UInt8)(f:Int)(b:Bool)(w:World)(h:Wr w g v l f)(B:l.length≤1099511627776):
  Calls Tryz.prog 66 #[.pointer (some ⟨g,0,none⟩), .bool b] w (xy w g v (r8 (l,f) b)):=by
 obtain⟨i0,s,j,k,m⟩:=info_parts qU;have c:=af h;have x:w.cell? ⟨g,0,none⟩=some v:=h.aH.cell 0;have y:w.cell? ⟨g,1,none⟩=some (.int .i64 f):=h.aH.cell 1;have z:=h.aH.frozen 1;clear h;by_cases p:f=0
 ·subst p;cases b
  ·go_enter Tryz.func66,Tryz.ntmps66;go_wp2_with fail;refine(gK g v 0 _ c.out.aH true rfl).mono ?_;rintro e w1⟨rfl,rfl⟩;go_wp2_with(at_builtin;refine da _ rfl _ _ 61 rfl 5 i0 _ 1 1 Tryz.underlying61 s j k m rfl (by omega) _ _ _ rfl c.out.own 1 _ _ rfl rfl rfl (by simp[Value.oneCell']) (by omega) (by omega) ?_);intro v2 w2 d;have a:gS w v w2 v2 (l++[0]):=by simpa[gS,bv]using d
   clear d;obtain⟨t,A,u,rfl,_,_⟩:=aU a.own;have n:=af (dj.store c.out a);have r:w2.frozen? ⟨g,0,none⟩=false:=(aq.fr c.out.aH a.fr (fun i=>bG c.out.own c.out.aH (by decide) i)).frozen 0;have o:w2.cell? ⟨g,0,none⟩=some v:=(aq.fr c.out.aH a.fr (fun i=>bG c.out.own c.out.aH (by decide) i)).cell 0;clear a;go_wp2;go_end0;exact⟨rfl,_,by rw[show r8 (l,0) _=(l++[0],0)from rfl];exact n.out⟩
  ·go_enter Tryz.func66,Tryz.ntmps66;go_wp2_with fail;refine(gK g v 0 _ c.out.aH true rfl).mono ?_;rintro e w1⟨rfl,rfl⟩;go_wp2_with(at_builtin;refine da _ rfl _ _ 61 rfl 5 i0 _ 1 1 Tryz.underlying61 s j k m rfl (by omega) _ _ _ rfl c.out.own 1 _ _ rfl rfl rfl (by simp[Value.oneCell']) (by omega) (by omega) ?_);intro v2 w2 d;have a:gS w v w2 v2 (l++[1]):=by simpa[gS,bv]using d
   clear d;obtain⟨t,A,u,rfl,_,_⟩:=aU a.own;have n:=af (dj.store c.out a);have r:w2.frozen? ⟨g,0,none⟩=false:=(aq.fr c.out.aH a.fr (fun i=>bG c.out.own c.out.aH (by decide) i)).frozen 0;have o:w2.cell? ⟨g,0,none⟩=some v:=(aq.fr c.out.aH a.fr (fun i=>bG c.out.own c.out.aH (by decide) i)).cell 0;clear a;go_wp2;go_end0;exact⟨rfl,_,by rw[show r8 (l,0) _=(l++[1],0)from rfl];exact n.out⟩
 ·have q:(f==0)=false:=ku p;go_enter Tryz.func66,Tryz.ntmps66;go_wp2_with fail;refine(gK g v f _ c.out.aH false q).mono ?_;rintro e w1⟨rfl,rfl⟩;go_wp2;go_end0;exact⟨rfl,v,by simpa[r8,p]using dj.start c.out⟩
theorem lL(g:Nat)(v:Value)(l:List UInt8)(f:Int)(s:ByteArray)(w:World)(h:Wr w g v l f)(A:l.length≤1099511627776)(D:s.size≤140737488351232):
  Calls Tryz.prog 65 #[.pointer (some ⟨g,0,none⟩), .string s] w (xy w g v (sa (l,f) (aR s))):=by
 obtain⟨i0,z,m,n,o⟩:=info_parts qU;have b:=af h;have r:w.cell? ⟨g,0,none⟩=some v:=h.aH.cell 0;have t:w.cell? ⟨g,1,none⟩=some (.int .i64 f):=h.aH.cell 1;have x:=h.aH.frozen 1;clear h;by_cases i:f=0
 ·subst i;by_cases c:16777216<s.size;·go_enter Tryz.func65,Tryz.ntmps65;go_wp2_with fail;refine(gK g v 0 _ b.out.aH true rfl).mono ?_;rintro e w1⟨rfl,rfl⟩;go_wp2;go_end0;exact⟨rfl,v,by rw[Dc _ _ c];exact dj.fail b.out 5⟩
  ·go_enter Tryz.func65,Tryz.ntmps65;go_wp2_with fail;refine(gK g v 0 _ b.out.aH true rfl).mono ?_;rintro e w1⟨rfl,rfl⟩;go_wp2_with fail;refine(kY v l s.size _ b.out.own A (by omega)).mono ?_;rintro e w2⟨v2,rfl,a⟩;have p:=af a;clear a;go_wp2_with(at_builtin;refine lM _ rfl _ _ 61 9 rfl 5 i0 Tryz.underlying61 Tryz.underlying9 z m n o _ _ _ rfl p.out.own s rfl ?zA ?_);case zA=>have:=aW s.size;simp;omega
   intro v3 w3 d;have a:gS w v w3 v3 (l++(enc s.size++aR s)):=by
    have:=p.out.trans d;rw[yr]at this;simpa[gS,aO,Nat.add_assoc]using this
   clear d;obtain⟨B,E,C,rfl,_,_⟩:=aU a.own;have q:=af (dj.store b.out a);have y:w3.frozen? ⟨g,0,none⟩=false:=(aq.fr b.out.aH a.fr (fun k=>bG b.out.own b.out.aH (by decide) k)).frozen 0;have u:w3.cell? ⟨g,0,none⟩=some v:=(aq.fr b.out.aH a.fr (fun k=>bG b.out.own b.out.aH (by decide) k)).cell 0;clear a;go_wp2;go_end0;exact⟨rfl,_,by rw[iM _ _ c];exact q.out⟩
 ·have j:(f==0)=false:=ku i;go_enter Tryz.func65,Tryz.ntmps65;go_wp2_with fail;refine(gK g v f _ b.out.aH false j).mono ?_;rintro e w1⟨rfl,rfl⟩;go_wp2;go_end0;exact⟨rfl,v,by simpa[sa,i]using dj.start b.out⟩
theorem pF.rd{w:World}{A:Option Addr}{n c:Nat}{l:List UInt8}(h:pF w (.slice A n c) l)(a:n=l.length):Rd w (mZ (.slice A n c)) 1 A n (l.map bv):=by
 subst a;exact Rd.ib h
def JK(w:World)(e:Ending)(w':World):Prop:=e= .returned (.pointer (some ⟨w.heap.size,0,none⟩))∧Wr w' w.heap.size (.slice none 0 0) [] 0∧Fr ag w w'
theorem kU(w:World):Calls Tryz.prog 61 #[] w (JK w):=by
 go_enter Tryz.func61,Tryz.ntmps61;go_wp2;go_ret;exact⟨rfl,⟨aq.new _ _ _,World.ownsRow_nil _ _ _ _⟩,aD.alloc _⟩
def tp(w:World)(l:List UInt8)(f:Int)(e:Ending)(w':World):Prop:=
 (f≠0→e= .returned (.tuple #[.slice none 0 0, .int .i64 f])∧Fr ag w w')∧(f=0→Gt w (.slice none 0 0) l 0 e w')
theorem oZ(g:Nat)(v:Value)(l:List UInt8)(f:Int)(w:World)(h:Wr w g v l f)(q:l.length≤1099511627776):
  Calls Tryz.prog 103 #[.pointer (some ⟨g,0,none⟩)] w (tp w l f):=by
 have n:w.cell? ⟨g,0,none⟩=some v:=h.aH.cell 0;have o:w.cell? ⟨g,1,none⟩=some (.int .i64 f):=h.aH.cell 1;obtain⟨i,r,m,rfl,c,_⟩:=aU h.own;have k:=af h;clear h;by_cases b:f=0;·subst b;go_enter Tryz.func103,Tryz.ntmps103;go_wp2_with fail;have d:=pF.rd k.out.own c.out;refine(tu i r m l _ _ d (by rw[c.out];exact q)).mono ?_;rintro e w2⟨v2,rfl,a⟩;have j:=af a;clear a d;go_wp2;go_ret2;exact⟨fun h=>absurd rfl h,fun _=>⟨_,rfl,j.out⟩⟩
 ·have p:(f !=0)=true:=by rw[bne_iff_ne];exact b
  go_enter Tryz.func103,Tryz.ntmps103;go_wp2;go_quiet(fail);go_wp2;go_ret2;exact⟨fun _=>⟨rfl,aD.drewN _⟩,fun h=>absurd h b⟩
end Go.Proofs.YtphjagkehiklkaaGreatDoor
namespace Go.Proofs.YtphjagkehiklkaaGreatDoor
open Go.RowKit
theorem Eo(l:List UInt8):∀(s:ByteArray),(l.map (fun b:UInt8=>(b.toNat:Int))).foldl (fun r n=>r.push (UInt8.ofNat n.toNat)) s=⟨(s.data.toList++l).toArray⟩:=by
 induction l with
 |nil=>intro s;simp
 |cons b l a=>
  intro s;simp only[List.map_cons,List.foldl_cons];rw[a];congr 1;have e:UInt8.ofNat (Int.toNat (b.toNat:Int))=b:=by simp
  rw[e];simp[ByteArray.push]
theorem Fy{P:Program}(w:World)(src dst e:TypeId)(q:P.underlying src=some (.slice e))(he:P.underlying e=some (.int .u8))(p:P.underlying dst=some .string)
  (S:Nat→Prop)(A:Option Addr)(n c:Nat)(l:List UInt8)(f:Rd w S 1 A n (l.map bv)):(convert src dst (.slice A n c)).run P w= .ok (.string ⟨l.toArray⟩) w:=by
 rw[run_convert_bytes_string w src dst e A n c q he p];have d:l.length=n:=by simpa using f.1
 rcases A with _|a
 ·have:l=[]:=by
   rcases Nat.eq_zero_or_pos n with h|h;·exact List.eq_nil_of_length_eq_zero (d.trans h)
   ·obtain⟨a,e,_⟩:=f.2 h;cases e
  subst this;rfl
 ·have o:∀j v,(l.map bv)[j]? =some v→w.cell? (a.add j)=some v:=by
   intro j v i;rcases Nat.eq_zero_or_pos n with h|h;·have:l=[]:=List.eq_nil_of_length_eq_zero (d.trans h);subst this;simp at i
   ·obtain⟨k,e,_,m⟩:=f.2 h;injection e with e;subst e;exact m j v i
  have g:=run_loadCells_list (P:=P) w a (l.map bv) o;rw[List.length_map,d]at g;rw[run_bytesToString w a n c (l.map (fun b:UInt8=>(b.toNat:Int))) (by rw[g];simp[bv,Function.comp_def])];rw[Eo];rfl
abbrev mR(w:World)(S:Nat→Prop)(A:Option Addr)(n c:Nat)(l:List UInt8)(a:Rd w S 1 A n (l.map bv)):(convert 61 9 (.slice A n c)).run Tryz.prog w= .ok (.string ⟨l.toArray⟩) w:=
 Fy w 61 9 5 Tryz.underlying61 Tryz.underlying5 Tryz.underlying9 S A n c l a
end Go.Proofs.YtphjagkehiklkaaGreatDoor
namespace Go.Proofs.YtphjagkehiklkaaGreatDoor
open Go.RowKit
end Go.Proofs.YtphjagkehiklkaaGreatDoor
