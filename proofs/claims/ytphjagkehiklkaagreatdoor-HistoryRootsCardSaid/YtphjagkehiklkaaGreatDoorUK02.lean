/- Texts. -/
import Derived.Test.YtphjagkehiklkaaGreatDoorUK01
set_option linter.unusedVariables false
set_option linter.unusedSimpArgs false
set_option maxRecDepth 100000
set_option maxHeartbeats 1000000
namespace Go.Proofs.YtphjagkehiklkaaGreatDoor
def b8(n:Nat):UInt8:=UInt8.ofNat n
def bv(b:UInt8):Value:= .int .u8 b.toNat
def lead:List UInt8→Nat→Nat
 |[],_=>0
 |_::_,0=>0
 |b::l,m+1=>if 128≤b.toNat then lead l m+1 else 0
def val:List UInt8→Nat
 |[]=>0
 |b::l=>b.toNat%128+128*val l
def pn(l:List UInt8)(m:Nat):Nat×Nat×Nat:=
 let k:=lead l m
 if k=m then(0,0,3)
 else if k=l.length then(0,0,28)
 else if 0<k∧(l[k]?.getD 0).toNat=0 then(0,0,3)
 else if k=9∧1<(l[k]?.getD 0).toNat then(0,0,3)
 else(val (l.take (k+1)),k+1,0)
theorem yi:∀(l:List UInt8)(m:Nat),lead l m≤m∧lead l m≤l.length
 |[],m=>by simp[lead]
 |b::l,0=>by simp[lead]
 |b::l,m+1=>by
  have:=yi l m;simp only[lead,List.length_cons];split<;>omega
theorem zY(l:List UInt8)(m k:Nat)(b:k<l.length)(d:k<m)(a:128≤(l[k]?.getD 0).toNat):
  lead (l.drop k) (m-k)=1+lead (l.drop (k+1)) (m-(k+1)):=by
 have e:l.drop k=l[k]::l.drop (k+1):=List.drop_eq_getElem_cons b;obtain⟨j,c⟩:∃j,m-k=j+1:=⟨m-k-1,by omega⟩;rw[e,c];rw[List.getElem?_eq_getElem b]at a;simp only[Option.getD_some]at a;rw[lead,if_pos a,show m-(k+1)=j by omega];omega
theorem zZ(l:List UInt8)(m k:Nat)(h:l.length≤k∨m≤k∨(l[k]?.getD 0).toNat<128):lead (l.drop k) (m-k)=0:=by
 rcases Nat.lt_or_ge k l.length with a|a
 ·have e:l.drop k=l[k]::l.drop (k+1):=List.drop_eq_getElem_cons a;rw[e];rcases Nat.lt_or_ge k m with b|b;·obtain⟨j,c⟩:∃j,m-k=j+1:=⟨m-k-1,by omega⟩;rw[c];rw[List.getElem?_eq_getElem a]at h;simp only[Option.getD_some]at h;rw[lead,if_neg (by omega)]
  ·rw[show m-k=0 by omega];rfl
 ·rw[List.drop_of_length_le a];simp[lead]
theorem yE(l:List UInt8)(m:Nat)(h:lead l m=m):pn l m=(0,0,3):=by simp[pn,h]
theorem vA(l:List UInt8)(m k:Nat)(h:lead l m=k)(b:k<m)(a:k=l.length):pn l m=(0,0,28):=by
 unfold pn;rw[h];simp only;rw[if_neg (by omega),if_pos a]
theorem xd(l:List UInt8)(m k:Nat)(h:lead l m=k)(a:k<m)(b:k<l.length):pn l m=
  if 0<k∧(l[k]?.getD 0).toNat=0 then(0,0,3)else if k=9∧1<(l[k]?.getD 0).toNat then(0,0,3)else(val (l.take (k+1)),k+1,0):=by
 unfold pn;rw[h];simp only;rw[if_neg (by omega),if_neg (by omega)]
theorem rN(l r:List UInt8):val (l++r)=val l+128^l.length*val r:=by
 induction l with
 |nil=>simp[val]
 |cons x l a=>simp only[List.cons_append,val,a,List.length_cons,Nat.pow_succ];rw[Nat.mul_add];rw[Nat.mul_comm (128^l.length) 128,Nat.mul_assoc];omega
theorem xm(l:List UInt8):val l<128^l.length:=by
 induction l with
 |nil=>simp[val]
 |cons x l a=>simp only[val,List.length_cons,Nat.pow_succ];have:=Nat.mod_lt x.toNat (show 128>0 by omega);omega
theorem D3(l:List UInt8)(k j:Nat)(b:k<l.length)(a:j≤k):
  val ((l.take (k+1)).drop j)=val ((l.take (k+1)).drop (j+1))*128+(l[j]?.getD 0).toNat%128:=by
 have h:j<(l.take (k+1)).length:=by simp;omega
 rw[List.drop_eq_getElem_cons h,val];have e:(l.take (k+1))[j]=l[j]?.getD 0:=by
  rw[List.getElem_take,List.getElem?_eq_getElem (by omega),Option.getD_some]
 rw[e];omega
theorem AT(l:List UInt8)(k j:Nat)(d:k<l.length)(o:k≤9)(m:k=9→(l[k]?.getD 0).toNat≤1):val ((l.take (k+1)).drop (j+1))<144115188075855872:=by
 by_cases h:k≤8
 ·have f:=xm ((l.take (k+1)).drop (j+1));have a:((l.take (k+1)).drop (j+1)).length≤8:=by simp;omega
  have c:(128:Nat)^((l.take (k+1)).drop (j+1)).length≤128^8:=Nat.pow_le_pow_right (by omega) a;have g:(128:Nat)^8=72057594037927936:=by decide
  omega
 ·obtain rfl:k=9:=by omega
  have b:=m rfl;have e:l.take (9+1)=l.take 9++[l[9]]:=List.take_succ_eq_append_getElem d;rcases Nat.lt_or_ge j 9 with n|n
  ·rw[e,List.drop_append_of_le_length (by simp;omega),rN];have f:=xm ((l.take 9).drop (j+1));have a:((l.take 9).drop (j+1)).length≤8:=by simp;omega
   have c:(128:Nat)^((l.take 9).drop (j+1)).length≤128^8:=Nat.pow_le_pow_right (by omega) a;have g:(128:Nat)^8=72057594037927936:=by decide
   rw[List.getElem?_eq_getElem d,Option.getD_some]at b;have i:val [l[9]]≤1:=by simp only[val];omega
   have p:=Nat.mul_le_mul c i;omega
  ·rw[List.drop_of_length_le (by simp;omega)];simp[val]
theorem Dj(x b:Nat)(e:x<144115188075855872)(d:b<2^8):bits .or .u64 (↑x*128) (IntKind.u64.wrap (bits .and .u8 ↑b 127))=((x*128+b%128:Nat):Int):=by
 have a:bits .and .u8 (b:Int) 127=((b%128:Nat):Int):=by
  have:=u8_and_nat b 127 (by simpa using d) (by omega);rw[nat_mask7]at this;exact this
 rw[a];have c:IntKind.u64.wrap ((b%128:Nat):Int)=((b%128:Nat):Int):=by
  simp only[IntKind.wrap,IntKind.bits,IntKind.signed];simp;omega
 rw[c,show((x:Int)*128)=((x*128:Nat):Int)by omega,u64_or_nat _ _ (by omega) (by omega),nat_join 7 _ _ (by omega) (by omega)]
theorem qF(l:List UInt8)(m:Nat)(hm:m≤10):(pn l m=(0,0,3)∨pn l m=(0,0,28))∨
  ∃k,lead l m=k∧k<m∧k<l.length∧(0<k→(l[k]?.getD 0).toNat≠0)∧(k=9→(l[k]?.getD 0).toNat≤1)∧(l[k]?.getD 0).toNat<128∧pn l m=(val (l.take (k+1)),k+1,0):=by
 have hle:=yi l m;by_cases c:lead l m=m;·exact .inl (.inl (yE l m c))
 by_cases a:lead l m=l.length;·exact .inl (.inr (vA l m _ rfl (by omega) a))
 have he:=xd l m _ rfl (by omega) (by omega);by_cases d:0<lead l m∧(l[lead l m]?.getD 0).toNat=0;·rw[if_pos d]at he;exact .inl (.inl he)
 rw[if_neg d]at he;by_cases f:lead l m=9∧1<(l[lead l m]?.getD 0).toNat;·rw[if_pos f]at he;exact .inl (.inl he)
 rw[if_neg f]at he;refine .inr ⟨lead l m,rfl,by omega,by omega,fun h g=>d ⟨h,g⟩,fun h=>by omega,?_,he⟩;have key:∀(l:List UInt8)(m:Nat),lead l m<m→lead l m<l.length→(l[lead l m]?.getD 0).toNat<128:=by
  intro l;induction l with
  |nil=>intro m _ h;simp at h
  |cons b l i=>
   intro m c a;cases m with
   |zero=>omega
   |succ m=>
    simp only[lead]at c a⊢;split at c;·rename_i e;rw[if_pos e]at a⊢;simp only[List.length_cons]at a;simpa using i m (by omega) (by omega)
    ·rename_i e;rw[if_neg e];simp;omega
 exact key l m (by omega) (by omega)
theorem xe(l:List UInt8):(pn l 9).1<9223372036854775808:=by
 rcases qF l 9 (by omega)with(h|h)|⟨k,_,b,c,_,_,_,h⟩;·rw[h];decide
 ·rw[h];decide
 ·rw[h];have d:=xm (l.take (k+1));have a:(l.take (k+1)).length≤9:=by simp;omega
  have e:(128:Nat)^(l.take (k+1)).length≤128^9:=Nat.pow_le_pow_right (by omega) a;have f:(128:Nat)^9=9223372036854775808:=by decide
  show val (l.take (k+1))<_;omega
theorem yF(l:List UInt8)(m:Nat)(hm:m≤10):(pn l m).2.1≤10∧(pn l m).2.1≤l.length:=by
 rcases qF l m hm with(h|h)|⟨k,_,a,b,_,c,_,h⟩;·rw[h];simp
 ·rw[h];simp
 ·rw[h];show k+1≤10∧k+1≤l.length;omega
theorem ym(x:Nat):bits .or .u8 ((x:Int)%256) 128=((x%128+128:Nat):Int):=by
 have h:=u8_or_nat (x%256) 128 (by omega) (by omega);have e:((x:Int)%256)=((x%256:Nat):Int):=by omega
 rw[e];refine h.trans ?_;congr 1;have b:x%256=x/128%2*128+x%128:=by omega
 rw[b];rcases Nat.mod_two_eq_zero_or_one (x/128)with a|a;·rw[a,Nat.zero_mul,Nat.zero_add,Nat.or_comm,nat_join 7 128 _ (by omega) (by omega)];omega
 ·rw[a,Nat.one_mul,←nat_join 7 128 (x%128) (by omega) (by omega),Nat.or_comm,←Nat.or_assoc,Nat.or_self,nat_join 7 128 _ (by omega) (by omega)];omega
def cJ:Nat→Nat→List UInt8
 |0,n=>[b8 n]
 |k+1,n=>if n<128 then[b8 n]else b8 (n%128+128)::cJ k (n/128)
def enc(n:Nat):List UInt8:=cJ 9 n
theorem mh:∀(k n:Nat),(cJ k n).length≤k+1
 |0,n=>by simp[cJ]
 |k+1,n=>by
  simp only[cJ];split;·simp
  ·have:=mh k (n/128);simp only[List.length_cons];omega
theorem aO(n:Nat):(enc n).length≤10:=mh 9 n
theorem zN{n:Nat}(h:n<128):enc n=[b8 n]:=by simp[enc,cJ,h]
theorem kj(k n:Nat)(h:128≤n):cJ (k+1) n=b8 (n%128+128)::cJ k (n/128):=by simp[cJ,Nat.not_lt.2 h]
theorem oU:∀(k j n:Nat),n<128^(k+1)→k≤j→cJ j n=cJ k n
 |0,j,n,h,_=>by
  cases j with
  |zero=>rfl
  |succ j=>simp[cJ,show n<128 by simpa using h]
 |k+1,0,n,h,a=>by omega
 |k+1,j+1,n,h,a=>by
  by_cases b:n<128;·simp[cJ,b]
  ·have:n/128<128^(k+1):=by
    rw[Nat.pow_succ]at h;exact Nat.div_lt_of_lt_mul (by rw[Nat.mul_comm];exact h)
   rw[kj _ _ (by omega),kj _ _ (by omega),oU k j _ this (by omega)]
theorem Dc{n:Nat}(h:128≤n)(a:n<18446744073709551616):enc n=b8 (n%128+128)::enc (n/128):=by
 unfold enc;rw[kj _ _ h,oU 8 9 (n/128) (by
  have:(128:Nat)^(8+1)=9223372036854775808:=by decide
  omega) (by omega)]
theorem vi:∀(l:List UInt8)(m j:Nat),j<lead l m→128≤(l[j]?.getD 0).toNat
 |[],m,j,h=>by simp[lead]at h
 |b::l,0,j,h=>by simp[lead]at h
 |b::l,m+1,j,h=>by
  simp only[lead]at h;split at h
  ·rename_i a;cases j with
   |zero=>simpa using a
   |succ j=>simpa using vi l m j (by omega)
  ·omega
theorem qm(b:UInt8):b8 b.toNat=b:=by simp[b8]
theorem uV:∀(r:List UInt8)(j:Nat),r≠[]→r.length≤j+1→(∀i,i+1<r.length→128≤(r[i]?.getD 0).toNat)→(r[r.length-1]?.getD 0).toNat<128→
  (1<r.length→(r[r.length-1]?.getD 0).toNat≠0)→cJ j (val r)=r
 |[],_,h,_,_,_,_=>absurd rfl h
 |[b],j,_,_,_,a,_=>by
  simp at a;have e:val [b]=b.toNat:=by simp[val];omega
  rw[e];cases j with
  |zero=>simp[cJ,qm]
  |succ j=>simp[cJ,a,qm]
 |b::c::r,0,_,k,_,_,_=>by simp at k
 |b::c::r,j+1,_,k,l,a,p=>by
  have s:=l 0 (by simp);simp at s;have u:=b.toNat_lt;have d:=p (by simp);have m:1≤val (c::r):=by
   have key:∀(q:List UInt8),q≠[]→(q[q.length-1]?.getD 0).toNat<128→(q[q.length-1]?.getD 0).toNat≠0→1≤val q:=by
    intro q;induction q with
    |nil=>intro h;exact absurd rfl h
    |cons x q v=>
     intro _ f g;cases q with
     |nil=>simp at f g;simp only[val];omega
     |cons y q=>
      have:=v (by simp) (by simpa using f) (by simpa using g);simp only[val]at this⊢;omega
   exact key _ (by simp) (by simpa using a) (by simpa using d)
  have w:val (b::c::r)=b.toNat%128+128*val (c::r):=rfl;rw[kj _ _ (by omega)];have n:val (b::c::r)/128=val (c::r):=by omega
  have o:val (b::c::r)%128+128=b.toNat:=by omega
  rw[n,o,qm,uV (c::r) j (by simp) (by simp at k⊢;omega) (fun i t=>by simpa using l (i+1) (by simp at t⊢;omega)) (by simpa using a) (fun _=>by simpa using d)]
theorem EO(l:List UInt8)(m k:Nat)(e:lead l m=k)(hm:m≤10)(f:k<m)(g:k<l.length)(b:0<k→(l[k]?.getD 0).toNat≠0)(c:(l[k]?.getD 0).toNat<128):enc (val (l.take (k+1)))=l.take (k+1):=by
 have hlen:(l.take (k+1)).length=k+1:=by simp;omega
 have a:∀i,i≤k→(l.take (k+1))[i]? =l[i]? :=fun i d=>by rw[List.getElem?_take,if_pos (by omega)]
 refine uV (l.take (k+1)) 9 (by intro h;rw[h]at hlen;simp at hlen) (by omega) (fun i d=>?_) ?_ (fun h=>?_);·rw[a i (by omega)];exact vi l m i (by omega)
 ·rw[hlen,Nat.add_sub_cancel,a k (Nat.le_refl _)];exact c
 ·rw[hlen,Nat.add_sub_cancel,a k (Nat.le_refl _)];exact b (by omega)
theorem vZ(n:Nat)(h:n<256):(b8 n).toNat=n:=by
 unfold b8;rw[UInt8.toNat_ofNat_of_lt' (by simpa using h)]
theorem pN(k n:Nat):1≤(cJ k n).length:=by
 cases k with
 |zero=>simp[cJ]
 |succ k=>simp only[cJ];split<;>simp
theorem rp:∀(k n:Nat),n<128^(k+1)→(∀i,i+1<(cJ k n).length→128≤((cJ k n)[i]?.getD 0).toNat)∧((cJ k n)[(cJ k n).length-1]?.getD 0).toNat<128∧
  (1<(cJ k n).length→((cJ k n)[(cJ k n).length-1]?.getD 0).toNat≠0)∧val (cJ k n)=n
 |0,n,h=>by
  have o:n<128:=by simpa using h
  simp[cJ,vZ n (by omega),val,o]
 |k+1,n,h=>by
  by_cases t:n<128;·simp[cJ,t,vZ n (by omega),val]
  ·have p:n/128<128^(k+1):=by
    rw[Nat.pow_succ]at h;exact Nat.div_lt_of_lt_mul (by rw[Nat.mul_comm];exact h)
   obtain⟨u,l,m,f⟩:=rp k (n/128) p;have e:=pN k (n/128);rw[kj _ _ (by omega)];have a:∀i,(b8 (n%128+128)::cJ k (n/128))[i+1]? =(cJ k (n/128))[i]? :=fun i=>by simp
   obtain⟨j,b⟩:∃j,(cJ k (n/128)).length=j+1:=⟨_,(Nat.sub_add_cancel e).symm⟩;refine⟨fun i r=>?_,?_,fun _=>?_,?_⟩
   ·cases i with
    |zero=>simp[vZ (n%128+128) (by omega)]
    |succ i=>rw[a];exact u i (by simpa using r)
   ·rw[List.length_cons,Nat.add_sub_cancel,b,a];rw[b,Nat.add_sub_cancel]at l;exact l
   ·rw[List.length_cons,Nat.add_sub_cancel,b,a];rw[b,Nat.add_sub_cancel]at m;rcases Nat.eq_zero_or_pos j with g|g
    ·subst g;have s:∃c,cJ k (n/128)=[c]:=List.length_eq_one_iff.1 (by omega);obtain⟨c,q⟩:=s;rw[q]at f⊢;simp[val]at f⊢;intro d;have:c.toNat=0:=by rw[d]
     omega
    ·exact m (by omega)
   ·show(b8 (n%128+128)).toNat%128+128*val (cJ k (n/128))=n;rw[f,vZ _ (by omega)];omega
theorem yj:∀(l:List UInt8)(m j:Nat),(∀i,i<j→128≤(l[i]?.getD 0).toNat)→(l[j]?.getD 0).toNat<128→j<l.length→j<m→lead l m=j
 |[],m,j,_,_,h,_=>by simp at h
 |b::l,0,j,_,_,_,h=>by omega
 |b::l,m+1,0,_,h,_,_=>by
  simp at h;rw[lead,if_neg (by omega)]
 |b::l,m+1,j+1,a,d,e,f=>by
  have c:=a 0 (by omega);simp at c;rw[lead,if_pos c,yj l m j (fun i g=>by simpa using a (i+1) (by omega)) (by simpa using d) (by simpa using e) (by omega)]
theorem Fw(k n m:Nat)(r:List UInt8)(w:n<128^(k+1))(u:n<18446744073709551616)(hm:m≤10)(hlen:(cJ k n).length≤m):pn (cJ k n++r) m=(n,(cJ k n).length,0):=by
 obtain⟨x,f,y,q⟩:=rp k n w;have j:=pN k n;have b:∀i,i<(cJ k n).length→(cJ k n++r)[i]? =(cJ k n)[i]? :=fun i p=>List.getElem?_append_left p;have v:lead (cJ k n++r) m=(cJ k n).length-1:=by
  refine yj _ _ _ (fun i p=>?_) ?_ (by simp;omega) (by omega);·rw[b i (by omega)];exact x i (by omega)
  ·rw[b _ (by omega)];exact f
 rw[xd _ m _ v (by omega) (by simp;omega),b _ (by omega)];rw[if_neg (fun h=>y (by omega) h.2)];have c:¬((cJ k n).length-1=9∧1<((cJ k n)[(cJ k n).length-1]?.getD 0).toNat):=by
  rintro⟨t,g⟩;have a:(cJ k n).length=10:=by omega
  rw[t]at g f;generalize cJ k n=e at q g a f;have l:e=e.take 9++e.drop 9:=(List.take_append_drop 9 e).symm;have s:e.drop 9=[e[9]]:=by
   rw[List.drop_eq_getElem_cons (by omega)];simp[List.drop_of_length_le,a]
  rw[s]at l;have z:val e=val (e.take 9)+128^9*val [e[9]]:=by
   conv=>lhs;rw[l]
   rw[rN];simp[a]
  rw[List.getElem?_eq_getElem (by omega),Option.getD_some]at g;have o:(128:Nat)^9=9223372036854775808:=by decide
  have d:2≤val [e[9]]∨128≤e[9].toNat:=by
   simp only[val];omega
  rcases d with d|d;·have:=Nat.mul_le_mul_left (128^9) d;omega
  ·rw[List.getElem?_eq_getElem (by omega),Option.getD_some]at f;omega
 rw[if_neg c];rw[List.take_append_of_le_length (by omega),List.take_of_length_le (by omega),q,Nat.sub_add_cancel j]
theorem Ax:(128:Nat)^(9+1)=1180591620717411303424:=by decide
theorem DC:(128:Nat)^(8+1)=9223372036854775808:=by decide
theorem wF(n:Nat)(h:n<9223372036854775808):(enc n).length≤9:=by
 unfold enc;rw[oU 8 9 n (by rw[DC];exact h) (by omega)];exact mh 8 n
theorem yD(n:Nat)(r:List UInt8)(h:n<9223372036854775808):pn (enc n++r) 9=(n,(enc n).length,0):=
 Fw 9 n 9 r (by rw[Ax];omega) (by omega) (by omega) (wF n h)
end Go.Proofs.YtphjagkehiklkaaGreatDoor
namespace Go.Proofs.YtphjagkehiklkaaGreatDoor
open Go.RowKit
theorem Rd.byte{w:World}{S:Nat→Prop}{A:Option Addr}{n k:Nat}{l:List UInt8}(h:Rd w S 1 A n (l.map bv))(g:k<n):
  ∃c,A=some c∧w.cell? (c.add k)=some (.int .u8 ((l[k]?.getD 0).toNat:Int)):=by
 obtain⟨c,u,e,_,a,f⟩:=h.at_ g;refine⟨c,e,?_⟩;rw[f];rw[List.getElem?_map]at a;cases d:l[k]? with
 |none=>simp[d]at a
 |some b=>rw[d]at a;simp[bv]at a;simp[a]
theorem pZ(A:Option Addr)(n c:Nat)(l:List UInt8)(aJ:Nat)(w:World)(S:Nat→Prop)(R:Rd w S 1 A n (l.map bv))(ah:n≤1099511627776)(ad:1≤aJ)(hm:aJ≤10):
  Calls Tryz.prog 171 #[.slice A n c, .int .i64 aJ] w fun e w'=>e= .returned (.tuple #[.int .u64 ((pn l aJ).1:Nat), .int .i64 ((pn l aJ).2.1:Nat), .int .i64 ((pn l aJ).2.2:Nat)])∧w=w':=by
 have hlen:l.length=n:=by have:=R.1;simpa using this
 have t:=Lib.hid hlen;clear hlen;have J:=Lib.hid R;clear R;go_enter Tryz.func171,Tryz.ntmps171;go_wp2;go_loop[7](fun i=>∃k:Nat,k≤n∧k≤aJ∧i= .int .i64 k∧Hid (lead l aJ=k+lead (l.drop k) (aJ-k)))(fun i=>n-(intOf i).toNat);case atStart=>exact⟨0,Nat.zero_le _,Nat.zero_le _,rfl,by simp[Hid]⟩
 case round=>
  obtain⟨k,ab,ac,rfl,H⟩:=hrel;by_cases a:k<n∧k<aJ∧128≤(l[k]?.getD 0).toNat
  ·obtain⟨B,O,m⟩:=a;obtain⟨V,rfl,q⟩:=J.out.byte B;have E:=Lib.hid (zY l aJ k (by rw[t.out];exact B) O m);have N:(128:Int)≤((l[k]?.getD 0).toNat:Int):=by omega
   clear m;generalize((l[k]?.getD 0).toNat)=b at q N;go_wp2;go_round;case rel=>exact⟨k+1,by omega,by omega,by go_num,by have:=H.out;have:=E.out;simp only[Hid];omega⟩
   case measure=>simp[intOf];omega
  ·have E:=Lib.hid (zZ l aJ k (by rw[t.out];omega));have I:Hid (lead l aJ=k):=by have:=H.out;have:=E.out;simp only[Hid];omega
   clear H E;by_cases g:k=aJ
   ·clear a;have d:=Lib.hid (yE l aJ (I.out.trans g));obtain rfl:=g;go_wp2;all_goals
     go_ret3;exact⟨by rw[d.out];rfl,rfl⟩
   ·have h:k<aJ:=by omega
    have Q:((k:Int)==(aJ:Int))=false:=beq_eq_false_iff_ne.2 (by omega);by_cases r:k=n;·clear a;have d:=Lib.hid (vA l aJ k I.out h (by rw[t.out];exact r));clear g;obtain rfl:=r;go_wp2;go_ret3;exact⟨by rw[d.out];rfl,rfl⟩
    ·have D:k<n:=by omega
     have C:((k:Int)==(n:Int))=false:=beq_eq_false_iff_ne.2 (by omega);have m:(l[k]?.getD 0).toNat<128:=by omega
     clear a g r;obtain⟨V,rfl,q⟩:=J.out.byte D;have F:=Lib.hid (xd l aJ k I.out h (by rw[t.out];omega));have o:((l[k]?.getD 0).toNat:Int)<128:=by omega
     have p:decide ((128:Int)≤((l[k]?.getD 0).toNat:Int))=false:=by simp;omega
     clear m;by_cases v:0<k∧(l[k]?.getD 0).toNat=0;·have d:=Lib.hid (F.out.trans (if_pos v));clear F;have T:0<k:=v.1;have s:(((l[k]?.getD 0).toNat:Int)==0)=true:=beq_iff_eq.2 (by omega);clear v;generalize((l[k]?.getD 0).toNat)=b at q o p s;go_wp2;go_ret3;exact⟨by rw[d.out];rfl,rfl⟩
     ·have f:=Lib.hid (F.out.trans (if_neg v));clear F;by_cases G:k=9∧1<(l[k]?.getD 0).toNat
      ·have d:=Lib.hid (f.out.trans (if_pos G));clear f;have T:0<k:=by omega
       have s:(((l[k]?.getD 0).toNat:Int)==0)=false:=beq_eq_false_iff_ne.2 (by omega);have af:((k:Int)==9)=true:=beq_iff_eq.2 (by omega);have U:(1:Int)<((l[k]?.getD 0).toNat:Int):=by omega
       clear v G;generalize((l[k]?.getD 0).toNat)=b at q o p s U;go_wp2;go_ret3;exact⟨by rw[d.out];rfl,rfl⟩
      ·have d:=Lib.hid (f.out.trans (if_neg G));clear f;have X:Hid (k=9→(l[k]?.getD 0).toNat≤1):=by simp only[Hid];omega
       have ag:Hid (0<k→(l[k]?.getD 0).toNat≠0):=by simp only[Hid];omega
       have P:(((k:Int)==9)=true∧0<k∧(((l[k]?.getD 0).toNat:Int)==0)=false∧decide ((1:Int)<((l[k]?.getD 0).toNat:Int))=false)∨(((k:Int)==9)=false∧0<k∧(((l[k]?.getD 0).toNat:Int)==0)=false)∨(((k:Int)==9)=false∧decide (0<k)=false):=by
        by_cases L:k=9;·exact .inl ⟨beq_iff_eq.2 (by omega),by omega,beq_eq_false_iff_ne.2 (by omega),by simp;omega⟩
        ·by_cases z:0<k;·exact .inr (.inl ⟨beq_eq_false_iff_ne.2 (by omega),z,beq_eq_false_iff_ne.2 (by omega)⟩)
         ·exact .inr (.inr ⟨beq_eq_false_iff_ne.2 (by omega),by simpa using z⟩)
       clear v G;rcases P with⟨L,z,M,Z⟩|⟨L,z,M⟩|⟨L,z⟩;all_goals
        go_wp2;clear o p Q C q;go_loop[8,9](fun u i=>(∃j:Nat,j≤k∧i= .int .i64 j∧∃x:Nat,x<144115188075855872∧Hid (x=val ((l.take (k+1)).drop (j+1)))∧u= .int .u64 x)∨(i= .int .i64 (-1)∧u= .int .u64 (val (l.take (k+1)))))(fun _ i=>(intOf i+1).toNat);case atStart=>exact .inl ⟨k,Nat.le_refl _,rfl,0,by omega,by simp only[Hid];rw[List.drop_of_length_le (by simp;omega)];rfl,rfl⟩
        case round=>
         rcases hrel with⟨j,aa,rfl,x,ae,Y,rfl⟩|⟨rfl,rfl⟩
         ·obtain⟨K,e,q⟩:=J.out.byte (k:=j) (by omega);obtain rfl:V=K:=by injection e
          clear e;have m:=(l[j]?.getD 0).toNat_lt;generalize y:(l[j]?.getD 0).toNat=b at q m;have HB:=Lib.hid y;clear y;go_wp2;have W:=D3 l k j (by rw[t.out];omega) aa;rw[←Y.out,HB.out]at W;rw[Dj x b ae m,←W];rcases j with _|j;·refine⟨.inr ⟨rfl,by rw[List.drop_zero]⟩,by simp[intOf]⟩
          ·refine⟨.inl ⟨j,by omega,by go_num,_,AT l k j (by rw[t.out];omega) (by omega) X.out,rfl,rfl⟩,by simp[intOf];omega⟩
         ·go_wp2;go_ret3;exact⟨by rw[d.out];rfl,rfl⟩
theorem rh(A:Option Addr)(n c:Nat)(l:List UInt8)(w:World)(S:Nat→Prop)(b:Rd w S 1 A n (l.map bv))(g:n≤1099511627776):
  Calls Tryz.prog 147 #[.slice A n c] w fun e w'=>e= .returned (.tuple #[.int .i64 ((pn l 9).1:Nat), .int .i64 ((pn l 9).2.1:Nat), .int .i64 ((pn l 9).2.2:Nat)])∧w=w':=by
 have a:=pZ A n c l 9 w S b g (by omega) (by omega);have f:=xe l;generalize(pn l 9).1=h at a f⊢;generalize(pn l 9).2.1=a2 at a⊢;generalize(pn l 9).2.2=a3 at a⊢;have d:=Lib.hid a;clear a b;go_enter Tryz.func147,Tryz.ntmps147;go_wp2_with fail;refine d.out.mono ?_;rintro e w1⟨rfl,rfl⟩;go_wp2;go_ret3;exact⟨rfl,rfl⟩
end Go.Proofs.YtphjagkehiklkaaGreatDoor
namespace Go.Proofs.YtphjagkehiklkaaGreatDoor
open Go.RowKit
theorem pT:(Tryz.prog.info? 5).map (fun i=>(i.zero,i.size,i.bytes))=some (some (.int .u8 0),1,1):=by kernel_rfl
theorem yr(l:List UInt8):∀u∈l.map bv,u.oneCell'=true:=by
 intro u hu;obtain⟨b,_,rfl⟩:=List.mem_map.1 hu;rfl
theorem uM(n:Nat)(h:n<256):bv (b8 n)= .int .u8 (n:Int):=by
 unfold bv b8;rw[UInt8.toNat_ofNat_of_lt' (by simpa using h)]
abbrev fT(w:World)(v:Value)(w':World)(a:Value)(l:List UInt8):Prop:=bF 5 1 w v w' a l.length (l.map bv)
abbrev oz(w:World)(v:Value)(l:List UInt8):Prop:=w.ownsRow 0 5 1 v l.length (l.map bv)
def sC(w:World)(v:Value)(l:List UInt8)(e:Ending)(w':World):Prop:=∃a,e= .returned a∧fT w v w' a l
theorem kf(v:Value)(l:List UInt8)(u:Nat)(w:World)(b:oz w v l)(q:l.length≤1099511627776)(hu:u<18446744073709551616):
  Calls Tryz.prog 114 #[v, .int .u64 u] w (sC w v (l++enc u)):=by
 obtain⟨i0,m,d,f,g⟩:=info_parts pT;have n:=Lib.hid b;clear b;go_enter Tryz.func114,Tryz.ntmps114;go_wp2;go_loopw[0,1](fun p t wr=>∃(x:Nat)(i:List UInt8),x<18446744073709551616∧t= .int .u64 x∧Hid (enc u=i++enc x)∧fT w v wr p (l++i))(fun _ t _=>(intOf t).toNat);case atStart=>exact⟨u,[],hu,rfl,rfl,by simpa using bF.start n.out⟩
 case round=>
  obtain⟨x,i,o,rfl,h,c⟩:=hrel;by_cases k:128≤x
  ·go_wp2_with(at_builtin;refine cX _ rfl _ _ 61 rfl 5 i0 _ 1 1 Tryz.underlying61 m d f g rfl (by omega) _ _ _ rfl c.own 1 _ _ rfl rfl rfl ?zA ?zB (by omega) ?_);case zA=>simp[Value.oneCell']
   case zB=>have:=aO u;rw[h.out]at this;simp at this⊢;omega
   intro v2 w2 a;rw[ym]at a;have j:Hid (fT w v w2 v2 (l++(i++[b8 (x%128+128)]))):=by
    have:=c.trans a;simpa[Hid,fT,uM _ (show x%128+128<256 by omega),Nat.add_assoc]using this
   clear c a;rw[ym];go_wp2;go_roundw;case rel=>exact⟨x/128,_,by omega,by go_num,by simp only[Hid];rw[h.out,Dc k o];simp,j.out⟩
   case measure=>simp[intOf];omega
  ·go_wp2_with(at_builtin;refine cX _ rfl _ _ 61 rfl 5 i0 _ 1 1 Tryz.underlying61 m d f g rfl (by omega) _ _ _ rfl c.own 1 _ _ rfl rfl rfl ?d1 ?d2 (by omega) ?_);case d1=>simp[Value.oneCell']
   case d2=>have:=aO u;rw[h.out]at this;simp at this⊢;omega
   intro v2 w2 a;have j:Hid (fT w v w2 v2 (l++enc u)):=by
    have:=c.trans a;have e:(x:Int)%256=(x:Int):=by omega
    rw[h.out,zN (by omega)];simpa[Hid,fT,uM _ (show x<256 by omega),Nat.add_assoc,e]using this
   clear c a;go_wp2;go_ret;exact⟨_,rfl,j.out⟩
theorem so(A:Option Addr)(n c:Nat)(l:List UInt8)(w:World)(S:Nat→Prop)(d:Rd w S 1 A n (l.map bv))(s:n≤1099511627776):
  Calls Tryz.prog 116 #[.slice A n c] w (sC w (.slice none 0 0) l):=by
 obtain⟨i0,q,g,i,j⟩:=info_parts pT;have t:=fun(w:World)=>Lib.run_eql_slice_nil (P:=Tryz.prog) w 61 5 A n c 0 0 Tryz.underlying61;have hlen:l.length=n:=by have:=d.1;simpa using this
 have m:=Lib.hid hlen;clear hlen;rcases A with _|p
 ·have b:n=0:=by
   rcases Nat.eq_zero_or_pos n with h|h;·exact h
   ·obtain⟨p,e,_⟩:=d.2 h;cases e
  have f:l=[]:=List.eq_nil_of_length_eq_zero (by rw[m.out];exact b);subst f;subst b;clear d;go_enter Tryz.func116,Tryz.ntmps116;go_wp2;go_ret;exact⟨_,rfl,bF.start (World.ownsRow_nil _ _ _ _)⟩
 ·go_enter Tryz.func116,Tryz.ntmps116;go_wp2_with(at_builtin;refine gK _ rfl _ _ 61 rfl 5 i0 _ 1 1 Tryz.underlying61 q g i j rfl (by omega) _ 0 [] rfl ?zA _ _ n c _ rfl (d.al ((Fr.refl _ _).alloc _)) (yr _) (by omega) (by omega) ?_);case zA=>exact World.ownsRow_lit (size:=1) _ _ 0 (Nat.zero_le _) (by simp[maxLen]) rfl
  intro v2 w2 a;have o:Hid (fT w (.slice none 0 0) w2 v2 l):=by
   have:=bF.fresh ((Fr.refl _ _).alloc _) (fun k r=>by simp[Value.ownBlock]at r;omega) a;have e:=m.out;simpa[Hid,fT,e]using this
  clear a;go_wp2;go_ret;exact⟨_,rfl,o.out⟩
def Es(w:World)(v:Value)(l:List UInt8)(err:Int)(e:Ending)(w':World):Prop:=∃a,e= .returned (.tuple #[a, .int .i64 err])∧fT w v w' a l
end Go.Proofs.YtphjagkehiklkaaGreatDoor
namespace Go.Proofs.YtphjagkehiklkaaGreatDoor
open Go.RowKit
structure Wr(w:World)(g:Nat)(v:Value)(l:List UInt8)(f:Int):Prop where
 az:ak w g 185 #[v, .int .i64 f]
 own:oz w v l
def Gm(g:Nat)(v:Value):Nat→Prop:=fun k=>k=g∨v.ownBlock=some k
structure cF(w:World)(g:Nat)(v:Value)(w':World)(a:Value)(st:List UInt8×Int):Prop where
 wr:Wr w' g a st.1 st.2
 fr:Fr (Gm g v) w w'
 dD:∀k,a.ownBlock=some k→v.ownBlock=some k∨w.heap.size≤k
def vX(w:World)(g:Nat)(v:Value)(st:List UInt8×Int)(e:Ending)(w':World):Prop:=e= .returned (.tuple #[])∧∃a,cF w g v w' a st
section
variable{w w1 w2:World}{g:Nat}{v v1 v2:Value}{l:List UInt8}{f:Int}{st st1 st2:List UInt8×Int}{T:Nat→Prop}
theorem Wr.bV(h:Wr w g v l f)(b:Fr T w w1)(a:∀k,Gm g v k→¬T k):Wr w1 g v l f:=
 ⟨h.az.fr b (a g (.inl rfl)),aK h.own b (fun k c=>a k (.inr c))⟩
theorem cF.start(h:Wr w g v l f):cF w g v w v (l,f):=⟨h,Fr.refl _ _,fun _ a=> .inl a⟩
theorem cF.trans(h:cF w g v w1 v1 st1)(k:cF w1 g v1 w2 v2 st2):cF w g v w2 v2 st2:=
  ⟨k.wr,h.fr.ao k.fr (fun i c b=>by
      rcases b with b|b;· exact .inl b
      · rcases h.dD i b with a|a;· exact .inr a
        · omega),
   fun i c=>by
    rcases k.dD i c with a|a;· exact h.dD i a
    · exact .inr (Nat.le_trans h.fr.size a)⟩
theorem cF.store(h:Wr w g v l f){m:List UInt8}(k:fT w v w1 v1 m):cF w g v (w1.setCell ⟨g,0,none⟩ v1) v1 (m,f):=by
 have b:v.ownBlock≠some g:=bh h.own h.az (by decide);have d:ak w1 g 185 #[v, .int .i64 f]:=h.az.fr k.fr (fun o=>b o);have n:=h.az.lt;have c:∀i,v1.ownBlock=some i→i≠g:=fun i a e=>by
  subst e;rcases k.dD i a with j|j;·exact b j
  ·omega
 refine⟨⟨by simpa using d.iV 0 v1,aK k.own ((Fr.refl (fun k=>k=g) w1).setCell (fun _=>rfl) _) (fun i a=>c i a)⟩,?_,k.dD⟩;exact(k.fr.mono (fun i _ a=> .inr a)).setCell (fun _=> .inl rfl) _
theorem cF.fail(h:Wr w g v l f)(a:Int):cF w g v (w.setCell ⟨g,1,none⟩ (.int .i64 a)) v (l,a):=by
 have b:v.ownBlock≠some g:=bh h.own h.az (by decide);refine⟨⟨by simpa using h.az.iV 1 (.int .i64 a),aK h.own ((Fr.refl (fun k=>k=g) w).setCell (fun _=>rfl) _) (fun i c e=>b (e▸c))⟩,?_,fun _ d=> .inl d⟩;exact(Fr.refl _ _).setCell (fun _=> .inl rfl) _
end
def aC(s:ByteArray):List UInt8:=s.data.toList
def nO(st:List UInt8×Int)(n:Int):List UInt8×Int:=if st.2=0 then(if n<0 then(st.1,2)else(st.1++enc n.toNat,0))else st
theorem gN(l:List UInt8)(u:Nat):nO (l,0) (u:Int)=(l++enc u,0):=by
 unfold nO;rw[if_pos rfl,if_neg (by omega)];rfl
def qP(st:List UInt8×Int)(b:Bool):List UInt8×Int:=if st.2=0 then(st.1++[if b then 1 else 0],0)else st
def qQ(st:List UInt8×Int)(s:List UInt8):List UInt8×Int:=if st.2=0 then(if 16777216<s.length then(st.1,5)else(st.1++(enc s.length++s),0))else st
theorem aG(s:ByteArray):(aC s).length=s.size:=by simp[aC]
theorem xk(s:ByteArray):Lib.strCells s=(aC s).map bv:=rfl
theorem AV(l:List UInt8)(s:ByteArray)(h:16777216<s.size):qQ (l,0) (aC s)=(l,5):=by
 unfold qQ;rw[if_pos rfl,if_pos (by rw[aG];exact h)]
theorem gO(l:List UInt8)(s:ByteArray)(h:¬16777216<s.size):qQ (l,0) (aC s)=(l++(enc s.size++aC s),0):=by
 unfold qQ;rw[if_pos rfl,if_neg (by rw[aG];exact h),aG]
theorem fK(g:Nat)(v:Value)(f:Int)(w:World)(a:ak w g 185 #[v, .int .i64 f])(B:Bool)(c:(f==0)=B):
  Calls Tryz.prog 113 #[.pointer (some ⟨g,0,none⟩)] w fun e w'=>e= .returned (.bool B)∧w=w':=by
 have b:w.cell? ⟨g,1,none⟩=some (.int .i64 f):=a.cell 1;clear a;go_enter Tryz.func113,Tryz.ntmps113;go_wp2;go_ret;exact⟨rfl,rfl⟩
theorem iL(g:Nat)(v:Value)(l:List UInt8)(f:Int)(n:Int)(w:World)(h:Wr w g v l f)(t:l.length≤1099511627776)(z:n≤9223372036854775807):
  Calls Tryz.prog 63 #[.pointer (some ⟨g,0,none⟩), .int .i64 n] w (vX w g v (nO (l,f) n)):=by
 have a:=Lib.hid h;have m:w.cell? ⟨g,0,none⟩=some v:=h.az.cell 0;have o:w.cell? ⟨g,1,none⟩=some (.int .i64 f):=h.az.cell 1;have q:=h.az.frozen 0;have r:=h.az.frozen 1;clear h;by_cases d:f=0
 ·subst d;by_cases c:n<0;·go_enter Tryz.func63,Tryz.ntmps63;go_wp2_with fail;refine(fK g v 0 _ a.out.az true rfl).mono ?_;rintro e w1⟨rfl,rfl⟩;go_wp2;go_end0;exact⟨rfl,v,by simpa[nO,c]using cF.fail a.out 2⟩
  ·obtain⟨u,rfl⟩:=Int.eq_ofNat_of_zero_le (by omega:0≤n);go_enter Tryz.func63,Tryz.ntmps63;go_wp2_with fail;refine(fK g v 0 _ a.out.az true rfl).mono ?_;rintro e w1⟨rfl,rfl⟩;go_wp2_with fail;refine(kf v l u _ a.out.own t (by omega)).mono ?_;rintro e w2⟨v2,rfl,b⟩;obtain⟨x,A,y,rfl,_,_⟩:=aP b.own;have k:=Lib.hid (cF.store a.out b);have s:w2.frozen? ⟨g,0,none⟩=false:=(ak.fr a.out.az b.fr (fun j=>bh a.out.own a.out.az (by decide) j)).frozen 0;have p:w2.cell? ⟨g,0,none⟩=some v:=(ak.fr a.out.az b.fr (fun j=>bh a.out.own a.out.az (by decide) j)).cell 0;clear b;go_wp2;go_end0;exact⟨rfl,_,by rw[gN];exact k.out⟩
 ·have i:(f==0)=false:=beq_eq_false_iff_ne.2 d;go_enter Tryz.func63,Tryz.ntmps63;go_wp2_with fail;refine(fK g v f _ a.out.az false i).mono ?_;rintro e w1⟨rfl,rfl⟩;go_wp2;go_end0;exact⟨rfl,v,by simpa[nO,d]using cF.start a.out⟩
theorem AU(g:Nat)(v:Value)(l:List UInt8)(f:Int)(b:Bool)(w:World)(h:Wr w g v l f)(B:l.length≤1099511627776):
  Calls Tryz.prog 66 #[.pointer (some ⟨g,0,none⟩), .bool b] w (vX w g v (qP (l,f) b)):=by
 obtain⟨i0,s,j,k,m⟩:=info_parts pT;have c:=Lib.hid h;have x:w.cell? ⟨g,0,none⟩=some v:=h.az.cell 0;have y:w.cell? ⟨g,1,none⟩=some (.int .i64 f):=h.az.cell 1;have z:=h.az.frozen 1;clear h;by_cases p:f=0
 ·subst p;cases b
  ·go_enter Tryz.func66,Tryz.ntmps66;go_wp2_with fail;refine(fK g v 0 _ c.out.az true rfl).mono ?_;rintro e w1⟨rfl,rfl⟩;go_wp2_with(at_builtin;refine cX _ rfl _ _ 61 rfl 5 i0 _ 1 1 Tryz.underlying61 s j k m rfl (by omega) _ _ _ rfl c.out.own 1 _ _ rfl rfl rfl (by simp[Value.oneCell']) (by omega) (by omega) ?_);intro v2 w2 d;have a:fT w v w2 v2 (l++[0]):=by simpa[fT,bv]using d
   clear d;obtain⟨t,A,u,rfl,_,_⟩:=aP a.own;have n:=Lib.hid (cF.store c.out a);have r:w2.frozen? ⟨g,0,none⟩=false:=(ak.fr c.out.az a.fr (fun i=>bh c.out.own c.out.az (by decide) i)).frozen 0;have o:w2.cell? ⟨g,0,none⟩=some v:=(ak.fr c.out.az a.fr (fun i=>bh c.out.own c.out.az (by decide) i)).cell 0;clear a;go_wp2;go_end0;exact⟨rfl,_,by rw[show qP (l,0) _=(l++[0],0)from rfl];exact n.out⟩
  ·go_enter Tryz.func66,Tryz.ntmps66;go_wp2_with fail;refine(fK g v 0 _ c.out.az true rfl).mono ?_;rintro e w1⟨rfl,rfl⟩;go_wp2_with(at_builtin;refine cX _ rfl _ _ 61 rfl 5 i0 _ 1 1 Tryz.underlying61 s j k m rfl (by omega) _ _ _ rfl c.out.own 1 _ _ rfl rfl rfl (by simp[Value.oneCell']) (by omega) (by omega) ?_);intro v2 w2 d;have a:fT w v w2 v2 (l++[1]):=by simpa[fT,bv]using d
   clear d;obtain⟨t,A,u,rfl,_,_⟩:=aP a.own;have n:=Lib.hid (cF.store c.out a);have r:w2.frozen? ⟨g,0,none⟩=false:=(ak.fr c.out.az a.fr (fun i=>bh c.out.own c.out.az (by decide) i)).frozen 0;have o:w2.cell? ⟨g,0,none⟩=some v:=(ak.fr c.out.az a.fr (fun i=>bh c.out.own c.out.az (by decide) i)).cell 0;clear a;go_wp2;go_end0;exact⟨rfl,_,by rw[show qP (l,0) _=(l++[1],0)from rfl];exact n.out⟩
 ·have q:(f==0)=false:=beq_eq_false_iff_ne.2 p;go_enter Tryz.func66,Tryz.ntmps66;go_wp2_with fail;refine(fK g v f _ c.out.az false q).mono ?_;rintro e w1⟨rfl,rfl⟩;go_wp2;go_end0;exact⟨rfl,v,by simpa[qP,p]using cF.start c.out⟩
theorem kF(g:Nat)(v:Value)(l:List UInt8)(f:Int)(s:ByteArray)(w:World)(h:Wr w g v l f)(B:l.length≤1099511627776)(E:s.size≤140737488351232):
  Calls Tryz.prog 65 #[.pointer (some ⟨g,0,none⟩), .string s] w (vX w g v (qQ (l,f) (aC s))):=by
 obtain⟨i0,A,m,n,o⟩:=info_parts pT;have b:=Lib.hid h;have t:w.cell? ⟨g,0,none⟩=some v:=h.az.cell 0;have u:w.cell? ⟨g,1,none⟩=some (.int .i64 f):=h.az.cell 1;have y:=h.az.frozen 1;clear h;by_cases i:f=0
 ·subst i;by_cases c:16777216<s.size;·go_enter Tryz.func65,Tryz.ntmps65;go_wp2_with fail;refine(fK g v 0 _ b.out.az true rfl).mono ?_;rintro e w1⟨rfl,rfl⟩;go_wp2;go_end0;exact⟨rfl,v,by rw[AV _ _ c];exact cF.fail b.out 5⟩
  ·go_enter Tryz.func65,Tryz.ntmps65;go_wp2_with fail;refine(fK g v 0 _ b.out.az true rfl).mono ?_;rintro e w1⟨rfl,rfl⟩;go_wp2_with fail;refine(kf v l s.size _ b.out.own B (by omega)).mono ?_;rintro e w2⟨v2,rfl,a⟩;have q:=Lib.hid a;clear a;go_wp2_with(at_builtin;refine kG _ rfl _ _ 61 9 rfl 5 i0 Tryz.underlying61 Tryz.underlying9 A m n o _ _ _ rfl q.out.own s rfl ?zA ?_);case zA=>have:=aO s.size;simp;omega
   intro v3 p d;have a:fT w v p v3 (l++(enc s.size++aC s)):=by
    have:=q.out.trans d;rw[xk]at this;simpa[fT,aG,Nat.add_assoc]using this
   clear d;obtain⟨C,F,D,rfl,_,_⟩:=aP a.own;have r:=Lib.hid (cF.store b.out a);have z:p.frozen? ⟨g,0,none⟩=false:=(ak.fr b.out.az a.fr (fun k=>bh b.out.own b.out.az (by decide) k)).frozen 0;have x:p.cell? ⟨g,0,none⟩=some v:=(ak.fr b.out.az a.fr (fun k=>bh b.out.own b.out.az (by decide) k)).cell 0;clear a;go_wp2;go_end0;exact⟨rfl,_,by rw[gO _ _ c];exact r.out⟩
 ·have j:(f==0)=false:=beq_eq_false_iff_ne.2 i;go_enter Tryz.func65,Tryz.ntmps65;go_wp2_with fail;refine(fK g v f _ b.out.az false j).mono ?_;rintro e w1⟨rfl,rfl⟩;go_wp2;go_end0;exact⟨rfl,v,by simpa[qQ,i]using cF.start b.out⟩
theorem oz.rd{w:World}{A:Option Addr}{n c:Nat}{l:List UInt8}(h:oz w (.slice A n c) l)(a:n=l.length):Rd w (lY (.slice A n c)) 1 A n (l.map bv):=by
 subst a;exact Rd.gj h
def Hu(w:World)(e:Ending)(w':World):Prop:=e= .returned (.pointer (some ⟨w.heap.size,0,none⟩))∧Wr w' w.heap.size (.slice none 0 0) [] 0∧Fr af w w'
theorem kb(w:World):Calls Tryz.prog 61 #[] w (Hu w):=by
 go_enter Tryz.func61,Tryz.ntmps61;go_wp2;go_ret;exact⟨rfl,⟨ak.new _ _ _,World.ownsRow_nil _ _ _ _⟩,(Fr.refl _ _).alloc _⟩
def si(w:World)(l:List UInt8)(f:Int)(e:Ending)(w':World):Prop:=
 (f≠0→e= .returned (.tuple #[.slice none 0 0, .int .i64 f])∧Fr af w w')∧(f=0→Es w (.slice none 0 0) l 0 e w')
theorem nN(g:Nat)(v:Value)(l:List UInt8)(f:Int)(w:World)(h:Wr w g v l f)(q:l.length≤1099511627776):
  Calls Tryz.prog 103 #[.pointer (some ⟨g,0,none⟩)] w (si w l f):=by
 have n:w.cell? ⟨g,0,none⟩=some v:=h.az.cell 0;have o:w.cell? ⟨g,1,none⟩=some (.int .i64 f):=h.az.cell 1;obtain⟨i,r,m,rfl,c,_⟩:=aP h.own;have k:=Lib.hid h;clear h;by_cases b:f=0;·subst b;go_enter Tryz.func103,Tryz.ntmps103;go_wp2_with fail;have d:=oz.rd k.out.own c.out;refine(so i r m l _ _ d (by rw[c.out];exact q)).mono ?_;rintro e w2⟨v2,rfl,a⟩;have j:=Lib.hid a;clear a d;go_wp2;go_ret2;exact⟨fun h=>absurd rfl h,fun _=>⟨_,rfl,j.out⟩⟩
 ·have p:(f !=0)=true:=by rw[bne_iff_ne];exact b
  go_enter Tryz.func103,Tryz.ntmps103;go_wp2;go_quiet(fail);go_wp2;go_ret2;exact⟨fun _=>⟨rfl,(Fr.refl _ _).drewN _⟩,fun h=>absurd h b⟩
end Go.Proofs.YtphjagkehiklkaaGreatDoor
namespace Go.Proofs.YtphjagkehiklkaaGreatDoor
open Go.RowKit
theorem Cp(l:List UInt8):∀(s:ByteArray),(l.map (fun b:UInt8=>(b.toNat:Int))).foldl (fun r n=>r.push (UInt8.ofNat n.toNat)) s=⟨(s.data.toList++l).toArray⟩:=by
 induction l with
 |nil=>intro s;simp
 |cons b l a=>
  intro s;simp only[List.map_cons,List.foldl_cons];rw[a];congr 1;have e:UInt8.ofNat (Int.toNat (b.toNat:Int))=b:=by simp
  rw[e];simp[ByteArray.push]
theorem DO{P:Program}(w:World)(src dst e:TypeId)(q:P.underlying src=some (.slice e))(he:P.underlying e=some (.int .u8))(p:P.underlying dst=some .string)
  (S:Nat→Prop)(A:Option Addr)(n c:Nat)(l:List UInt8)(f:Rd w S 1 A n (l.map bv)):(convert src dst (.slice A n c)).run P w= .ok (.string ⟨l.toArray⟩) w:=by
 rw[run_convert_bytes_string w src dst e A n c q he p];have d:l.length=n:=by simpa using f.1
 rcases A with _|a
 ·have:l=[]:=by
   rcases Nat.eq_zero_or_pos n with h|h;·exact List.eq_nil_of_length_eq_zero (d.trans h)
   ·obtain⟨a,e,_⟩:=f.2 h;cases e
  subst this;rfl
 ·have o:∀j v,(l.map bv)[j]? =some v→w.cell? (a.add j)=some v:=by
   intro j v i;rcases Nat.eq_zero_or_pos n with h|h;·have:l=[]:=List.eq_nil_of_length_eq_zero (d.trans h);subst this;simp at i
   ·obtain⟨k,e,_,m⟩:=f.2 h;injection e with e;subst e;exact m j v i
  have g:=run_loadCells_list (P:=P) w a (l.map bv) o;rw[List.length_map,d]at g;rw[run_bytesToString w a n c (l.map (fun b:UInt8=>(b.toNat:Int))) (by rw[g];simp[bv,Function.comp_def])];rw[Cp];rfl
abbrev lR(w:World)(S:Nat→Prop)(A:Option Addr)(n c:Nat)(l:List UInt8)(a:Rd w S 1 A n (l.map bv)):(convert 61 9 (.slice A n c)).run Tryz.prog w= .ok (.string ⟨l.toArray⟩) w:=
 DO w 61 9 5 Tryz.underlying61 Tryz.underlying5 Tryz.underlying9 S A n c l a
end Go.Proofs.YtphjagkehiklkaaGreatDoor
namespace Go.Proofs.YtphjagkehiklkaaGreatDoor
open Go.RowKit
end Go.Proofs.YtphjagkehiklkaaGreatDoor
