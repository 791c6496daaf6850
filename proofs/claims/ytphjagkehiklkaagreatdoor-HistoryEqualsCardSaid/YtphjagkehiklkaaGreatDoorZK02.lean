/- Texts. -/
import Derived.Test.YtphjagkehiklkaaGreatDoorZK01
set_option linter.unusedVariables false
set_option linter.unusedSimpArgs false
set_option maxRecDepth 100000
set_option maxHeartbeats 1000000
namespace Go.Proofs.YtphjagkehiklkaaGreatDoor
def b8(n:Nat):UInt8:=UInt8.ofNat n
def bv(b:UInt8):Value:= .int .u8 b.toNat
def lead:List UInt8→Nat→Nat
 |[],_=>0
 |_::_,0=>0
 |b::l,m+1=>if 128≤b.toNat then lead l m+1 else 0
def val:List UInt8→Nat
 |[]=>0
 |b::l=>b.toNat%128+128*val l
def pn(l:List UInt8)(m:Nat):Nat×Nat×Nat:=
 let k:=lead l m
 if k=m then(0,0,3)
 else if k=l.length then(0,0,28)
 else if 0<k∧(l[k]?.getD 0).toNat=0 then(0,0,3)
 else if k=9∧1<(l[k]?.getD 0).toNat then(0,0,3)
 else(val (l.take (k+1)),k+1,0)
theorem Cc:∀(l:List UInt8)(m:Nat),lead l m≤m∧lead l m≤l.length
 |[],m=>by simp[lead]
 |b::l,0=>by simp[lead]
 |b::l,m+1=>by
  have:=Cc l m;simp only[lead,List.length_cons];split<;>omega
theorem EA(l:List UInt8)(m k:Nat)(b:k<l.length)(d:k<m)(a:128≤(l[k]?.getD 0).toNat):
  lead (l.drop k) (m-k)=1+lead (l.drop (k+1)) (m-(k+1)):=by
 have e:l.drop k=l[k]::l.drop (k+1):=List.drop_eq_getElem_cons b;obtain⟨j,c⟩:∃j,m-k=j+1:=⟨m-k-1,by omega⟩;rw[e,c];rw[List.getElem?_eq_getElem b]at a;simp only[Option.getD_some]at a;rw[lead,if_pos a,show m-(k+1)=j by omega];omega
theorem EB(l:List UInt8)(m k:Nat)(h:l.length≤k∨m≤k∨(l[k]?.getD 0).toNat<128):lead (l.drop k) (m-k)=0:=by
 rcases Nat.lt_or_ge k l.length with a|a
 ·have e:l.drop k=l[k]::l.drop (k+1):=List.drop_eq_getElem_cons a;rw[e];rcases Nat.lt_or_ge k m with b|b;·obtain⟨j,c⟩:∃j,m-k=j+1:=⟨m-k-1,by omega⟩;rw[c];rw[List.getElem?_eq_getElem a]at h;simp only[Option.getD_some]at h;rw[lead,if_neg (by omega)]
  ·rw[show m-k=0 by omega];rfl
 ·rw[List.drop_of_length_le a];simp[lead]
theorem Cu(l:List UInt8)(m:Nat)(h:lead l m=m):pn l m=(0,0,3):=by simp[pn,h]
theorem yS(l:List UInt8)(m k:Nat)(h:lead l m=k)(b:k<m)(a:k=l.length):pn l m=(0,0,28):=by
 unfold pn;rw[h];simp only;rw[if_neg (by omega),if_pos a]
theorem Ab(l:List UInt8)(m k:Nat)(h:lead l m=k)(a:k<m)(b:k<l.length):pn l m=
  if 0<k∧(l[k]?.getD 0).toNat=0 then(0,0,3)else if k=9∧1<(l[k]?.getD 0).toNat then(0,0,3)else(val (l.take (k+1)),k+1,0):=by
 unfold pn;rw[h];simp only;rw[if_neg (by omega),if_neg (by omega)]
theorem ux(l r:List UInt8):val (l++r)=val l+128^l.length*val r:=by
 induction l with
 |nil=>simp[val]
 |cons x l a=>simp only[List.cons_append,val,a,List.length_cons,Nat.pow_succ];rw[Nat.mul_add];rw[Nat.mul_comm (128^l.length) 128,Nat.mul_assoc];omega
theorem Aq(l:List UInt8):val l<128^l.length:=by
 induction l with
 |nil=>simp[val]
 |cons x l a=>simp only[val,List.length_cons,Nat.pow_succ];have:=Nat.mod_lt x.toNat (show 128>0 by omega);omega
theorem Jo(l:List UInt8)(k j:Nat)(b:k<l.length)(a:j≤k):
  val ((l.take (k+1)).drop j)=val ((l.take (k+1)).drop (j+1))*128+(l[j]?.getD 0).toNat%128:=by
 have h:j<(l.take (k+1)).length:=by simp;omega
 rw[List.drop_eq_getElem_cons h,val];have e:(l.take (k+1))[j]=l[j]?.getD 0:=by
  rw[List.getElem_take,List.getElem?_eq_getElem (by omega),Option.getD_some]
 rw[e];omega
theorem FM(l:List UInt8)(k j:Nat)(d:k<l.length)(o:k≤9)(m:k=9→(l[k]?.getD 0).toNat≤1):val ((l.take (k+1)).drop (j+1))<144115188075855872:=by
 by_cases h:k≤8
 ·have f:=Aq ((l.take (k+1)).drop (j+1));have a:((l.take (k+1)).drop (j+1)).length≤8:=by simp;omega
  have c:(128:Nat)^((l.take (k+1)).drop (j+1)).length≤128^8:=Nat.pow_le_pow_right (by omega) a;have g:(128:Nat)^8=72057594037927936:=by decide
  omega
 ·obtain rfl:k=9:=by omega
  have b:=m rfl;have e:l.take (9+1)=l.take 9++[l[9]]:=List.take_succ_eq_append_getElem d;rcases Nat.lt_or_ge j 9 with n|n
  ·rw[e,List.drop_append_of_le_length (by simp;omega),ux];have f:=Aq ((l.take 9).drop (j+1));have a:((l.take 9).drop (j+1)).length≤8:=by simp;omega
   have c:(128:Nat)^((l.take 9).drop (j+1)).length≤128^8:=Nat.pow_le_pow_right (by omega) a;have g:(128:Nat)^8=72057594037927936:=by decide
   rw[List.getElem?_eq_getElem d,Option.getD_some]at b;have i:val [l[9]]≤1:=by simp only[val];omega
   have p:=Nat.mul_le_mul c i;omega
  ·rw[List.drop_of_length_le (by simp;omega)];simp[val]
theorem Ix(x b:Nat)(e:x<144115188075855872)(d:b<2^8):bits .or .u64 (↑x*128) (IntKind.u64.wrap (bits .and .u8 ↑b 127))=((x*128+b%128:Nat):Int):=by
 have a:bits .and .u8 (b:Int) 127=((b%128:Nat):Int):=by
  have:=u8_and_nat b 127 (by simpa using d) (by omega);rw[nat_mask7]at this;exact this
 rw[a];have c:IntKind.u64.wrap ((b%128:Nat):Int)=((b%128:Nat):Int):=by
  simp only[IntKind.wrap,IntKind.bits,IntKind.signed];simp;omega
 rw[c,show((x:Int)*128)=((x*128:Nat):Int)by omega,u64_or_nat _ _ (by omega) (by omega),nat_join 7 _ _ (by omega) (by omega)]
theorem s8(l:List UInt8)(m:Nat)(hm:m≤10):(pn l m=(0,0,3)∨pn l m=(0,0,28))∨
  ∃k,lead l m=k∧k<m∧k<l.length∧(0<k→(l[k]?.getD 0).toNat≠0)∧(k=9→(l[k]?.getD 0).toNat≤1)∧(l[k]?.getD 0).toNat<128∧pn l m=(val (l.take (k+1)),k+1,0):=by
 have hle:=Cc l m;by_cases c:lead l m=m;·exact .inl (.inl (Cu l m c))
 by_cases a:lead l m=l.length;·exact .inl (.inr (yS l m _ rfl (by omega) a))
 have he:=Ab l m _ rfl (by omega) (by omega);by_cases d:0<lead l m∧(l[lead l m]?.getD 0).toNat=0;·rw[if_pos d]at he;exact .inl (.inl he)
 rw[if_neg d]at he;by_cases f:lead l m=9∧1<(l[lead l m]?.getD 0).toNat;·rw[if_pos f]at he;exact .inl (.inl he)
 rw[if_neg f]at he;refine .inr ⟨lead l m,rfl,by omega,by omega,fun h g=>d ⟨h,g⟩,fun h=>by omega,?_,he⟩;have key:∀(l:List UInt8)(m:Nat),lead l m<m→lead l m<l.length→(l[lead l m]?.getD 0).toNat<128:=by
  intro l;induction l with
  |nil=>intro m _ h;simp at h
  |cons b l i=>
   intro m c a;cases m with
   |zero=>omega
   |succ m=>
    simp only[lead]at c a⊢;split at c;·rename_i e;rw[if_pos e]at a⊢;simp only[List.length_cons]at a;simpa using i m (by omega) (by omega)
    ·rename_i e;rw[if_neg e];simp;omega
 exact key l m (by omega) (by omega)
theorem Ac(l:List UInt8):(pn l 9).1<9223372036854775808:=by
 rcases s8 l 9 (by omega)with(h|h)|⟨k,_,b,c,_,_,_,h⟩;·rw[h];decide
 ·rw[h];decide
 ·rw[h];have d:=Aq (l.take (k+1));have a:(l.take (k+1)).length≤9:=by simp;omega
  have e:(128:Nat)^(l.take (k+1)).length≤128^9:=Nat.pow_le_pow_right (by omega) a;have f:(128:Nat)^9=9223372036854775808:=by decide
  show val (l.take (k+1))<_;omega
theorem Cv(l:List UInt8)(m:Nat)(hm:m≤10):(pn l m).2.1≤10∧(pn l m).2.1≤l.length:=by
 rcases s8 l m hm with(h|h)|⟨k,_,a,b,_,c,_,h⟩;·rw[h];simp
 ·rw[h];simp
 ·rw[h];show k+1≤10∧k+1≤l.length;omega
theorem Ce(x:Nat):bits .or .u8 ((x:Int)%256) 128=((x%128+128:Nat):Int):=by
 have h:=u8_or_nat (x%256) 128 (by omega) (by omega);have e:((x:Int)%256)=((x%256:Nat):Int):=by omega
 rw[e];refine h.trans ?_;congr 1;have b:x%256=x/128%2*128+x%128:=by omega
 rw[b];rcases Nat.mod_two_eq_zero_or_one (x/128)with a|a;·rw[a,Nat.zero_mul,Nat.zero_add,Nat.or_comm,nat_join 7 128 _ (by omega) (by omega)];omega
 ·rw[a,Nat.one_mul,←nat_join 7 128 (x%128) (by omega) (by omega),Nat.or_comm,←Nat.or_assoc,Nat.or_self,nat_join 7 128 _ (by omega) (by omega)];omega
def dt:Nat→Nat→List UInt8
 |0,n=>[b8 n]
 |k+1,n=>if n<128 then[b8 n]else b8 (n%128+128)::dt k (n/128)
def enc(n:Nat):List UInt8:=dt 9 n
theorem oz:∀(k n:Nat),(dt k n).length≤k+1
 |0,n=>by simp[dt]
 |k+1,n=>by
  simp only[dt];split;·simp
  ·have:=oz k (n/128);simp only[List.length_cons];omega
theorem aU(n:Nat):(enc n).length≤10:=oz 9 n
theorem En{n:Nat}(h:n<128):enc n=[b8 n]:=by simp[enc,dt,h]
theorem mg(k n:Nat)(h:128≤n):dt (k+1) n=b8 (n%128+128)::dt k (n/128):=by simp[dt,Nat.not_lt.2 h]
theorem qV:∀(k j n:Nat),n<128^(k+1)→k≤j→dt j n=dt k n
 |0,j,n,h,_=>by
  cases j with
  |zero=>rfl
  |succ j=>simp[dt,show n<128 by simpa using h]
 |k+1,0,n,h,a=>by omega
 |k+1,j+1,n,h,a=>by
  by_cases b:n<128;·simp[dt,b]
  ·have:n/128<128^(k+1):=by
    rw[Nat.pow_succ]at h;exact Nat.div_lt_of_lt_mul (by rw[Nat.mul_comm];exact h)
   rw[mg _ _ (by omega),mg _ _ (by omega),qV k j _ this (by omega)]
theorem Ip{n:Nat}(h:128≤n)(a:n<18446744073709551616):enc n=b8 (n%128+128)::enc (n/128):=by
 unfold enc;rw[mg _ _ h,qV 8 9 (n/128) (by
  have:(128:Nat)^(8+1)=9223372036854775808:=by decide
  omega) (by omega)]
theorem yJ:∀(l:List UInt8)(m j:Nat),j<lead l m→128≤(l[j]?.getD 0).toNat
 |[],m,j,h=>by simp[lead]at h
 |b::l,0,j,h=>by simp[lead]at h
 |b::l,m+1,j,h=>by
  simp only[lead]at h;split at h
  ·rename_i a;cases j with
   |zero=>simpa using a
   |succ j=>simpa using yJ l m j (by omega)
  ·omega
theorem sL(b:UInt8):b8 b.toNat=b:=by simp[b8]
theorem yB:∀(r:List UInt8)(j:Nat),r≠[]→r.length≤j+1→(∀i,i+1<r.length→128≤(r[i]?.getD 0).toNat)→(r[r.length-1]?.getD 0).toNat<128→
  (1<r.length→(r[r.length-1]?.getD 0).toNat≠0)→dt j (val r)=r
 |[],_,h,_,_,_,_=>absurd rfl h
 |[b],j,_,_,_,a,_=>by
  simp at a;have e:val [b]=b.toNat:=by simp[val];omega
  rw[e];cases j with
  |zero=>simp[dt,sL]
  |succ j=>simp[dt,a,sL]
 |b::c::r,0,_,k,_,_,_=>by simp at k
 |b::c::r,j+1,_,k,l,a,p=>by
  have s:=l 0 (by simp);simp at s;have u:=b.toNat_lt;have d:=p (by simp);have m:1≤val (c::r):=by
   have key:∀(q:List UInt8),q≠[]→(q[q.length-1]?.getD 0).toNat<128→(q[q.length-1]?.getD 0).toNat≠0→1≤val q:=by
    intro q;induction q with
    |nil=>intro h;exact absurd rfl h
    |cons x q v=>
     intro _ f g;cases q with
     |nil=>simp at f g;simp only[val];omega
     |cons y q=>
      have:=v (by simp) (by simpa using f) (by simpa using g);simp only[val]at this⊢;omega
   exact key _ (by simp) (by simpa using a) (by simpa using d)
  have w:val (b::c::r)=b.toNat%128+128*val (c::r):=rfl;rw[mg _ _ (by omega)];have n:val (b::c::r)/128=val (c::r):=by omega
  have o:val (b::c::r)%128+128=b.toNat:=by omega
  rw[n,o,sL,yB (c::r) j (by simp) (by simp at k⊢;omega) (fun i t=>by simpa using l (i+1) (by simp at t⊢;omega)) (by simpa using a) (fun _=>by simpa using d)]
theorem Kf(l:List UInt8)(m k:Nat)(e:lead l m=k)(hm:m≤10)(f:k<m)(g:k<l.length)(b:0<k→(l[k]?.getD 0).toNat≠0)(c:(l[k]?.getD 0).toNat<128):enc (val (l.take (k+1)))=l.take (k+1):=by
 have hlen:(l.take (k+1)).length=k+1:=by simp;omega
 have a:∀i,i≤k→(l.take (k+1))[i]? =l[i]? :=fun i d=>by rw[List.getElem?_take,if_pos (by omega)]
 refine yB (l.take (k+1)) 9 (by intro h;rw[h]at hlen;simp at hlen) (by omega) (fun i d=>?_) ?_ (fun h=>?_);·rw[a i (by omega)];exact yJ l m i (by omega)
 ·rw[hlen,Nat.add_sub_cancel,a k (Nat.le_refl _)];exact c
 ·rw[hlen,Nat.add_sub_cancel,a k (Nat.le_refl _)];exact b (by omega)
theorem zq(n:Nat)(h:n<256):(b8 n).toNat=n:=by
 unfold b8;rw[UInt8.toNat_ofNat_of_lt' (by simpa using h)]
theorem rX(k n:Nat):1≤(dt k n).length:=by
 cases k with
 |zero=>simp[dt]
 |succ k=>simp only[dt];split<;>simp
theorem tT:∀(k n:Nat),n<128^(k+1)→(∀i,i+1<(dt k n).length→128≤((dt k n)[i]?.getD 0).toNat)∧((dt k n)[(dt k n).length-1]?.getD 0).toNat<128∧
  (1<(dt k n).length→((dt k n)[(dt k n).length-1]?.getD 0).toNat≠0)∧val (dt k n)=n
 |0,n,h=>by
  have o:n<128:=by simpa using h
  simp[dt,zq n (by omega),val,o]
 |k+1,n,h=>by
  by_cases t:n<128;·simp[dt,t,zq n (by omega),val]
  ·have p:n/128<128^(k+1):=by
    rw[Nat.pow_succ]at h;exact Nat.div_lt_of_lt_mul (by rw[Nat.mul_comm];exact h)
   obtain⟨u,l,m,f⟩:=tT k (n/128) p;have e:=rX k (n/128);rw[mg _ _ (by omega)];have a:∀i,(b8 (n%128+128)::dt k (n/128))[i+1]? =(dt k (n/128))[i]? :=fun i=>by simp
   obtain⟨j,b⟩:∃j,(dt k (n/128)).length=j+1:=⟨_,(Nat.sub_add_cancel e).symm⟩;refine⟨fun i r=>?_,?_,fun _=>?_,?_⟩
   ·cases i with
    |zero=>simp[zq (n%128+128) (by omega)]
    |succ i=>rw[a];exact u i (by simpa using r)
   ·rw[List.length_cons,Nat.add_sub_cancel,b,a];rw[b,Nat.add_sub_cancel]at l;exact l
   ·rw[List.length_cons,Nat.add_sub_cancel,b,a];rw[b,Nat.add_sub_cancel]at m;rcases Nat.eq_zero_or_pos j with g|g
    ·subst g;have s:∃c,dt k (n/128)=[c]:=List.length_eq_one_iff.1 (by omega);obtain⟨c,q⟩:=s;rw[q]at f⊢;simp[val]at f⊢;intro d;have:c.toNat=0:=by rw[d]
     omega
    ·exact m (by omega)
   ·show(b8 (n%128+128)).toNat%128+128*val (dt k (n/128))=n;rw[f,zq _ (by omega)];omega
theorem Cd:∀(l:List UInt8)(m j:Nat),(∀i,i<j→128≤(l[i]?.getD 0).toNat)→(l[j]?.getD 0).toNat<128→j<l.length→j<m→lead l m=j
 |[],m,j,_,_,h,_=>by simp at h
 |b::l,0,j,_,_,_,h=>by omega
 |b::l,m+1,0,_,h,_,_=>by
  simp at h;rw[lead,if_neg (by omega)]
 |b::l,m+1,j+1,a,d,e,f=>by
  have c:=a 0 (by omega);simp at c;rw[lead,if_pos c,Cd l m j (fun i g=>by simpa using a (i+1) (by omega)) (by simpa using d) (by simpa using e) (by omega)]
theorem KZ(k n m:Nat)(r:List UInt8)(w:n<128^(k+1))(u:n<18446744073709551616)(hm:m≤10)(hlen:(dt k n).length≤m):pn (dt k n++r) m=(n,(dt k n).length,0):=by
 obtain⟨x,f,y,q⟩:=tT k n w;have j:=rX k n;have b:∀i,i<(dt k n).length→(dt k n++r)[i]? =(dt k n)[i]? :=fun i p=>List.getElem?_append_left p;have v:lead (dt k n++r) m=(dt k n).length-1:=by
  refine Cd _ _ _ (fun i p=>?_) ?_ (by simp;omega) (by omega);·rw[b i (by omega)];exact x i (by omega)
  ·rw[b _ (by omega)];exact f
 rw[Ab _ m _ v (by omega) (by simp;omega),b _ (by omega)];rw[if_neg (fun h=>y (by omega) h.2)];have c:¬((dt k n).length-1=9∧1<((dt k n)[(dt k n).length-1]?.getD 0).toNat):=by
  rintro⟨t,g⟩;have a:(dt k n).length=10:=by omega
  rw[t]at g f;generalize dt k n=e at q g a f;have l:e=e.take 9++e.drop 9:=(List.take_append_drop 9 e).symm;have s:e.drop 9=[e[9]]:=by
   rw[List.drop_eq_getElem_cons (by omega)];simp[List.drop_of_length_le,a]
  rw[s]at l;have z:val e=val (e.take 9)+128^9*val [e[9]]:=by
   conv=>lhs;rw[l]
   rw[ux];simp[a]
  rw[List.getElem?_eq_getElem (by omega),Option.getD_some]at g;have o:(128:Nat)^9=9223372036854775808:=by decide
  have d:2≤val [e[9]]∨128≤e[9].toNat:=by
   simp only[val];omega
  rcases d with d|d;·have:=Nat.mul_le_mul_left (128^9) d;omega
  ·rw[List.getElem?_eq_getElem (by omega),Option.getD_some]at f;omega
 rw[if_neg c];rw[List.take_append_of_le_length (by omega),List.take_of_length_le (by omega),q,Nat.sub_add_cancel j]
theorem Fh:(128:Nat)^(9+1)=1180591620717411303424:=by decide
theorem I3:(128:Nat)^(8+1)=9223372036854775808:=by decide
theorem zD(n:Nat)(h:n<9223372036854775808):(enc n).length≤9:=by
 unfold enc;rw[qV 8 9 n (by rw[I3];exact h) (by omega)];exact oz 8 n
theorem sq(n:Nat)(r:List UInt8)(h:n<9223372036854775808):pn (enc n++r) 9=(n,(enc n).length,0):=
 KZ 9 n 9 r (by rw[Fh];omega) (by omega) (by omega) (zD n h)
end Go.Proofs.YtphjagkehiklkaaGreatDoor
namespace Go.Proofs.YtphjagkehiklkaaGreatDoor
open Go.RowKit
theorem Rd.byte{w:World}{S:Nat→Prop}{A:Option Addr}{n k:Nat}{l:List UInt8}(h:Rd w S 1 A n (l.map bv))(g:k<n):
  ∃c,A=some c∧w.cell? (c.add k)=some (.int .u8 ((l[k]?.getD 0).toNat:Int)):=by
 obtain⟨c,u,e,_,a,f⟩:=h.at_ g;refine⟨c,e,?_⟩;rw[f];rw[List.getElem?_map]at a;cases d:l[k]? with
 |none=>simp[d]at a
 |some b=>rw[d]at a;simp[bv]at a;simp[a]
theorem sj(A:Option Addr)(n c:Nat)(l:List UInt8)(aP:Nat)(w:World)(S:Nat→Prop)(R:Rd w S 1 A n (l.map bv))(ai:n≤1099511627776)(ad:1≤aP)(hm:aP≤10):
  Calls Tryz.prog 171 #[.slice A n c, .int .i64 aP] w fun e w'=>e= .returned (.tuple #[.int .u64 ((pn l aP).1:Nat), .int .i64 ((pn l aP).2.1:Nat), .int .i64 ((pn l aP).2.2:Nat)])∧w=w':=by
 have hlen:l.length=n:=by have:=R.1;simpa using this
 have t:=af hlen;clear hlen;have J:=af R;clear R;go_enter Tryz.func171,Tryz.ntmps171;go_wp2;go_loop[7](fun i=>∃k:Nat,k≤n∧k≤aP∧i= .int .i64 k∧Hid (lead l aP=k+lead (l.drop k) (aP-k)))(fun i=>n-(intOf i).toNat);case atStart=>exact⟨0,Nat.zero_le _,Nat.zero_le _,rfl,by simp[Hid]⟩
 case round=>
  obtain⟨k,ab,ac,rfl,H⟩:=hrel;by_cases a:k<n∧k<aP∧128≤(l[k]?.getD 0).toNat
  ·obtain⟨B,O,m⟩:=a;obtain⟨V,rfl,q⟩:=J.out.byte B;have E:=af (EA l aP k (by rw[t.out];exact B) O m);have N:(128:Int)≤((l[k]?.getD 0).toNat:Int):=by omega
   clear m;generalize((l[k]?.getD 0).toNat)=b at q N;go_wp2;go_round;case rel=>exact⟨k+1,by omega,by omega,by go_num,by have:=H.out;have:=E.out;simp only[Hid];omega⟩
   case measure=>simp[intOf];omega
  ·have E:=af (EB l aP k (by rw[t.out];omega));have I:Hid (lead l aP=k):=by have:=H.out;have:=E.out;simp only[Hid];omega
   clear H E;by_cases g:k=aP
   ·clear a;have d:=af (Cu l aP (I.out.trans g));obtain rfl:=g;go_wp2;all_goals
     go_ret3;exact⟨by rw[d.out];rfl,rfl⟩
   ·have h:k<aP:=by omega
    have Q:((k:Int)==(aP:Int))=false:=jt (by omega);by_cases r:k=n;·clear a;have d:=af (yS l aP k I.out h (by rw[t.out];exact r));clear g;obtain rfl:=r;go_wp2;go_ret3;exact⟨by rw[d.out];rfl,rfl⟩
    ·have D:k<n:=by omega
     have C:((k:Int)==(n:Int))=false:=jt (by omega);have m:(l[k]?.getD 0).toNat<128:=by omega
     clear a g r;obtain⟨V,rfl,q⟩:=J.out.byte D;have F:=af (Ab l aP k I.out h (by rw[t.out];omega));have o:((l[k]?.getD 0).toNat:Int)<128:=by omega
     have p:decide ((128:Int)≤((l[k]?.getD 0).toNat:Int))=false:=by simp;omega
     clear m;by_cases v:0<k∧(l[k]?.getD 0).toNat=0;·have d:=af (F.out.trans (if_pos v));clear F;have T:0<k:=v.1;have s:(((l[k]?.getD 0).toNat:Int)==0)=true:=beq_iff_eq.2 (by omega);clear v;generalize((l[k]?.getD 0).toNat)=b at q o p s;go_wp2;go_ret3;exact⟨by rw[d.out];rfl,rfl⟩
     ·have f:=af (F.out.trans (if_neg v));clear F;by_cases G:k=9∧1<(l[k]?.getD 0).toNat
      ·have d:=af (f.out.trans (if_pos G));clear f;have T:0<k:=by omega
       have s:(((l[k]?.getD 0).toNat:Int)==0)=false:=jt (by omega);have ag:((k:Int)==9)=true:=beq_iff_eq.2 (by omega);have U:(1:Int)<((l[k]?.getD 0).toNat:Int):=by omega
       clear v G;generalize((l[k]?.getD 0).toNat)=b at q o p s U;go_wp2;go_ret3;exact⟨by rw[d.out];rfl,rfl⟩
      ·have d:=af (f.out.trans (if_neg G));clear f;have X:Hid (k=9→(l[k]?.getD 0).toNat≤1):=by simp only[Hid];omega
       have ah:Hid (0<k→(l[k]?.getD 0).toNat≠0):=by simp only[Hid];omega
       have P:(((k:Int)==9)=true∧0<k∧(((l[k]?.getD 0).toNat:Int)==0)=false∧decide ((1:Int)<((l[k]?.getD 0).toNat:Int))=false)∨(((k:Int)==9)=false∧0<k∧(((l[k]?.getD 0).toNat:Int)==0)=false)∨(((k:Int)==9)=false∧decide (0<k)=false):=by
        by_cases L:k=9;·exact .inl ⟨beq_iff_eq.2 (by omega),by omega,jt (by omega),by simp;omega⟩
        ·by_cases z:0<k;·exact .inr (.inl ⟨jt (by omega),z,jt (by omega)⟩)
         ·exact .inr (.inr ⟨jt (by omega),by simpa using z⟩)
       clear v G;rcases P with⟨L,z,M,Z⟩|⟨L,z,M⟩|⟨L,z⟩;all_goals
        go_wp2;clear o p Q C q;go_loop[8,9](fun u i=>(∃j:Nat,j≤k∧i= .int .i64 j∧∃x:Nat,x<144115188075855872∧Hid (x=val ((l.take (k+1)).drop (j+1)))∧u= .int .u64 x)∨(i= .int .i64 (-1)∧u= .int .u64 (val (l.take (k+1)))))(fun _ i=>(intOf i+1).toNat);case atStart=>exact .inl ⟨k,Nat.le_refl _,rfl,0,by omega,by simp only[Hid];rw[List.drop_of_length_le (by simp;omega)];rfl,rfl⟩
        case round=>
         rcases hrel with⟨j,aa,rfl,x,ae,Y,rfl⟩|⟨rfl,rfl⟩
         ·obtain⟨K,e,q⟩:=J.out.byte (k:=j) (by omega);obtain rfl:V=K:=by injection e
          clear e;have m:=(l[j]?.getD 0).toNat_lt;generalize y:(l[j]?.getD 0).toNat=b at q m;have HB:=af y;clear y;go_wp2;have W:=Jo l k j (by rw[t.out];omega) aa;rw[←Y.out,HB.out]at W;rw[Ix x b ae m,←W];rcases j with _|j;·refine⟨.inr ⟨rfl,by rw[List.drop_zero]⟩,by simp[intOf]⟩
          ·refine⟨.inl ⟨j,by omega,by go_num,_,FM l k j (by rw[t.out];omega) (by omega) X.out,rfl,rfl⟩,by simp[intOf];omega⟩
         ·go_wp2;go_ret3;exact⟨by rw[d.out];rfl,rfl⟩
theorem tM(A:Option Addr)(n c:Nat)(l:List UInt8)(w:World)(S:Nat→Prop)(b:Rd w S 1 A n (l.map bv))(g:n≤1099511627776):
  Calls Tryz.prog 147 #[.slice A n c] w fun e w'=>e= .returned (.tuple #[.int .i64 ((pn l 9).1:Nat), .int .i64 ((pn l 9).2.1:Nat), .int .i64 ((pn l 9).2.2:Nat)])∧w=w':=by
 have a:=sj A n c l 9 w S b g (by omega) (by omega);have f:=Ac l;generalize(pn l 9).1=h at a f⊢;generalize(pn l 9).2.1=a2 at a⊢;generalize(pn l 9).2.2=a3 at a⊢;have d:=af a;clear a b;go_enter Tryz.func147,Tryz.ntmps147;go_wp2_with fail;refine d.out.mono ?_;rintro e w1⟨rfl,rfl⟩;go_wp2;go_ret3;exact⟨rfl,rfl⟩
end Go.Proofs.YtphjagkehiklkaaGreatDoor
namespace Go.Proofs.YtphjagkehiklkaaGreatDoor
open Go.RowKit
theorem se:(Tryz.prog.info? 5).map (fun i=>(i.zero,i.size,i.bytes))=some (some (.int .u8 0),1,1):=by kernel_rfl
theorem Cj(l:List UInt8):∀u∈l.map bv,u.oneCell'=true:=by
 intro u hu;obtain⟨b,_,rfl⟩:=List.mem_map.1 hu;rfl
theorem yr(n:Nat)(h:n<256):bv (b8 n)= .int .u8 (n:Int):=by
 unfold bv b8;rw[UInt8.toNat_ofNat_of_lt' (by simpa using h)]
abbrev iH(w:World)(v:Value)(w':World)(a:Value)(l:List UInt8):Prop:=bK 5 1 w v w' a l.length (l.map bv)
abbrev oX(w:World)(v:Value)(l:List UInt8):Prop:=w.ownsRow 0 5 1 v l.length (l.map bv)
def vu(w:World)(v:Value)(l:List UInt8)(e:Ending)(w':World):Prop:=∃a,e= .returned a∧iH w v w' a l
theorem ma(v:Value)(l:List UInt8)(u:Nat)(w:World)(b:oX w v l)(q:l.length≤1099511627776)(hu:u<18446744073709551616):
  Calls Tryz.prog 114 #[v, .int .u64 u] w (vu w v (l++enc u)):=by
 obtain⟨i0,m,d,f,g⟩:=info_parts se;have n:=af b;clear b;go_enter Tryz.func114,Tryz.ntmps114;go_wp2;go_loopw[0,1](fun p t wr=>∃(x:Nat)(i:List UInt8),x<18446744073709551616∧t= .int .u64 x∧Hid (enc u=i++enc x)∧iH w v wr p (l++i))(fun _ t _=>(intOf t).toNat);case atStart=>exact⟨u,[],hu,rfl,rfl,by simpa using bK.start n.out⟩
 case round=>
  obtain⟨x,i,o,rfl,h,c⟩:=hrel;by_cases k:128≤x
  ·go_wp2_with(at_builtin;refine cP _ rfl _ _ 61 rfl 5 i0 _ 1 1 Tryz.underlying61 m d f g rfl (by omega) _ _ _ rfl c.own 1 _ _ rfl rfl rfl ?zA ?zB (by omega) ?_);case zA=>simp[Value.oneCell']
   case zB=>have:=aU u;rw[h.out]at this;simp at this⊢;omega
   intro v2 w2 a;rw[Ce]at a;have j:Hid (iH w v w2 v2 (l++(i++[b8 (x%128+128)]))):=by
    have:=c.trans a;simpa[Hid,iH,yr _ (show x%128+128<256 by omega),Nat.add_assoc]using this
   clear c a;rw[Ce];go_wp2;go_roundw;case rel=>exact⟨x/128,_,by omega,by go_num,by simp only[Hid];rw[h.out,Ip k o];simp,j.out⟩
   case measure=>simp[intOf];omega
  ·go_wp2_with(at_builtin;refine cP _ rfl _ _ 61 rfl 5 i0 _ 1 1 Tryz.underlying61 m d f g rfl (by omega) _ _ _ rfl c.own 1 _ _ rfl rfl rfl ?d1 ?d2 (by omega) ?_);case d1=>simp[Value.oneCell']
   case d2=>have:=aU u;rw[h.out]at this;simp at this⊢;omega
   intro v2 w2 a;have j:Hid (iH w v w2 v2 (l++enc u)):=by
    have:=c.trans a;have e:(x:Int)%256=(x:Int):=by omega
    rw[h.out,En (by omega)];simpa[Hid,iH,yr _ (show x<256 by omega),Nat.add_assoc,e]using this
   clear c a;go_wp2;go_ret;exact⟨_,rfl,j.out⟩
theorem uW(A:Option Addr)(n c:Nat)(l:List UInt8)(w:World)(S:Nat→Prop)(d:Rd w S 1 A n (l.map bv))(s:n≤1099511627776):
  Calls Tryz.prog 116 #[.slice A n c] w (vu w (.slice none 0 0) l):=by
 obtain⟨i0,q,g,i,j⟩:=info_parts se;have t:=fun(w:World)=>Lib.run_eql_slice_nil (P:=Tryz.prog) w 61 5 A n c 0 0 Tryz.underlying61;have hlen:l.length=n:=by have:=d.1;simpa using this
 have m:=af hlen;clear hlen;rcases A with _|p
 ·have b:n=0:=by
   rcases Nat.eq_zero_or_pos n with h|h;·exact h
   ·obtain⟨p,e,_⟩:=d.2 h;cases e
  have f:l=[]:=List.eq_nil_of_length_eq_zero (by rw[m.out];exact b);subst f;subst b;clear d;go_enter Tryz.func116,Tryz.ntmps116;go_wp2;go_ret;exact⟨_,rfl,bK.start (World.ownsRow_nil _ _ _ _)⟩
 ·go_enter Tryz.func116,Tryz.ntmps116;go_wp2_with(at_builtin;refine dR _ rfl _ _ 61 rfl 5 i0 _ 1 1 Tryz.underlying61 q g i j rfl (by omega) _ 0 [] rfl ?zA _ _ n c _ rfl (d.ao (az.alloc _)) (Cj _) (by omega) (by omega) ?_);case zA=>exact World.ownsRow_lit (size:=1) _ _ 0 (Nat.zero_le _) (by simp[maxLen]) rfl
  intro v2 w2 a;have o:Hid (iH w (.slice none 0 0) w2 v2 l):=by
   have:=bK.fresh (az.alloc _) (fun k r=>by simp[Value.ownBlock]at r;omega) a;have e:=m.out;simpa[Hid,iH,e]using this
  clear a;go_wp2;go_ret;exact⟨_,rfl,o.out⟩
def JJ(w:World)(v:Value)(l:List UInt8)(err:Int)(e:Ending)(w':World):Prop:=∃a,e= .returned (.tuple #[a, .int .i64 err])∧iH w v w' a l
end Go.Proofs.YtphjagkehiklkaaGreatDoor
namespace Go.Proofs.YtphjagkehiklkaaGreatDoor
open Go.RowKit
structure Wr(w:World)(g:Nat)(v:Value)(l:List UInt8)(f:Int):Prop where
 aE:aq w g 185 #[v, .int .i64 f]
 own:oX w v l
def LO(g:Nat)(v:Value):Nat→Prop:=fun k=>k=g∨v.ownBlock=some k
structure dn(w:World)(g:Nat)(v:Value)(w':World)(a:Value)(st:List UInt8×Int):Prop where
 wr:Wr w' g a st.1 st.2
 fr:Fr (LO g v) w w'
 eG:∀k,a.ownBlock=some k→v.ownBlock=some k∨w.heap.size≤k
def zo(w:World)(g:Nat)(v:Value)(st:List UInt8×Int)(e:Ending)(w':World):Prop:=e= .returned (.tuple #[])∧∃a,dn w g v w' a st
section
variable{w w1 w2:World}{g:Nat}{v v1 v2:Value}{l:List UInt8}{f:Int}{st st1 st2:List UInt8×Int}{T:Nat→Prop}
theorem Wr.cN(h:Wr w g v l f)(b:Fr T w w1)(a:∀k,LO g v k→¬T k):Wr w1 g v l f:=
 ⟨h.aE.fr b (a g (.inl rfl)),aL h.own b (fun k c=>a k (.inr c))⟩
theorem dn.start(h:Wr w g v l f):dn w g v w v (l,f):=⟨h,az,fun _ a=> .inl a⟩
theorem dn.trans(h:dn w g v w1 v1 st1)(k:dn w1 g v1 w2 v2 st2):dn w g v w2 v2 st2:=
  ⟨k.wr,h.fr.aw k.fr (fun i c b=>by
      rcases b with b|b;· exact .inl b
      · rcases h.eG i b with a|a;· exact .inr a
        · omega),
   fun i c=>by
    rcases k.eG i c with a|a;· exact h.eG i a
    · exact .inr (Nat.le_trans h.fr.size a)⟩
theorem dn.store(h:Wr w g v l f){m:List UInt8}(k:iH w v w1 v1 m):dn w g v (w1.setCell ⟨g,0,none⟩ v1) v1 (m,f):=by
 have b:v.ownBlock≠some g:=bM h.own h.aE (by decide);have d:aq w1 g 185 #[v, .int .i64 f]:=h.aE.fr k.fr (fun o=>b o);have n:=h.aE.lt;have c:∀i,v1.ownBlock=some i→i≠g:=fun i a e=>by
  subst e;rcases k.eG i a with j|j;·exact b j
  ·omega
 refine⟨⟨by simpa using d.j7 0 v1,aL k.own ((Fr.refl (fun k=>k=g) w1).setCell (fun _=>rfl) _) (fun i a=>c i a)⟩,?_,k.eG⟩;exact(k.fr.mono (fun i _ a=> .inr a)).setCell (fun _=> .inl rfl) _
theorem dn.fail(h:Wr w g v l f)(a:Int):dn w g v (w.setCell ⟨g,1,none⟩ (.int .i64 a)) v (l,a):=by
 have b:v.ownBlock≠some g:=bM h.own h.aE (by decide);refine⟨⟨by simpa using h.aE.j7 1 (.int .i64 a),aL h.own ((Fr.refl (fun k=>k=g) w).setCell (fun _=>rfl) _) (fun i c e=>b (e▸c))⟩,?_,fun _ d=> .inl d⟩;exact az.setCell (fun _=> .inl rfl) _
end
def aQ(s:ByteArray):List UInt8:=s.data.toList
def pY(st:List UInt8×Int)(n:Int):List UInt8×Int:=if st.2=0 then(if n<0 then(st.1,2)else(st.1++enc n.toNat,0))else st
theorem jh(l:List UInt8)(u:Nat):pY (l,0) (u:Int)=(l++enc u,0):=by
 unfold pY;rw[if_pos rfl,if_neg (by omega)];rfl
def tu(st:List UInt8×Int)(b:Bool):List UInt8×Int:=if st.2=0 then(st.1++[if b then 1 else 0],0)else st
def tw(st:List UInt8×Int)(s:List UInt8):List UInt8×Int:=if st.2=0 then(if 16777216<s.length then(st.1,5)else(st.1++(enc s.length++s),0))else st
theorem aK(s:ByteArray):(aQ s).length=s.size:=by simp[aQ]
theorem Ao(s:ByteArray):Lib.strCells s=(aQ s).map bv:=rfl
theorem Ga(l:List UInt8)(s:ByteArray)(h:16777216<s.size):tw (l,0) (aQ s)=(l,5):=by
 unfold tw;rw[if_pos rfl,if_pos (by rw[aK];exact h)]
theorem ji(l:List UInt8)(s:ByteArray)(h:¬16777216<s.size):tw (l,0) (aQ s)=(l++(enc s.size++aQ s),0):=by
 unfold tw;rw[if_pos rfl,if_neg (by rw[aK];exact h),aK]
theorem iz(g:Nat)(v:Value)(f:Int)(w:World)(a:aq w g 185 #[v, .int .i64 f])(B:Bool)(c:(f==0)=B):
  Calls Tryz.prog 113 #[.pointer (some ⟨g,0,none⟩)] w fun e w'=>e= .returned (.bool B)∧w=w':=by
 have b:w.cell? ⟨g,1,none⟩=some (.int .i64 f):=a.cell 1;clear a;go_enter Tryz.func113,Tryz.ntmps113;go_wp2;go_ret;exact⟨rfl,rfl⟩
theorem jU(g:Nat)(v:Value)(l:List UInt8)(f:Int)(n:Int)(w:World)(h:Wr w g v l f)(t:l.length≤1099511627776)(z:n≤9223372036854775807):
  Calls Tryz.prog 63 #[.pointer (some ⟨g,0,none⟩), .int .i64 n] w (zo w g v (pY (l,f) n)):=by
 have a:=af h;have m:w.cell? ⟨g,0,none⟩=some v:=h.aE.cell 0;have o:w.cell? ⟨g,1,none⟩=some (.int .i64 f):=h.aE.cell 1;have q:=h.aE.frozen 0;have r:=h.aE.frozen 1;clear h;by_cases d:f=0
 ·subst d;by_cases c:n<0;·go_enter Tryz.func63,Tryz.ntmps63;go_wp2_with fail;refine(iz g v 0 _ a.out.aE true rfl).mono ?_;rintro e w1⟨rfl,rfl⟩;go_wp2;go_end0;exact⟨rfl,v,by simpa[pY,c]using dn.fail a.out 2⟩
  ·obtain⟨u,rfl⟩:=Int.eq_ofNat_of_zero_le (by omega:0≤n);go_enter Tryz.func63,Tryz.ntmps63;go_wp2_with fail;refine(iz g v 0 _ a.out.aE true rfl).mono ?_;rintro e w1⟨rfl,rfl⟩;go_wp2_with fail;refine(ma v l u _ a.out.own t (by omega)).mono ?_;rintro e w2⟨v2,rfl,b⟩;obtain⟨x,A,y,rfl,_,_⟩:=aG b.own;have k:=af (dn.store a.out b);have s:w2.frozen? ⟨g,0,none⟩=false:=(aq.fr a.out.aE b.fr (fun j=>bM a.out.own a.out.aE (by decide) j)).frozen 0;have p:w2.cell? ⟨g,0,none⟩=some v:=(aq.fr a.out.aE b.fr (fun j=>bM a.out.own a.out.aE (by decide) j)).cell 0;clear b;go_wp2;go_end0;exact⟨rfl,_,by rw[jh];exact k.out⟩
 ·have i:(f==0)=false:=jt d;go_enter Tryz.func63,Tryz.ntmps63;go_wp2_with fail;refine(iz g v f _ a.out.aE false i).mono ?_;rintro e w1⟨rfl,rfl⟩;go_wp2;go_end0;exact⟨rfl,v,by simpa[pY,d]using dn.start a.out⟩
theorem FU(g:Nat)(v:Value)(l:List UInt8)(f:Int)(b:Bool)(w:World)(h:Wr w g v l f)(B:l.length≤1099511627776):
  Calls Tryz.prog 66 #[.pointer (some ⟨g,0,none⟩), .bool b] w (zo w g v (tu (l,f) b)):=by
 obtain⟨i0,s,j,k,m⟩:=info_parts se;have c:=af h;have x:w.cell? ⟨g,0,none⟩=some v:=h.aE.cell 0;have y:w.cell? ⟨g,1,none⟩=some (.int .i64 f):=h.aE.cell 1;have z:=h.aE.frozen 1;clear h;by_cases p:f=0
 ·subst p;cases b
  ·go_enter Tryz.func66,Tryz.ntmps66;go_wp2_with fail;refine(iz g v 0 _ c.out.aE true rfl).mono ?_;rintro e w1⟨rfl,rfl⟩;go_wp2_with(at_builtin;refine cP _ rfl _ _ 61 rfl 5 i0 _ 1 1 Tryz.underlying61 s j k m rfl (by omega) _ _ _ rfl c.out.own 1 _ _ rfl rfl rfl (by simp[Value.oneCell']) (by omega) (by omega) ?_);intro v2 w2 d;have a:iH w v w2 v2 (l++[0]):=by simpa[iH,bv]using d
   clear d;obtain⟨t,A,u,rfl,_,_⟩:=aG a.own;have n:=af (dn.store c.out a);have r:w2.frozen? ⟨g,0,none⟩=false:=(aq.fr c.out.aE a.fr (fun i=>bM c.out.own c.out.aE (by decide) i)).frozen 0;have o:w2.cell? ⟨g,0,none⟩=some v:=(aq.fr c.out.aE a.fr (fun i=>bM c.out.own c.out.aE (by decide) i)).cell 0;clear a;go_wp2;go_end0;exact⟨rfl,_,by rw[show tu (l,0) _=(l++[0],0)from rfl];exact n.out⟩
  ·go_enter Tryz.func66,Tryz.ntmps66;go_wp2_with fail;refine(iz g v 0 _ c.out.aE true rfl).mono ?_;rintro e w1⟨rfl,rfl⟩;go_wp2_with(at_builtin;refine cP _ rfl _ _ 61 rfl 5 i0 _ 1 1 Tryz.underlying61 s j k m rfl (by omega) _ _ _ rfl c.out.own 1 _ _ rfl rfl rfl (by simp[Value.oneCell']) (by omega) (by omega) ?_);intro v2 w2 d;have a:iH w v w2 v2 (l++[1]):=by simpa[iH,bv]using d
   clear d;obtain⟨t,A,u,rfl,_,_⟩:=aG a.own;have n:=af (dn.store c.out a);have r:w2.frozen? ⟨g,0,none⟩=false:=(aq.fr c.out.aE a.fr (fun i=>bM c.out.own c.out.aE (by decide) i)).frozen 0;have o:w2.cell? ⟨g,0,none⟩=some v:=(aq.fr c.out.aE a.fr (fun i=>bM c.out.own c.out.aE (by decide) i)).cell 0;clear a;go_wp2;go_end0;exact⟨rfl,_,by rw[show tu (l,0) _=(l++[1],0)from rfl];exact n.out⟩
 ·have q:(f==0)=false:=jt p;go_enter Tryz.func66,Tryz.ntmps66;go_wp2_with fail;refine(iz g v f _ c.out.aE false q).mono ?_;rintro e w1⟨rfl,rfl⟩;go_wp2;go_end0;exact⟨rfl,v,by simpa[tu,p]using dn.start c.out⟩
theorem mD(g:Nat)(v:Value)(l:List UInt8)(f:Int)(s:ByteArray)(w:World)(h:Wr w g v l f)(A:l.length≤1099511627776)(D:s.size≤140737488351232):
  Calls Tryz.prog 65 #[.pointer (some ⟨g,0,none⟩), .string s] w (zo w g v (tw (l,f) (aQ s))):=by
 obtain⟨i0,z,m,n,o⟩:=info_parts se;have b:=af h;have r:w.cell? ⟨g,0,none⟩=some v:=h.aE.cell 0;have t:w.cell? ⟨g,1,none⟩=some (.int .i64 f):=h.aE.cell 1;have x:=h.aE.frozen 1;clear h;by_cases i:f=0
 ·subst i;by_cases c:16777216<s.size;·go_enter Tryz.func65,Tryz.ntmps65;go_wp2_with fail;refine(iz g v 0 _ b.out.aE true rfl).mono ?_;rintro e w1⟨rfl,rfl⟩;go_wp2;go_end0;exact⟨rfl,v,by rw[Ga _ _ c];exact dn.fail b.out 5⟩
  ·go_enter Tryz.func65,Tryz.ntmps65;go_wp2_with fail;refine(iz g v 0 _ b.out.aE true rfl).mono ?_;rintro e w1⟨rfl,rfl⟩;go_wp2_with fail;refine(ma v l s.size _ b.out.own A (by omega)).mono ?_;rintro e w2⟨v2,rfl,a⟩;have p:=af a;clear a;go_wp2_with(at_builtin;refine mE _ rfl _ _ 61 9 rfl 5 i0 Tryz.underlying61 Tryz.underlying9 z m n o _ _ _ rfl p.out.own s rfl ?zA ?_);case zA=>have:=aU s.size;simp;omega
   intro v3 w3 d;have a:iH w v w3 v3 (l++(enc s.size++aQ s)):=by
    have:=p.out.trans d;rw[Ao]at this;simpa[iH,aK,Nat.add_assoc]using this
   clear d;obtain⟨B,E,C,rfl,_,_⟩:=aG a.own;have q:=af (dn.store b.out a);have y:w3.frozen? ⟨g,0,none⟩=false:=(aq.fr b.out.aE a.fr (fun k=>bM b.out.own b.out.aE (by decide) k)).frozen 0;have u:w3.cell? ⟨g,0,none⟩=some v:=(aq.fr b.out.aE a.fr (fun k=>bM b.out.own b.out.aE (by decide) k)).cell 0;clear a;go_wp2;go_end0;exact⟨rfl,_,by rw[ji _ _ c];exact q.out⟩
 ·have j:(f==0)=false:=jt i;go_enter Tryz.func65,Tryz.ntmps65;go_wp2_with fail;refine(iz g v f _ b.out.aE false j).mono ?_;rintro e w1⟨rfl,rfl⟩;go_wp2;go_end0;exact⟨rfl,v,by simpa[tw,i]using dn.start b.out⟩
theorem oX.rd{w:World}{A:Option Addr}{n c:Nat}{l:List UInt8}(h:oX w (.slice A n c) l)(a:n=l.length):Rd w (oe (.slice A n c)) 1 A n (l.map bv):=by
 subst a;exact Rd.gR h
def Ni(w:World)(e:Ending)(w':World):Prop:=e= .returned (.pointer (some ⟨w.heap.size,0,none⟩))∧Wr w' w.heap.size (.slice none 0 0) [] 0∧Fr ag w w'
theorem lX(w:World):Calls Tryz.prog 61 #[] w (Ni w):=by
 go_enter Tryz.func61,Tryz.ntmps61;go_wp2;go_ret;exact⟨rfl,⟨aq.new _ _ _,World.ownsRow_nil _ _ _ _⟩,az.alloc _⟩
def uT(w:World)(l:List UInt8)(f:Int)(e:Ending)(w':World):Prop:=
 (f≠0→e= .returned (.tuple #[.slice none 0 0, .int .i64 f])∧Fr ag w w')∧(f=0→JJ w (.slice none 0 0) l 0 e w')
theorem nd(g:Nat)(v:Value)(l:List UInt8)(f:Int)(w:World)(h:Wr w g v l f)(q:l.length≤1099511627776):
  Calls Tryz.prog 103 #[.pointer (some ⟨g,0,none⟩)] w (uT w l f):=by
 have n:w.cell? ⟨g,0,none⟩=some v:=h.aE.cell 0;have o:w.cell? ⟨g,1,none⟩=some (.int .i64 f):=h.aE.cell 1;obtain⟨i,r,m,rfl,c,_⟩:=aG h.own;have k:=af h;clear h;by_cases b:f=0;·subst b;go_enter Tryz.func103,Tryz.ntmps103;go_wp2_with fail;have d:=oX.rd k.out.own c.out;refine(uW i r m l _ _ d (by rw[c.out];exact q)).mono ?_;rintro e w2⟨v2,rfl,a⟩;have j:=af a;clear a d;go_wp2;go_ret2;exact⟨fun h=>absurd rfl h,fun _=>⟨_,rfl,j.out⟩⟩
 ·have p:(f !=0)=true:=by rw[bne_iff_ne];exact b
  go_enter Tryz.func103,Tryz.ntmps103;go_wp2;go_quiet(fail);go_wp2;go_ret2;exact⟨fun _=>⟨rfl,az.drewN _⟩,fun h=>absurd h b⟩
end Go.Proofs.YtphjagkehiklkaaGreatDoor
namespace Go.Proofs.YtphjagkehiklkaaGreatDoor
open Go.RowKit
theorem Hr(l:List UInt8):∀(s:ByteArray),(l.map (fun b:UInt8=>(b.toNat:Int))).foldl (fun r n=>r.push (UInt8.ofNat n.toNat)) s=⟨(s.data.toList++l).toArray⟩:=by
 induction l with
 |nil=>intro s;simp
 |cons b l a=>
  intro s;simp only[List.map_cons,List.foldl_cons];rw[a];congr 1;have e:UInt8.ofNat (Int.toNat (b.toNat:Int))=b:=by simp
  rw[e];simp[ByteArray.push]
theorem Je{P:Program}(w:World)(src dst e:TypeId)(q:P.underlying src=some (.slice e))(he:P.underlying e=some (.int .u8))(p:P.underlying dst=some .string)
  (S:Nat→Prop)(A:Option Addr)(n c:Nat)(l:List UInt8)(f:Rd w S 1 A n (l.map bv)):(convert src dst (.slice A n c)).run P w= .ok (.string ⟨l.toArray⟩) w:=by
 rw[run_convert_bytes_string w src dst e A n c q he p];have d:l.length=n:=by simpa using f.1
 rcases A with _|a
 ·have:l=[]:=by
   rcases Nat.eq_zero_or_pos n with h|h;·exact List.eq_nil_of_length_eq_zero (d.trans h)
   ·obtain⟨a,e,_⟩:=f.2 h;cases e
  subst this;rfl
 ·have o:∀j v,(l.map bv)[j]? =some v→w.cell? (a.add j)=some v:=by
   intro j v i;rcases Nat.eq_zero_or_pos n with h|h;·have:l=[]:=List.eq_nil_of_length_eq_zero (d.trans h);subst this;simp at i
   ·obtain⟨k,e,_,m⟩:=f.2 h;injection e with e;subst e;exact m j v i
  have g:=run_loadCells_list (P:=P) w a (l.map bv) o;rw[List.length_map,d]at g;rw[run_bytesToString w a n c (l.map (fun b:UInt8=>(b.toNat:Int))) (by rw[g];simp[bv,Function.comp_def])];rw[Hr];rfl
abbrev kx(w:World)(S:Nat→Prop)(A:Option Addr)(n c:Nat)(l:List UInt8)(a:Rd w S 1 A n (l.map bv)):(convert 61 9 (.slice A n c)).run Tryz.prog w= .ok (.string ⟨l.toArray⟩) w:=
 Je w 61 9 5 Tryz.underlying61 Tryz.underlying5 Tryz.underlying9 S A n c l a
end Go.Proofs.YtphjagkehiklkaaGreatDoor
namespace Go.Proofs.YtphjagkehiklkaaGreatDoor
open Go.RowKit
end Go.Proofs.YtphjagkehiklkaaGreatDoor
namespace Go.Proofs.YtphjagkehiklkaaGreatDoor
open Go.RowKit
structure Rr(w:World)(g:Nat)(S:Nat→Prop)(l:List UInt8)(p:Nat)(f:Int):Prop where
 ex:∃A n c,aq w g 193 #[.slice A n c, .int .i64 p, .int .i64 f]∧Rd w S 1 A n (l.map bv)∧n≤c
 cN:¬S g
 small:p+l.length≤1099511627776
def eN(g:Nat):Nat→Prop:=fun k=>k=g
structure gP(w:World)(g:Nat)(S:Nat→Prop)(w':World)(l:List UInt8)(p:Nat)(f:Int):Prop where
 rr:Rr w' g S l p f
 fr:Fr (eN g) w w'
theorem Rr.lA{w w':World}{g:Nat}{S T:Nat→Prop}{l:List UInt8}{p:Nat}{f:Int}(h:Rr w g S l p f)(e:Fr T w w')(i:¬T g)(j:∀k,S k→¬T k):Rr w' g S l p f:=by
 obtain⟨⟨A,n,c,m,o,b⟩,a,d⟩:=h;exact⟨⟨A,n,c,m.fr e i,o.fr e j,b⟩,a,d⟩
theorem Rr.lg{w w':World}{g:Nat}{S:Nat→Prop}{l:List UInt8}{p:Nat}{f:Int}(h:Rr w g S l p f)(a:Fr ag w w'):Rr w' g S l p f:=h.lA a (fun x=>x) (fun _ _ x=>x)
theorem gP.fail{w:World}{g:Nat}{S:Nat→Prop}{l:List UInt8}{p:Nat}{f:Int}(h:Rr w g S l p f)(e:Int):gP w g S (w.setCell ⟨g,2,none⟩ (.int .i64 e)) l p e:=by
 obtain⟨⟨A,n,c,j,o,b⟩,a,d⟩:=h;have i:Fr (eN g) w (w.setCell ⟨g,2,none⟩ (.int .i64 e)):=(Fr.refl (eN g) _).setCell (p:=⟨g,2,none⟩) (fun _=>(rfl:eN g g)) _;exact⟨⟨⟨A,n,c,by simpa using j.j7 2 (.int .i64 e),o.fr i (fun k m e=>a (e▸m)),b⟩,a,d⟩,i⟩
theorem Rd.MS{w:World}{S:Nat→Prop}{A:Option Addr}{n k c:Nat}{l:List UInt8}(h:Rd w S 1 A n (l.map bv))(b:k≤n)(a:n≤c):
  Rd w S 1 (if c=k then A else A.map (·.add k)) (n-k) ((l.drop k).map bv):=by
 have:=h.cut b a;rw[Nat.mul_one,←List.map_drop]at this;exact this
theorem gP.read{w:World}{g:Nat}{S:Nat→Prop}{l:List UInt8}{p:Nat}{A:Option Addr}{n c size:Nat}(q:aq w g 193 #[.slice A n c, .int .i64 p, .int .i64 0])(m:Rd w S 1 A n (l.map bv))(h:n≤c)(a:¬S g)(u:p+l.length≤1099511627776)(v:size≤l.length)
  {b:Option Addr}{i d:Nat}(o:b=if c=size then A else A.map (·.add size))(t:i=n-size)(f:d=c-size):
  gP w g S ((w.setCell ⟨g,0,none⟩ (.slice b i d)).setCell ⟨g,1,none⟩ (.int .i64 ((p:Int)+(size:Int)))) (l.drop size) (p+size) 0:=by
 have s:l.length=n:=by simpa using m.1
 have j:Fr (eN g) w ((w.setCell ⟨g,0,none⟩ (.slice b i d)).setCell ⟨g,1,none⟩ (.int .i64 ((p:Int)+(size:Int)))):=((Fr.refl (eN g) _).setCell (p:=⟨g,0,none⟩) (fun _=>(rfl:eN g g)) _).setCell (p:=⟨g,1,none⟩) (fun _=>(rfl:eN g g)) _;subst o t f;refine⟨⟨⟨_,_,_,by simpa[Int.natCast_add]using(q.j7 0 (.slice (if c=size then A else A.map (·.add size)) (n-size) (c-size))).j7 1 (.int .i64 ((p:Int)+(size:Int))),(m.MS (by omega) h).fr j (fun k r e=>a (e▸r)),by omega⟩,a,by simp;omega⟩,j⟩
def qc(w:World)(g:Nat)(S:Nat→Prop)(l:List UInt8)(p:Nat)(val zero:Value)(size:Nat)(e:Int)(a:Ending)(w':World):Prop:=
 (e≠0→a= .returned zero∧gP w g S w' l p e)∧(e=0→a= .returned val∧gP w g S w' (l.drop size) (p+size) 0)
theorem Da(g:Nat)(S:Nat→Prop)(l:List UInt8)(p:Nat)(a:Nat)(b:Array Value)(w:World)(h:Rr w g S l p 0)
  (x:Int)(size:Nat)(e:Int)(G:size≤l.length)(q:∀args w,(callFunc a args).run Tryz.prog w= .ok (.enter a args) w)
  (t:∀A n c,Rd w S 1 A n (l.map bv)→n≤c→Calls Tryz.prog a (#[.slice A n c]++b) w fun o w'=>o= .returned (.tuple #[.int .i64 x, .int .i64 size, .int .i64 e])∧w=w'):
  Calls Tryz.prog 148 #[.pointer (some ⟨g,0,none⟩), .func (.func a) #[] b] w (qc w g S l p (.int .i64 x) (.int .i64 0) size e):=by
 obtain⟨⟨A,n,c,d,m,i⟩,f,k⟩:=h;have j:l.length=n:=by simpa using m.1
 have v:w.cell? ⟨g,0,none⟩=some (.slice A n c):=d.cell 0;have y:w.cell? ⟨g,1,none⟩=some (.int .i64 p):=d.cell 1;have z:w.cell? ⟨g,2,none⟩=some (.int .i64 0):=d.cell 2;have C:=d.frozen 0;have D:=d.frozen 1;have E:=d.frozen 2;have r:=af (t A n c m i);have HB:=af d;have s:=af m;have H:size≤n:=by omega
 have F:p+n≤1099511627776:=by omega
 have I:=af j;clear t d m j;by_cases he:e=0
 ·subst he;go_enter Tryz.func148,Tryz.ntmps148;go_wp2_with fail;refine r.out.mono ?_;rintro o w1⟨rfl,rfl⟩;go_wp2;all_goals
   go_ret;refine⟨fun h=>absurd rfl h,fun _=>⟨rfl,?_⟩⟩;exact gP.read HB.out s.out i f k G (by first|rw[if_pos ‹_›]|rw[if_neg ‹_›]) rfl (by omega)
 ·have B:(e !=0)=true:=by rw[bne_iff_ne];exact he
  have u:=af he;clear he;go_enter Tryz.func148,Tryz.ntmps148;go_wp2_with fail;refine r.out.mono ?_;rintro o w1⟨rfl,rfl⟩;go_wp2;go_ret;exact⟨fun _=>⟨rfl,gP.fail ⟨⟨A,n,c,HB.out,s.out,i⟩,f,k⟩ e⟩,fun h=>absurd h u.out⟩
theorem Ag(g:Nat)(S:Nat→Prop)(l:List UInt8)(p:Nat)(f:Int)(i:Value)(w:World)(h:Rr w g S l p f)(b:f≠0):
  Calls Tryz.prog 148 #[.pointer (some ⟨g,0,none⟩),i] w fun e w'=>e= .returned (.int .i64 0)∧w=w':=by
 obtain⟨⟨A,n,c,a,o,m⟩,d,q⟩:=h;have j:w.cell? ⟨g,2,none⟩=some (.int .i64 f):=a.cell 2;have k:(f !=0)=true:=by rw[bne_iff_ne];exact b
 clear a o b;go_enter Tryz.func148,Tryz.ntmps148;go_wp2;go_ret;exact⟨rfl,rfl⟩
theorem Af(g:Nat)(S:Nat→Prop)(l:List UInt8)(p:Nat)(a:Nat)(b:Array Value)(w:World)(h:Rr w g S l p 0)
  (x:Bool)(size:Nat)(e:Int)(G:size≤l.length)(q:∀args w,(callFunc a args).run Tryz.prog w= .ok (.enter a args) w)
  (t:∀A n c,Rd w S 1 A n (l.map bv)→n≤c→Calls Tryz.prog a (#[.slice A n c]++b) w fun o w'=>o= .returned (.tuple #[.bool x, .int .i64 size, .int .i64 e])∧w=w'):
  Calls Tryz.prog 155 #[.pointer (some ⟨g,0,none⟩), .func (.func a) #[] b] w (qc w g S l p (.bool x) (.bool false) size e):=by
 obtain⟨⟨A,n,c,d,m,i⟩,f,k⟩:=h;have j:l.length=n:=by simpa using m.1
 have v:w.cell? ⟨g,0,none⟩=some (.slice A n c):=d.cell 0;have y:w.cell? ⟨g,1,none⟩=some (.int .i64 p):=d.cell 1;have z:w.cell? ⟨g,2,none⟩=some (.int .i64 0):=d.cell 2;have C:=d.frozen 0;have D:=d.frozen 1;have E:=d.frozen 2;have r:=af (t A n c m i);have HB:=af d;have s:=af m;have H:size≤n:=by omega
 have F:p+n≤1099511627776:=by omega
 have I:=af j;clear t d m j;by_cases he:e=0
 ·subst he;go_enter Tryz.func155,Tryz.ntmps155;go_wp2_with fail;refine r.out.mono ?_;rintro o w1⟨rfl,rfl⟩;go_wp2;all_goals
   go_ret;refine⟨fun h=>absurd rfl h,fun _=>⟨rfl,?_⟩⟩;exact gP.read HB.out s.out i f k G (by first|rw[if_pos ‹_›]|rw[if_neg ‹_›]) rfl (by omega)
 ·have B:(e !=0)=true:=by rw[bne_iff_ne];exact he
  have u:=af he;clear he;go_enter Tryz.func155,Tryz.ntmps155;go_wp2_with fail;refine r.out.mono ?_;rintro o w1⟨rfl,rfl⟩;go_wp2;go_ret;exact⟨fun _=>⟨rfl,gP.fail ⟨⟨A,n,c,HB.out,s.out,i⟩,f,k⟩ e⟩,fun h=>absurd h u.out⟩
theorem xX(g:Nat)(S:Nat→Prop)(l:List UInt8)(p:Nat)(f:Int)(i:Value)(w:World)(h:Rr w g S l p f)(b:f≠0):
  Calls Tryz.prog 155 #[.pointer (some ⟨g,0,none⟩),i] w fun e w'=>e= .returned (.bool false)∧w=w':=by
 obtain⟨⟨A,n,c,a,o,m⟩,d,q⟩:=h;have j:w.cell? ⟨g,2,none⟩=some (.int .i64 f):=a.cell 2;have k:(f !=0)=true:=by rw[bne_iff_ne];exact b
 clear a o b;go_enter Tryz.func155,Tryz.ntmps155;go_wp2;go_ret;exact⟨rfl,rfl⟩
theorem xn(g:Nat)(S:Nat→Prop)(l:List UInt8)(p:Nat)(a:Nat)(b:Array Value)(w:World)(h:Rr w g S l p 0)
  (x:ByteArray)(size:Nat)(e:Int)(G:size≤l.length)(q:∀args w,(callFunc a args).run Tryz.prog w= .ok (.enter a args) w)
  (t:∀A n c,Rd w S 1 A n (l.map bv)→n≤c→Calls Tryz.prog a (#[.slice A n c]++b) w fun o w'=>o= .returned (.tuple #[.string x, .int .i64 size, .int .i64 e])∧w=w'):
  Calls Tryz.prog 145 #[.pointer (some ⟨g,0,none⟩), .func (.func a) #[] b] w (qc w g S l p (.string x) (.string ⟨#[]⟩) size e):=by
 obtain⟨⟨A,n,c,d,m,i⟩,f,k⟩:=h;have j:l.length=n:=by simpa using m.1
 have v:w.cell? ⟨g,0,none⟩=some (.slice A n c):=d.cell 0;have y:w.cell? ⟨g,1,none⟩=some (.int .i64 p):=d.cell 1;have z:w.cell? ⟨g,2,none⟩=some (.int .i64 0):=d.cell 2;have C:=d.frozen 0;have D:=d.frozen 1;have E:=d.frozen 2;have r:=af (t A n c m i);have HB:=af d;have s:=af m;have H:size≤n:=by omega
 have F:p+n≤1099511627776:=by omega
 have I:=af j;clear t d m j;by_cases he:e=0
 ·subst he;go_enter Tryz.func145,Tryz.ntmps145;go_wp2_with fail;refine r.out.mono ?_;rintro o w1⟨rfl,rfl⟩;go_wp2;all_goals
   go_ret;refine⟨fun h=>absurd rfl h,fun _=>⟨rfl,?_⟩⟩;exact gP.read HB.out s.out i f k G (by first|rw[if_pos ‹_›]|rw[if_neg ‹_›]) rfl (by omega)
 ·have B:(e !=0)=true:=by rw[bne_iff_ne];exact he
  have u:=af he;clear he;go_enter Tryz.func145,Tryz.ntmps145;go_wp2_with fail;refine r.out.mono ?_;rintro o w1⟨rfl,rfl⟩;go_wp2;go_ret;exact⟨fun _=>⟨rfl,gP.fail ⟨⟨A,n,c,HB.out,s.out,i⟩,f,k⟩ e⟩,fun h=>absurd h u.out⟩
theorem uA(g:Nat)(S:Nat→Prop)(l:List UInt8)(p:Nat)(f:Int)(i:Value)(w:World)(h:Rr w g S l p f)(b:f≠0):
  Calls Tryz.prog 145 #[.pointer (some ⟨g,0,none⟩),i] w fun e w'=>e= .returned (.string ⟨#[]⟩)∧w=w':=by
 obtain⟨⟨A,n,c,a,o,m⟩,d,q⟩:=h;have j:w.cell? ⟨g,2,none⟩=some (.int .i64 f):=a.cell 2;have k:(f !=0)=true:=by rw[bne_iff_ne];exact b
 clear a o b;go_enter Tryz.func145,Tryz.ntmps145;go_wp2;go_ret;exact⟨rfl,rfl⟩
end Go.Proofs.YtphjagkehiklkaaGreatDoor
namespace Go.Proofs.YtphjagkehiklkaaGreatDoor
open Go.RowKit
def bj(aP:Int)(l:List UInt8):Int×Nat×Int:=((pn l 9).1,(pn l 9).2.1,if(pn l 9).2.2=0∧aP<((pn l 9).1:Int)then 2 else((pn l 9).2.2:Nat))
def cZ(l:List UInt8):Bool×Nat×Int:=if l.length=0 then(false,0,28)else if 1<(l[0]?.getD 0).toNat then(false,0,3)else((l[0]?.getD 0).toNat==1,1,0)
def cu(aP:Int)(l:List UInt8):List UInt8×Nat×Int:=
 if(pn l 9).2.2≠0 then([],0,((pn l 9).2.2:Nat))
 else if aP<((pn l 9).1:Int)∨16777216<(pn l 9).1 then([],0,5)
 else if l.length<(pn l 9).2.1+(pn l 9).1 then([],0,28)
 else((l.drop (pn l 9).2.1).take (pn l 9).1,(pn l 9).2.1+(pn l 9).1,0)
def aO{α:Type}(zero:α)(parse:List UInt8→α×Nat×Int)(st:List UInt8×Nat×Int):α×(List UInt8×Nat×Int):=
 if st.2.2≠0 then(zero,st)else if(parse st.1).2.2≠0 then(zero,(st.1,st.2.1,(parse st.1).2.2))else((parse st.1).1,(st.1.drop (parse st.1).2.1,st.2.1+(parse st.1).2.1,0))
def j9(w:World)(g:Nat)(S:Nat→Prop)(v:Value)(st:List UInt8×Nat×Int)(a:Ending)(w':World):Prop:=a= .returned v∧gP w g S w' st.1 st.2.1 st.2.2
theorem j9.ok{α:Type}{w w1:World}{g:Nat}{S:Nat→Prop}{l:List UInt8}{p:Nat}(zero:α)(parse:List UInt8→α×Nat×Int)(V:α→Value){d:Ending}{w':World}(i:Fr ag w w1)(f:g<w.heap.size)
  (h:qc w1 g S l p (V (parse l).1) (V zero) (parse l).2.1 (parse l).2.2 d w'):j9 w g S (V (aO zero parse (l,p,0)).1) (aO zero parse (l,p,0)).2 d w':=by
 have b:∀{w2:World},Fr (eN g) w1 w2→Fr (eN g) w w2:=fun h=>(i.bO).trans h;by_cases he:(parse l).2.2=0
 ·obtain⟨c,a⟩:=h.2 he;have e:aO zero parse (l,p,0)=((parse l).1,(l.drop (parse l).2.1,p+(parse l).2.1,0)):=by simp[aO,he]
  rw[e];exact⟨c,a.rr,b a.fr⟩
 ·obtain⟨c,a⟩:=h.1 he;have e:aO zero parse (l,p,0)=(zero,(l,p,(parse l).2.2)):=by simp[aO,he]
  rw[e];exact⟨c,a.rr,b a.fr⟩
theorem j9.bad{α:Type}{w w1:World}{g:Nat}{S:Nat→Prop}{l:List UInt8}{p:Nat}{f:Int}(zero:α)(parse:List UInt8→α×Nat×Int)(V:α→Value){b:Ending}(c:Fr ag w w1)(h:Rr w g S l p f)(a:f≠0)(he:b= .returned (V zero)):
  j9 w g S (V (aO zero parse (l,p,f)).1) (aO zero parse (l,p,f)).2 b w1:=by
 have e:aO zero parse (l,p,f)=(zero,(l,p,f)):=by simp[aO,a]
 rw[e];exact⟨he,h.lg c,c.bO⟩
theorem Rr.lt{w:World}{g:Nat}{S:Nat→Prop}{l:List UInt8}{p:Nat}{f:Int}(h:Rr w g S l p f):g<w.heap.size:=by
 obtain⟨⟨_,_,_,a,_⟩,_⟩:=h;exact a.lt
theorem Bc:∀args w,(callFunc 149 args).run Tryz.prog w= .ok (.enter 149 args) w:=fun _ _=>by kernel_rfl
theorem Hw:∀args w,(callFunc 156 args).run Tryz.prog w= .ok (.enter 156 args) w:=fun _ _=>by kernel_rfl
theorem Hy:∀args w,(callFunc 146 args).run Tryz.prog w= .ok (.enter 146 args) w:=fun _ _=>by kernel_rfl
theorem zk(A:Option Addr)(n c b:Nat)(l:List UInt8)(aP:Int)(w:World)(S:Nat→Prop)(k:Rd w S 1 A n (l.map bv))(o:n≤1099511627776)(p:w.cell? ⟨b,0,none⟩=some (.int .i64 aP)):
  Calls Tryz.prog 149 #[.slice A n c, .pointer (some ⟨b,0,none⟩)] w fun e w'=>e= .returned (.tuple #[.int .i64 (bj aP l).1, .int .i64 ((bj aP l).2.1:Nat), .int .i64 (bj aP l).2.2])∧w=w':=by
 have d:=tM A n c l w S k o;have i:=Ac l;have f:(pn l 9).2.2=0∨(pn l 9).2.2≠0:=by omega
 unfold bj;generalize(pn l 9).1=m at d i f⊢;generalize(pn l 9).2.1=a2 at d f⊢;generalize(pn l 9).2.2=a3 at d f⊢;have g:=af d;clear d k;rcases f with rfl|a
 ·by_cases hm:aP<(m:Int);·rw[if_pos ⟨rfl,hm⟩];go_enter Tryz.func149,Tryz.ntmps149;go_wp2_with fail;refine g.out.mono ?_;rintro e w1⟨rfl,rfl⟩;go_wp2;go_ret3;exact⟨rfl,rfl⟩
  ·rw[if_neg (fun h=>hm h.2)];go_enter Tryz.func149,Tryz.ntmps149;go_wp2_with fail;refine g.out.mono ?_;rintro e w1⟨rfl,rfl⟩;go_wp2;go_ret3;exact⟨rfl,rfl⟩
 ·have j:((a3:Int)==0)=false:=jt (by omega);rw[if_neg (fun h=>a h.1)];clear a;go_enter Tryz.func149,Tryz.ntmps149;go_wp2_with fail;refine g.out.mono ?_;rintro e w1⟨rfl,rfl⟩;go_wp2;go_ret3;exact⟨rfl,rfl⟩
theorem Dv(A:Option Addr)(n c:Nat)(l:List UInt8)(w:World)(S:Nat→Prop)(g:Rd w S 1 A n (l.map bv))(q:n≤1099511627776):
  Calls Tryz.prog 156 #[.slice A n c] w fun e w'=>e= .returned (.tuple #[.bool (cZ l).1, .int .i64 ((cZ l).2.1:Nat), .int .i64 (cZ l).2.2])∧w=w':=by
 have o:l.length=n:=by simpa using g.1
 rw[show cZ l=if n=0 then(false,0,28)else if 1<(l[0]?.getD 0).toNat then(false,0,3)else((l[0]?.getD 0).toNat==1,1,0)by unfold cZ;rw[o]];clear o;by_cases f:n=0;·rw[if_pos f];subst f;clear g;go_enter Tryz.func156,Tryz.ntmps156;go_wp2;go_ret3;exact⟨rfl,rfl⟩
 ·rw[if_neg f];have r:((n:Int)==0)=false:=jt (by omega);have d:0<n:=by omega
  have i:(0:Int)<(n:Int):=by omega
  obtain⟨p,rfl,m⟩:=g.byte d;have h:w.cell? p=some (.int .u8 ((l[0]?.getD 0).toNat:Int)):=by simpa[Addr.add]using m
  clear g m f;generalize(l[0]?.getD 0).toNat=b at h⊢;by_cases k:1<b;·rw[if_pos k];go_enter Tryz.func156,Tryz.ntmps156;go_wp2;go_ret3;exact⟨rfl,rfl⟩
  ·rw[if_neg k];have a:(b==1)=((b:Int)==1):=by
    by_cases j:b=1;·subst j;rfl
    ·rw[beq_eq_false_iff_ne.2 j,jt (by omega)]
   rw[a];clear a;go_enter Tryz.func156,Tryz.ntmps156;go_wp2;go_ret3;exact⟨rfl,rfl⟩
theorem Ld{w:World}{S:Nat→Prop}{A:Option Addr}{n c a m:Nat}{l:List UInt8}(j:Rd w S 1 A n (l.map bv))(h:a+m≤n)(i:n≤c)(b:Option Addr)(g:b=if c=a then A else A.map (·.add a))(d:Nat):
  (convert 61 9 (.slice b m d)).run Tryz.prog w= .ok (.string ⟨((l.drop a).take m).toArray⟩) w:=by
 subst g;have f:=j.MS (k:=a) (by omega) i;have e:=f.take (k:=m) (by omega);rw[Nat.mul_one,←List.map_take]at e;exact kx w S _ m d _ e
theorem DS(A:Option Addr)(n c b:Nat)(l:List UInt8)(aP:Int)(w:World)(S:Nat→Prop)(q:Rd w S 1 A n (l.map bv))(y:n≤1099511627776)(v:n≤c)(z:w.cell? ⟨b,0,none⟩=some (.int .i64 aP)):
  Calls Tryz.prog 146 #[.slice A n c, .pointer (some ⟨b,0,none⟩)] w fun e w'=>e= .returned (.tuple #[.string ⟨(cu aP l).1.toArray⟩, .int .i64 ((cu aP l).2.1:Nat), .int .i64 (cu aP l).2.2])∧w=w':=by
 have j:=tM A n c l w S q y;have s:=Ac l;have k:=(Cv l 9 (by omega)).2;have i:l.length=n:=by simpa using q.1
 have o:=af (fun a m h=>Ld (a:=a) (m:=m) q h v);unfold cu;generalize(pn l 9).1=f at j s⊢;generalize(pn l 9).2.1=a2 at j k⊢;generalize(pn l 9).2.2=a3 at j⊢;rw[i]at k⊢;have d:=af j;clear j q i;by_cases p:a3≠0
 ·rw[if_pos p];have x:((a3:Int)!=0)=true:=by rw[bne_iff_ne];omega
  clear p;go_enter Tryz.func146,Tryz.ntmps146;go_wp2_with fail;refine d.out.mono ?_;rintro e w1⟨rfl,rfl⟩;go_wp2;go_ret3;exact⟨rfl,rfl⟩
 ·rw[if_neg p];have r:a3=0:=by omega
  subst r;clear p;by_cases hm:aP<(f:Int);·rw[if_pos (.inl hm)];go_enter Tryz.func146,Tryz.ntmps146;go_wp2_with fail;refine d.out.mono ?_;rintro e w1⟨rfl,rfl⟩;go_wp2;go_ret3;exact⟨rfl,rfl⟩
  ·by_cases u:16777216<f;·rw[if_pos (.inr u)];go_enter Tryz.func146,Tryz.ntmps146;go_wp2_with fail;refine d.out.mono ?_;rintro e w1⟨rfl,rfl⟩;go_wp2;go_ret3;exact⟨rfl,rfl⟩
   ·rw[if_neg (by omega)];by_cases hlen:n<a2+f;·rw[if_pos hlen];go_enter Tryz.func146,Tryz.ntmps146;go_wp2_with fail;refine d.out.mono ?_;rintro e w1⟨rfl,rfl⟩;go_wp2;go_ret3;exact⟨rfl,rfl⟩
    ·rw[if_neg hlen];by_cases g:c=a2;·subst g;have t:=o.out c f (by omega) A (by simp) 0;clear o;go_enter Tryz.func146,Tryz.ntmps146;go_wp2_with fail;refine d.out.mono ?_;rintro e w1⟨rfl,rfl⟩;go_wp2;go_ret3;exact⟨rfl,rfl⟩
     ·have t:=o.out a2 f (by omega) (A.map (·.add a2)) (by rw[if_neg g]) (c-a2);clear o;go_enter Tryz.func146,Tryz.ntmps146;go_wp2_with fail;refine d.out.mono ?_;rintro e w1⟨rfl,rfl⟩;go_wp2;go_ret3;exact⟨rfl,rfl⟩
theorem xW(aP:Int)(l:List UInt8):(bj aP l).2.1≤l.length:=(Cv l 9 (by omega)).2
theorem Cr(l:List UInt8):(cZ l).2.1≤l.length:=by
 unfold cZ;repeat' split
 all_goals simp only
 all_goals omega
theorem Cs(aP:Int)(l:List UInt8):(cu aP l).2.1≤l.length:=by
 unfold cu;repeat' split
 all_goals simp only
 all_goals omega
theorem Rr.Ky{w:World}{g:Nat}{S:Nat→Prop}{l:List UInt8}{p:Nat}{f:Int}(h:Rr w g S l p f){A:Option Addr}{n:Nat}{w':World}(a:Rd w' S 1 A n (l.map bv)):n≤1099511627776:=by
 have:=a.1;have:=h.small;simp at*;omega
theorem yp(x y:Value):(#[x]++#[y]:Array Value)=#[x,y]:=rfl
theorem Hq(x:Value):(#[x]++#[]:Array Value)=#[x]:=rfl
def tV(l:List UInt8):Value:= .string ⟨l.toArray⟩
theorem kG(g:Nat)(S:Nat→Prop)(l:List UInt8)(p:Nat)(f:Int)(aP:Int)(w:World)(h:Rr w g S l p f):
  Calls Tryz.prog 107 #[.pointer (some ⟨g,0,none⟩), .int .i64 aP] w (j9 w g S (Value.int .i64 (aO 0 (bj aP) (l,p,f)).1) (aO 0 (bj aP) (l,p,f)).2):=by
 have a:=af h;clear h;have b:=af ((Fr.refl ag w).alloc (.cells #[.int .i64 aP] 3));by_cases i:f=0
 ·subst i;go_enter Tryz.func107,Tryz.ntmps107;go_wp2_with fail;have d:Hid (∀A n c,Rd (w.alloc (.cells #[.int .i64 aP] 3)) S 1 A n (l.map bv)→n≤c→Calls Tryz.prog 149 (#[.slice A n c]++#[.pointer (some ⟨w.heap.size,0,none⟩)]) (w.alloc (.cells #[.int .i64 aP] 3)) fun q w'=>q= .returned (.tuple #[.int .i64 (bj aP l).1, .int .i64 ((bj aP l).2.1:Nat), .int .i64 (bj aP l).2.2])∧w.alloc (.cells #[.int .i64 aP] 3)=w'):=by
   intro A n c o r;rw[yp];exact zk A n c w.heap.size l aP _ S o (a.out.Ky o) ((aq.new w _ _).cell 0)
  refine(Da g S l p 149 #[.pointer (some ⟨w.heap.size,0,none⟩)] (w.alloc (.cells #[.int .i64 aP] 3)) (a.out.lg b.out) (bj aP l).1 (bj aP l).2.1 (bj aP l).2.2 (xW aP l) Bc d.out).mono ?_;rintro e w1 m;have k:=af (j9.ok 0 (bj aP) (Value.int .i64) b.out a.out.lt m);obtain⟨rfl,_⟩:=k.out;clear m;go_wp2;go_ret;exact k.out
 ·have j:=af i;clear i;go_enter Tryz.func107,Tryz.ntmps107;go_wp2_with fail;refine(Ag g S l p f _ _ (a.out.lg b.out) j.out).mono ?_;rintro e w1⟨rfl,rfl⟩;go_wp2;go_ret;exact j9.bad 0 (bj aP) (Value.int .i64) b.out a.out j.out rfl
theorem oN(g:Nat)(S:Nat→Prop)(l:List UInt8)(p:Nat)(f:Int)(aP:Int)(w:World)(h:Rr w g S l p f):
  Calls Tryz.prog 104 #[.pointer (some ⟨g,0,none⟩), .int .i64 aP] w (j9 w g S (tV (aO [] (cu aP) (l,p,f)).1) (aO [] (cu aP) (l,p,f)).2):=by
 have a:=af h;clear h;have b:=af ((Fr.refl ag w).alloc (.cells #[.int .i64 aP] 3));by_cases i:f=0
 ·subst i;go_enter Tryz.func104,Tryz.ntmps104;go_wp2_with fail;have d:Hid (∀A n c,Rd (w.alloc (.cells #[.int .i64 aP] 3)) S 1 A n (l.map bv)→n≤c→Calls Tryz.prog 146 (#[.slice A n c]++#[.pointer (some ⟨w.heap.size,0,none⟩)]) (w.alloc (.cells #[.int .i64 aP] 3)) fun r w'=>r= .returned (.tuple #[.string ⟨(cu aP l).1.toArray⟩, .int .i64 ((cu aP l).2.1:Nat), .int .i64 (cu aP l).2.2])∧w.alloc (.cells #[.int .i64 aP] 3)=w'):=by
   intro A n c q j;rw[yp];exact DS A n c w.heap.size l aP _ S q (a.out.Ky q) j ((aq.new w _ _).cell 0)
  refine(xn g S l p 146 #[.pointer (some ⟨w.heap.size,0,none⟩)] (w.alloc (.cells #[.int .i64 aP] 3)) (a.out.lg b.out) ⟨(cu aP l).1.toArray⟩ (cu aP l).2.1 (cu aP l).2.2 (Cs aP l) Hy d.out).mono ?_;rintro e w1 o;have m:=af (j9.ok [] (cu aP) tV b.out a.out.lt o);obtain⟨rfl,_⟩:=m.out;clear o;go_wp2;go_ret;exact m.out
 ·have k:=af i;clear i;go_enter Tryz.func104,Tryz.ntmps104;go_wp2_with fail;refine(uA g S l p f _ _ (a.out.lg b.out) k.out).mono ?_;rintro e w1⟨rfl,rfl⟩;go_wp2;go_ret;exact j9.bad [] (cu aP) tV b.out a.out k.out rfl
theorem Fj(g:Nat)(S:Nat→Prop)(l:List UInt8)(p:Nat)(f:Int)(w:World)(h:Rr w g S l p f):
  Calls Tryz.prog 119 #[.pointer (some ⟨g,0,none⟩)] w (j9 w g S (Value.bool (aO false cZ (l,p,f)).1) (aO false cZ (l,p,f)).2):=by
 have a:=af h;clear h;by_cases d:f=0
 ·subst d;go_enter Tryz.func119,Tryz.ntmps119;go_wp2_with fail;have b:Hid (∀A n c,Rd w S 1 A n (l.map bv)→n≤c→Calls Tryz.prog 156 (#[.slice A n c]++#[]) w fun o w'=>o= .returned (.tuple #[.bool (cZ l).1, .int .i64 ((cZ l).2.1:Nat), .int .i64 (cZ l).2.2])∧w=w'):=by
   intro A n c m q;rw[Hq];exact Dv A n c l _ S m (a.out.Ky m)
  refine(Af g S l p 156 #[] w a.out (cZ l).1 (cZ l).2.1 (cZ l).2.2 (Cr l) Hw b.out).mono ?_;rintro e w1 k;have j:=af (j9.ok false cZ Value.bool az a.out.lt k);obtain⟨rfl,_⟩:=j.out;clear k;go_wp2;go_ret;exact j.out
 ·have i:=af d;clear d;go_enter Tryz.func119,Tryz.ntmps119;go_wp2_with fail;refine(xX g S l p f _ _ a.out i.out).mono ?_;rintro e w1⟨rfl,rfl⟩;go_wp2;go_ret;exact j9.bad false cZ Value.bool az a.out i.out rfl
def Ng(w:World)(l:List UInt8)(e:Ending)(w':World):Prop:=∃g S,e= .returned (.pointer (some ⟨g,0,none⟩))∧Rr w' g S l 0 0∧Fr ag w w'∧w.heap.size≤g∧∀k,S k→w.heap.size≤k∧k<w'.heap.size
theorem pk(A:Option Addr)(n c:Nat)(l:List UInt8)(w:World)(S:Nat→Prop)(g:Rd w S 1 A n (l.map bv))(r:n≤1099511627776):Calls Tryz.prog 69 #[.slice A n c] w (Ng w l):=by
 have d:l.length=n:=by simpa using g.1
 have p:=af d;have o:=af (uW A n c l w S g r);clear d g;go_enter Tryz.func69,Tryz.ntmps69;go_wp2_with fail;refine o.out.mono ?_;rintro e w1⟨v1,rfl,a⟩;obtain⟨i,n1,j,rfl,H1,f⟩:=aG a.own;have b:=af a;clear a;go_wp2;go_ret;have q:=oX.rd b.out.own H1.out;refine⟨w1.heap.size,oe (.slice i n1 j),rfl,⟨⟨i,n1,j,aq.new _ _ _,q.ao (az.alloc _),f.out⟩,fun h=>?_,?_⟩,b.out.ao.alloc _,b.out.fr.size,fun k m=>⟨b.out.new k m,by have:=(b.out.own.lt _ m).2;simp;omega⟩⟩;·have:=(b.out.own.lt _ h).2;omega
 ·have:=p.out;omega
theorem Fl(g:Nat)(S:Nat→Prop)(l:List UInt8)(p:Nat)(f:Int)(w:World)(h:Rr w g S l p f):
  Calls Tryz.prog 117 #[.pointer (some ⟨g,0,none⟩)] w fun e w'=>e= .returned (.int .i64 (l.length:Nat))∧w=w':=by
 obtain⟨⟨A,n,c,b,i,k⟩,d,m⟩:=h;have a:l.length=n:=by simpa using i.1
 have j:w.cell? ⟨g,0,none⟩=some (.slice A n c):=b.cell 0;rw[a];clear b i a;go_enter Tryz.func117,Tryz.ntmps117;go_wp2;go_ret;exact⟨rfl,rfl⟩
theorem uh(g:Nat)(S:Nat→Prop)(l:List UInt8)(p:Nat)(f:Int)(w:World)(h:Rr w g S l p f):
  Calls Tryz.prog 72 #[.pointer (some ⟨g,0,none⟩)] w fun e w'=>e= .returned (.int .i64 (if f=0 then(if 0<l.length then 5 else 0)else f))∧w=w':=by
 obtain⟨⟨A,n,c,d,k,r⟩,i,s⟩:=h;have a:l.length=n:=by simpa using k.1
 have m:w.cell? ⟨g,0,none⟩=some (.slice A n c):=d.cell 0;have o:w.cell? ⟨g,2,none⟩=some (.int .i64 f):=d.cell 2;rw[a];clear d k a;by_cases b:f=0
 ·subst b;rw[if_pos rfl];by_cases j:0<n;·rw[if_pos j];go_enter Tryz.func72,Tryz.ntmps72;go_wp2;go_ret;exact⟨rfl,rfl⟩
  ·rw[if_neg j];go_enter Tryz.func72,Tryz.ntmps72;go_wp2;go_ret;exact⟨rfl,rfl⟩
 ·rw[if_neg b];have q:(f !=0)=true:=by rw[bne_iff_ne];exact b
  clear b;go_enter Tryz.func72,Tryz.ntmps72;go_wp2;go_ret;exact⟨rfl,rfl⟩
end Go.Proofs.YtphjagkehiklkaaGreatDoor
