/- Texts. -/
import Derived.Test.YtphjagkehiklkaaGreatDoorEK01
set_option linter.unusedVariables false
set_option linter.unusedSimpArgs false
set_option maxRecDepth 100000
set_option maxHeartbeats 1000000
namespace Go.Proofs.YtphjagkehiklkaaGreatDoor
def b8(n:Nat):UInt8:=UInt8.ofNat n
def bv(b:UInt8):Value:= .int .u8 b.toNat
def lead:List UInt8->Nat->Nat
 |[],_=>0
 |_::_,0=>0
 |b::l,m+1=>if 128<=b.toNat then lead l m+1 else 0
def val:List UInt8->Nat
 |[]=>0
 |b::l=>b.toNat%128+128*val l
def pn(l:List UInt8)(m:Nat):Nat×Nat×Nat:=
 let k:=lead l m
 if k=m then(0,0,3)
 else if k=l.length then(0,0,28)
 else if 0<k/\(l[k]?.getD 0).toNat=0 then(0,0,3)
 else if k=9/\1<(l[k]?.getD 0).toNat then(0,0,3)
 else(val (l.take (k+1)),k+1,0)
theorem Bx:∀(l:List UInt8)(m:Nat),lead l m<=m/\lead l m<=l.length
 |[],m=>by simp[lead]
 |b::l,0=>by simp[lead]
 |b::l,m+1=>by
  have:=Bx l m;simp only[lead,List.length_cons];split<;>omega
theorem Ey(l:List UInt8)(m k:Nat)(b:k<l.length)(d:k<m)(a:128<=(l[k]?.getD 0).toNat):
  lead (l.drop k) (m-k)=1+lead (l.drop (k+1)) (m-(k+1)):=by
 have e:l.drop k=l[k]::l.drop (k+1):=List.drop_eq_getElem_cons b;obtain⟨j,c⟩:∃j,m-k=j+1:=⟨m-k-1,by omega⟩;rw[e,c];rw[List.getElem?_eq_getElem b]at a;simp only[Option.getD_some]at a;rw[lead,if_pos a,show m-(k+1)=j by omega];omega
theorem Ez(l:List UInt8)(m k:Nat)(h:l.length<=k\/m<=k\/(l[k]?.getD 0).toNat<128):lead (l.drop k) (m-k)=0:=by
 rcases Nat.lt_or_ge k l.length with a|a
 ·have e:l.drop k=l[k]::l.drop (k+1):=List.drop_eq_getElem_cons a;rw[e];rcases Nat.lt_or_ge k m with b|b;·obtain⟨j,c⟩:∃j,m-k=j+1:=⟨m-k-1,by omega⟩;rw[c];rw[List.getElem?_eq_getElem a]at h;simp only[Option.getD_some]at h;rw[lead,if_neg (by omega)]
  ·rw[show m-k=0 by omega];rfl
 ·rw[List.drop_of_length_le a];simp[lead]
theorem Cf(l:List UInt8)(m:Nat)(h:lead l m=m):pn l m=(0,0,3):=by simp[pn,h]
theorem yB(l:List UInt8)(m k:Nat)(h:lead l m=k)(b:k<m)(a:k=l.length):pn l m=(0,0,28):=by
 unfold pn;rw[h];simp only;rw[if_neg (by omega),if_pos a]
theorem zP(l:List UInt8)(m k:Nat)(h:lead l m=k)(a:k<m)(b:k<l.length):pn l m=
  if 0<k/\(l[k]?.getD 0).toNat=0 then(0,0,3)else if k=9/\1<(l[k]?.getD 0).toNat then(0,0,3)else(val (l.take (k+1)),k+1,0):=by
 unfold pn;rw[h];simp only;rw[if_neg (by omega),if_neg (by omega)]
theorem uu(l r:List UInt8):val (l++r)=val l+128^l.length*val r:=by
 induction l with
 |nil=>simp[val]
 |cons x l a=>simp only[List.cons_append,val,a,List.length_cons,Nat.pow_succ];rw[Nat.mul_add];rw[Nat.mul_comm (128^l.length) 128,Nat.mul_assoc];omega
theorem Ac(l:List UInt8):val l<128^l.length:=by
 induction l with
 |nil=>simp[val]
 |cons x l a=>simp only[val,List.length_cons,Nat.pow_succ];have:=Nat.mod_lt x.toNat (show 128>0 by omega);omega
theorem IY(l:List UInt8)(k j:Nat)(b:k<l.length)(a:j<=k):
  val ((l.take (k+1)).drop j)=val ((l.take (k+1)).drop (j+1))*128+(l[j]?.getD 0).toNat%128:=by
 have h:j<(l.take (k+1)).length:=by simp;omega
 rw[List.drop_eq_getElem_cons h,val];have e:(l.take (k+1))[j]=l[j]?.getD 0:=by
  rw[List.getElem_take,List.getElem?_eq_getElem (by omega),Option.getD_some]
 rw[e];omega
theorem Fw(l:List UInt8)(k j:Nat)(d:k<l.length)(o:k<=9)(m:k=9->(l[k]?.getD 0).toNat<=1):val ((l.take (k+1)).drop (j+1))<144115188075855872:=by
 by_cases h:k<=8
 ·have f:=Ac ((l.take (k+1)).drop (j+1));have a:((l.take (k+1)).drop (j+1)).length<=8:=by simp;omega
  have c:(128:Nat)^((l.take (k+1)).drop (j+1)).length<=128^8:=Nat.pow_le_pow_right (by omega) a;have g:(128:Nat)^8=72057594037927936:=by decide
  omega
 ·obtain rfl:k=9:=by omega
  have b:=m rfl;have e:l.take (9+1)=l.take 9++[l[9]]:=List.take_succ_eq_append_getElem d;rcases Nat.lt_or_ge j 9 with n|n
  ·rw[e,List.drop_append_of_le_length (by simp;omega),uu];have f:=Ac ((l.take 9).drop (j+1));have a:((l.take 9).drop (j+1)).length<=8:=by simp;omega
   have c:(128:Nat)^((l.take 9).drop (j+1)).length<=128^8:=Nat.pow_le_pow_right (by omega) a;have g:(128:Nat)^8=72057594037927936:=by decide
   rw[List.getElem?_eq_getElem d,Option.getD_some]at b;have i:val [l[9]]<=1:=by simp only[val];omega
   have p:=Nat.mul_le_mul c i;omega
  ·rw[List.drop_of_length_le (by simp;omega)];simp[val]
theorem Ie(x b:Nat)(e:x<144115188075855872)(d:b<2^8):bits .or .u64 (↑x*128) (IntKind.u64.wrap (bits .and .u8 ↑b 127))=((x*128+b%128:Nat):Int):=by
 have a:bits .and .u8 (b:Int) 127=((b%128:Nat):Int):=by
  have:=u8_and_nat b 127 (by simpa using d) (by omega);rw[nat_mask7]at this;exact this
 rw[a];have c:IntKind.u64.wrap ((b%128:Nat):Int)=((b%128:Nat):Int):=by
  simp only[IntKind.wrap,IntKind.bits,IntKind.signed];simp;omega
 rw[c,show((x:Int)*128)=((x*128:Nat):Int)by omega,u64_or_nat _ _ (by omega) (by omega),nat_join 7 _ _ (by omega) (by omega)]
theorem sZ(l:List UInt8)(m:Nat)(hm:m<=10):(pn l m=(0,0,3)\/pn l m=(0,0,28))\/
  ∃k,lead l m=k/\k<m/\k<l.length/\(0<k->(l[k]?.getD 0).toNat≠0)/\(k=9->(l[k]?.getD 0).toNat<=1)/\(l[k]?.getD 0).toNat<128/\pn l m=(val (l.take (k+1)),k+1,0):=by
 have hle:=Bx l m;by_cases c:lead l m=m;·exact .inl (.inl (Cf l m c))
 by_cases a:lead l m=l.length;·exact .inl (.inr (yB l m _ rfl (by omega) a))
 have he:=zP l m _ rfl (by omega) (by omega);by_cases d:0<lead l m/\(l[lead l m]?.getD 0).toNat=0;·rw[if_pos d]at he;exact .inl (.inl he)
 rw[if_neg d]at he;by_cases f:lead l m=9/\1<(l[lead l m]?.getD 0).toNat;·rw[if_pos f]at he;exact .inl (.inl he)
 rw[if_neg f]at he;refine .inr ⟨lead l m,rfl,by omega,by omega,λh g=>d ⟨h,g⟩,λh=>by omega,?_,he⟩;have key:∀(l:List UInt8)(m:Nat),lead l m<m->lead l m<l.length->(l[lead l m]?.getD 0).toNat<128:=by
  intro l;induction l with
  |nil=>intro m _ h;simp at h
  |cons b l i=>
   intro m c a;cases m with
   |zero=>omega
   |succ m=>
    simp only[lead]at c a⊢;split at c;·rename_i e;rw[if_pos e]at a⊢;simp only[List.length_cons]at a;simpa using i m (by omega) (by omega)
    ·rename_i e;rw[if_neg e];simp;omega
 exact key l m (by omega) (by omega)
theorem zQ(l:List UInt8):(pn l 9).1<9223372036854775808:=by
 rcases sZ l 9 (by omega)with(h|h)|⟨k,_,b,c,_,_,_,h⟩;·rw[h];decide
 ·rw[h];decide
 ·rw[h];have d:=Ac (l.take (k+1));have a:(l.take (k+1)).length<=9:=by simp;omega
  have e:(128:Nat)^(l.take (k+1)).length<=128^9:=Nat.pow_le_pow_right (by omega) a;have f:(128:Nat)^9=9223372036854775808:=by decide
  show val (l.take (k+1))<_;omega
theorem Cg(l:List UInt8)(m:Nat)(hm:m<=10):(pn l m).2.1<=10/\(pn l m).2.1<=l.length:=by
 rcases sZ l m hm with(h|h)|⟨k,_,a,b,_,c,_,h⟩;·rw[h];simp
 ·rw[h];simp
 ·rw[h];show k+1<=10/\k+1<=l.length;omega
theorem Bz(x:Nat):bits .or .u8 ((x:Int)%256) 128=((x%128+128:Nat):Int):=by
 have h:=u8_or_nat (x%256) 128 (by omega) (by omega);have e:((x:Int)%256)=((x%256:Nat):Int):=by omega
 rw[e];refine h.trans ?_;congr 1;have b:x%256=x/128%2*128+x%128:=by omega
 rw[b];rcases Nat.mod_two_eq_zero_or_one (x/128)with a|a;·rw[a,Nat.zero_mul,Nat.zero_add,Nat.or_comm,nat_join 7 128 _ (by omega) (by omega)];omega
 ·rw[a,Nat.one_mul,<-nat_join 7 128 (x%128) (by omega) (by omega),Nat.or_comm,<-Nat.or_assoc,Nat.or_self,nat_join 7 128 _ (by omega) (by omega)];omega
def dy:Nat->Nat->List UInt8
 |0,n=>[b8 n]
 |k+1,n=>if n<128 then[b8 n]else b8 (n%128+128)::dy k (n/128)
def enc(n:Nat):List UInt8:=dy 9 n
theorem ot:∀(k n:Nat),(dy k n).length<=k+1
 |0,n=>by simp[dy]
 |k+1,n=>by
  simp only[dy];split;·simp
  ·have:=ot k (n/128);simp only[List.length_cons];omega
theorem aY(n:Nat):(enc n).length<=10:=ot 9 n
theorem Ek{n:Nat}(h:n<128):enc n=[b8 n]:=by simp[enc,dy,h]
theorem mr(k n:Nat)(h:128<=n):dy (k+1) n=b8 (n%128+128)::dy k (n/128):=by simp[dy,Nat.not_lt.2 h]
theorem qN:∀(k j n:Nat),n<128^(k+1)->k<=j->dy j n=dy k n
 |0,j,n,h,_=>by
  cases j with
  |zero=>rfl
  |succ j=>simp[dy,show n<128 by simpa using h]
 |k+1,0,n,h,a=>by omega
 |k+1,j+1,n,h,a=>by
  by_cases b:n<128;·simp[dy,b]
  ·have:n/128<128^(k+1):=by
    rw[Nat.pow_succ]at h;exact Nat.div_lt_of_lt_mul (by rw[Nat.mul_comm];exact h)
   rw[mr _ _ (by omega),mr _ _ (by omega),qN k j _ this (by omega)]
theorem Hv{n:Nat}(h:128<=n)(a:n<18446744073709551616):enc n=b8 (n%128+128)::enc (n/128):=by
 unfold enc;rw[mr _ _ h,qN 8 9 (n/128) (by
  have:(128:Nat)^(8+1)=9223372036854775808:=by decide
  omega) (by omega)]
theorem yr:∀(l:List UInt8)(m j:Nat),j<lead l m->128<=(l[j]?.getD 0).toNat
 |[],m,j,h=>by simp[lead]at h
 |b::l,0,j,h=>by simp[lead]at h
 |b::l,m+1,j,h=>by
  simp only[lead]at h;split at h
  ·rename_i a;cases j with
   |zero=>simpa using a
   |succ j=>simpa using yr l m j (by omega)
  ·omega
theorem sH(b:UInt8):b8 b.toNat=b:=by simp[b8]
theorem yi:∀(r:List UInt8)(j:Nat),r≠[]->r.length<=j+1->(∀i,i+1<r.length->128<=(r[i]?.getD 0).toNat)->(r[r.length-1]?.getD 0).toNat<128->
  (1<r.length->(r[r.length-1]?.getD 0).toNat≠0)->dy j (val r)=r
 |[],_,h,_,_,_,_=>absurd rfl h
 |[b],j,_,_,_,a,_=>by
  simp at a;have e:val [b]=b.toNat:=by simp[val];omega
  rw[e];cases j with
  |zero=>simp[dy,sH]
  |succ j=>simp[dy,a,sH]
 |b::c::r,0,_,k,_,_,_=>by simp at k
 |b::c::r,j+1,_,k,l,a,p=>by
  have s:=l 0 (by simp);simp at s;have u:=b.toNat_lt;have d:=p (by simp);have m:1<=val (c::r):=by
   have key:∀(q:List UInt8),q≠[]->(q[q.length-1]?.getD 0).toNat<128->(q[q.length-1]?.getD 0).toNat≠0->1<=val q:=by
    intro q;induction q with
    |nil=>intro h;exact absurd rfl h
    |cons x q v=>
     intro _ f g;cases q with
     |nil=>simp at f g;simp only[val];omega
     |cons y q=>
      have:=v (by simp) (by simpa using f) (by simpa using g);simp only[val]at this⊢;omega
   exact key _ (by simp) (by simpa using a) (by simpa using d)
  have w:val (b::c::r)=b.toNat%128+128*val (c::r):=rfl;rw[mr _ _ (by omega)];have n:val (b::c::r)/128=val (c::r):=by omega
  have o:val (b::c::r)%128+128=b.toNat:=by omega
  rw[n,o,sH,yi (c::r) j (by simp) (by simp at k⊢;omega) (λi t=>by simpa using l (i+1) (by simp at t⊢;omega)) (by simpa using a) (λ_=>by simpa using d)]
theorem JJ(l:List UInt8)(m k:Nat)(e:lead l m=k)(hm:m<=10)(f:k<m)(g:k<l.length)(b:0<k->(l[k]?.getD 0).toNat≠0)(c:(l[k]?.getD 0).toNat<128):enc (val (l.take (k+1)))=l.take (k+1):=by
 have hlen:(l.take (k+1)).length=k+1:=by simp;omega
 have a:∀i,i<=k->(l.take (k+1))[i]? =l[i]? :=λi d=>by rw[List.getElem?_take,if_pos (by omega)]
 refine yi (l.take (k+1)) 9 (by intro h;rw[h]at hlen;simp at hlen) (by omega) (λi d=>?_) ?_ (λh=>?_);·rw[a i (by omega)];exact yr l m i (by omega)
 ·rw[hlen,Nat.add_sub_cancel,a k (Nat.le_refl _)];exact c
 ·rw[hlen,Nat.add_sub_cancel,a k (Nat.le_refl _)];exact b (by omega)
theorem zf(n:Nat)(h:n<256):(b8 n).toNat=n:=by
 unfold b8;rw[UInt8.toNat_ofNat_of_lt' (by simpa using h)]
theorem pv(k n:Nat):1<=(dy k n).length:=by
 cases k with
 |zero=>simp[dy]
 |succ k=>simp only[dy];split<;>simp
theorem tU:∀(k n:Nat),n<128^(k+1)->(∀i,i+1<(dy k n).length->128<=((dy k n)[i]?.getD 0).toNat)/\((dy k n)[(dy k n).length-1]?.getD 0).toNat<128/\
  (1<(dy k n).length->((dy k n)[(dy k n).length-1]?.getD 0).toNat≠0)/\val (dy k n)=n
 |0,n,h=>by
  have o:n<128:=by simpa using h
  simp[dy,zf n (by omega),val,o]
 |k+1,n,h=>by
  by_cases t:n<128;·simp[dy,t,zf n (by omega),val]
  ·have p:n/128<128^(k+1):=by
    rw[Nat.pow_succ]at h;exact Nat.div_lt_of_lt_mul (by rw[Nat.mul_comm];exact h)
   obtain⟨u,l,m,f⟩:=tU k (n/128) p;have e:=pv k (n/128);rw[mr _ _ (by omega)];have a:∀i,(b8 (n%128+128)::dy k (n/128))[i+1]? =(dy k (n/128))[i]? :=λi=>by simp
   obtain⟨j,b⟩:∃j,(dy k (n/128)).length=j+1:=⟨_,(Nat.sub_add_cancel e).symm⟩;refine⟨λi r=>?_,?_,λ_=>?_,?_⟩
   ·cases i with
    |zero=>simp[zf (n%128+128) (by omega)]
    |succ i=>rw[a];exact u i (by simpa using r)
   ·rw[List.length_cons,Nat.add_sub_cancel,b,a];rw[b,Nat.add_sub_cancel]at l;exact l
   ·rw[List.length_cons,Nat.add_sub_cancel,b,a];rw[b,Nat.add_sub_cancel]at m;rcases Nat.eq_zero_or_pos j with g|g
    ·subst g;have s:∃c,dy k (n/128)=[c]:=List.length_eq_one_iff.1 (by omega);obtain⟨c,q⟩:=s;rw[q]at f⊢;simp[val]at f⊢;intro d;have:c.toNat=0:=by rw[d]
     omega
    ·exact m (by omega)
   ·show(b8 (n%128+128)).toNat%128+128*val (dy k (n/128))=n;rw[f,zf _ (by omega)];omega
theorem By:∀(l:List UInt8)(m j:Nat),(∀i,i<j->128<=(l[i]?.getD 0).toNat)->(l[j]?.getD 0).toNat<128->j<l.length->j<m->lead l m=j
 |[],m,j,_,_,h,_=>by simp at h
 |b::l,0,j,_,_,_,h=>by omega
 |b::l,m+1,0,_,h,_,_=>by
  simp at h;rw[lead,if_neg (by omega)]
 |b::l,m+1,j+1,a,d,e,f=>by
  have c:=a 0 (by omega);simp at c;rw[lead,if_pos c,By l m j (λi g=>by simpa using a (i+1) (by omega)) (by simpa using d) (by simpa using e) (by omega)]
theorem Kp(k n m:Nat)(r:List UInt8)(w:n<128^(k+1))(u:n<18446744073709551616)(hm:m<=10)(hlen:(dy k n).length<=m):pn (dy k n++r) m=(n,(dy k n).length,0):=by
 obtain⟨x,f,y,q⟩:=tU k n w;have j:=pv k n;have b:∀i,i<(dy k n).length->(dy k n++r)[i]? =(dy k n)[i]? :=λi p=>List.getElem?_append_left p;have v:lead (dy k n++r) m=(dy k n).length-1:=by
  refine By _ _ _ (λi p=>?_) ?_ (by simp;omega) (by omega);·rw[b i (by omega)];exact x i (by omega)
  ·rw[b _ (by omega)];exact f
 rw[zP _ m _ v (by omega) (by simp;omega),b _ (by omega)];rw[if_neg (λh=>y (by omega) h.2)];have c:¬((dy k n).length-1=9/\1<((dy k n)[(dy k n).length-1]?.getD 0).toNat):=by
  rintro⟨t,g⟩;have a:(dy k n).length=10:=by omega
  rw[t]at g f;generalize dy k n=e at q g a f;have l:e=e.take 9++e.drop 9:=(List.take_append_drop 9 e).symm;have s:e.drop 9=[e[9]]:=by
   rw[List.drop_eq_getElem_cons (by omega)];simp[List.drop_of_length_le,a]
  rw[s]at l;have z:val e=val (e.take 9)+128^9*val [e[9]]:=by
   conv=>lhs;rw[l]
   rw[uu];simp[a]
  rw[List.getElem?_eq_getElem (by omega),Option.getD_some]at g;have o:(128:Nat)^9=9223372036854775808:=by decide
  have d:2<=val [e[9]]\/128<=e[9].toNat:=by
   simp only[val];omega
  rcases d with d|d;·have:=Nat.mul_le_mul_left (128^9) d;omega
  ·rw[List.getElem?_eq_getElem (by omega),Option.getD_some]at f;omega
 rw[if_neg c];rw[List.take_append_of_le_length (by omega),List.take_of_length_le (by omega),q,Nat.sub_add_cancel j]
theorem EY:(128:Nat)^(9+1)=1180591620717411303424:=by decide
theorem IF:(128:Nat)^(8+1)=9223372036854775808:=by decide
theorem zo(n:Nat)(h:n<9223372036854775808):(enc n).length<=9:=by
 unfold enc;rw[qN 8 9 n (by rw[IF];exact h) (by omega)];exact ot 8 n
theorem Ce(n:Nat)(r:List UInt8)(h:n<9223372036854775808):pn (enc n++r) 9=(n,(enc n).length,0):=
 Kp 9 n 9 r (by rw[EY];omega) (by omega) (by omega) (zo n h)
end Go.Proofs.YtphjagkehiklkaaGreatDoor
namespace Go.Proofs.YtphjagkehiklkaaGreatDoor
open Proofs.Tryz Go.RowKit
theorem Rd.byte{w:World}{S:Nat->Prop}{A:Option Addr}{n k:Nat}{l:List UInt8}(h:Rd w S 1 A n (l.map bv))(g:k<n):
  ∃c,A=some c/\w.cell? (c.add k)=some (.int .u8 ((l[k]?.getD 0).toNat:Int)):=by
 obtain⟨c,u,e,_,a,f⟩:=h.at_ g;refine⟨c,e,?_⟩;rw[f];rw[List.getElem?_map]at a;cases d:l[k]? with
 |none=>simp[d]at a
 |some b=>rw[d]at a;simp[bv]at a;simp[a]
theorem r7(A:Option Addr)(n c:Nat)(l:List UInt8)(aS:Nat)(w:World)(S:Nat->Prop)(R:Rd w S 1 A n (l.map bv))(ai:n<=1099511627776)(ad:1<=aS)(hm:aS<=10):
  Calls prog 171 #[.slice A n c, .int .i64 aS] w λe w'=>e= .returned (.tuple #[.int .u64 ((pn l aS).1:Nat), .int .i64 ((pn l aS).2.1:Nat), .int .i64 ((pn l aS).2.2:Nat)])/\w=w':=by
 have hlen:l.length=n:=by have:=R.1;simpa using this
 have t:=af hlen;clear hlen;have J:=af R;clear R;go_enter func171,ntmps171;go_wp2;go_loop[7](λi=>∃k:Nat,k<=n/\k<=aS/\i= .int .i64 k/\Hid (lead l aS=k+lead (l.drop k) (aS-k)))(λi=>n-(intOf i).toNat);case atStart=>exact⟨0,Nat.zero_le _,Nat.zero_le _,rfl,by simp[Hid]⟩
 case round=>
  obtain⟨k,ab,ac,rfl,H⟩:=hrel;by_cases a:k<n/\k<aS/\128<=(l[k]?.getD 0).toNat
  ·obtain⟨B,O,m⟩:=a;obtain⟨V,rfl,q⟩:=J.out.byte B;have E:=af (Ey l aS k (by rw[t.out];exact B) O m);have N:(128:Int)<=((l[k]?.getD 0).toNat:Int):=by omega
   clear m;generalize((l[k]?.getD 0).toNat)=b at q N;go_wp2;go_round;case rel=>exact⟨k+1,by omega,by omega,by go_num,by have:=H.out;have:=E.out;simp only[Hid];omega⟩
   case measure=>simp[intOf];omega
  ·have E:=af (Ez l aS k (by rw[t.out];omega));have I:Hid (lead l aS=k):=by have:=H.out;have:=E.out;simp only[Hid];omega
   clear H E;by_cases g:k=aS
   ·clear a;have d:=af (Cf l aS (I.out.trans g));obtain rfl:=g;go_wp2;all_goals
     go_ret3;exact⟨by rw[d.out];rfl,rfl⟩
   ·have h:k<aS:=by omega
    have Q:((k:Int)==(aS:Int))=false:=jr (by omega);by_cases r:k=n;·clear a;have d:=af (yB l aS k I.out h (by rw[t.out];exact r));clear g;obtain rfl:=r;go_wp2;go_ret3;exact⟨by rw[d.out];rfl,rfl⟩
    ·have D:k<n:=by omega
     have C:((k:Int)==(n:Int))=false:=jr (by omega);have m:(l[k]?.getD 0).toNat<128:=by omega
     clear a g r;obtain⟨V,rfl,q⟩:=J.out.byte D;have F:=af (zP l aS k I.out h (by rw[t.out];omega));have o:((l[k]?.getD 0).toNat:Int)<128:=by omega
     have p:decide ((128:Int)<=((l[k]?.getD 0).toNat:Int))=false:=by simp;omega
     clear m;by_cases v:0<k/\(l[k]?.getD 0).toNat=0;·have d:=af (F.out.trans (if_pos v));clear F;have T:0<k:=v.1;have s:(((l[k]?.getD 0).toNat:Int)==0)=true:=beq_iff_eq.2 (by omega);clear v;generalize((l[k]?.getD 0).toNat)=b at q o p s;go_wp2;go_ret3;exact⟨by rw[d.out];rfl,rfl⟩
     ·have f:=af (F.out.trans (if_neg v));clear F;by_cases G:k=9/\1<(l[k]?.getD 0).toNat
      ·have d:=af (f.out.trans (if_pos G));clear f;have T:0<k:=by omega
       have s:(((l[k]?.getD 0).toNat:Int)==0)=false:=jr (by omega);have ag:((k:Int)==9)=true:=beq_iff_eq.2 (by omega);have U:(1:Int)<((l[k]?.getD 0).toNat:Int):=by omega
       clear v G;generalize((l[k]?.getD 0).toNat)=b at q o p s U;go_wp2;go_ret3;exact⟨by rw[d.out];rfl,rfl⟩
      ·have d:=af (f.out.trans (if_neg G));clear f;have X:Hid (k=9->(l[k]?.getD 0).toNat<=1):=by simp only[Hid];omega
       have ah:Hid (0<k->(l[k]?.getD 0).toNat≠0):=by simp only[Hid];omega
       have P:(((k:Int)==9)=true/\0<k/\(((l[k]?.getD 0).toNat:Int)==0)=false/\decide ((1:Int)<((l[k]?.getD 0).toNat:Int))=false)\/(((k:Int)==9)=false/\0<k/\(((l[k]?.getD 0).toNat:Int)==0)=false)\/(((k:Int)==9)=false/\decide (0<k)=false):=by
        by_cases L:k=9;·exact .inl ⟨beq_iff_eq.2 (by omega),by omega,jr (by omega),by simp;omega⟩
        ·by_cases z:0<k;·exact .inr (.inl ⟨jr (by omega),z,jr (by omega)⟩)
         ·exact .inr (.inr ⟨jr (by omega),by simpa using z⟩)
       clear v G;rcases P with⟨L,z,M,Z⟩|⟨L,z,M⟩|⟨L,z⟩;all_goals
        go_wp2;clear o p Q C q;go_loop[8,9](λu i=>(∃j:Nat,j<=k/\i= .int .i64 j/\∃x:Nat,x<144115188075855872/\Hid (x=val ((l.take (k+1)).drop (j+1)))/\u= .int .u64 x)\/(i= .int .i64 (-1)/\u= .int .u64 (val (l.take (k+1)))))(λ_ i=>(intOf i+1).toNat);case atStart=>exact .inl ⟨k,Nat.le_refl _,rfl,0,by omega,by simp only[Hid];rw[List.drop_of_length_le (by simp;omega)];rfl,rfl⟩
        case round=>
         rcases hrel with⟨j,aa,rfl,x,ae,Y,rfl⟩|⟨rfl,rfl⟩
         ·obtain⟨K,e,q⟩:=J.out.byte (k:=j) (by omega);obtain rfl:V=K:=by injection e
          clear e;have m:=(l[j]?.getD 0).toNat_lt;generalize y:(l[j]?.getD 0).toNat=b at q m;have HB:=af y;clear y;go_wp2;have W:=IY l k j (by rw[t.out];omega) aa;rw[<-Y.out,HB.out]at W;rw[Ie x b ae m,<-W];rcases j with _|j;·refine⟨.inr ⟨rfl,by rw[List.drop_zero]⟩,by simp[intOf]⟩
          ·refine⟨.inl ⟨j,by omega,by go_num,_,Fw l k j (by rw[t.out];omega) (by omega) X.out,rfl,rfl⟩,by simp[intOf];omega⟩
         ·go_wp2;go_ret3;exact⟨by rw[d.out];rfl,rfl⟩
theorem tN(A:Option Addr)(n c:Nat)(l:List UInt8)(w:World)(S:Nat->Prop)(b:Rd w S 1 A n (l.map bv))(g:n<=1099511627776):
  Calls prog 147 #[.slice A n c] w λe w'=>e= .returned (.tuple #[.int .i64 ((pn l 9).1:Nat), .int .i64 ((pn l 9).2.1:Nat), .int .i64 ((pn l 9).2.2:Nat)])/\w=w':=by
 have a:=r7 A n c l 9 w S b g (by omega) (by omega);have f:=zQ l;generalize(pn l 9).1=h at a f⊢;generalize(pn l 9).2.1=a2 at a⊢;generalize(pn l 9).2.2=a3 at a⊢;have d:=af a;clear a b;go_enter func147,ntmps147;go_wp2_with fail;refine d.out.mono ?_;rintro e w1⟨rfl,rfl⟩;go_wp2;go_ret3;exact⟨rfl,rfl⟩
end Go.Proofs.YtphjagkehiklkaaGreatDoor
namespace Go.Proofs.YtphjagkehiklkaaGreatDoor
open Proofs.Tryz Go.RowKit
theorem rV:(prog.info? 5).map (λi=>(i.zero,i.size,i.bytes))=some (some (.int .u8 0),1,1):=by kernel_rfl
theorem BM(l:List UInt8):∀u∈l.map bv,u.oneCell'=true:=by
 intro u hu;obtain⟨b,_,rfl⟩:=List.mem_map.1 hu;rfl
theorem xU(n:Nat)(h:n<256):bv (b8 n)= .int .u8 (n:Int):=by
 unfold bv b8;rw[UInt8.toNat_ofNat_of_lt' (by simpa using h)]
abbrev fO(w:World)(v:Value)(w':World)(a:Value)(l:List UInt8):Prop:=bT 5 1 w v w' a l.length (l.map bv)
abbrev oP(w:World)(v:Value)(l:List UInt8):Prop:=w.ownsRow 0 5 1 v l.length (l.map bv)
def uX(w:World)(v:Value)(l:List UInt8)(e:Ending)(w':World):Prop:=∃a,e= .returned a/\fO w v w' a l
theorem mm(v:Value)(l:List UInt8)(u:Nat)(w:World)(b:oP w v l)(q:l.length<=1099511627776)(hu:u<18446744073709551616):
  Calls prog 114 #[v, .int .u64 u] w (uX w v (l++enc u)):=by
 obtain⟨i0,m,d,f,g⟩:=info_parts rV;have n:=af b;clear b;go_enter func114,ntmps114;go_wp2;go_loopw[0,1](λp t wr=>∃(x:Nat)(i:List UInt8),x<18446744073709551616/\t= .int .u64 x/\Hid (enc u=i++enc x)/\fO w v wr p (l++i))(λ_ t _=>(intOf t).toNat);case atStart=>exact⟨u,[],hu,rfl,rfl,by simpa using bT.start n.out⟩
 case round=>
  obtain⟨x,i,o,rfl,h,c⟩:=hrel;by_cases k:128<=x
  ·go_wp2_with(at_builtin;refine cQ _ rfl _ _ 61 rfl 5 i0 _ 1 1 underlying61 m d f g rfl (by omega) _ _ _ rfl c.own 1 _ _ rfl rfl rfl ?zA ?zB (by omega) ?_);case zA=>simp[Value.oneCell']
   case zB=>have:=aY u;rw[h.out]at this;simp at this⊢;omega
   intro v2 w2 a;rw[Bz]at a;have j:Hid (fO w v w2 v2 (l++(i++[b8 (x%128+128)]))):=by
    have:=c.trans a;simpa[Hid,fO,xU _ (show x%128+128<256 by omega),Nat.add_assoc]using this
   clear c a;rw[Bz];go_wp2;go_roundw;case rel=>exact⟨x/128,_,by omega,by go_num,by simp only[Hid];rw[h.out,Hv k o];simp,j.out⟩
   case measure=>simp[intOf];omega
  ·go_wp2_with(at_builtin;refine cQ _ rfl _ _ 61 rfl 5 i0 _ 1 1 underlying61 m d f g rfl (by omega) _ _ _ rfl c.own 1 _ _ rfl rfl rfl ?d1 ?d2 (by omega) ?_);case d1=>simp[Value.oneCell']
   case d2=>have:=aY u;rw[h.out]at this;simp at this⊢;omega
   intro v2 w2 a;have j:Hid (fO w v w2 v2 (l++enc u)):=by
    have:=c.trans a;have e:(x:Int)%256=(x:Int):=by omega
    rw[h.out,Ek (by omega)];simpa[Hid,fO,xU _ (show x<256 by omega),Nat.add_assoc,e]using this
   clear c a;go_wp2;go_ret;exact⟨_,rfl,j.out⟩
theorem uS(A:Option Addr)(n c:Nat)(l:List UInt8)(w:World)(S:Nat->Prop)(d:Rd w S 1 A n (l.map bv))(s:n<=1099511627776):
  Calls prog 116 #[.slice A n c] w (uX w (.slice none 0 0) l):=by
 obtain⟨i0,q,g,i,j⟩:=info_parts rV;have t:=λ(w:World)=>Lib.run_eql_slice_nil (P:=prog) w 61 5 A n c 0 0 underlying61;have hlen:l.length=n:=by have:=d.1;simpa using this
 have m:=af hlen;clear hlen;rcases A with _|p
 ·have b:n=0:=by
   rcases Nat.eq_zero_or_pos n with h|h;·exact h
   ·obtain⟨p,e,_⟩:=d.2 h;cases e
  have f:l=[]:=List.eq_nil_of_length_eq_zero (by rw[m.out];exact b);subst f;subst b;clear d;go_enter func116,ntmps116;go_wp2;go_ret;exact⟨_,rfl,bT.start (World.ownsRow_nil _ _ _ _)⟩
 ·go_enter func116,ntmps116;go_wp2_with(at_builtin;refine fJ _ rfl _ _ 61 rfl 5 i0 _ 1 1 underlying61 q g i j rfl (by omega) _ 0 [] rfl ?zA _ _ n c _ rfl (d.ao (aA.alloc _)) (BM _) (by omega) (by omega) ?_);case zA=>exact World.ownsRow_lit (size:=1) _ _ 0 (Nat.zero_le _) (by simp[maxLen]) rfl
  intro v2 w2 a;have o:Hid (fO w (.slice none 0 0) w2 v2 l):=by
   have:=bT.fresh (aA.alloc _) (λk r=>by simp[Value.ownBlock]at r;omega) a;have e:=m.out;simpa[Hid,fO,e]using this
  clear a;go_wp2;go_ret;exact⟨_,rfl,o.out⟩
def Jn(w:World)(v:Value)(l:List UInt8)(err:Int)(e:Ending)(w':World):Prop:=∃a,e= .returned (.tuple #[a, .int .i64 err])/\fO w v w' a l
end Go.Proofs.YtphjagkehiklkaaGreatDoor
namespace Go.Proofs.YtphjagkehiklkaaGreatDoor
open Proofs.Tryz Go.RowKit
structure Wr(w:World)(g:Nat)(v:Value)(l:List UInt8)(f:Int):Prop where
 aF:aq w g 185 #[v, .int .i64 f]
 own:oP w v l
def Li(g:Nat)(v:Value):Nat->Prop:=λk=>k=g\/v.ownBlock=some k
structure dp(w:World)(g:Nat)(v:Value)(w':World)(a:Value)(st:List UInt8×Int):Prop where
 wr:Wr w' g a st.1 st.2
 fr:Fr (Li g v) w w'
 eL:∀k,a.ownBlock=some k->v.ownBlock=some k\/w.heap.size<=k
def zd(w:World)(g:Nat)(v:Value)(st:List UInt8×Int)(e:Ending)(w':World):Prop:=e= .returned (.tuple #[])/\∃a,dp w g v w' a st
section
variable{w w1 w2:World}{g:Nat}{v v1 v2:Value}{l:List UInt8}{f:Int}{st st1 st2:List UInt8×Int}{T:Nat->Prop}
theorem Wr.cJ(h:Wr w g v l f)(a:Fr T w w1)(hT:∀k,Li g v k->¬T k):Wr w1 g v l f:=
 ⟨h.aF.fr a (hT g (.inl rfl)),aP h.own a (λk b=>hT k (.inr b))⟩
theorem dp.start(h:Wr w g v l f):dp w g v w v (l,f):=⟨h,aA,λ_ a=> .inl a⟩
theorem dp.trans(h:dp w g v w1 v1 st1)(k:dp w1 g v1 w2 v2 st2):dp w g v w2 v2 st2:=
  ⟨k.wr,h.fr.aw k.fr (λi c b=>by
      rcases b with b|b;· exact .inl b
      · rcases h.eL i b with a|a;· exact .inr a
        · omega),
   λi c=>by
    rcases k.eL i c with a|a;· exact h.eL i a
    · exact .inr (Nat.le_trans h.fr.size a)⟩
theorem dp.store(h:Wr w g v l f){m:List UInt8}(k:fO w v w1 v1 m):dp w g v (w1.setCell ⟨g,0,none⟩ v1) v1 (m,f):=by
 have b:v.ownBlock≠some g:=bO h.own h.aF (by decide);have d:aq w1 g 185 #[v, .int .i64 f]:=h.aF.fr k.fr (λo=>b o);have n:=h.aF.lt;have c:∀i,v1.ownBlock=some i->i≠g:=λi a e=>by
  subst e;rcases k.eL i a with j|j;·exact b j
  ·omega
 refine⟨⟨by simpa using d.kq 0 v1,aP k.own ((Fr.refl (λk=>k=g) w1).setCell (λ_=>rfl) _) (λi a=>c i a)⟩,?_,k.eL⟩;exact(k.fr.mono (λi _ a=> .inr a)).setCell (λ_=> .inl rfl) _
theorem dp.fail(h:Wr w g v l f)(a:Int):dp w g v (w.setCell ⟨g,1,none⟩ (.int .i64 a)) v (l,a):=by
 have b:v.ownBlock≠some g:=bO h.own h.aF (by decide);refine⟨⟨by simpa using h.aF.kq 1 (.int .i64 a),aP h.own ((Fr.refl (λk=>k=g) w).setCell (λ_=>rfl) _) (λi c e=>b (e▸c))⟩,?_,λ_ d=> .inl d⟩;exact aA.setCell (λ_=> .inl rfl) _
end
def aQ(s:ByteArray):List UInt8:=s.data.toList
def pU(st:List UInt8×Int)(n:Int):List UInt8×Int:=if st.2=0 then(if n<0 then(st.1,2)else(st.1++enc n.toNat,0))else st
theorem jl(l:List UInt8)(u:Nat):pU (l,0) (u:Int)=(l++enc u,0):=by
 unfold pU;rw[if_pos rfl,if_neg (by omega)];rfl
def tk(st:List UInt8×Int)(b:Bool):List UInt8×Int:=if st.2=0 then(st.1++[if b then 1 else 0],0)else st
def tp(st:List UInt8×Int)(s:List UInt8):List UInt8×Int:=if st.2=0 then(if 16777216<s.length then(st.1,5)else(st.1++(enc s.length++s),0))else st
theorem aL(s:ByteArray):(aQ s).length=s.size:=by simp[aQ]
theorem Aa(s:ByteArray):Lib.strCells s=(aQ s).map bv:=rfl
theorem Fy(l:List UInt8)(s:ByteArray)(h:16777216<s.size):tp (l,0) (aQ s)=(l,5):=by
 unfold tp;rw[if_pos rfl,if_pos (by rw[aL];exact h)]
theorem jm(l:List UInt8)(s:ByteArray)(h:¬16777216<s.size):tp (l,0) (aQ s)=(l++(enc s.size++aQ s),0):=by
 unfold tp;rw[if_pos rfl,if_neg (by rw[aL];exact h),aL]
theorem iu(g:Nat)(v:Value)(f:Int)(w:World)(a:aq w g 185 #[v, .int .i64 f])(B:Bool)(c:(f==0)=B):
  Calls prog 113 #[.pointer (some ⟨g,0,none⟩)] w λe w'=>e= .returned (.bool B)/\w=w':=by
 have b:w.cell? ⟨g,1,none⟩=some (.int .i64 f):=a.cell 1;clear a;go_enter func113,ntmps113;go_wp2;go_ret;exact⟨rfl,rfl⟩
theorem kf(g:Nat)(v:Value)(l:List UInt8)(f:Int)(n:Int)(w:World)(h:Wr w g v l f)(t:l.length<=1099511627776)(z:n<=9223372036854775807):
  Calls prog 63 #[.pointer (some ⟨g,0,none⟩), .int .i64 n] w (zd w g v (pU (l,f) n)):=by
 have a:=af h;have m:w.cell? ⟨g,0,none⟩=some v:=h.aF.cell 0;have o:w.cell? ⟨g,1,none⟩=some (.int .i64 f):=h.aF.cell 1;have q:=h.aF.frozen 0;have r:=h.aF.frozen 1;clear h;by_cases d:f=0
 ·subst d;by_cases c:n<0;·go_enter func63,ntmps63;go_wp2_with fail;refine(iu g v 0 _ a.out.aF true rfl).mono ?_;rintro e w1⟨rfl,rfl⟩;go_wp2;go_end0;exact⟨rfl,v,by simpa[pU,c]using dp.fail a.out 2⟩
  ·obtain⟨u,rfl⟩:=Int.eq_ofNat_of_zero_le (by omega:0<=n);go_enter func63,ntmps63;go_wp2_with fail;refine(iu g v 0 _ a.out.aF true rfl).mono ?_;rintro e w1⟨rfl,rfl⟩;go_wp2_with fail;refine(mm v l u _ a.out.own t (by omega)).mono ?_;rintro e w2⟨v2,rfl,b⟩;obtain⟨x,A,y,rfl,_,_⟩:=aK b.own;have k:=af (dp.store a.out b);have s:w2.frozen? ⟨g,0,none⟩=false:=(aq.fr a.out.aF b.fr (λj=>bO a.out.own a.out.aF (by decide) j)).frozen 0;have p:w2.cell? ⟨g,0,none⟩=some v:=(aq.fr a.out.aF b.fr (λj=>bO a.out.own a.out.aF (by decide) j)).cell 0;clear b;go_wp2;go_end0;exact⟨rfl,_,by rw[jl];exact k.out⟩
 ·have i:(f==0)=false:=jr d;go_enter func63,ntmps63;go_wp2_with fail;refine(iu g v f _ a.out.aF false i).mono ?_;rintro e w1⟨rfl,rfl⟩;go_wp2;go_end0;exact⟨rfl,v,by simpa[pU,d]using dp.start a.out⟩
theorem Fx(g:Nat)(v:Value)(l:List UInt8)(f:Int)(b:Bool)(w:World)(h:Wr w g v l f)(B:l.length<=1099511627776):
  Calls prog 66 #[.pointer (some ⟨g,0,none⟩), .bool b] w (zd w g v (tk (l,f) b)):=by
 obtain⟨i0,s,j,k,m⟩:=info_parts rV;have c:=af h;have x:w.cell? ⟨g,0,none⟩=some v:=h.aF.cell 0;have y:w.cell? ⟨g,1,none⟩=some (.int .i64 f):=h.aF.cell 1;have z:=h.aF.frozen 1;clear h;by_cases p:f=0
 ·subst p;cases b
  ·go_enter func66,ntmps66;go_wp2_with fail;refine(iu g v 0 _ c.out.aF true rfl).mono ?_;rintro e w1⟨rfl,rfl⟩;go_wp2_with(at_builtin;refine cQ _ rfl _ _ 61 rfl 5 i0 _ 1 1 underlying61 s j k m rfl (by omega) _ _ _ rfl c.out.own 1 _ _ rfl rfl rfl (by simp[Value.oneCell']) (by omega) (by omega) ?_);intro v2 w2 d;have a:fO w v w2 v2 (l++[0]):=by simpa[fO,bv]using d
   clear d;obtain⟨t,A,u,rfl,_,_⟩:=aK a.own;have n:=af (dp.store c.out a);have r:w2.frozen? ⟨g,0,none⟩=false:=(aq.fr c.out.aF a.fr (λi=>bO c.out.own c.out.aF (by decide) i)).frozen 0;have o:w2.cell? ⟨g,0,none⟩=some v:=(aq.fr c.out.aF a.fr (λi=>bO c.out.own c.out.aF (by decide) i)).cell 0;clear a;go_wp2;go_end0;exact⟨rfl,_,by rw[show tk (l,0) _=(l++[0],0)from rfl];exact n.out⟩
  ·go_enter func66,ntmps66;go_wp2_with fail;refine(iu g v 0 _ c.out.aF true rfl).mono ?_;rintro e w1⟨rfl,rfl⟩;go_wp2_with(at_builtin;refine cQ _ rfl _ _ 61 rfl 5 i0 _ 1 1 underlying61 s j k m rfl (by omega) _ _ _ rfl c.out.own 1 _ _ rfl rfl rfl (by simp[Value.oneCell']) (by omega) (by omega) ?_);intro v2 w2 d;have a:fO w v w2 v2 (l++[1]):=by simpa[fO,bv]using d
   clear d;obtain⟨t,A,u,rfl,_,_⟩:=aK a.own;have n:=af (dp.store c.out a);have r:w2.frozen? ⟨g,0,none⟩=false:=(aq.fr c.out.aF a.fr (λi=>bO c.out.own c.out.aF (by decide) i)).frozen 0;have o:w2.cell? ⟨g,0,none⟩=some v:=(aq.fr c.out.aF a.fr (λi=>bO c.out.own c.out.aF (by decide) i)).cell 0;clear a;go_wp2;go_end0;exact⟨rfl,_,by rw[show tk (l,0) _=(l++[1],0)from rfl];exact n.out⟩
 ·have q:(f==0)=false:=jr p;go_enter func66,ntmps66;go_wp2_with fail;refine(iu g v f _ c.out.aF false q).mono ?_;rintro e w1⟨rfl,rfl⟩;go_wp2;go_end0;exact⟨rfl,v,by simpa[tk,p]using dp.start c.out⟩
theorem mH(g:Nat)(v:Value)(l:List UInt8)(f:Int)(s:ByteArray)(w:World)(h:Wr w g v l f)(A:l.length<=1099511627776)(D:s.size<=140737488351232):
  Calls prog 65 #[.pointer (some ⟨g,0,none⟩), .string s] w (zd w g v (tp (l,f) (aQ s))):=by
 obtain⟨i0,z,m,n,o⟩:=info_parts rV;have b:=af h;have r:w.cell? ⟨g,0,none⟩=some v:=h.aF.cell 0;have t:w.cell? ⟨g,1,none⟩=some (.int .i64 f):=h.aF.cell 1;have x:=h.aF.frozen 1;clear h;by_cases i:f=0
 ·subst i;by_cases c:16777216<s.size;·go_enter func65,ntmps65;go_wp2_with fail;refine(iu g v 0 _ b.out.aF true rfl).mono ?_;rintro e w1⟨rfl,rfl⟩;go_wp2;go_end0;exact⟨rfl,v,by rw[Fy _ _ c];exact dp.fail b.out 5⟩
  ·go_enter func65,ntmps65;go_wp2_with fail;refine(iu g v 0 _ b.out.aF true rfl).mono ?_;rintro e w1⟨rfl,rfl⟩;go_wp2_with fail;refine(mm v l s.size _ b.out.own A (by omega)).mono ?_;rintro e w2⟨v2,rfl,a⟩;have p:=af a;clear a;go_wp2_with(at_builtin;refine mI _ rfl _ _ 61 9 rfl 5 i0 underlying61 underlying9 z m n o _ _ _ rfl p.out.own s rfl ?zA ?_);case zA=>have:=aY s.size;simp;omega
   intro v3 w3 d;have a:fO w v w3 v3 (l++(enc s.size++aQ s)):=by
    have:=p.out.trans d;rw[Aa]at this;simpa[fO,aL,Nat.add_assoc]using this
   clear d;obtain⟨B,E,C,rfl,_,_⟩:=aK a.own;have q:=af (dp.store b.out a);have y:w3.frozen? ⟨g,0,none⟩=false:=(aq.fr b.out.aF a.fr (λk=>bO b.out.own b.out.aF (by decide) k)).frozen 0;have u:w3.cell? ⟨g,0,none⟩=some v:=(aq.fr b.out.aF a.fr (λk=>bO b.out.own b.out.aF (by decide) k)).cell 0;clear a;go_wp2;go_end0;exact⟨rfl,_,by rw[jm _ _ c];exact q.out⟩
 ·have j:(f==0)=false:=jr i;go_enter func65,ntmps65;go_wp2_with fail;refine(iu g v f _ b.out.aF false j).mono ?_;rintro e w1⟨rfl,rfl⟩;go_wp2;go_end0;exact⟨rfl,v,by simpa[tp,i]using dp.start b.out⟩
theorem oP.rd{w:World}{A:Option Addr}{n c:Nat}{l:List UInt8}(h:oP w (.slice A n c) l)(a:n=l.length):Rd w (od (.slice A n c)) 1 A n (l.map bv):=by
 subst a;exact Rd.ia h
def MQ(w:World)(e:Ending)(w':World):Prop:=e= .returned (.pointer (some ⟨w.heap.size,0,none⟩))/\Wr w' w.heap.size (.slice none 0 0) [] 0/\Fr Nothing w w'
theorem mj(w:World):Calls prog 61 #[] w (MQ w):=by
 go_enter func61,ntmps61;go_wp2;go_ret;exact⟨rfl,⟨aq.new _ _ _,World.ownsRow_nil _ _ _ _⟩,aA.alloc _⟩
def uP(w:World)(l:List UInt8)(f:Int)(e:Ending)(w':World):Prop:=
 (f≠0->e= .returned (.tuple #[.slice none 0 0, .int .i64 f])/\Fr Nothing w w')/\(f=0->Jn w (.slice none 0 0) l 0 e w')
theorem ng(g:Nat)(v:Value)(l:List UInt8)(f:Int)(w:World)(h:Wr w g v l f)(q:l.length<=1099511627776):
  Calls prog 103 #[.pointer (some ⟨g,0,none⟩)] w (uP w l f):=by
 have n:w.cell? ⟨g,0,none⟩=some v:=h.aF.cell 0;have o:w.cell? ⟨g,1,none⟩=some (.int .i64 f):=h.aF.cell 1;obtain⟨i,r,m,rfl,c,_⟩:=aK h.own;have k:=af h;clear h;by_cases b:f=0;·subst b;go_enter func103,ntmps103;go_wp2_with fail;have d:=oP.rd k.out.own c.out;refine(uS i r m l _ _ d (by rw[c.out];exact q)).mono ?_;rintro e w2⟨v2,rfl,a⟩;have j:=af a;clear a d;go_wp2;go_ret2;exact⟨λh=>absurd rfl h,λ_=>⟨_,rfl,j.out⟩⟩
 ·have p:(f !=0)=true:=by rw[bne_iff_ne];exact b
  go_enter func103,ntmps103;go_wp2;go_quiet(fail);go_wp2;go_ret2;exact⟨λ_=>⟨rfl,aA.drewN _⟩,λh=>absurd h b⟩
end Go.Proofs.YtphjagkehiklkaaGreatDoor
namespace Go.Proofs.YtphjagkehiklkaaGreatDoor
open Proofs.Tryz Go.RowKit
theorem Hb(l:List UInt8):∀(s:ByteArray),(l.map (λb:UInt8=>(b.toNat:Int))).foldl (λr n=>r.push (UInt8.ofNat n.toNat)) s=⟨(s.data.toList++l).toArray⟩:=by
 induction l with
 |nil=>intro s;simp
 |cons b l a=>
  intro s;simp only[List.map_cons,List.foldl_cons];rw[a];congr 1;have e:UInt8.ofNat (Int.toNat (b.toNat:Int))=b:=by simp
  rw[e];simp[ByteArray.push]
theorem IM{P:Program}(w:World)(src dst e:TypeId)(q:P.underlying src=some (.slice e))(he:P.underlying e=some (.int .u8))(p:P.underlying dst=some .string)
  (S:Nat->Prop)(A:Option Addr)(n c:Nat)(l:List UInt8)(f:Rd w S 1 A n (l.map bv)):(convert src dst (.slice A n c)).run P w= .ok (.string ⟨l.toArray⟩) w:=by
 rw[run_convert_bytes_string w src dst e A n c q he p];have d:l.length=n:=by simpa using f.1
 rcases A with _|a
 ·have:l=[]:=by
   rcases Nat.eq_zero_or_pos n with h|h;·exact List.eq_nil_of_length_eq_zero (d.trans h)
   ·obtain⟨a,e,_⟩:=f.2 h;cases e
  subst this;rfl
 ·have o:∀j v,(l.map bv)[j]? =some v->w.cell? (a.add j)=some v:=by
   intro j v i;rcases Nat.eq_zero_or_pos n with h|h;·have:l=[]:=List.eq_nil_of_length_eq_zero (d.trans h);subst this;simp at i
   ·obtain⟨k,e,_,m⟩:=f.2 h;injection e with e;subst e;exact m j v i
  have g:=run_loadCells_list (P:=P) w a (l.map bv) o;rw[List.length_map,d]at g;rw[run_bytesToString w a n c (l.map (λb:UInt8=>(b.toNat:Int))) (by rw[g];simp[bv,Function.comp_def])];rw[Hb];rfl
abbrev kL(w:World)(S:Nat->Prop)(A:Option Addr)(n c:Nat)(l:List UInt8)(a:Rd w S 1 A n (l.map bv)):(convert 61 9 (.slice A n c)).run prog w= .ok (.string ⟨l.toArray⟩) w:=
 IM w 61 9 5 underlying61 underlying5 underlying9 S A n c l a
end Go.Proofs.YtphjagkehiklkaaGreatDoor
namespace Go.Proofs.YtphjagkehiklkaaGreatDoor
open Proofs.Tryz Go.RowKit
theorem fO.app{w w3 a:World}{v v3 v4:Value}{L b:List UInt8}{m:Nat}(h:fO w v w3 v3 L)(k:bT 5 1 w3 v3 a v4 (L.length+m) (L.map bv++b.map bv))(hm:m=b.length):fO w v a v4 (L++b):=by
 subst hm;have:=h.trans k;simpa[fO]using this
end Go.Proofs.YtphjagkehiklkaaGreatDoor
namespace Go.Proofs.YtphjagkehiklkaaGreatDoor
open Proofs.Tryz Go.RowKit
structure Rr(w:World)(g:Nat)(S:Nat->Prop)(l:List UInt8)(p:Nat)(f:Int):Prop where
 ex:∃A n c,aq w g 193 #[.slice A n c, .int .i64 p, .int .i64 f]/\Rd w S 1 A n (l.map bv)/\n<=c
 cJ:¬S g
 small:p+l.length<=1099511627776
def eH(g:Nat):Nat->Prop:=λk=>k=g
structure fp(w:World)(g:Nat)(S:Nat->Prop)(w':World)(l:List UInt8)(p:Nat)(f:Int):Prop where
 rr:Rr w' g S l p f
 fr:Fr (eH g) w w'
theorem Rr.kl{w w':World}{g:Nat}{S T:Nat->Prop}{l:List UInt8}{p:Nat}{f:Int}(h:Rr w g S l p f)(e:Fr T w w')(i:¬T g)(j:∀k,S k->¬T k):Rr w' g S l p f:=by
 obtain⟨⟨A,n,c,m,o,b⟩,a,d⟩:=h;exact⟨⟨A,n,c,m.fr e i,o.fr e j,b⟩,a,d⟩
theorem Rr.iZ{w w':World}{g:Nat}{S:Nat->Prop}{l:List UInt8}{p:Nat}{f:Int}(h:Rr w g S l p f)(a:Fr Nothing w w'):Rr w' g S l p f:=h.kl a id (λ_ _ x=>x)
theorem fp.fail{w:World}{g:Nat}{S:Nat->Prop}{l:List UInt8}{p:Nat}{f:Int}(h:Rr w g S l p f)(e:Int):fp w g S (w.setCell ⟨g,2,none⟩ (.int .i64 e)) l p e:=by
 obtain⟨⟨A,n,c,j,o,b⟩,a,d⟩:=h;have i:Fr (eH g) w (w.setCell ⟨g,2,none⟩ (.int .i64 e)):=(Fr.refl (eH g) _).setCell (p:=⟨g,2,none⟩) (λ_=>(rfl:eH g g)) _;exact⟨⟨⟨A,n,c,by simpa using j.kq 2 (.int .i64 e),o.fr i (λk m e=>a (e▸m)),b⟩,a,d⟩,i⟩
theorem Rd.Mx{w:World}{S:Nat->Prop}{A:Option Addr}{n k c:Nat}{l:List UInt8}(h:Rd w S 1 A n (l.map bv))(b:k<=n)(a:n<=c):
  Rd w S 1 (if c=k then A else A.map (·.add k)) (n-k) ((l.drop k).map bv):=by
 have:=h.cut b a;rw[Nat.mul_one,<-List.map_drop]at this;exact this
theorem fp.read{w:World}{g:Nat}{S:Nat->Prop}{l:List UInt8}{p:Nat}{A:Option Addr}{n c size:Nat}(q:aq w g 193 #[.slice A n c, .int .i64 p, .int .i64 0])(m:Rd w S 1 A n (l.map bv))(h:n<=c)(a:¬S g)(u:p+l.length<=1099511627776)(v:size<=l.length)
  {b:Option Addr}{i d:Nat}(o:b=if c=size then A else A.map (·.add size))(t:i=n-size)(f:d=c-size):
  fp w g S ((w.setCell ⟨g,0,none⟩ (.slice b i d)).setCell ⟨g,1,none⟩ (.int .i64 ((p:Int)+(size:Int)))) (l.drop size) (p+size) 0:=by
 have s:l.length=n:=by simpa using m.1
 have j:Fr (eH g) w ((w.setCell ⟨g,0,none⟩ (.slice b i d)).setCell ⟨g,1,none⟩ (.int .i64 ((p:Int)+(size:Int)))):=((Fr.refl (eH g) _).setCell (p:=⟨g,0,none⟩) (λ_=>(rfl:eH g g)) _).setCell (p:=⟨g,1,none⟩) (λ_=>(rfl:eH g g)) _;subst o t f;refine⟨⟨⟨_,_,_,by simpa[Int.natCast_add]using(q.kq 0 (.slice (if c=size then A else A.map (·.add size)) (n-size) (c-size))).kq 1 (.int .i64 ((p:Int)+(size:Int))),(m.Mx (by omega) h).fr j (λk r e=>a (e▸r)),by omega⟩,a,by simp;omega⟩,j⟩
def pY(w:World)(g:Nat)(S:Nat->Prop)(l:List UInt8)(p:Nat)(val zero:Value)(size:Nat)(e:Int)(a:Ending)(w':World):Prop:=
 (e≠0->a= .returned zero/\fp w g S w' l p e)/\(e=0->a= .returned val/\fp w g S w' (l.drop size) (p+size) 0)
theorem Cn(g:Nat)(S:Nat->Prop)(l:List UInt8)(p:Nat)(a:Nat)(b:Array Value)(w:World)(h:Rr w g S l p 0)
  (x:Int)(size:Nat)(e:Int)(G:size<=l.length)(q:∀args w,(callFunc a args).run prog w= .ok (.enter a args) w)
  (t:∀A n c,Rd w S 1 A n (l.map bv)->n<=c->Calls prog a (#[.slice A n c]++b) w λo w'=>o= .returned (.tuple #[.int .i64 x, .int .i64 size, .int .i64 e])/\w=w'):
  Calls prog 148 #[.pointer (some ⟨g,0,none⟩), .func (.func a) #[] b] w (pY w g S l p (.int .i64 x) (.int .i64 0) size e):=by
 obtain⟨⟨A,n,c,d,m,i⟩,f,k⟩:=h;have j:l.length=n:=by simpa using m.1
 have v:w.cell? ⟨g,0,none⟩=some (.slice A n c):=d.cell 0;have y:w.cell? ⟨g,1,none⟩=some (.int .i64 p):=d.cell 1;have z:w.cell? ⟨g,2,none⟩=some (.int .i64 0):=d.cell 2;have C:=d.frozen 0;have D:=d.frozen 1;have E:=d.frozen 2;have r:=af (t A n c m i);have HB:=af d;have s:=af m;have H:size<=n:=by omega
 have F:p+n<=1099511627776:=by omega
 have I:=af j;clear t d m j;by_cases he:e=0
 ·subst he;go_enter func148,ntmps148;go_wp2_with fail;refine r.out.mono ?_;rintro o w1⟨rfl,rfl⟩;go_wp2;all_goals
   go_ret;refine⟨λh=>absurd rfl h,λ_=>⟨rfl,?_⟩⟩;exact fp.read HB.out s.out i f k G (by first|rw[if_pos ‹_›]|rw[if_neg ‹_›]) rfl (by omega)
 ·have B:(e !=0)=true:=by rw[bne_iff_ne];exact he
  have u:=af he;clear he;go_enter func148,ntmps148;go_wp2_with fail;refine r.out.mono ?_;rintro o w1⟨rfl,rfl⟩;go_wp2;go_ret;exact⟨λ_=>⟨rfl,fp.fail ⟨⟨A,n,c,HB.out,s.out,i⟩,f,k⟩ e⟩,λh=>absurd h u.out⟩
theorem zU(g:Nat)(S:Nat->Prop)(l:List UInt8)(p:Nat)(f:Int)(i:Value)(w:World)(h:Rr w g S l p f)(b:f≠0):
  Calls prog 148 #[.pointer (some ⟨g,0,none⟩),i] w λe w'=>e= .returned (.int .i64 0)/\w=w':=by
 obtain⟨⟨A,n,c,a,o,m⟩,d,q⟩:=h;have j:w.cell? ⟨g,2,none⟩=some (.int .i64 f):=a.cell 2;have k:(f !=0)=true:=by rw[bne_iff_ne];exact b
 clear a o b;go_enter func148,ntmps148;go_wp2;go_ret;exact⟨rfl,rfl⟩
theorem zT(g:Nat)(S:Nat->Prop)(l:List UInt8)(p:Nat)(a:Nat)(b:Array Value)(w:World)(h:Rr w g S l p 0)
  (x:Bool)(size:Nat)(e:Int)(G:size<=l.length)(q:∀args w,(callFunc a args).run prog w= .ok (.enter a args) w)
  (t:∀A n c,Rd w S 1 A n (l.map bv)->n<=c->Calls prog a (#[.slice A n c]++b) w λo w'=>o= .returned (.tuple #[.bool x, .int .i64 size, .int .i64 e])/\w=w'):
  Calls prog 155 #[.pointer (some ⟨g,0,none⟩), .func (.func a) #[] b] w (pY w g S l p (.bool x) (.bool false) size e):=by
 obtain⟨⟨A,n,c,d,m,i⟩,f,k⟩:=h;have j:l.length=n:=by simpa using m.1
 have v:w.cell? ⟨g,0,none⟩=some (.slice A n c):=d.cell 0;have y:w.cell? ⟨g,1,none⟩=some (.int .i64 p):=d.cell 1;have z:w.cell? ⟨g,2,none⟩=some (.int .i64 0):=d.cell 2;have C:=d.frozen 0;have D:=d.frozen 1;have E:=d.frozen 2;have r:=af (t A n c m i);have HB:=af d;have s:=af m;have H:size<=n:=by omega
 have F:p+n<=1099511627776:=by omega
 have I:=af j;clear t d m j;by_cases he:e=0
 ·subst he;go_enter func155,ntmps155;go_wp2_with fail;refine r.out.mono ?_;rintro o w1⟨rfl,rfl⟩;go_wp2;all_goals
   go_ret;refine⟨λh=>absurd rfl h,λ_=>⟨rfl,?_⟩⟩;exact fp.read HB.out s.out i f k G (by first|rw[if_pos ‹_›]|rw[if_neg ‹_›]) rfl (by omega)
 ·have B:(e !=0)=true:=by rw[bne_iff_ne];exact he
  have u:=af he;clear he;go_enter func155,ntmps155;go_wp2_with fail;refine r.out.mono ?_;rintro o w1⟨rfl,rfl⟩;go_wp2;go_ret;exact⟨λ_=>⟨rfl,fp.fail ⟨⟨A,n,c,HB.out,s.out,i⟩,f,k⟩ e⟩,λh=>absurd h u.out⟩
theorem xx(g:Nat)(S:Nat->Prop)(l:List UInt8)(p:Nat)(f:Int)(i:Value)(w:World)(h:Rr w g S l p f)(b:f≠0):
  Calls prog 155 #[.pointer (some ⟨g,0,none⟩),i] w λe w'=>e= .returned (.bool false)/\w=w':=by
 obtain⟨⟨A,n,c,a,o,m⟩,d,q⟩:=h;have j:w.cell? ⟨g,2,none⟩=some (.int .i64 f):=a.cell 2;have k:(f !=0)=true:=by rw[bne_iff_ne];exact b
 clear a o b;go_enter func155,ntmps155;go_wp2;go_ret;exact⟨rfl,rfl⟩
theorem wO(g:Nat)(S:Nat->Prop)(l:List UInt8)(p:Nat)(a:Nat)(b:Array Value)(w:World)(h:Rr w g S l p 0)
  (x:ByteArray)(size:Nat)(e:Int)(G:size<=l.length)(q:∀args w,(callFunc a args).run prog w= .ok (.enter a args) w)
  (t:∀A n c,Rd w S 1 A n (l.map bv)->n<=c->Calls prog a (#[.slice A n c]++b) w λo w'=>o= .returned (.tuple #[.string x, .int .i64 size, .int .i64 e])/\w=w'):
  Calls prog 145 #[.pointer (some ⟨g,0,none⟩), .func (.func a) #[] b] w (pY w g S l p (.string x) (.string ⟨#[]⟩) size e):=by
 obtain⟨⟨A,n,c,d,m,i⟩,f,k⟩:=h;have j:l.length=n:=by simpa using m.1
 have v:w.cell? ⟨g,0,none⟩=some (.slice A n c):=d.cell 0;have y:w.cell? ⟨g,1,none⟩=some (.int .i64 p):=d.cell 1;have z:w.cell? ⟨g,2,none⟩=some (.int .i64 0):=d.cell 2;have C:=d.frozen 0;have D:=d.frozen 1;have E:=d.frozen 2;have r:=af (t A n c m i);have HB:=af d;have s:=af m;have H:size<=n:=by omega
 have F:p+n<=1099511627776:=by omega
 have I:=af j;clear t d m j;by_cases he:e=0
 ·subst he;go_enter func145,ntmps145;go_wp2_with fail;refine r.out.mono ?_;rintro o w1⟨rfl,rfl⟩;go_wp2;all_goals
   go_ret;refine⟨λh=>absurd rfl h,λ_=>⟨rfl,?_⟩⟩;exact fp.read HB.out s.out i f k G (by first|rw[if_pos ‹_›]|rw[if_neg ‹_›]) rfl (by omega)
 ·have B:(e !=0)=true:=by rw[bne_iff_ne];exact he
  have u:=af he;clear he;go_enter func145,ntmps145;go_wp2_with fail;refine r.out.mono ?_;rintro o w1⟨rfl,rfl⟩;go_wp2;go_ret;exact⟨λ_=>⟨rfl,fp.fail ⟨⟨A,n,c,HB.out,s.out,i⟩,f,k⟩ e⟩,λh=>absurd h u.out⟩
theorem ux(g:Nat)(S:Nat->Prop)(l:List UInt8)(p:Nat)(f:Int)(i:Value)(w:World)(h:Rr w g S l p f)(b:f≠0):
  Calls prog 145 #[.pointer (some ⟨g,0,none⟩),i] w λe w'=>e= .returned (.string ⟨#[]⟩)/\w=w':=by
 obtain⟨⟨A,n,c,a,o,m⟩,d,q⟩:=h;have j:w.cell? ⟨g,2,none⟩=some (.int .i64 f):=a.cell 2;have k:(f !=0)=true:=by rw[bne_iff_ne];exact b
 clear a o b;go_enter func145,ntmps145;go_wp2;go_ret;exact⟨rfl,rfl⟩
end Go.Proofs.YtphjagkehiklkaaGreatDoor
namespace Go.Proofs.YtphjagkehiklkaaGreatDoor
open Proofs.Tryz Go.RowKit
def aO(aS:Int)(l:List UInt8):Int×Nat×Int:=((pn l 9).1,(pn l 9).2.1,if(pn l 9).2.2=0/\aS<((pn l 9).1:Int)then 2 else((pn l 9).2.2:Nat))
def cC(l:List UInt8):Bool×Nat×Int:=if l.length=0 then(false,0,28)else if 1<(l[0]?.getD 0).toNat then(false,0,3)else((l[0]?.getD 0).toNat==1,1,0)
def cg(aS:Int)(l:List UInt8):List UInt8×Nat×Int:=
 if(pn l 9).2.2≠0 then([],0,((pn l 9).2.2:Nat))
 else if aS<((pn l 9).1:Int)\/16777216<(pn l 9).1 then([],0,5)
 else if l.length<(pn l 9).2.1+(pn l 9).1 then([],0,28)
 else((l.drop (pn l 9).2.1).take (pn l 9).1,(pn l 9).2.1+(pn l 9).1,0)
def aE{α:Type}(zero:α)(parse:List UInt8->α×Nat×Int)(st:List UInt8×Nat×Int):α×(List UInt8×Nat×Int):=
 if st.2.2≠0 then(zero,st)else if(parse st.1).2.2≠0 then(zero,(st.1,st.2.1,(parse st.1).2.2))else((parse st.1).1,(st.1.drop (parse st.1).2.1,st.2.1+(parse st.1).2.1,0))
def ks(w:World)(g:Nat)(S:Nat->Prop)(v:Value)(st:List UInt8×Nat×Int)(a:Ending)(w':World):Prop:=a= .returned v/\fp w g S w' st.1 st.2.1 st.2.2
theorem ks.ok{α:Type}{w w1:World}{g:Nat}{S:Nat->Prop}{l:List UInt8}{p:Nat}(zero:α)(parse:List UInt8->α×Nat×Int)(V:α->Value){d:Ending}{w':World}(i:Fr Nothing w w1)(f:g<w.heap.size)
  (h:pY w1 g S l p (V (parse l).1) (V zero) (parse l).2.1 (parse l).2.2 d w'):ks w g S (V (aE zero parse (l,p,0)).1) (aE zero parse (l,p,0)).2 d w':=by
 have b:∀{w2:World},Fr (eH g) w1 w2->Fr (eH g) w w2:=λh=>(i.bR).trans h;by_cases he:(parse l).2.2=0
 ·obtain⟨c,a⟩:=h.2 he;have e:aE zero parse (l,p,0)=((parse l).1,(l.drop (parse l).2.1,p+(parse l).2.1,0)):=by simp[aE,he]
  rw[e];exact⟨c,a.rr,b a.fr⟩
 ·obtain⟨c,a⟩:=h.1 he;have e:aE zero parse (l,p,0)=(zero,(l,p,(parse l).2.2)):=by simp[aE,he]
  rw[e];exact⟨c,a.rr,b a.fr⟩
theorem ks.bad{α:Type}{w w1:World}{g:Nat}{S:Nat->Prop}{l:List UInt8}{p:Nat}{f:Int}(zero:α)(parse:List UInt8->α×Nat×Int)(V:α->Value){b:Ending}(c:Fr Nothing w w1)(h:Rr w g S l p f)(a:f≠0)(he:b= .returned (V zero)):
  ks w g S (V (aE zero parse (l,p,f)).1) (aE zero parse (l,p,f)).2 b w1:=by
 have e:aE zero parse (l,p,f)=(zero,(l,p,f)):=by simp[aE,a]
 rw[e];exact⟨he,h.iZ c,c.bR⟩
theorem Rr.lt{w:World}{g:Nat}{S:Nat->Prop}{l:List UInt8}{p:Nat}{f:Int}(h:Rr w g S l p f):g<w.heap.size:=by
 obtain⟨⟨_,_,_,a,_⟩,_⟩:=h;exact a.lt
theorem AM:∀args w,(callFunc 149 args).run prog w= .ok (.enter 149 args) w:=λ_ _=>by kernel_rfl
theorem Hg:∀args w,(callFunc 156 args).run prog w= .ok (.enter 156 args) w:=λ_ _=>by kernel_rfl
theorem Hh:∀args w,(callFunc 146 args).run prog w= .ok (.enter 146 args) w:=λ_ _=>by kernel_rfl
theorem yX(A:Option Addr)(n c b:Nat)(l:List UInt8)(aS:Int)(w:World)(S:Nat->Prop)(k:Rd w S 1 A n (l.map bv))(o:n<=1099511627776)(p:w.cell? ⟨b,0,none⟩=some (.int .i64 aS)):
  Calls prog 149 #[.slice A n c, .pointer (some ⟨b,0,none⟩)] w λe w'=>e= .returned (.tuple #[.int .i64 (aO aS l).1, .int .i64 ((aO aS l).2.1:Nat), .int .i64 (aO aS l).2.2])/\w=w':=by
 have d:=tN A n c l w S k o;have i:=zQ l;have f:(pn l 9).2.2=0\/(pn l 9).2.2≠0:=by omega
 unfold aO;generalize(pn l 9).1=m at d i f⊢;generalize(pn l 9).2.1=a2 at d f⊢;generalize(pn l 9).2.2=a3 at d f⊢;have g:=af d;clear d k;rcases f with rfl|a
 ·by_cases hm:aS<(m:Int);·rw[if_pos ⟨rfl,hm⟩];go_enter func149,ntmps149;go_wp2_with fail;refine g.out.mono ?_;rintro e w1⟨rfl,rfl⟩;go_wp2;go_ret3;exact⟨rfl,rfl⟩
  ·rw[if_neg (λh=>hm h.2)];go_enter func149,ntmps149;go_wp2_with fail;refine g.out.mono ?_;rintro e w1⟨rfl,rfl⟩;go_wp2;go_ret3;exact⟨rfl,rfl⟩
 ·have j:((a3:Int)==0)=false:=jr (by omega);rw[if_neg (λh=>a h.1)];clear a;go_enter func149,ntmps149;go_wp2_with fail;refine g.out.mono ?_;rintro e w1⟨rfl,rfl⟩;go_wp2;go_ret3;exact⟨rfl,rfl⟩
theorem Df(A:Option Addr)(n c:Nat)(l:List UInt8)(w:World)(S:Nat->Prop)(g:Rd w S 1 A n (l.map bv))(q:n<=1099511627776):
  Calls prog 156 #[.slice A n c] w λe w'=>e= .returned (.tuple #[.bool (cC l).1, .int .i64 ((cC l).2.1:Nat), .int .i64 (cC l).2.2])/\w=w':=by
 have o:l.length=n:=by simpa using g.1
 rw[show cC l=if n=0 then(false,0,28)else if 1<(l[0]?.getD 0).toNat then(false,0,3)else((l[0]?.getD 0).toNat==1,1,0)by unfold cC;rw[o]];clear o;by_cases f:n=0;·rw[if_pos f];subst f;clear g;go_enter func156,ntmps156;go_wp2;go_ret3;exact⟨rfl,rfl⟩
 ·rw[if_neg f];have r:((n:Int)==0)=false:=jr (by omega);have d:0<n:=by omega
  have i:(0:Int)<(n:Int):=by omega
  obtain⟨p,rfl,m⟩:=g.byte d;have h:w.cell? p=some (.int .u8 ((l[0]?.getD 0).toNat:Int)):=by simpa[Addr.add]using m
  clear g m f;generalize(l[0]?.getD 0).toNat=b at h⊢;by_cases k:1<b;·rw[if_pos k];go_enter func156,ntmps156;go_wp2;go_ret3;exact⟨rfl,rfl⟩
  ·rw[if_neg k];have a:(b==1)=((b:Int)==1):=by
    by_cases j:b=1;·subst j;rfl
    ·rw[beq_eq_false_iff_ne.2 j,jr (by omega)]
   rw[a];clear a;go_enter func156,ntmps156;go_wp2;go_ret3;exact⟨rfl,rfl⟩
theorem Ku{w:World}{S:Nat->Prop}{A:Option Addr}{n c a m:Nat}{l:List UInt8}(j:Rd w S 1 A n (l.map bv))(h:a+m<=n)(i:n<=c)(b:Option Addr)(g:b=if c=a then A else A.map (·.add a))(d:Nat):
  (convert 61 9 (.slice b m d)).run prog w= .ok (.string ⟨((l.drop a).take m).toArray⟩) w:=by
 subst g;have f:=j.Mx (k:=a) (by omega) i;have e:=f.take (k:=m) (by omega);rw[Nat.mul_one,<-List.map_take]at e;exact kL w S _ m d _ e
theorem Dz(A:Option Addr)(n c b:Nat)(l:List UInt8)(aS:Int)(w:World)(S:Nat->Prop)(q:Rd w S 1 A n (l.map bv))(y:n<=1099511627776)(v:n<=c)(z:w.cell? ⟨b,0,none⟩=some (.int .i64 aS)):
  Calls prog 146 #[.slice A n c, .pointer (some ⟨b,0,none⟩)] w λe w'=>e= .returned (.tuple #[.string ⟨(cg aS l).1.toArray⟩, .int .i64 ((cg aS l).2.1:Nat), .int .i64 (cg aS l).2.2])/\w=w':=by
 have j:=tN A n c l w S q y;have s:=zQ l;have k:=(Cg l 9 (by omega)).2;have i:l.length=n:=by simpa using q.1
 have o:=af (λa m h=>Ku (a:=a) (m:=m) q h v);unfold cg;generalize(pn l 9).1=f at j s⊢;generalize(pn l 9).2.1=a2 at j k⊢;generalize(pn l 9).2.2=a3 at j⊢;rw[i]at k⊢;have d:=af j;clear j q i;by_cases p:a3≠0
 ·rw[if_pos p];have x:((a3:Int)!=0)=true:=by rw[bne_iff_ne];omega
  clear p;go_enter func146,ntmps146;go_wp2_with fail;refine d.out.mono ?_;rintro e w1⟨rfl,rfl⟩;go_wp2;go_ret3;exact⟨rfl,rfl⟩
 ·rw[if_neg p];have r:a3=0:=by omega
  subst r;clear p;by_cases hm:aS<(f:Int);·rw[if_pos (.inl hm)];go_enter func146,ntmps146;go_wp2_with fail;refine d.out.mono ?_;rintro e w1⟨rfl,rfl⟩;go_wp2;go_ret3;exact⟨rfl,rfl⟩
  ·by_cases u:16777216<f;·rw[if_pos (.inr u)];go_enter func146,ntmps146;go_wp2_with fail;refine d.out.mono ?_;rintro e w1⟨rfl,rfl⟩;go_wp2;go_ret3;exact⟨rfl,rfl⟩
   ·rw[if_neg (by omega)];by_cases hlen:n<a2+f;·rw[if_pos hlen];go_enter func146,ntmps146;go_wp2_with fail;refine d.out.mono ?_;rintro e w1⟨rfl,rfl⟩;go_wp2;go_ret3;exact⟨rfl,rfl⟩
    ·rw[if_neg hlen];by_cases g:c=a2;·subst g;have t:=o.out c f (by omega) A (by simp) 0;clear o;go_enter func146,ntmps146;go_wp2_with fail;refine d.out.mono ?_;rintro e w1⟨rfl,rfl⟩;go_wp2;go_ret3;exact⟨rfl,rfl⟩
     ·have t:=o.out a2 f (by omega) (A.map (·.add a2)) (by rw[if_neg g]) (c-a2);clear o;go_enter func146,ntmps146;go_wp2_with fail;refine d.out.mono ?_;rintro e w1⟨rfl,rfl⟩;go_wp2;go_ret3;exact⟨rfl,rfl⟩
theorem xw(aS:Int)(l:List UInt8):(aO aS l).2.1<=l.length:=(Cg l 9 (by omega)).2
theorem Cb(l:List UInt8):(cC l).2.1<=l.length:=by
 unfold cC;repeat' split
 all_goals simp only
 all_goals omega
theorem Cc(aS:Int)(l:List UInt8):(cg aS l).2.1<=l.length:=by
 unfold cg;repeat' split
 all_goals simp only
 all_goals omega
theorem Rr.Kd{w:World}{g:Nat}{S:Nat->Prop}{l:List UInt8}{p:Nat}{f:Int}(h:Rr w g S l p f){A:Option Addr}{n:Nat}{w':World}(a:Rd w' S 1 A n (l.map bv)):n<=1099511627776:=by
 have:=a.1;have:=h.small;simp at*;omega
theorem xS(x y:Value):(#[x]++#[y]:Array Value)=#[x,y]:=rfl
theorem Ha(x:Value):(#[x]++#[]:Array Value)=#[x]:=rfl
def tV(l:List UInt8):Value:= .string ⟨l.toArray⟩
theorem jz(g:Nat)(S:Nat->Prop)(l:List UInt8)(p:Nat)(f:Int)(aS:Int)(w:World)(h:Rr w g S l p f):
  Calls prog 107 #[.pointer (some ⟨g,0,none⟩), .int .i64 aS] w (ks w g S (Value.int .i64 (aE 0 (aO aS) (l,p,f)).1) (aE 0 (aO aS) (l,p,f)).2):=by
 have a:=af h;clear h;have b:=af ((Fr.refl Nothing w).alloc (.cells #[.int .i64 aS] 3));by_cases i:f=0
 ·subst i;go_enter func107,ntmps107;go_wp2_with fail;have d:Hid (∀A n c,Rd (w.alloc (.cells #[.int .i64 aS] 3)) S 1 A n (l.map bv)->n<=c->Calls prog 149 (#[.slice A n c]++#[.pointer (some ⟨w.heap.size,0,none⟩)]) (w.alloc (.cells #[.int .i64 aS] 3)) λq w'=>q= .returned (.tuple #[.int .i64 (aO aS l).1, .int .i64 ((aO aS l).2.1:Nat), .int .i64 (aO aS l).2.2])/\w.alloc (.cells #[.int .i64 aS] 3)=w'):=by
   intro A n c o r;rw[xS];exact yX A n c w.heap.size l aS _ S o (a.out.Kd o) ((aq.new w _ _).cell 0)
  refine(Cn g S l p 149 #[.pointer (some ⟨w.heap.size,0,none⟩)] (w.alloc (.cells #[.int .i64 aS] 3)) (a.out.iZ b.out) (aO aS l).1 (aO aS l).2.1 (aO aS l).2.2 (xw aS l) AM d.out).mono ?_;rintro e w1 m;have k:=af (ks.ok 0 (aO aS) (Value.int .i64) b.out a.out.lt m);obtain⟨rfl,_⟩:=k.out;clear m;go_wp2;go_ret;exact k.out
 ·have j:=af i;clear i;go_enter func107,ntmps107;go_wp2_with fail;refine(zU g S l p f _ _ (a.out.iZ b.out) j.out).mono ?_;rintro e w1⟨rfl,rfl⟩;go_wp2;go_ret;exact ks.bad 0 (aO aS) (Value.int .i64) b.out a.out j.out rfl
theorem kH(g:Nat)(S:Nat->Prop)(l:List UInt8)(p:Nat)(f:Int)(aS:Int)(w:World)(h:Rr w g S l p f):
  Calls prog 104 #[.pointer (some ⟨g,0,none⟩), .int .i64 aS] w (ks w g S (tV (aE [] (cg aS) (l,p,f)).1) (aE [] (cg aS) (l,p,f)).2):=by
 have a:=af h;clear h;have b:=af ((Fr.refl Nothing w).alloc (.cells #[.int .i64 aS] 3));by_cases i:f=0
 ·subst i;go_enter func104,ntmps104;go_wp2_with fail;have d:Hid (∀A n c,Rd (w.alloc (.cells #[.int .i64 aS] 3)) S 1 A n (l.map bv)->n<=c->Calls prog 146 (#[.slice A n c]++#[.pointer (some ⟨w.heap.size,0,none⟩)]) (w.alloc (.cells #[.int .i64 aS] 3)) λr w'=>r= .returned (.tuple #[.string ⟨(cg aS l).1.toArray⟩, .int .i64 ((cg aS l).2.1:Nat), .int .i64 (cg aS l).2.2])/\w.alloc (.cells #[.int .i64 aS] 3)=w'):=by
   intro A n c q j;rw[xS];exact Dz A n c w.heap.size l aS _ S q (a.out.Kd q) j ((aq.new w _ _).cell 0)
  refine(wO g S l p 146 #[.pointer (some ⟨w.heap.size,0,none⟩)] (w.alloc (.cells #[.int .i64 aS] 3)) (a.out.iZ b.out) ⟨(cg aS l).1.toArray⟩ (cg aS l).2.1 (cg aS l).2.2 (Cc aS l) Hh d.out).mono ?_;rintro e w1 o;have m:=af (ks.ok [] (cg aS) tV b.out a.out.lt o);obtain⟨rfl,_⟩:=m.out;clear o;go_wp2;go_ret;exact m.out
 ·have k:=af i;clear i;go_enter func104,ntmps104;go_wp2_with fail;refine(ux g S l p f _ _ (a.out.iZ b.out) k.out).mono ?_;rintro e w1⟨rfl,rfl⟩;go_wp2;go_ret;exact ks.bad [] (cg aS) tV b.out a.out k.out rfl
theorem Fb(g:Nat)(S:Nat->Prop)(l:List UInt8)(p:Nat)(f:Int)(w:World)(h:Rr w g S l p f):
  Calls prog 119 #[.pointer (some ⟨g,0,none⟩)] w (ks w g S (Value.bool (aE false cC (l,p,f)).1) (aE false cC (l,p,f)).2):=by
 have a:=af h;clear h;by_cases d:f=0
 ·subst d;go_enter func119,ntmps119;go_wp2_with fail;have b:Hid (∀A n c,Rd w S 1 A n (l.map bv)->n<=c->Calls prog 156 (#[.slice A n c]++#[]) w λo w'=>o= .returned (.tuple #[.bool (cC l).1, .int .i64 ((cC l).2.1:Nat), .int .i64 (cC l).2.2])/\w=w'):=by
   intro A n c m q;rw[Ha];exact Df A n c l _ S m (a.out.Kd m)
  refine(zT g S l p 156 #[] w a.out (cC l).1 (cC l).2.1 (cC l).2.2 (Cb l) Hg b.out).mono ?_;rintro e w1 k;have j:=af (ks.ok false cC Value.bool aA a.out.lt k);obtain⟨rfl,_⟩:=j.out;clear k;go_wp2;go_ret;exact j.out
 ·have i:=af d;clear d;go_enter func119,ntmps119;go_wp2_with fail;refine(xx g S l p f _ _ a.out i.out).mono ?_;rintro e w1⟨rfl,rfl⟩;go_wp2;go_ret;exact ks.bad false cC Value.bool aA a.out i.out rfl
def MO(w:World)(l:List UInt8)(e:Ending)(w':World):Prop:=∃g S,e= .returned (.pointer (some ⟨g,0,none⟩))/\Rr w' g S l 0 0/\Fr Nothing w w'/\w.heap.size<=g/\∀k,S k->w.heap.size<=k/\k<w'.heap.size
theorem jV(A:Option Addr)(n c:Nat)(l:List UInt8)(w:World)(S:Nat->Prop)(g:Rd w S 1 A n (l.map bv))(r:n<=1099511627776):Calls prog 69 #[.slice A n c] w (MO w l):=by
 have d:l.length=n:=by simpa using g.1
 have p:=af d;have o:=af (uS A n c l w S g r);clear d g;go_enter func69,ntmps69;go_wp2_with fail;refine o.out.mono ?_;rintro e w1⟨v1,rfl,a⟩;obtain⟨i,n1,j,rfl,H1,f⟩:=aK a.own;have b:=af a;clear a;go_wp2;go_ret;have q:=oP.rd b.out.own H1.out;refine⟨w1.heap.size,od (.slice i n1 j),rfl,⟨⟨i,n1,j,aq.new _ _ _,q.ao (aA.alloc _),f.out⟩,λh=>?_,?_⟩,b.out.ao.alloc _,b.out.fr.size,λk m=>⟨b.out.new k m,by have:=(b.out.own.lt _ m).2;simp;omega⟩⟩;·have:=(b.out.own.lt _ h).2;omega
 ·have:=p.out;omega
theorem Fg(g:Nat)(S:Nat->Prop)(l:List UInt8)(p:Nat)(f:Int)(w:World)(h:Rr w g S l p f):
  Calls prog 117 #[.pointer (some ⟨g,0,none⟩)] w λe w'=>e= .returned (.int .i64 (l.length:Nat))/\w=w':=by
 obtain⟨⟨A,n,c,b,i,k⟩,d,m⟩:=h;have a:l.length=n:=by simpa using i.1
 have j:w.cell? ⟨g,0,none⟩=some (.slice A n c):=b.cell 0;rw[a];clear b i a;go_enter func117,ntmps117;go_wp2;go_ret;exact⟨rfl,rfl⟩
theorem j8(g:Nat)(S:Nat->Prop)(l:List UInt8)(p:Nat)(f:Int)(w:World)(h:Rr w g S l p f):
  Calls prog 105 #[.pointer (some ⟨g,0,none⟩)] w λe w'=>e= .returned (.tuple #[.int .i64 (if f=0 then 0 else(p:Int)), .int .i64 f])/\Fr Nothing w w':=by
 obtain⟨⟨A,n,c,b,o,m⟩,d,q⟩:=h;have i:w.cell? ⟨g,1,none⟩=some (.int .i64 p):=b.cell 1;have j:w.cell? ⟨g,2,none⟩=some (.int .i64 f):=b.cell 2;clear b o;by_cases a:f=0;·subst a;rw[if_pos rfl];go_enter func105,ntmps105;go_wp2;go_ret2;exact aR
 ·rw[if_neg a];have k:(f==0)=false:=jr a;clear a;go_enter func105,ntmps105;go_wp2;go_quiet(fail);go_wp2;go_ret2;exact⟨rfl,aA.drewN _⟩
theorem pP(g:Nat)(S:Nat->Prop)(l:List UInt8)(p:Nat)(f:Int)(w:World)(h:Rr w g S l p f):
  Calls prog 72 #[.pointer (some ⟨g,0,none⟩)] w λe w'=>e= .returned (.int .i64 (if f=0 then(if 0<l.length then 5 else 0)else f))/\w=w':=by
 obtain⟨⟨A,n,c,d,k,r⟩,i,s⟩:=h;have a:l.length=n:=by simpa using k.1
 have m:w.cell? ⟨g,0,none⟩=some (.slice A n c):=d.cell 0;have o:w.cell? ⟨g,2,none⟩=some (.int .i64 f):=d.cell 2;rw[a];clear d k a;by_cases b:f=0
 ·subst b;rw[if_pos rfl];by_cases j:0<n;·rw[if_pos j];go_enter func72,ntmps72;go_wp2;go_ret;exact⟨rfl,rfl⟩
  ·rw[if_neg j];go_enter func72,ntmps72;go_wp2;go_ret;exact⟨rfl,rfl⟩
 ·rw[if_neg b];have q:(f !=0)=true:=by rw[bne_iff_ne];exact b
  clear b;go_enter func72,ntmps72;go_wp2;go_ret;exact⟨rfl,rfl⟩
end Go.Proofs.YtphjagkehiklkaaGreatDoor
