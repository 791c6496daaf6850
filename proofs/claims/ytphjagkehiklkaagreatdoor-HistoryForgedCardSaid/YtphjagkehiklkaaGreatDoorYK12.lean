/- Texts. -/
import Derived.Test.YtphjagkehiklkaaGreatDoorYK11
set_option linter.unusedVariables false
set_option linter.unusedSimpArgs false
set_option maxRecDepth 100000
set_option maxHeartbeats 4000000
namespace Go.Proofs.YtphjagkehiklkaaGreatDoor
open Go.RowKit Go.Shelf
theorem Ev(l:List UInt8)(m:Nat)(hm:m≤10)(h:(pn l m).2.2=0):enc (pn l m).1=l.take (pn l m).2.1∧(pn l m).2.1≤l.length:=by
 rcases sc l m hm with(a|a)|⟨k,c,d,b,e,_,f,a⟩;·rw[a]at h;simp at h
 ·rw[a]at h;simp at h
 ·rw[a];exact⟨Iq l m k c hm d b e f,b⟩
theorem pQ{α:Type}(zero:α)(parse:List UInt8→α×Nat×Int)(st:List UInt8×Nat×Int)(h:st.2.2≠0):(aN zero parse st).2=st:=by
 unfold aN;rw[if_pos h]
theorem mu(aO:Int)(st:List UInt8×Nat×Int)(h:(aN [] (cj aO) st).2.2.2=0):st.2.2=0∧st.1=bF (aN [] (cj aO) st).1++(aN [] (cj aO) st).2.1:=by
 by_cases b:st.2.2=0
 ·refine⟨b,?_⟩;unfold aN at h⊢;rw[if_neg (by omega)]at h⊢;by_cases a:(cj aO st.1).2.2=0
  ·rw[if_neg (by omega)];simp only;unfold cj at a⊢;by_cases c:(pn st.1 9).2.2≠0;·rw[if_pos c]at a;simp only at a;omega
   rw[if_neg c]at a⊢;by_cases d:aO<((pn st.1 9).1:Int)∨16777216<(pn st.1 9).1;·rw[if_pos d]at a;cases a
   rw[if_neg d]at a⊢;by_cases e:st.1.length<(pn st.1 9).2.1+(pn st.1 9).1;·rw[if_pos e]at a;cases a
   rw[if_neg e];simp only[bF];obtain⟨he,g⟩:=Ev st.1 9 (by omega) (by omega);generalize(pn st.1 9).2.1=k at*;generalize(pn st.1 9).1=n at*;have f:((st.1.drop k).take n).length=n:=by rw[List.length_take,List.length_drop];omega
   rw[f,he,List.append_assoc,←List.drop_drop,List.take_append_drop,List.take_append_drop]
  ·rw[if_pos a]at h;exact absurd h a
 ·rw[pQ _ _ _ b]at h;exact absurd h b
theorem qj(aO:Int)(st:List UInt8×Nat×Int)(h:(aN 0 (aZ aO) st).2.2.2=0):st.2.2=0∧st.1=enc (aN 0 (aZ aO) st).1.toNat++(aN 0 (aZ aO) st).2.1:=by
 by_cases b:st.2.2=0
 ·refine⟨b,?_⟩;unfold aN at h⊢;rw[if_neg (by omega)]at h⊢;by_cases a:(aZ aO st.1).2.2=0
  ·rw[if_neg (by omega)];simp only;unfold aZ at a⊢;simp only at a⊢;have c:(pn st.1 9).2.2=0:=by
    split at a;·omega
    ·omega
   obtain⟨he,d⟩:=Ev st.1 9 (by omega) c;rw[Int.toNat_natCast,he,List.take_append_drop]
  ·rw[if_pos a]at h;exact absurd h a
 ·rw[pQ _ _ _ b]at h;exact absurd h b
theorem ql{α:Type}(zero:α)(parse:List UInt8→α×Nat×Int)(l:List UInt8)(p:Nat)(x:α)(k:Nat)(h:parse l=(x,k,0)):aN zero parse (l,p,0)=(x,(l.drop k,p+k,0)):=by
 unfold aN;simp[h]
theorem jT(u:Nat)(aO:Int)(hu:u<9223372036854775808)(hm:(u:Int)≤aO)(r:List UInt8)(p:Nat):aN 0 (aZ aO) (enc u++r,p,0)=((u:Int),(r,p+(enc u).length,0)):=by
 have h:aZ aO (enc u++r)=((u:Int),(enc u).length,0):=by
  unfold aZ;rw[Ax u r hu];simp only[true_and];rw[if_neg (by omega)];rfl
 rw[ql 0 (aZ aO) _ p _ _ h,List.drop_left]
theorem lP(s:List UInt8)(aO:Int)(a:(s.length:Int)≤aO)(b:s.length≤16777216)(r:List UInt8)(p:Nat):aN [] (cj aO) (bF s++r,p,0)=(s,(r,p+(bF s).length,0)):=by
 have h:cj aO (bF s++r)=(s,(bF s).length,0):=by
  unfold cj bF;rw[List.append_assoc,Ax s.length (s++r) (by omega)];simp only[ne_eq,not_true_eq_false,if_false];rw[if_neg (by omega),if_neg (by simp only[aY];omega),List.drop_left,List.take_left,aY]
 rw[ql [] (cj aO) _ p _ _ h,List.drop_left]
theorem sq(l:List UInt8):aJ ⟨l.toArray⟩=l:=rfl
theorem yi{st:List UInt8×Nat×Int}(h:gh st=0):st.2.2=0∧st.1=[]:=by
 unfold gh at h;split at h;next a=>
  refine⟨a,?_⟩;split at h;·cases h
  ·exact List.eq_nil_of_length_eq_zero (by omega)
 next a=>exact absurd h a
theorem Dv{u:gX}{l:List UInt8}(hu:ij[(dZ l).1.toNat]? =some u)(m:gh (fI u l).2=0)(s:dD (fI u l).1=true):cI (fI u l).1=l:=by
 have x:=uF l;have d:dZ l=aN 0 (aZ 20) (l,0,0):=rfl;obtain⟨a0,n⟩:∃a,dZ l=a:=⟨_,rfl⟩;obtain⟨c,o⟩:∃a,kh u a0.2=a:=⟨_,rfl⟩;obtain⟨a2,p⟩:∃a,mP u c.2=a:=⟨_,rfl⟩;obtain⟨a3,q⟩:∃a,oC u a2.2=a:=⟨_,rfl⟩;obtain⟨a4,r⟩:∃a,pK u a3.2=a:=⟨_,rfl⟩;have y:fI u l=(⟨a0.1,⟨c.1.toArray⟩,a2.1,a3.1,⟨a4.1.toArray⟩⟩,a4.2):=by rw[fI,n,o,p,q,r]
 rw[y]at m s⊢;rw[n]at hu x d;simp only at m;obtain⟨k,A⟩:=yi m;have z:pP u ⟨a0.1,⟨c.1.toArray⟩,a2.1,a3.1,⟨a4.1.toArray⟩⟩=true:=by
  obtain⟨_,B,f,h⟩:=rm s;simp only at f;rw[hu]at f;cases f;exact h
 rw[rX (u:=u) hu];have w:a3.2.2.2=0∧a3.2.1=(if u.text then bF a4.1 else[])++a4.2.1:=by
  rw[←r]at k⊢;unfold pK at k⊢;split;next b=>rw[if_pos b]at k;exact mu 32 a3.2 k
  next b=>rw[if_neg b]at k;exact⟨k,rfl⟩
 have v:a2.2.2.2=0∧a2.2.1=(if u.index then enc a3.1.toNat else[])++a3.2.1:=by
  have j:=w.1;rw[←q]at j⊢;unfold oC at j⊢;split;next b=>rw[if_pos b]at j;exact qj u.aO a2.2 j
  next b=>rw[if_neg b]at j;exact⟨j,rfl⟩
 have s2:c.2.2.2=0∧c.2.1=(if u.number then enc a2.1.toNat else[])++a2.2.1:=by
  have i:=v.1;rw[←p]at i⊢;unfold mP at i⊢;split;next b=>rw[if_pos b]at i;exact qj 1073741824 c.2 i
  next b=>rw[if_neg b]at i;exact⟨i,rfl⟩
 have s1:a0.2.2.2=0∧a0.2.1=(if u.owner then bF c.1 else[])++c.2.1:=by
  have g:=s2.1;rw[←o]at g⊢;unfold kh at g⊢;split;next b=>rw[if_pos b]at g;exact mu 16777216 a0.2 g
  next b=>rw[if_neg b]at g;exact⟨g,rfl⟩
 have t:=qj 20 (l,0,0) (by rw[←d];exact s1.1);rw[←d]at t;have e:=t.2;simp only at e;rw[e,s1.2,s2.2,v.2,w.2,A,List.append_nil];rfl
theorem Dc{u:gX}{n:aI}(h:pP u n=true)(a:u.text=true):n.text.size≤32:=by
 simp only[pP,Bool.and_eq_true,Bool.or_eq_true,Bool.not_eq_true']at h;rcases h.2 with h|h;·rw[a]at h;cases h
 ·simp only[ks,Bool.and_eq_true,decide_eq_true_eq]at h;exact h.1.2
theorem Du{m:aI}(G:dD m=true)(I:m.owner.size≤16777216):∃u,ij[(dZ (cI m)).1.toNat]? =some u∧gh (fI u (cI m)).2=0∧(fI u (cI m)).1=m:=by
 obtain⟨A,u,hu,v⟩:=rm G;have g:=sY v;have hm:=Ah hu;rw[rX hu];have B:=@Dc u m v;obtain⟨k,O,n,i,t⟩:=m;obtain⟨wd,b,a,bi,c,d⟩:=u;obtain⟨kk,rfl⟩:∃q:Nat,k=(q:Int):=⟨k.toNat,by simp only at A;omega⟩;simp only at A I hm B hu;simp only[nJ];rw[Int.toNat_natCast]at hu⊢;have d0:∀r,dZ (enc kk++r)=((kk:Int),(r,(enc kk).length,0)):=fun r=>by
  unfold dZ;rw[jT kk 20 (by omega) (by omega) r 0,Nat.zero_add]
 refine⟨⟨wd,b,a,bi,c,d⟩,by rw[d0,Int.toNat_natCast];exact hu,?_⟩;obtain⟨y,s⟩:∃N,(if c=true then bF (aJ t)else[])=N:=⟨_,rfl⟩;obtain⟨x,o⟩:∃N,(if bi=true then enc i.toNat else[])++y=N:=⟨_,rfl⟩;obtain⟨w,l⟩:∃N,(if a=true then enc n.toNat else[])++x=N:=⟨_,rfl⟩;obtain⟨z,j⟩:∃N,(if b=true then bF (aJ O)else[])++w=N:=⟨_,rfl⟩;rw[s,o,l,j];have d1:∀p,∃f,kh ⟨wd,b,a,bi,c,d⟩ (z,p,0)=(aJ O,(w,f,0)):=fun p=>by
  rw[←j];unfold kh;cases b;·have e:=g.o0 rfl;simp only at e;exact⟨p,by rw[e];rfl⟩
  ·exact⟨_,lP (aJ O) 16777216 (by rw[aL];omega) (by rw[aL];omega) w p⟩
 have d2:∀p,∃f,mP ⟨wd,b,a,bi,c,d⟩ (w,p,0)=(n,(x,f,0)):=fun p=>by
  rw[←l];unfold mP;cases a;·have e:=g.n0 rfl;simp only at e;exact⟨p,by rw[e];rfl⟩
  ·have e:=g.n1 rfl;simp only at e;have h:=jT n.toNat 1073741824 (by omega) (by omega) x p;rw[Int.toNat_of_nonneg e.1]at h;exact⟨_,h⟩
 have d3:∀p,∃f,oC ⟨wd,b,a,bi,c,d⟩ (x,p,0)=(i,(y,f,0)):=fun p=>by
  rw[←o];unfold oC;cases bi;·have e:=g.i0 rfl;simp only at e;exact⟨p,by rw[e];rfl⟩
  ·have e:=g.i1 rfl;simp only at e;have h:=jT i.toNat d (by omega) (by omega) y p;rw[Int.toNat_of_nonneg e.1]at h;exact⟨_,h⟩
 have d4:∀p,∃f,pK ⟨wd,b,a,bi,c,d⟩ (y,p,0)=(aJ t,([],f,0)):=fun p=>by
  rw[←s];unfold pK;cases c;·have e:=g.t0 rfl;simp only at e;exact⟨p,by rw[e];rfl⟩
  ·have e:=B rfl;have h:=lP (aJ t) 32 (by rw[aL];omega) (by rw[aL];omega) [] p;rw[List.append_nil]at h;exact⟨_,h⟩
 obtain⟨J,C⟩:=d1 (enc kk).length;obtain⟨K,D⟩:=d2 J;obtain⟨L,E⟩:=d3 K;obtain⟨M,F⟩:=d4 L;have H:fI ⟨wd,b,a,bi,c,d⟩ (enc kk++z)=(⟨(kk:Int),⟨(aJ O).toArray⟩,n,i,⟨(aJ t).toArray⟩⟩,([],M,0)):=by
  rw[fI,d0];simp only[C,D,E,F]
 rw[H];exact⟨rfl,rfl⟩
def gz(l:List UInt8):aI×Int:=match ij[(dZ l).1.toNat]? with
 |some u=>if gh (fI u l).2=0∧dD (fI u l).1=true then((fI u l).1,0)else(⟨0,ByteArray.empty,0,0,ByteArray.empty⟩,3)
 |none=>(⟨0,ByteArray.empty,0,0,ByteArray.empty⟩,3)
theorem rN(l:List UInt8):∃u,ij[(dZ l).1.toNat]? =some u:=by
 have h:=uF l;have a:ij.length=21:=by decide
 exact⟨_,List.getElem?_eq_getElem (show(dZ l).1.toNat<ij.length by omega)⟩
theorem qW{l:List UInt8}{u:gX}(h:ij[(dZ l).1.toNat]? =some u):gz l=if gh (fI u l).2=0∧dD (fI u l).1=true then((fI u l).1,0)else(⟨0,ByteArray.empty,0,0,ByteArray.empty⟩,3):=by
 unfold gz;rw[h]
theorem Fv{m:aI}(a:dD m=true)(d:m.owner.size≤16777216):gz (cI m)=(m,0):=by
 obtain⟨u,hu,b,c⟩:=Du a d;rw[qW hu,c,if_pos ⟨b,a⟩]
theorem Fw{l:List UInt8}(h:(gz l).2=0):dD (gz l).1=true∧cI (gz l).1=l:=by
 obtain⟨u,hu⟩:=rN l;rw[qW hu]at h⊢;by_cases a:gh (fI u l).2=0∧dD (fI u l).1=true;·rw[if_pos a];exact⟨a.2,Dv hu a.1 a.2⟩
 ·rw[if_neg a]at h;cases h
theorem vu(aO:Int)(st:List UInt8×Nat×Int):(aN [] (cj aO) st).1.length≤st.1.length:=by
 unfold aN;split;·simp
 ·split;·simp
  next h=>
   simp only[cj];split;·simp
   ·split;·simp
    ·split;·simp
     ·simp only[List.length_take,List.length_drop];omega
theorem AH(aO:Int)(st:List UInt8×Nat×Int):(aN [] (cj aO) st).2.1.length≤st.1.length:=by
 unfold aN;split;·simp
 ·split;·simp
  ·simp only[List.length_drop];omega
theorem lO(aO:Int)(st:List UInt8×Nat×Int):(aN 0 (aZ aO) st).2.1.length≤st.1.length:=by
 unfold aN;split;·simp
 ·split;·simp
  ·simp only[List.length_drop];omega
theorem sN(l:List UInt8):(gz l).1.owner.size≤l.length∧(gz l).1.text.size≤l.length:=by
 obtain⟨u,hu⟩:=rN l;rw[qW hu];split
 ·have a:=lO 20 (l,0,0);have b:dZ l=aN 0 (aZ 20) (l,0,0):=rfl;rw[←b]at a;simp only at a;have c:∀st,(kh u st).1.length≤st.1.length∧(kh u st).2.1.length≤st.1.length:=fun st=>by
   unfold kh;split;·exact⟨vu _ _,AH _ _⟩
   ·simp
  have d:∀st,(mP u st).2.1.length≤st.1.length:=fun st=>by
   unfold mP;split;·exact lO _ _
   ·simp
  have e:∀st,(oC u st).2.1.length≤st.1.length:=fun st=>by
   unfold oC;split;·exact lO _ _
   ·simp
  have f:∀st,(pK u st).1.length≤st.1.length:=fun st=>by
   unfold pK;split;·exact vu _ _
   ·simp
  simp only[fI,ByteArray.size,List.size_toArray];have g:=c (dZ l).2;have a2:=d (kh u (dZ l).2).2;have a3:=e (mP u (kh u (dZ l).2).2).2;have a4:=f (oC u (mP u (kh u (dZ l).2).2).2).2;omega
 ·simp
def ud(w:World)(l:List UInt8)(e:Ending)(w':World):Prop:=e= .returned (.tuple #[.agg (gz l).1.cells.toArray, .int .i64 (gz l).2])∧Fr ag w w'
theorem ER(s:ByteArray)(w:World)(d:eG w)(f:s.size≤16777216):Calls Tryz.prog 118 #[.string s] w (ud w (aJ s)):=by
 obtain⟨u,hu⟩:=rN (aJ s);refine(Bu s u w d f hu).mono ?_;rintro e w'⟨n,k,rfl,a,h⟩;unfold ud;rw[qW hu];rcases h with⟨b,c,rfl,rfl⟩|⟨h,rfl,rfl⟩;·rw[if_pos ⟨b,c⟩];exact⟨rfl,a⟩
 ·rw[if_neg h];exact⟨rfl,a⟩
abbrev fC:=List UInt8×Nat×Int
def dF(st:fC):List UInt8×fC:=aN [] (cj 65536) st
def LF:aI:=⟨0,ByteArray.empty,0,0,ByteArray.empty⟩
structure qF(L:List Ent)(last:aI)(st:fC):Prop where
 sort:cQ L
 ok:∀x∈L,dD x.1=true
 owner:∀x∈L,x.1.owner.size≤70000
 text:∀x∈L,x.1.text.size≤70000
 value:∀x∈L,x.2.size≤70000
 len:2*L.length+st.1.length≤70000
 bytes:dm L+st.1.length≤70000
 last:L=[]∨∃M v,L=M++[(last,v)]
theorem qF.nil{l:List UInt8}(h:l.length≤70000)(st:fC)(a:st.1.length≤l.length):qF [] LF st:=
 ⟨List.Pairwise.nil,(fun _ h=>by cases h),(fun _ h=>by cases h),(fun _ h=>by cases h),(fun _ h=>by cases h),by simp;omega,by simp[dm];omega,Or.inl rfl⟩
theorem qF.kE{L:List Ent}{last:aI}{st:fC}(h:qF L last st):rH L:=
 ⟨h.sort,fun x a=>by have:=h.owner x a;omega,by have:=h.len;omega,by have:=h.bytes;omega,h.ok⟩
theorem qF.small{L:List Ent}{last:aI}{st:fC}(h:qF L last st):xX L:=
 ⟨h.ok,fun x a=>by have:=h.owner x a;omega,fun x a=>by have:=h.text x a;omega,fun x a=>by have:=h.value x a;omega,by have:=h.len;omega⟩
theorem nS(s:List UInt8):s.length+1≤(bF s).length:=by
 unfold bF;have:1≤(enc s.length).length:=q6 9 _;rw[aY];omega
theorem zu(A B:List Ent):dm (A++B)=dm A+dm B:=by simp[dm]
theorem DC{L:List Ent}{last m:aI}(f:cQ L)(e:L=[]∨∃M v,L=M++[(last,v)])(d:¬(0<L.length∧bX m last≤0)):∀y∈L,0<bX m y.1:=by
 rcases e with rfl|⟨M,u,rfl⟩;·intro y a;cases a
 ·have b:0<bX m last:=by
   by_cases h:0<bX m last;·exact h
   ·exact absurd ⟨by simp,by omega⟩ d
  intro y a;rcases List.mem_append.1 a with a|a;·have c:=(cQ.parts f).2.2.1 y a;exact gv (cm.trans y.1 last m c (kX b))
  ·simp only[List.mem_singleton]at a;rw[a];exact b
theorem qF.next{L:List Ent}{last:aI}{st:fC}(h:qF L last st)(i:(gz (dF st).1).2=0)(j:¬(0<L.length∧bX (gz (dF st).1).1 last≤0))(k:(dF (dF st).2).2.2.2=0):
  qF (L++[((gz (dF st).1).1,⟨(dF (dF st).2).1.toArray⟩)]) (gz (dF st).1).1 (dF (dF st).2).2∧dC (gz (dF st).1).1 ⟨(dF (dF st).2).1.toArray⟩ L=L++[((gz (dF st).1).1,⟨(dF (dF st).2).1.toArray⟩)]∧
  (dF st).2.2.2=0∧st.2.2=0∧st.1=oF ((gz (dF st).1).1,⟨(dF (dF st).2).1.toArray⟩)++(dF (dF st).2).2.1:=by
 have Ge:=DC h.sort h.last j;obtain⟨d,s1⟩:=mu 65536 (dF st).2 k;obtain⟨g,c⟩:=mu 65536 st d;obtain⟨ok,l⟩:=Fw i;have n:=sN (dF st).1;have e:dC (gz (dF st).1).1 ⟨(dF (dF st).2).1.toArray⟩ L=L++[((gz (dF st).1).1,⟨(dF (dF st).2).1.toArray⟩)]:=by
  have:=lG (v:=⟨(dF (dF st).2).1.toArray⟩) L [] Ge;rw[List.append_nil]at this;rw[this];rfl
 have t0:(dF st).1=(aN [] (cj 65536) st).1:=rfl;have t1:(dF st).2=(aN [] (cj 65536) st).2:=rfl;have q:(dF (dF st).2).1=(aN [] (cj 65536) (dF st).2).1:=rfl;have r:(dF (dF st).2).2=(aN [] (cj 65536) (dF st).2).2:=rfl;rw[←t0,←t1]at c;rw[←q,←r]at s1;have o:=congrArg List.length c;have l1:=congrArg List.length s1;rw[aY]at o l1;have b0:=nS (dF st).1;have b1:=nS (dF (dF st).2).1;have hlen:=h.len;have b:=h.bytes;generalize(dF (dF st).2).2=st2 at*;generalize(dF (dF st).2).1=v at*;generalize(dF st).2=st1 at*;generalize(dF st).1=p at*;generalize(gz p).1=m at*;have f:(⟨v.toArray⟩:ByteArray).size=v.length:=by simp[ByteArray.size]
 refine⟨⟨by rw[←e];exact(nG h.sort).1,?_,?_,?_,?_,?_,?_,Or.inr ⟨L,_,rfl⟩⟩,e,d,g,?_⟩
 ·intro x a;rcases List.mem_append.1 a with a|a;·exact h.ok x a
  ·simp only[List.mem_singleton]at a;rw[a];exact ok
 ·intro x a;rcases List.mem_append.1 a with a|a;·exact h.owner x a
  ·simp only[List.mem_singleton]at a;rw[a];simp only;omega
 ·intro x a;rcases List.mem_append.1 a with a|a;·exact h.text x a
  ·simp only[List.mem_singleton]at a;rw[a];simp only;omega
 ·intro x a;rcases List.mem_append.1 a with a|a;·exact h.value x a
  ·simp only[List.mem_singleton]at a;rw[a];simp only[f];omega
 ·simp only[aY,List.length_cons,List.length_nil];omega
 ·rw[zu];have:dm [((m:aI),(⟨v.toArray⟩:ByteArray))]=v.length:=by simp[dm,f]
  rw[this];omega
 ·rw[c,s1];simp only[oF];rw[l,List.append_assoc];rfl
structure eE where
 tick:Int
 cls:Int
 num:Int
 fF:ByteArray
structure ActV where
 key:eE
 reads:List CV
 writes:List CV
def dQ(k:eE):Bool:=
 decide (0≤k.tick)&&decide (k.tick≤1073741824)&&(decide (0≤k.cls)&&decide (k.cls≤2))&&(decide (0≤k.num)&&decide (k.num≤999999)&&!(k.cls==0&&k.num==0))&&
 (if k.cls=0 then k.fF.toList.isEmpty else(!k.fF.toList.isEmpty&&dd k.fF&&!(k.cls==2&&k.num !=0)))
def jt(c:CV):Bool:=dD c.nm&&decide (c.value.size≤65536)&&(!c.bm||c.value.toList.isEmpty)
def fZ:List CV→Bool
 |[]=>true
 |c::r=>jt c&&(match r with|[]=>true|d::_=>decide (bX c.nm d.nm<0))&&fZ r
def gA(a:ActV):Bool:=dQ a.key&&fZ a.reads&&fZ a.writes
def jN(b:Bool):List UInt8:=[if b then 1 else 0]
def ni(c:CV):List UInt8:=bF (cI c.nm)++(jN c.bm++bF (aJ c.value))
def eJ(l:List CV):List UInt8:=enc l.length++l.flatMap ni
def ri(k:eE):List UInt8:=enc k.tick.toNat++(enc k.cls.toNat++(enc k.num.toNat++bF (aJ k.fF)))
def db(a:ActV):List UInt8:=ri a.key++(eJ a.reads++eJ a.writes)
theorem Dr(b:Bool)(r:List UInt8)(p:Nat):aN false cZ (jN b++r,p,0)=(b,(r,p+1,0)):=by
 have h:cZ (jN b++r)=(b,1,0):=by
  unfold cZ jN;cases b<;>simp
 rw[ql false cZ _ p _ _ h];rfl
theorem AF(st:fC):(aN false cZ st).2.1.length≤st.1.length:=by
 unfold aN;split;·simp
 ·split;·simp
  ·simp only[List.length_drop];omega
def jX(st:fC):List UInt8×fC:=aN [] (cj 16777216) st
def lQ:Nat→fC→List CV→Option (List CV×fC)
 |0,st,L=>some (L,st)
 |n+1,st,L=>
  if(gz (jX st).1).2≠0 then none else
  lQ n (dF (aN false cZ (jX st).2).2).2 (L++[⟨(gz (jX st).1).1,⟨(dF (aN false cZ (jX st).2).2).1.toArray⟩,(aN false cZ (jX st).2).1⟩])
def jm(st:fC):Option (List CV×fC):=lQ (aN 0 (aZ (st.1.length:Int)) st).1.toNat (aN 0 (aZ (st.1.length:Int)) st).2 []
def jb(l:List UInt8):Int×fC:=aN 0 (aZ 1073741824) (l,0,0)
def jU(l:List UInt8):Int×fC:=aN 0 (aZ 2) (jb l).2
def rdNum(l:List UInt8):Int×fC:=aN 0 (aZ 999999) (jU l).2
def iT(l:List UInt8):List UInt8×fC:=jX (rdNum l).2
def iB(l:List UInt8):eE×fC:=(⟨(jb l).1,(jU l).1,(rdNum l).1,⟨(iT l).1.toArray⟩⟩,(iT l).2)
def ly(l:List UInt8):Option ActV:=
 match jm (iB l).2 with
 |none=>none
 |some (a,st)=>match jm st with
  |none=>none
  |some (W,st2)=>if gh st2=0∧gA ⟨(iB l).1,a,W⟩=true then some ⟨(iB l).1,a,W⟩else none
structure gQ(c:CV):Prop where
 owner:c.nm.owner.size≤1048576
 text:c.nm.text.size≤1048576
theorem xE:∀(M:List CV)(p:Nat)(r:List UInt8)(L:List CV),(∀c∈M,jt c=true)→(∀c∈M,gQ c)→∃b,lQ M.length (M.flatMap ni++r,p,0) L=some (L++M,(r,b,0))
 |[],p,r,L,_,_=>⟨p,by simp[lQ]⟩
 |c::M,p,r,L,f,g=>by
  have a0:=f c (by simp);have e:=g c (by simp);simp only[jt,Bool.and_eq_true,decide_eq_true_eq]at a0;have a4:=fo c.nm;have b1:=e.owner;have b2:=e.text;have t0:jX ((c::M).flatMap ni++r,p,0)=(cI c.nm,(jN c.bm++(bF (aJ c.value)++(M.flatMap ni++r)),p+(bF (cI c.nm)).length,0)):=by
   unfold jX;rw[List.flatMap_cons,ni,List.append_assoc,List.append_assoc,List.append_assoc];exact lP (cI c.nm) 16777216 (by omega) (by omega) _ p
  have t1:=Dr c.bm (bF (aJ c.value)++(M.flatMap ni++r)) (p+(bF (cI c.nm)).length);have t2:∀q,dF (bF (aJ c.value)++(M.flatMap ni++r),q,0)=(aJ c.value,(M.flatMap ni++r,q+(bF (aJ c.value)).length,0)):=fun q=>by
   unfold dF;exact lP (aJ c.value) 65536 (by rw[aL];omega) (by rw[aL];omega) _ _
  have t3:gz (cI c.nm)=(c.nm,0):=Fv a0.1.1 (by omega);rw[List.length_cons,lQ,t0];simp only;rw[t3];simp only[ne_eq,not_true_eq_false,if_false];rw[t1];simp only;rw[t2];simp only;obtain⟨b,h⟩:=xE M (p+(bF (cI c.nm)).length+1+(bF (aJ c.value)).length) r (L++[c]) (fun d a=>f d (by simp[a])) (fun d a=>g d (by simp[a]));refine⟨b,?_⟩;rw[show L++c::M=L++[c]++M by simp,←h];rfl
theorem Ih(c:CV):3≤(ni c).length:=by
 have a:=nS (cI c.nm);have b:=nS (aJ c.value);simp only[ni,jN,aY,List.length_cons,List.length_nil];omega
theorem zC:∀M:List CV,3*M.length≤(M.flatMap ni).length
 |[]=>by simp
 |c::M=>by
  have a:=Ih c;have b:=zC M;simp only[List.flatMap_cons,aY,List.length_cons];omega
theorem ki:∀{l:List CV},fZ l=true→∀c∈l,jt c=true
 |[],_,_,h=>by cases h
 |d::r,h,c,a=>by
  simp only[fZ,Bool.and_eq_true]at h;rcases List.mem_cons.1 a with rfl|a;·exact h.1.1
  ·exact ki h.2 c a
theorem vw(M:List CV)(p:Nat)(r:List UInt8)(d:∀c∈M,jt c=true)(e:∀c∈M,gQ c)(g:(eJ M++r).length<9223372036854775808):∃a,jm (eJ M++r,p,0)=some (M,(r,a,0)):=by
 have f:=zC M;unfold jm;have hm:((M.length:Nat):Int)≤(((eJ M++r).length:Nat):Int):=by
  rw[eJ];simp only[aY];omega
 have b:M.length<9223372036854775808:=by omega
 simp only;generalize(((eJ M++r).length:Nat):Int)=aO at hm;rw[eJ,List.append_assoc,jT M.length aO b hm _ p];simp only[Int.toNat_natCast];obtain⟨a,h⟩:=xE M (p+(enc M.length).length) r [] d e;exact⟨a,h⟩
theorem Fu{a:ActV}(f:gA a=true)(r:a.key.fF.size≤16777216)(h:∀c∈a.reads,gQ c)(i:∀c∈a.writes,gQ c)(hlen:(db a).length<9223372036854775808):ly (db a)=some a:=by
 have g:=f;simp only[gA,Bool.and_eq_true]at f;obtain⟨⟨e,k⟩,hw⟩:=f;obtain⟨⟨t,c,n,li⟩,z,W⟩:=a;simp only at r h i e k hw;simp only[dQ,Bool.and_eq_true,decide_eq_true_eq]at e;obtain⟨⟨⟨⟨t0,t1⟩,u,v⟩,⟨n0,n1⟩,_⟩,_⟩:=e;obtain⟨t,rfl⟩:∃q:Nat,t=(q:Int):=⟨t.toNat,by omega⟩;obtain⟨c,rfl⟩:∃q:Nat,c=(q:Int):=⟨c.toNat,by omega⟩;obtain⟨n,rfl⟩:∃q:Nat,n=(q:Int):=⟨n.toNat,by omega⟩;have o:db ⟨⟨t,c,n,li⟩,z,W⟩=enc t++(enc c++(enc n++(bF (aJ li)++(eJ z++eJ W)))):=by
  simp[db,ri]
 rw[o]at hlen⊢;obtain⟨l,j⟩:∃l,enc t++(enc c++(enc n++(bF (aJ li)++(eJ z++eJ W))))=l:=⟨_,rfl⟩;have d1:jb l=((t:Int),(enc c++(enc n++(bF (aJ li)++(eJ z++eJ W))),0+(enc t).length,0)):=by
  rw[←j];exact jT t 1073741824 (by omega) (by omega) _ 0
 have d2:∃p,jU l=((c:Int),(enc n++(bF (aJ li)++(eJ z++eJ W)),p,0)):=by
  rw[jU,d1];exact⟨_,jT c 2 (by omega) (by omega) _ _⟩
 obtain⟨w,d2⟩:=d2;have d3:∃p,rdNum l=((n:Int),(bF (aJ li)++(eJ z++eJ W),p,0)):=by
  rw[rdNum,d2];exact⟨_,jT n 999999 (by omega) (by omega) _ _⟩
 obtain⟨x,d3⟩:=d3;have d4:∃p,iT l=(aJ li,(eJ z++eJ W,p,0)):=by
  rw[iT,d3];exact⟨_,lP (aJ li) 16777216 (by rw[aL];omega) (by rw[aL];omega) _ _⟩
 obtain⟨m,d4⟩:=d4;have b:(eJ z++(eJ W++[])).length<9223372036854775808:=by
  simp only[aY,List.length_nil]at hlen⊢;omega
 obtain⟨s,d5⟩:=vw z m (eJ W++[]) (ki k) h b;obtain⟨y,d6⟩:=vw W s [] (ki hw) i (by simp only[aY,List.length_nil]at b⊢;omega);rw[List.append_nil]at d5 d6;have d:iB l=(⟨t,c,n,⟨(aJ li).toArray⟩⟩,(eJ z++eJ W,m,0)):=by
  rw[iB,d1,d2,d3,d4]
 rw[j,ly,d];simp only;rw[d5];simp only;rw[d6];simp only;rw[if_pos ⟨rfl,g⟩];rfl
end Go.Proofs.YtphjagkehiklkaaGreatDoor
namespace Go.Proofs.YtphjagkehiklkaaGreatDoor
open Go.ChangeShapes Go.WideShapes Go.ChangeAt Go.RowKit Go.Deep
def Cq:List Int:=[1779033703,3144134277,1013904242,2773480762,1359893119,2600822924,528734635,1541459225]
def Ad:List Int:=sV.map (fun n:Nat=>(n:Int))
structure aI.kE(n:aI):Prop where
 kind:-9223372036854775808≤n.kind∧n.kind≤9223372036854775807
 number:-9223372036854775808≤n.number∧n.number≤9223372036854775807
 index:-9223372036854775808≤n.index∧n.index≤9223372036854775807
 owner:n.owner.size≤9223372036854775807
 text:n.text.size≤9223372036854775807
structure CV.kE(c:CV):Prop where
 nm:c.nm.kE
 value:c.value.size≤9223372036854775807
theorem Dd{H:Type}{enc:TypeId×Value→H}{w:World}{base:Nat}{sp:Nat→Bool}{held:Bool}{fuel:Nat}{l:List Value}{x:DataW H×List MemPlace}
  (h:DataW.trod enc Tryz.prog w base sp held fuel 245 l=some x):∃n:aI,n.kE∧l=n.cells:=by
 obtain⟨p,q,_,rfl,a,c,b⟩:=DataW.trod_struct Tryz.underlying245 h;rw[zB]at a;match l,a with
 |[r,s,t,x3,u],_=>
  have g0:=b 0 _ rfl;have g1:=b 1 _ rfl;have g2:=b 2 _ rfl;have g3:=b 3 _ rfl;have g4:=b 4 _ rfl;match p,c with
  |[v,y,z,y3,y4],_=>
   simp[pf,pg]at g0 g1 g2 g3 g4;obtain⟨a0,d,rfl,b0⟩:=DataW.trod_int Tryz.underlying3 g0;obtain⟨o,e,rfl,b1⟩:=DataW.trod_string Tryz.underlying9 g1;obtain⟨a2,f,rfl,b2⟩:=DataW.trod_int Tryz.underlying3 g2;obtain⟨a3,g,rfl,b3⟩:=DataW.trod_int Tryz.underlying3 g3;obtain⟨a4,i,rfl,b4⟩:=DataW.trod_string Tryz.underlying9 g4;simp only[List.cons.injEq,and_true]at d e f g i;subst d e f g i;have j:=bounds_i64 b0;have k:=bounds_i64 b2;have m:=bounds_i64 b3;unfold maxLen at b1 b4;exact⟨⟨a0,o,a2,a3,a4⟩,⟨⟨j.1,j.2⟩,⟨k.1,k.2⟩,⟨m.1,m.2⟩,b1,b4⟩,rfl⟩
theorem J1{H:Type}{enc:TypeId×Value→H}{w:World}{base:Nat}{sp:Nat→Bool}{held:Bool}{fuel:Nat}{l:List Value}{x:DataW H×List MemPlace}
  (h:DataW.trod enc Tryz.prog w base sp held fuel 247 l=some x):∃c:CV,c.kE∧l=c.cells:=by
 obtain⟨k,m,_,rfl,a,d,b⟩:=DataW.trod_struct Tryz.underlying247 h;rw[Ei]at a;match l,a with
 |[o,p,q,x3,r,s,t],_=>
  have g0:=b 0 _ rfl;have g1:=b 1 _ rfl;have g2:=b 2 _ rfl;match k,d with
  |[u,v,y],_=>
   simp[zB,pg,ux]at g0 g1 g2;obtain⟨n,j,i⟩:=Dd g0;obtain⟨g,e,rfl,b1⟩:=DataW.trod_string Tryz.underlying9 g1;obtain⟨a2,f,rfl⟩:=DataW.trod_bool Tryz.underlying4 g2;simp only[List.cons.injEq,and_true]at e f;subst e f;unfold maxLen at b1;refine⟨⟨n,g,a2⟩,⟨j,b1⟩,?_⟩;rw[CV.cells,←i];rfl
theorem An{H:Type}{enc:TypeId×Value→H}{w:World}{fuel:Nat}{a:Option Addr}{len cap:Nat}{x:DataW H×List MemPlace}
  (h:DataW.trod enc Tryz.prog w 0 (fun _=>true) true fuel 55 [.slice a len cap]=some x):
  ∃cs:List CV,CL w (Old w) a len cs∧(∀c∈cs,c.kE)∧len≤cap∧cap≤9223372036854775807:=by
 rcases open_slice Tryz.underlying55 h with⟨b,_⟩|⟨p,F,E,m,n,D,C,b,_,B,hm,g,_,o⟩;·simp only[List.cons.injEq,Value.slice.injEq,and_true]at b;obtain⟨rfl,rfl,rfl⟩:=b;exact⟨[],⟨Rd.none_,rfl⟩,by simp,Nat.le_refl _,Nat.zero_le _⟩
 ·simp only[List.cons.injEq,Value.slice.injEq,and_true]at b;obtain⟨rfl,rfl,rfl⟩:=b;simp only[if_true]at g;rw[Ei]at o;have f:∀i,i<len→∃c:CV,c.kE∧∀j u,c.cells[j]? =some u→w.cell? ((p.add (i*7)).add j)=some u:=by
   intro i z;obtain⟨cs',t,k⟩:=o i (by omega);obtain⟨c,y,e⟩:=J1 k;obtain⟨_,v,d⟩:=World.cells?_some t;refine⟨c,y,fun j u hu=>?_⟩;have A:j<7:=by
    have:=(List.getElem?_eq_some_iff.1 hu).1;simpa[CV.cells,aI.cells]using this
   rw[d j A,←hu,←e]
  obtain⟨l,q,r,s⟩:=yN CV.cells 7 CV.kE (fun c=>c.eA) (by omega) f;exact⟨l,⟨s,q⟩,r,B,by unfold maxLen at hm;exact hm⟩
end Go.Proofs.YtphjagkehiklkaaGreatDoor
namespace Go.Proofs.YtphjagkehiklkaaGreatDoor
open Go.RowKit Go.Shelf
theorem qs:∀(xs:List CV)(L:List Ent)(m:Nat),cY m L→(∀c∈xs,eh c)→(∀c∈xs,dD c.nm=true)→cY (m+xs.length) (jq xs L)
 |[],_,_,h,_,_=>h
 |c::xs,L,m,h,e,b=>(qs xs (kr c L) (m+1) (h.next (e c (by simp)) (b c (by simp))) (fun d a=>e d (by simp[a])) (fun d a=>b d (by simp[a]))).more (by simp only[List.length_cons];omega)
structure xY(w:World)(N:Nat)(a:List CV)(v4 v5:Value):Prop where
 Et:w.ownsRow 0 119 7 v4 N (a.flatMap CV.cells)
 IT:w.ownsRow 0 247 7 v5 N (a.flatMap CV.cells)
 len:a.length=N
theorem xY.aq{w w':World}{N:Nat}{b:List CV}{v4 v5:Value}(h:xY w N b v4 v5)(a:Fr ag w w'):xY w' N b v4 v5:=⟨aQ h.Et a (fun _ _ x=>x),aQ h.IT a (fun _ _ x=>x),h.len⟩
theorem xY.row{w w':World}{N:Nat}{f:List CV}{v4 v5 v:Value}{e:TypeId}{size n:Nat}{xs:List Value}(h:xY w N f v4 v5)(d:w.ownsRow 0 e size v n xs)(c:Fr (gj v) w w')(i:e≠119)(j:e≠247):xY w' N f v4 v5:=
 ⟨aQ h.Et c (fun g a b=>nL d h.Et i g b a),aQ h.IT c (fun g a b=>nL d h.IT j g b a),h.len⟩
theorem xY.Ly{w:World}{N c:Nat}{a:Option Addr}{b:List CV}{v5:Value}(h:xY w N b (.slice a N c) v5):CL w (fun _=>True) a N b:=⟨(Rd.gO h.Et).any,h.len⟩
def Kr(w:World)(N:Nat)(d:List CV)(e:Ending)(w':World):Prop:=∃a c b c5,e= .returned (.tuple #[.slice a N c, .slice b N c5])∧Fr ag w w'∧xY w' N d (.slice a N c) (.slice b N c5)
theorem KL(n:Nat)(xs:List CV)(A:Option Addr)(c:Nat)(S:Nat→Prop)(w:World)(f:CL w S A n xs)(l:n≤9223372036854775807):
  Calls Tryz.prog 127 #[.slice A n c] w (Kr w (min n 24) (rO xs n)):=by
 have a:(rO xs n).length=min n 24:=by rw[rO,List.length_map,List.length_take,f.len];omega
 refine(Jv n xs A c S w f l).mono ?_;rintro e w2⟨v4,v5,rfl,b,d⟩;obtain⟨g,n4,k,rfl,i,_⟩:=aW b.own;obtain⟨h,n5,c5,rfl,j,_⟩:=aW d.own;obtain rfl:n4=min n 24:=i.out;obtain rfl:n5=min n 24:=j.out;exact⟨g,k,h,c5,rfl,b.aq,b.own,d.own,a⟩
def eV(a b:eE):Int:=aU (dS a.tick b.tick) (aU (dS a.cls b.cls) (aU (dS a.num b.num) (kC a.fF b.fF)))
theorem lx:gI eV:=
 (eT.lex (eT.lex (eT.lex zH))).pull (fun k:eE=>(k.tick,k.cls,k.num,k.fF)) (fun a b e=>by
  cases a;cases b;simpa using e)
def eI(L:List ActV)(a:ActV):Int×List ActV:=
 if gA a=false then(3,L)else
 match L.getLast? with
 |some b=>if eV a.key b.key≤0 then(32,L)else(0,L++[a])
 |none=>(0,L++[a])
def fS(L:List ActV)(E:List Ent):List Ent:=L.foldl (fun e a=>jq a.writes e) E
theorem vC(L:List ActV)(a:ActV)(E:List Ent):fS (L++[a]) E=jq a.writes (fS L E):=by
 simp[fS]
theorem Dx{L:List ActV}{k:Nat}{a:ActV}(h:L[k]? =some a)(E:List Ent):fS (L.take (k+1)) E=jq a.writes (fS (L.take k) E):=by
 rw[List.take_add_one,h,Option.toList_some,vC]
structure gJ(a:ActV):Prop where
 fF:a.key.fF.size≤100
 reads:∀c∈a.reads,eh c
 writes:∀c∈a.writes,eh c
 nr:a.reads.length≤6
 nw:a.writes.length≤6
theorem eh.cv{c:CV}(h:eh c):gQ c:=⟨by have:=h.owner;omega,by have:=h.text;omega⟩
theorem Db{a:ActV}(h:gA a=true):dQ a.key=true∧fZ a.reads=true∧fZ a.writes=true:=by
 simp only[gA,Bool.and_eq_true]at h;exact⟨h.1.1,h.1.2,h.2⟩
theorem qh{a:ActV}(h:gA a=true):∀c∈a.writes,dD c.nm=true:=fun c b=>by
 have:=ki (Db h).2.2 c b;simp only[jt,Bool.and_eq_true]at this;exact this.1.1
theorem Ca{c:CV}(h:eh c):(ni c).length≤500:=by
 have a:=h.owner;have b:=h.text;have d:=h.value;have e:=fo c.nm;have f:=aV (cI c.nm).length;have g:=aV (aJ c.value).length;have i:=aL c.value;simp only[ni,bF,jN,aY,List.length_cons,List.length_nil];omega
theorem pX:∀(l:List CV),(∀c∈l,eh c)→(l.flatMap ni).length≤500*l.length
 |[],_=>by simp
 |c::l,h=>by
  have b:=Ca (h c (by simp));have e:=pX l (fun d a=>h d (by simp[a]));simp only[List.flatMap_cons,aY,List.length_cons];omega
theorem gJ.len{a:ActV}(h:gJ a):(db a).length≤6300:=by
 have e:=pX a.reads h.reads;have f:=pX a.writes h.writes;have g:=h.nr;have i:=h.nw;have j:=aV a.reads.length;have k:=aV a.writes.length;have l:=aV a.key.tick.toNat;have m:=aV a.key.cls.toNat;have n:=aV a.key.num.toNat;have b:=aV (aJ a.key.fF).length;have c:=aL a.key.fF;have d:=h.fF;simp only[db,ri,eJ,bF,aY];omega
theorem gJ.dec{a:ActV}(h:gJ a)(d:gA a=true):ly (db a)=some a:=
 Fu d (by have:=h.fF;omega) (fun c b=>(h.reads c b).cv) (fun c b=>(h.writes c b).cv) (by have:=h.len;omega)
structure gg(L:List ActV):Prop where
 ok:∀a∈L,gA a=true
 small:∀a∈L,gJ a
 len:L.length≤16
 ord:L.Pairwise (fun a b=>eV a.key b.key<0)
theorem gg.nil:gg []:=⟨fun _ h=>(by cases h),fun _ h=>(by cases h),Nat.zero_le _,List.Pairwise.nil⟩
theorem oy(L:List ActV)(a:ActV):((eI L a).1≠0∧(eI L a).2=L)∨((eI L a).1=0∧(eI L a).2=L++[a]∧gA a=true):=by
 unfold eI;cases h:gA a;·simp
 ·simp only[Bool.true_eq_false,if_false];split
  ·split;·exact .inl ⟨by simp,rfl⟩
   ·exact .inr ⟨rfl,rfl,trivial⟩
  ·exact .inr ⟨rfl,rfl,trivial⟩
theorem BH(L:List ActV)(a:ActV)(h:(eI L a).1=0):∀b,L.getLast?=some b→eV b.key a.key<0:=fun b c=>by
 unfold eI at h;split at h;·cases h
 ·rw[c]at h;simp only at h;split at h;·cases h
  ·have:=lx.lg b.key a.key;omega
theorem As:∀{L:List ActV},L.Pairwise (fun a b=>eV a.key b.key<0)→∀b,L.getLast?=some b→∀x∈L,eV x.key b.key≤0
 |[],_,_,h,_,_=>by cases h
 |[c],_,b,h,x,e=>by
  rw[List.mem_singleton.1 e];obtain rfl:c=b:=by simpa using h
  rw[lx.refl];exact Int.le_refl 0
 |c::d::L,g,b,h,x,e=>by
  have f:(d::L).getLast?=some b:=by simpa using h
  rcases List.mem_cons.1 e with rfl|e;·have:=(List.pairwise_cons.1 g).1 b (List.mem_of_getLast? f);omega
  ·exact As (List.pairwise_cons.1 g).2 b f x e
theorem gg.append{L:List ActV}{a:ActV}(h:gg L)(j:gJ a)(l:L.length<16):gg (eI L a).2:=by
 rcases oy L a with⟨_,e⟩|⟨g,e,i⟩;·rw[e];exact h
 ·rw[e];refine⟨fun b c=>?_,fun b c=>?_,by rw[aY];simp;omega,?_⟩
  ·rcases List.mem_append.1 c with c|c;·exact h.ok b c
   ·rw[List.mem_singleton.1 c];exact i
  ·rcases List.mem_append.1 c with c|c;·exact h.small b c
   ·rw[List.mem_singleton.1 c];exact j
  ·refine List.pairwise_append.2 ⟨h.ord,List.pairwise_singleton _ _,fun x f y k=>?_⟩;rw[List.mem_singleton.1 k];have d:L≠[]:=by rintro rfl;cases f
   obtain⟨b,c⟩:∃b,L.getLast?=some b:=⟨L.getLast d,List.getLast?_eq_some_getLast d⟩;exact lx.Gt (As h.ord b c x f) (BH L a g b c)
theorem lR:∀(L:List ActV)(E:List Ent)(m:Nat),cY m E→(∀a∈L,gA a=true)→(∀a∈L,gJ a)→cY (m+6*L.length) (fS L E)
 |[],_,_,h,_,_=>h
 |a::L,E,m,h,e,f=>by
  have d:=f a (by simp);have g:=qs a.writes E m h d.writes (qh (e a (by simp)));have i:=lR L (jq a.writes E) (m+a.writes.length) g (fun b c=>e b (by simp[c])) (fun b c=>f b (by simp[c]));have:=d.nw;exact i.more (by simp only[List.length_cons];omega)
theorem gg.take{L:List ActV}(h:gg L)(k:Nat):gg (L.take k):=
 ⟨fun a b=>h.ok a (List.mem_of_mem_take b),fun a b=>h.small a (List.mem_of_mem_take b),by have:=h.len;rw[List.length_take];omega,h.ord.sublist (List.take_sublist _ _)⟩
def Ty(w:World)(k:Nat)(t:TypeId):Prop:=∃cs,w.heap[k]? =some (.cells cs t (0,0))
theorem ao.ty{w:World}{g:Nat}{t:TypeId}{cs:Array Value}(h:ao w g t cs):Ty w g t:=⟨cs,h⟩
theorem Ty.one{w:World}{k:Nat}{t b:TypeId}(h:Ty w k t)(a:Ty w k b):t=b:=by
 obtain⟨cs,h⟩:=h;obtain⟨cs',a⟩:=a;rw[h]at a;injection a with a;injection a with _ c
theorem ja{w:World}{base:Nat}{e:TypeId}{size n:Nat}{v:Value}{xs:List Value}(h:w.ownsRow base e size v n xs){k:Nat}(a:v.ownBlock=some k):Ty w k e:=by
 rcases h.2 with⟨rfl,_⟩|⟨b,cap,cur,rfl,_,c,_⟩;·simp[Value.ownBlock]at a
 ·have:b=k:=by simpa[Value.ownBlock]using a
  subst this;exact⟨cur,c⟩
def fK(w:World)(T:Nat→Prop):Prop:=∀k,T k→¬Ty w k 177∧¬Ty w k 174∧¬Ty w k 119
theorem fK.nothing(w:World):fK w ag:=fun _ h=>h.elim
theorem fK.of{w:World}{T:Nat→Prop}(h:∀k,T k→∃t,Ty w k t∧t≠177∧t≠174∧t≠119):fK w T:=fun k e=>by
 obtain⟨t,a,b,c,d⟩:=h k e;exact⟨fun x=>b (a.one x),fun x=>c (a.one x),fun x=>d (a.one x)⟩
theorem fK.new{w w':World}{T:Nat→Prop}(f:Fr ag w w')(h:∀k,T k→k<w.heap.size)(hF:fK w T):fK w' T:=fun k a=>by
 have e:=f.block k (h k a) (fun x=>x);obtain⟨b,c,d⟩:=hF k a;exact⟨fun⟨cs,x⟩=>b ⟨cs,by rw[←e];exact x⟩,fun⟨cs,x⟩=>c ⟨cs,by rw[←e];exact x⟩,fun⟨cs,x⟩=>d ⟨cs,by rw[←e];exact x⟩⟩
theorem cq.cC{w w':World}{T:Nat→Prop}(c:Fr T w w')(b:fK w T):∀{a:Option Addr}{t:Tr},cq w a t→cq w' a t
 |_, .leaf,h=>h
 |_, .node _ _ _ _,⟨k,i,j,e,f,g,d⟩=>⟨k,i,j,e,f.cC c b,g.cC c b,d.fr c (fun x=>(b k x).1 d.ty)⟩
theorem fD.cC{w w':World}{T:Nat→Prop}{s:Nat}{L:List Ent}(h:fD w s L)(c:Fr T w w')(b:fK w T):fD w' s L:=by
 obtain⟨t,⟨a,d,f⟩,e⟩:=h;exact⟨t,⟨a,d.fr c (fun x=>(b s x).2.1 d.ty),f.cC c b⟩,e⟩
def dU(w:World)(v:Value)(l:List CV):Prop:=w.ownsRow 0 119 7 v l.length (l.flatMap CV.cells)
theorem dU.cC{w w':World}{T:Nat→Prop}{v:Value}{l:List CV}(h:dU w v l)(b:Fr T w w')(a:fK w T):dU w' v l:=
 aQ h b (fun k c d=>(a k d).2.2 (ja h c))
theorem dU.aq{w w':World}{v:Value}{l:List CV}(h:dU w v l)(a:Fr ag w w'):dU w' v l:=h.cC a (fK.nothing w)
theorem dU.nil(w:World):dU w (.slice none 0 0) []:=⟨rfl, .inl ⟨rfl,rfl⟩⟩
theorem dU.cl{w:World}{v:Value}{l:List CV}(h:dU w v l):∃A n c,v= .slice A n c∧n=l.length∧n≤c∧CL w (fun _=>True) A n l:=by
 obtain⟨A,n,c,rfl,a,d⟩:=aW h;refine⟨A,n,c,rfl,a.out,?_,?_⟩
 ·rcases h.2 with⟨e,_⟩|⟨g,cap,cur,e,_,_,b,_⟩;·cases e;exact Nat.le_refl _
  ·cases e;exact b
 ·have e:=a.out;subst e;exact⟨(Rd.gO h).any,rfl⟩
def eE.cells(k:eE):List Value:=[.int .i64 k.tick, .int .i64 k.cls, .int .i64 k.num, .string k.fF]
def cT(w:World)(cs:List Value)(a:ActV):Prop:=∃b c,cs=a.key.cells++[b,c]∧dU w b a.reads∧dU w c a.writes
theorem cT.cC{w w':World}{T:Nat→Prop}{cs:List Value}{a:ActV}(h:cT w cs a)(c:Fr T w w')(b:fK w T):cT w' cs a:=by
 obtain⟨g,i,e,d,f⟩:=h;exact⟨g,i,e,d.cC c b,f.cC c b⟩
theorem cT.aq{w w':World}{cs:List Value}{a:ActV}(h:cT w cs a)(b:Fr ag w w'):cT w' cs a:=h.cC b (fK.nothing w)
theorem cT.len{w:World}{cs:List Value}{a:ActV}(h:cT w cs a):cs.length=6:=by
 obtain⟨b,c,rfl,_⟩:=h;rfl
def eo(w:World):List (List Value)→List ActV→Prop
 |[],[]=>True
 |c::cs,a::l=>cT w c a∧eo w cs l
 |_,_=>False
theorem eo.cC{w w':World}{T:Nat→Prop}(b:Fr T w w')(a:fK w T):∀{cs:List (List Value)}{l:List ActV},eo w cs l→eo w' cs l
 |[],[],_=>trivial
 |_::_,_::_,h=>⟨h.1.cC b a,eo.cC b a h.2⟩
 |[],_::_,h=>h.elim
 |_::_,[],h=>h.elim
theorem eo.snoc{w:World}:∀{cs:List (List Value)}{l:List ActV}{c:List Value}{a:ActV},eo w cs l→cT w c a→eo w (cs++[c]) (l++[a])
 |[],[],_,_,_,h=>⟨h,trivial⟩
 |_::_,_::_,_,_,h,k=>⟨h.1,eo.snoc h.2 k⟩
 |[],_::_,_,_,h,_=>h.elim
 |_::_,[],_,_,h,_=>h.elim
theorem eo.len{w:World}:∀{cs:List (List Value)}{l:List ActV},eo w cs l→cs.length=l.length
 |[],[],_=>rfl
 |_::_,_::_,h=>by simp[eo.len h.2]
 |[],_::_,h=>h.elim
 |_::_,[],h=>h.elim
theorem eo.at_{w:World}:∀{cs:List (List Value)}{l:List ActV}{k:Nat},eo w cs l→k<l.length→∃c a,cs[k]? =some c∧l[k]? =some a∧cT w c a∧∀j x,c[j]? =some x→cs.flatten[k*6+j]? =some x
 |c::cs,a::l,0,h,_=>⟨c,a,rfl,rfl,h.1,fun j x b=>by
   rw[List.flatten_cons,Nat.zero_mul,Nat.zero_add,List.getElem?_append_left (List.getElem?_eq_some_iff.1 b).1];exact b⟩
 |c::cs,a::l,k+1,h,d=>by
  obtain⟨f,e,g,i,m,n⟩:=eo.at_ (k:=k) h.2 (by simpa using d);refine⟨f,e,by simpa using g,by simpa using i,m,fun j x b=>?_⟩;rw[List.flatten_cons,List.getElem?_append_right (by rw[h.1.len];omega),h.1.len,show(k+1)*6+j-6=k*6+j by omega];exact n j x b
 |[],_::_,_,h,_=>h.elim
 |_::_,[],_,h,_=>h.elim
 |[],[],_,_,d=>absurd d (by simp)
theorem eo.take{w:World}:∀{cs:List (List Value)}{l:List ActV}(k:Nat),eo w cs l→eo w (cs.take k) (l.take k)
 |[],[],_,_=>by simp[eo]
 |_::_,_::_,0,_=>by simp[eo]
 |_::_,_::_,k+1,h=>⟨h.1,eo.take k h.2⟩
 |[],_::_,_,h=>h.elim
 |_::_,[],_,h=>h.elim
def kx(w:World)(v:Value)(l:List ActV):Prop:=∃cs,w.ownsRow 0 46 6 v l.length cs.flatten∧eo w cs l
theorem kx.cC{w w':World}{T:Nat→Prop}{v:Value}{l:List ActV}(h:kx w v l)(a:Fr T w w')(d:fK w T)(e:∀k,v.ownBlock=some k→¬T k):kx w' v l:=by
 obtain⟨cs,b,c⟩:=h;exact⟨cs,aQ b a e,c.cC a d⟩
theorem kx.aq{w w':World}{v:Value}{l:List ActV}(h:kx w v l)(a:Fr ag w w'):kx w' v l:=h.cC a (fK.nothing w) (fun _ _ x=>x)
theorem kx.nil(w:World):kx w (.slice none 0 0) []:=⟨[],⟨rfl, .inl ⟨rfl,rfl⟩⟩,trivial⟩
def eX(l:List CV)(k:Nat):Bool:=match l[k]? with
 |some c=>jt c&&(match k with|0=>true|j+1=>match l[j]? with|some d=>decide (bX d.nm c.nm<0)|none=>true)
 |none=>true
theorem r8:∀(l:List CV),fZ l=true↔∀k,k<l.length→eX l k=true
 |[]=>by simp[fZ]
 |[c]=>by
  simp only[fZ,Bool.and_true,List.length_singleton];constructor
  ·intro h k b;obtain rfl:k=0:=by omega
   simp[eX,h]
  ·intro h;have:=h 0 (by omega);simpa[eX]using this
 |c::d::r=>by
  have j:=r8 (d::r);have e:fZ (c::d::r)=(jt c&&decide (bX c.nm d.nm<0)&&fZ (d::r)):=rfl;rw[e];simp only[Bool.and_eq_true];rw[j];constructor
  ·rintro⟨⟨g,i⟩,f⟩k b;rcases k with _|_|k;·simp[eX,g]
   ·have a:=f 0 (by simp);simp only[eX,List.getElem?_cons_zero,Bool.and_true]at a;simp[eX,a];simpa using i
   ·have a:=f (k+1) (by simpa using b);simpa[eX]using a
  ·intro h;refine⟨⟨?_,?_⟩,fun k b=>?_⟩;·have:=h 0 (by simp);simpa[eX]using this
   ·have:=h 1 (by simp);simp[eX]at this;simpa using this.2
   ·have:=h (k+1) (by simpa using b);rcases k with _|k;·simp[eX]at this⊢;exact this.1
    ·simpa[eX]using this
theorem Gy{l:List CV}{k:Nat}(a:k<l.length)(h:eX l k=false):fZ l=false:=by
 cases e:fZ l;·rfl
 ·have:=(r8 l).1 e k a;rw[h]at this;cases this
theorem Gx{l:List CV}(h:∀k,k<l.length→eX l k=true):fZ l=true:=(r8 l).2 h
theorem Aq{l:List CV}{c:CV}(h:l[0]? =some c):eX l 0=jt c:=by
 simp[eX,h]
theorem Ap{l:List CV}{k:Nat}{c d:CV}(h:l[k+1]? =some c)(a:l[k]? =some d):eX l (k+1)=(jt c&&decide (bX d.nm c.nm<0)):=by
 simp[eX,h,a]
theorem fO:(Tryz.prog.info? 43).map (·.size)=some 4:=by kernel_rfl
theorem bT:(Tryz.prog.info? 46).map (·.size)=some 6:=by kernel_rfl
def sF(w:World)(k:eE)(e:Ending)(w':World):Prop:=∃c:Int,e= .returned (.int .i64 c)∧(c==0)=dQ k∧Fr ag w w'
theorem vT(k:eE)(w:World)(v:k.fF.size≤1099511627776):
  Calls Tryz.prog 111 #[.agg k.cells.toArray] w (sF w k):=by
 obtain⟨t,c,n,s⟩:=k;simp only at v;have CV:Hid (∀w',Calls Tryz.prog 151 #[.string s] w' (aK w' (.bool (dd s)))):=fun w'=>nh s w' v;obtain⟨va,d⟩:∃va,dd s=va:=⟨_,rfl⟩;rw[d]at CV;obtain⟨em,p⟩:∃em,s.toList.isEmpty=em:=⟨_,rfl⟩;have f:Hid (dQ ⟨t,c,n,s⟩=(decide (0≤t)&&decide (t≤1073741824)&&(decide (0≤c)&&decide (c≤2))&&(decide (0≤n)&&decide (n≤999999)&&!(c==0&&n==0))&&(if c=0 then em else(!em&&va&&!(c==2&&n !=0))))):=by
  rw[←d,←p];rfl
 have o:s.toList.isEmpty=em:=p;clear p;clear d v;unfold eE.cells;go_enter Tryz.func111,Tryz.ntmps111;go_wp2_with(refine ay rfl 43 (.tmp 0) rfl _ rfl ?_);intro w1 n1;have A:=af n1.fr;have q:=af n1.aF;clear n1;generalize w.heap.size=g at*;have I:w1.cell? ⟨g,0,none⟩=some (.int .i64 t):=q.out.cell 0;have F:w1.cell? ⟨g,1,none⟩=some (.int .i64 c):=q.out.cell 1;have G:w1.cell? ⟨g,2,none⟩=some (.int .i64 n):=q.out.cell 2;have c3:w1.cell? ⟨g,3,none⟩=some (.string s):=q.out.cell 3;clear q;have done:∀k:Int,(k==0)=dQ ⟨t,c,n,s⟩→sF w ⟨t,c,n,s⟩ (.returned (.int .i64 k)) w1:=fun k H=>⟨k,rfl,H,A.out⟩;have j:=af done;clear done;by_cases h:t<0
 ·have t1:decide (t<0)=true:=decide_eq_true h;have Z:Hid (((2:Int)==0)=dQ ⟨t,c,n,s⟩):=by rw[Hid,f.out,cN (show¬0≤t by omega)];rfl
  clear h f;go_wp2;go_ret;exact j.out _ Z.out
 have D:=af h;have t1:decide (t<0)=false:=cN (by omega);clear h;by_cases h:1073741824<t
 ·have t2:decide (1073741824<t)=true:=decide_eq_true h;have Z:Hid (((2:Int)==0)=dQ ⟨t,c,n,s⟩):=by rw[Hid,f.out,cN (show¬t≤1073741824 by omega)];simp
  clear h f;go_wp2;go_ret;exact j.out _ Z.out
 have E:=af h;have t2:decide (1073741824<t)=false:=cN (by omega);clear h;by_cases h:c<0
 ·have t3:decide (c<0)=true:=decide_eq_true h;have Z:Hid (((11:Int)==0)=dQ ⟨t,c,n,s⟩):=by rw[Hid,f.out,cN (show¬0≤c by omega)];simp
  clear h f;go_wp2;go_ret;exact j.out _ Z.out
 have y:=af h;have t3:decide (c<0)=false:=cN (by omega);clear h;by_cases h:2<c
 ·have t4:decide (2<c)=true:=decide_eq_true h;have Z:Hid (((11:Int)==0)=dQ ⟨t,c,n,s⟩):=by rw[Hid,f.out,cN (show¬c≤2 by omega)];simp
  clear h f;go_wp2;go_ret;exact j.out _ Z.out
 have z:=af h;have t4:decide (2<c)=false:=cN (by omega);clear h;by_cases h:n<0
 ·have t5:decide (n<0)=true:=decide_eq_true h;have Z:Hid (((2:Int)==0)=dQ ⟨t,c,n,s⟩):=by rw[Hid,f.out,cN (show¬0≤n by omega)];simp
  clear h f;go_wp2;go_ret;exact j.out _ Z.out
 have B:=af h;have t5:decide (n<0)=false:=cN (by omega);clear h;by_cases h:999999<n
 ·have t6:decide (999999<n)=true:=decide_eq_true h;have Z:Hid (((2:Int)==0)=dQ ⟨t,c,n,s⟩):=by rw[Hid,f.out,cN (show¬n≤999999 by omega)];simp
  clear h f;go_wp2;go_ret;exact j.out _ Z.out
 have C:=af h;have t6:decide (999999<n)=false:=cN (by omega);clear h;have b:Hid (dQ ⟨t,c,n,s⟩=(!(c==0&&n==0)&&(if c=0 then em else(!em&&va&&!(c==2&&n !=0))))):=by
  rw[Hid,f.out,dJ (show 0≤t from Int.not_lt.1 D.out),dJ (show t≤1073741824 from Int.not_lt.1 E.out),dJ (show 0≤c from Int.not_lt.1 y.out),dJ (show c≤2 from Int.not_lt.1 z.out),dJ (show 0≤n from Int.not_lt.1 B.out),dJ (show n≤999999 from Int.not_lt.1 C.out)];simp
 clear f D E y z B C;by_cases h:c=0
 ·have t7:(c==0)=true:=by rw[beq_iff_eq];exact h
  have r:=af h;clear h;by_cases h:n=0
  ·have t8:(n==0)=true:=by rw[beq_iff_eq];exact h
   have Z:Hid (((2:Int)==0)=dQ ⟨t,c,n,s⟩):=by rw[Hid,b.out,t7,t8];rfl
   clear h b r;go_wp2;go_ret;exact j.out _ Z.out
  ·have t8:(n==0)=false:=by rw[beq_eq_false_iff_ne];exact h
   cases a:em
   ·have Z:Hid (((3:Int)==0)=dQ ⟨t,c,n,s⟩):=by rw[Hid,b.out,t7,t8,if_pos r.out,a];rfl
    rw[a]at o;clear h b r a;go_wp2;go_ret;exact j.out _ Z.out
   ·have Z:Hid (((0:Int)==0)=dQ ⟨t,c,n,s⟩):=by rw[Hid,b.out,t7,t8,if_pos r.out,a];rfl
    rw[a]at o;clear h b r a;go_wp2;go_ret;exact j.out _ Z.out
 ·have t7:(c==0)=false:=by rw[beq_eq_false_iff_ne];exact h
  have l:Hid (dQ ⟨t,c,n,s⟩=(!em&&va&&!(c==2&&n !=0))):=by rw[Hid,b.out,t7,if_neg h];simp
  clear h b;cases a:em
  ·rw[a]at o;have m:Hid (dQ ⟨t,c,n,s⟩=(va&&!(c==2&&n !=0))):=by rw[Hid,l.out,a];rfl
   clear l a;go_wp2_with fail;refine(CV.out _).mono ?_;rintro e w2⟨rfl,f2⟩;have F:w2.cell? ⟨g,1,none⟩=some (.int .i64 c):=f2.an F (fun x=>x);have G:w2.cell? ⟨g,2,none⟩=some (.int .i64 n):=f2.an G (fun x=>x);have u:=af (A.out.trans f2);clear f2 j CV;cases d:va
   ·have Z:Hid (((12:Int)==0)=dQ ⟨t,c,n,s⟩):=by rw[Hid,m.out,d];rfl
    clear m d;go_wp2;go_ret;exact⟨_,rfl,Z.out,u.out⟩
   ·have i:Hid (dQ ⟨t,c,n,s⟩=!(c==2&&n !=0)):=by rw[Hid,m.out,d];rfl
    clear m d;cases t8:c==2
    ·have Z:Hid (((0:Int)==0)=dQ ⟨t,c,n,s⟩):=by rw[Hid,i.out,t8];rfl
     clear i;go_wp2;go_ret;exact⟨_,rfl,Z.out,u.out⟩
    ·cases t9:n !=0
     ·have Z:Hid (((0:Int)==0)=dQ ⟨t,c,n,s⟩):=by rw[Hid,i.out,t8,t9];rfl
      clear i;go_wp2;go_ret;exact⟨_,rfl,Z.out,u.out⟩
     ·have Z:Hid (((3:Int)==0)=dQ ⟨t,c,n,s⟩):=by rw[Hid,i.out,t8,t9];rfl
      clear i;go_wp2;go_ret;exact⟨_,rfl,Z.out,u.out⟩
  ·rw[a]at o;have Z:Hid (((12:Int)==0)=dQ ⟨t,c,n,s⟩):=by rw[Hid,l.out,a];rfl
   clear l a;go_wp2;go_ret;exact j.out _ Z.out
theorem zx(x y z t:Int):∀(k:Nat)(v:Int),([x,y,z,t])[k]? =some v→v≠0→(∀(j:Nat)(u:Int),j<k→([x,y,z,t])[j]? =some u→u=0)→aU x (aU y (aU z t))=v
 |0,v,a,c,_=>by
  obtain rfl:x=v:=by simpa using a
  simp[aU,c]
 |1,v,a,c,b=>by
  obtain rfl:y=v:=by simpa using a
  have:=b 0 x (by omega) rfl;simp[aU,this,c]
 |2,v,a,c,b=>by
  obtain rfl:z=v:=by simpa using a
  have d:=b 0 x (by omega) rfl;have e:=b 1 y (by omega) rfl;simp[aU,d,e,c]
 |3,v,a,_,b=>by
  obtain rfl:t=v:=by simpa using a
  have d:=b 0 x (by omega) rfl;have e:=b 1 y (by omega) rfl;have f:=b 2 z (by omega) rfl;simp[aU,d,e,f]
 |k+4,v,a,_,_=>by simp at a
theorem yg(x y z t:Int)(a:∀(j:Nat)(u:Int),j<4→([x,y,z,t])[j]? =some u→u=0):aU x (aU y (aU z t))=0:=by
 have b:=a 0 x (by omega) rfl;have c:=a 1 y (by omega) rfl;have d:=a 2 z (by omega) rfl;have e:=a 3 t (by omega) rfl;simp[aU,b,c,d,e]
theorem zI(x y z t:Int)(g:Nat)(w:World)(h:ao w g 3 #[.int .i64 x, .int .i64 y, .int .i64 z, .int .i64 t]):Calls Tryz.prog 132 #[.slice (some ⟨g,0,none⟩) 4 4] w (bG w (.int .i64 (aU x (aU y (aU z t))))):=by
 have HB:=af h;have n:Hid (∀k:Nat,k<4→∃v:Int,([x,y,z,t])[k]? =some v∧w.cell? ⟨g,k,none⟩=some (.int .i64 v)):=fun k f=>by
  match k,f with
  |0,_=>exact⟨x,rfl,h.cell 0⟩
  |1,_=>exact⟨y,rfl,h.cell 1⟩
  |2,_=>exact⟨z,rfl,h.cell 2⟩
  |3,_=>exact⟨t,rfl,h.cell 3⟩
 clear h;have o:Hid (∀(k:Nat)(v:Int),([x,y,z,t])[k]? =some v→v≠0→(∀(j:Nat)(u:Int),j<k→([x,y,z,t])[j]? =some u→u=0)→aU x (aU y (aU z t))=v):=fun k v=>zx x y z t k v;have p:Hid ((∀(j:Nat)(u:Int),j<4→([x,y,z,t])[j]? =some u→u=0)→aU x (aU y (aU z t))=0):=yg x y z t;generalize aU x (aU y (aU z t))=A at*;go_enter Tryz.func132,Tryz.ntmps132;go_wp2;go_loopw[8](fun i wr=>∃k:Nat,k≤4∧(∀j u,j<k→([x,y,z,t])[j]? =some u→u=0)∧i= .int .i64 k∧w=wr)(fun i _=>4-(intOf i).toNat);case atStart=>exact⟨0,by omega,fun j u h=>by omega,rfl,rfl⟩
 case round=>
  obtain⟨k,f,m,rfl,rfl⟩:=hrel;have b:=af m;clear m;by_cases c:k<4
  ·have q:(k:Int)<4:=by omega
   obtain⟨v,l,r⟩:=n.out k c;have d:=af l;clear l;by_cases a:v=0
   ·subst a;go_wp2;go_roundw
    case rel=>exact⟨k+1,by omega,fun j u s hu=>by
      by_cases e:j=k;·subst e;have:=d.out;rw[hu]at this;cases this;rfl
      ·exact b.out j u (by omega) hu,by go_num,trivial⟩
    case measure=>simp[intOf];omega
   ·have t1:=sH a;obtain rfl:A=v:=o.out k v d.out a b.out;go_wp2;go_ret;exact⟨rfl,rfl⟩
  ·obtain rfl:k=4:=by omega
   obtain rfl:A=0:=p.out b.out;go_wp2;go_ret;exact⟨rfl,rfl⟩
theorem nY(k m:eE)(w:World)(y:k.fF.size≤1099511627776)(hm:m.fF.size≤1099511627776):Calls Tryz.prog 85 #[.agg k.cells.toArray, .agg m.cells.toArray] w (aK w (.int .i64 (eV k m))):=by
 have C:Hid (∀w,Calls Tryz.prog 133 #[.int .i64 k.tick, .int .i64 m.tick] w (bG w (.int .i64 (dS k.tick m.tick)))):=fun w=>iq _ _ w;have D:Hid (∀w,Calls Tryz.prog 133 #[.int .i64 k.cls, .int .i64 m.cls] w (bG w (.int .i64 (dS k.cls m.cls)))):=fun w=>iq _ _ w;have E:Hid (∀w,Calls Tryz.prog 133 #[.int .i64 k.num, .int .i64 m.num] w (bG w (.int .i64 (dS k.num m.num)))):=fun w=>iq _ _ w;have F:=af (fun w=>kG k.fF m.fF w y hm);have J:Hid (eV k m=aU (dS k.tick m.tick) (aU (dS k.cls m.cls) (aU (dS k.num m.num) (kC k.fF m.fF)))):=rfl;generalize eV k m=P at*;generalize dS k.tick m.tick=o at*;generalize dS k.cls m.cls=p at*;generalize dS k.num m.num=r at*;generalize kC k.fF m.fF=y3 at*;clear y hm;go_enter Tryz.func85,Tryz.ntmps85;go_wp2_with(refine ay rfl 43 (.tmp 0) rfl k.cells.toArray rfl ?_);intro w1 n1;have t:=af n1;clear n1;generalize j:w.heap.size=g at*;have f:Hid (ao w1 g 43 k.cells.toArray):=by have h:=t.out.aF;rw[j]at h;exact h
 clear j;go_wp2_with(refine ay rfl 43 (.tmp 1) rfl m.cells.toArray rfl ?_);intro w2 A;have s:=af A;clear A;generalize l:w1.heap.size=i at*;have d:Hid (ao w2 i 43 m.cells.toArray):=by have h:=s.out.aF;rw[l]at h;exact h
 clear l;have c:=af (f.out.fr s.out.fr (fun x=>x));have G:=af (t.out.fr.trans s.out.fr);clear t s f;go_upto_region 1 with fail;refine iU 20 [.pointer (some ⟨g,0,none⟩), .int .i64 k.tick, .pointer (some ⟨i,0,none⟩), .int .i64 m.tick, .int .i64 o, .pointer (some ⟨g,1,none⟩), .int .i64 k.cls, .pointer (some ⟨i,1,none⟩), .int .i64 m.cls, .int .i64 p, .pointer (some ⟨g,2,none⟩), .int .i64 k.num, .pointer (some ⟨i,2,none⟩), .int .i64 m.num, .int .i64 r, .pointer (some ⟨g,3,none⟩), .string k.fF, .pointer (some ⟨i,3,none⟩), .string m.fF, .int .i64 y3] ?zG ?_;case zG=>
  refine⟨?zS,?zH,?zT,?zJ,?zK,?zU,?zL,?zV,?zM,?zN,?zO,?zA,?zP,?zB,?zC,?zQ,?zD,?zR,?zE,?zF,trivial⟩;all_goals intro u w' b a
  all_goals simp only[z1,z2,z3,z4,au,Act.put,z5,z6,z7,Nat.reduceAdd,Nat.zero_add]
  case zH=>
   simp only[show u 0=_ from a 0];refine aC ?_;have q:_=some (Value.int .i64 k.tick):=(c.out.fr b (fun x=>x)).cell 0;go_simp;exact aG
  case zJ=>
   simp only[show u 2=_ from a 2];refine aC ?_;have q:_=some (Value.int .i64 m.tick):=(d.out.fr b (fun x=>x)).cell 0;go_simp;exact aG
  case zK=>
   simp only[show u 1=_ from a 1,show u 3=_ from a 3];refine aC ?_;go_simp;refine(C.out _).mono ?_;rintro e v⟨rfl,rfl⟩;exact aG
  case zL=>
   simp only[show u 5=_ from a 5];refine aC ?_;have q:_=some (Value.int .i64 k.cls):=(c.out.fr b (fun x=>x)).cell 1;go_simp;exact aG
  case zM=>
   simp only[show u 7=_ from a 7];refine aC ?_;have q:_=some (Value.int .i64 m.cls):=(d.out.fr b (fun x=>x)).cell 1;go_simp;exact aG
  case zN=>
   simp only[show u 6=_ from a 6,show u 8=_ from a 8];refine aC ?_;go_simp;refine(D.out _).mono ?_;rintro e v⟨rfl,rfl⟩;exact aG
  case zA=>
   simp only[show u 10=_ from a 10];refine aC ?_;have q:_=some (Value.int .i64 k.num):=(c.out.fr b (fun x=>x)).cell 2;go_simp;exact aG
  case zB=>
   simp only[show u 12=_ from a 12];refine aC ?_;have q:_=some (Value.int .i64 m.num):=(d.out.fr b (fun x=>x)).cell 2;go_simp;exact aG
  case zC=>
   simp only[show u 11=_ from a 11,show u 13=_ from a 13];refine aC ?_;go_simp;refine(E.out _).mono ?_;rintro e v⟨rfl,rfl⟩;exact aG
  case zD=>
   simp only[show u 15=_ from a 15];refine aC ?_;have q:_=some (Value.string k.fF):=(c.out.fr b (fun x=>x)).cell 3;go_simp;exact aG
  case zE=>
   simp only[show u 17=_ from a 17];refine aC ?_;have q:_=some (Value.string m.fF):=(d.out.fr b (fun x=>x)).cell 3;go_simp;exact aG
  case zF=>
   simp only[show u 16=_ from a 16,show u 18=_ from a 18];refine aC ?_;go_simp;refine(F.out _).mono ?_;rintro e v⟨rfl,f4⟩;exact⟨rfl,f4⟩
  all_goals
   refine aC ?_;go_simp;exact aG
 intro w' b;simp only[z1,z2,z3,z4,au,Act.put,z5,z6,z7,z8,z9,iO,iP,Nat.reduceAdd,Nat.zero_add];have I:=af (G.out.trans b);clear b;obtain⟨i0,M,z,n,N⟩:=info_parts rU;have K:Hid (¬4*i0.size>2^24):=by simp only[Hid];rw[n];omega
 have L:Hid (¬4*i0.size=0):=by simp only[Hid];rw[n];omega
 go_wp2_with fail;have B:Hid (ao (w'.alloc (.cells #[.int .i64 o, .int .i64 p, .int .i64 r, .int .i64 y3] 3)) w'.heap.size 3 #[.int .i64 o, .int .i64 p, .int .i64 r, .int .i64 y3]):=ao.new _ _ _;have H:=af (I.out.trans ((Fr.refl ag w').alloc (.cells #[.int .i64 o, .int .i64 p, .int .i64 r, .int .i64 y3] 3)));refine(zI o p r y3 _ _ B.out).mono ?_;rintro e O⟨rfl,rfl⟩;go_wp2;go_ret;rw[J.out];exact⟨rfl,H.out⟩
theorem lX(L:List Ent)(a:ActV)(cs:List Value)(m s:Nat)(w:World)(A:cT w cs a)(u:fD w s L)(v:eG w)(r:cY m L)(x:∀c∈a.writes,eh c)(hm:m+a.writes.length≤60000):
  Calls Tryz.prog 86 #[.agg cs.toArray, .pointer (some ⟨s,0,none⟩)] w (mL w L a.writes):=by
 obtain⟨D,E,rfl,_,o⟩:=A;obtain⟨h,B,i,rfl,rfl,_,d⟩:=o.cl;have k:Hid (∀w',Fr ag w w'→Calls Tryz.prog 82 #[.pointer (some ⟨s,0,none⟩), .slice h a.writes.length i] w' (mL w' L a.writes)):=fun w' f=>tR L a.writes _ m h i _ s w' (u.aq f) (v.aq f) r (d.aq f) x hm;generalize a.writes.length=n at*;obtain⟨⟨t,c,C,li⟩,_,ws⟩:=a;simp only[eE.cells,List.cons_append,List.nil_append]at k⊢;clear u v r x hm o d;go_enter Tryz.func86,Tryz.ntmps86;go_wp2_with(refine ay rfl 46 (.tmp 0) rfl _ rfl ?_);intro w1 n1;have l:=af n1.fr;have j:=af n1.aF;clear n1;generalize w.heap.size=g at*;have c5:w1.cell? ⟨g,5,none⟩=some (.slice h n i):=j.out.cell 5;go_wp2_with fail;refine(k.out _ l.out).mono ?_;rintro e w2⟨p,q,rfl,f2,b⟩;have y:=af (l.out.trans f2);have z:=af b;clear f2 b c5 j;go_wp2;go_ret2;exact⟨p,q,rfl,y.out,z.out⟩
theorem Em(w:World)(a:Option Addr)(l c:Nat):(binOp .eql 44 (.slice a l c) (.slice none 0 0)).run Tryz.prog w= .ok (.bool a.isNone) w:=by
 simp only[binOp];simp[run_equal_slice_nil w 44 119 a l c Tryz.underlying44]
def uf(w:World)(l:List CV)(e:Ending)(w':World):Prop:=∃v,e= .returned v∧bW 119 7 w (.slice none 0 0) w' v l.length (l.flatMap CV.cells)
theorem uf.ch{w w':World}{l:List CV}{e:Ending}(h:uf w l e w'):∃v,e= .returned v∧dU w' v l∧Fr ag w w'∧∀k,v.ownBlock=some k→w.heap.size≤k:=by
 obtain⟨v,rfl,a⟩:=h;exact⟨v,rfl,a.own,a.aq,a.new⟩
theorem qU(xs:List CV)(n:Nat)(A:Option Addr)(c:Nat)(S:Nat→Prop)(w:World)(a:CL w S A n xs)(r:n≤1099511627776):Calls Tryz.prog 135 #[.slice A n c] w (uf w xs):=by
 obtain⟨i0,f,m,o,p⟩:=info_parts o3;have t:=af a;have v:=af a.len;have x:Hid (∀u∈xs.flatMap CV.cells,u.oneCell'=true):=by
  intro u hu;obtain⟨d,_,B⟩:=List.mem_flatMap.1 hu;have h:=d.one;rw[Array.all_eq_true_iff_forall_mem]at h;exact h u (by simpa using B)
 cases A with
 |none=>
  have l:n=0:=by
   rcases Nat.eq_zero_or_pos n with h|h;·exact h
   ·obtain⟨g,h,_⟩:=a.rd.2 h;cases h
  subst l;have E:xs=[]:=List.eq_nil_of_length_eq_zero a.len;subst E;have D:∀w:World,(binOp .eql 44 (.slice none 0 c) (.slice none 0 0)).run Tryz.prog w= .ok (.bool true) w:=fun w=>Em w none 0 c;clear a;go_enter Tryz.func135,Tryz.ntmps135;go_wp2;go_ret;exact⟨_,rfl,bW.start ⟨rfl, .inl ⟨rfl,rfl⟩⟩⟩
 |some g=>
  have D:∀w:World,(binOp .eql 44 (.slice (some g) n c) (.slice none 0 0)).run Tryz.prog w= .ok (.bool false) w:=fun w=>Em w (some g) n c;have i:=af r;clear a r;go_enter Tryz.func135,Tryz.ntmps135;go_wp2_with(refine sy rfl 44 119 rfl i0 Tryz.underlying44 f ?_);intro w1 s;have j:=af s;clear s;generalize e:w.heap.size=g1 at*;have b:=af e;clear e;have z:Hid (w1.ownsRow 0 119 7 (.slice (some ⟨g1,0,none⟩) 0 0) 0 []):=by rw[←b.out];exact j.out.IS
  go_wp2_with(refine iF _ rfl _ _ 44 rfl 119 i0 dj 7 80 Tryz.underlying44 f m o p rfl (by decide) _ _ _ rfl z.out S (some g) n c (xs.flatMap CV.cells) rfl (t.out.aq j.out.fr).rd x.out (by have:=i.out;omega) (by decide) ?_);intro v2 w2 q;have y:Hid (bW 119 7 w (.slice none 0 0) w2 v2 xs.length (xs.flatMap CV.cells)):=by
   have h:=bW.fresh j.out.fr (fun k C=>by simp only[Value.ownBlock,Option.some.injEq]at C;have:=b.out;omega) q;rw[Hid,v.out];exact h
  clear q;go_wp2;go_ret;exact⟨_,rfl,y.out⟩
def jJ(B:Nat)(cs:List Value):Prop:=∀v∈cs,∀k,v.ownBlock=some k→B≤k
theorem jJ.mono{B a:Nat}{cs:List Value}(h:jJ B cs)(b:a≤B):jJ a cs:=fun v d k c=>Nat.le_trans b (h v d k c)
theorem cT.x9{w w':World}{T:Nat→Prop}{cs:List Value}{a:ActV}{B:Nat}(h:cT w cs a)(f:jJ B cs)(e:Fr T w w')(d:∀k,T k→k<B):cT w' cs a:=by
 obtain⟨g,i,rfl,j,l⟩:=h;refine⟨g,i,rfl,aQ j e (fun k b c=>?_),aQ l e (fun k b c=>?_)⟩;·have:=d k c;have:=f g (by simp) k b;omega
 ·have:=d k c;have:=f i (by simp) k b;omega
def qw(w:World)(a:ActV)(e:Ending)(w':World):Prop:=∃cs,e= .returned (.agg cs.toArray)∧cT w' cs a∧Fr ag w w'∧jJ w.heap.size cs
theorem xd(t c n:Int)(s:ByteArray)(A B:Option Addr)(x y z u:Nat):Tryz.prog.built 46 [(0, .agg [Value.int .i64 t, .int .i64 c, .int .i64 n, .string s].toArray),(1, .slice A x y),(2, .slice B z u)]=some ([Value.int .i64 t, .int .i64 c, .int .i64 n, .string s]++[Value.slice A x y, .slice B z u]).toArray:=by kernel_rfl
def fH:Value:= .agg #[.int .i64 0, .int .i64 0, .int .i64 0, .string ByteArray.empty, .slice none 0 0, .slice none 0 0]
theorem mJ(w:World):(zeroValue 46).run Tryz.prog w= .ok fH w:=by kernel_rfl
theorem ActV.one{w:World}{cs:List Value}{a:ActV}(h:cT w cs a):cs.toArray.all (·.oneCell')=true:=by
 obtain⟨f,g,rfl,b,e⟩:=h;obtain⟨A,n,c,rfl,_⟩:=b.cl;obtain⟨B,m,d,rfl,_⟩:=e.cl;simp[eE.cells,Value.oneCell']
theorem dU.form{w:World}{v:Value}{l:List CV}(h:dU w v l):∃A n c,v= .slice A n c∧dU w (.slice A n c) l:=by
 obtain⟨A,n,c,rfl,_⟩:=h.cl;exact⟨A,n,c,rfl,h⟩
theorem sM(a:ActV)(cs:List Value)(w:World)(a3:cT w cs a)(nr:a.reads.length≤1099511627776)(nw:a.writes.length≤1099511627776):
  Calls Tryz.prog 87 #[.agg cs.toArray] w (qw w a):=by
 obtain⟨b,c,rfl,t,C⟩:=a3;obtain⟨I,a5,K,rfl,rfl,_,Y⟩:=t.cl;obtain⟨J,a6,L,rfl,rfl,_,Z⟩:=C.cl;have P:Hid (∀w',Fr ag w w'→Calls Tryz.prog 135 #[.slice I a.reads.length K] w' (uf w' a.reads)):=fun w' f=>qU a.reads _ I K _ w' (Y.aq f) nr;have Q:Hid (∀w',Fr ag w w'→Calls Tryz.prog 135 #[.slice J a.writes.length L] w' (uf w' a.writes)):=fun w' f=>qU a.writes _ J L _ w' (Z.aq f) nw;have N:Hid (∀(A B:Option Addr)(x y z u:Nat),Tryz.prog.built 46 [(0, .agg a.key.cells.toArray),(1, .slice A x y),(2, .slice B z u)]=some (a.key.cells++[Value.slice A x y, .slice B z u]).toArray):=fun A B x y z u=>xd _ _ _ _ A B x y z u;have s:Hid ((Tryz.prog.info? 43).map (·.size)=some a.key.cells.length):=fO;have o:Hid (a.key.cells.length=4):=rfl;have D:Hid (∀(w':World)(b c:Value),dU w' b a.reads→dU w' c a.writes→Fr ag w w'→(∀k,b.ownBlock=some k→w.heap.size≤k)→(∀k,c.ownBlock=some k→w.heap.size≤k)→qw w a (.returned (.agg (a.key.cells++[b,c]).toArray)) w'):=fun w' b c t C f n1 ah=>⟨_,rfl,⟨b,c,rfl,t,C⟩,f,fun v ae k d=>by
  simp only[eE.cells,List.cons_append,List.nil_append,List.mem_cons,List.not_mem_nil,or_false]at ae;rcases ae with rfl|rfl|rfl|rfl|rfl|rfl;·cases d
  ·cases d
  ·cases d
  ·cases d
  ·exact n1 k d
  ·exact ah k d⟩;have E:Hid (∀b c:Value,(a.key.cells++[b,c]).toArray.size=6):=fun b c=>rfl;have ax:Hid (∀b c:Value,b.oneCell'=true→c.oneCell'=true→(a.key.cells++[b,c]).toArray.all (·.oneCell')=true):=fun b c t C=>by simp only[eE.cells,List.cons_append,List.nil_append,List.all_toArray,List.all_cons,List.all_nil,t,C];rfl
 generalize qw w a=PP at*;generalize a.reads.length=aj at*;generalize a.writes.length=al at*;generalize a.reads=R at*;generalize a.writes=aE at*;generalize a.key.cells=V at*;clear t C Y Z nr nw;go_enter Tryz.func87,Tryz.ntmps87;go_wp2_with(refine ay rfl 46 (.tmp 0) rfl (V++[Value.slice I aj K, .slice J al L]).toArray rfl ?_);intro w1 n1;have an:=af n1.fr;have aK:=af n1.aF;clear n1;generalize W:w.heap.size=g1 at*;have S:=af W;clear W;go_wp2_with(refine ak rfl 46 rfl fH mJ #[.int .i64 0, .int .i64 0, .int .i64 0, .string ByteArray.empty, .slice none 0 0, .slice none 0 0] rfl ?_);intro w2 ah;have ad:=af ah;clear ah;generalize X:w1.heap.size=g2 at*;have T:=af X;clear X;have aL:Hid (ao w2 g2 46 #[.int .i64 0, .int .i64 0, .int .i64 0, .string ByteArray.empty, .slice none 0 0, .slice none 0 0]):=by have h:=ad.out.aF;rw[T.out]at h;exact h
 have F2:=af (an.out.trans ad.out.fr);have n:=af (aK.out.fr ad.out.fr (fun x=>x));have av:Hid (w.heap.size≤g2):=by have:=an.out.size;have:=T.out;simp only[Hid];omega
 have O:Hid (∀w',Fr ag w2 w'→∀j x,V[j]? =some x→w'.cell? ((⟨g1,0,none⟩:Addr).add j)=some x):=fun w' f j x aS=>by
  rw[Addr.add_mid,Nat.zero_add,(n.out.fr f (fun x=>x)).cell j,bD,List.getElem?_append_left (List.getElem?_eq_some_iff.1 aS).1];exact aS
 have aG:Hid (∀w',Fr ag w2 w'→w'.cell? {block:=g1,off:=4}=some (.slice I aj K)):=fun w' f=>by
  rw[(n.out.fr f (fun x=>x)).cell 4,bD,List.getElem?_append_right (by rw[o.out];omega),o.out];rfl
 have c5:Hid (∀w',Fr ag w2 w'→w'.cell? {block:=g1,off:=5}=some (.slice J al L)):=fun w' f=>by
  rw[(n.out.fr f (fun x=>x)).cell 5,bD,List.getElem?_append_right (by rw[o.out];omega),o.out];rfl
 have aM:Hid (∀w',Fr ag w2 w'→Calls Tryz.prog 135 #[.slice I aj K] w' (uf w' R)):=fun w' f=>P.out w' (F2.out.trans f);have aN:Hid (∀w',Fr ag w2 w'→Calls Tryz.prog 135 #[.slice J al L] w' (uf w' aE)):=fun w' f=>Q.out w' (F2.out.trans f);have aV:=N;have U:Hid (w.heap.size≤w2.heap.size):=F2.out.size;clear ad aK n P Q N an;go_upto_region 1 with fail;refine vR 9 [iS (.pointer (some ⟨g1,0,none⟩)),iS (.agg V.toArray),iS (.pointer (some ⟨g1,4,none⟩)),iS (.slice I aj K),⟨fun H M=>dU M H R∧∀k,H.ownBlock=some k→w.heap.size≤k,fun _ _ _ f h=>⟨h.1.aq f,h.2⟩⟩,iS (.pointer (some ⟨g1,5,none⟩)),iS (.slice J al L),⟨fun H M=>dU M H aE∧∀k,H.ownBlock=some k→w.heap.size≤k,fun _ _ _ f h=>⟨h.1.aq f,h.2⟩⟩,⟨fun H M=>∃b c,H= .agg (V++[b,c]).toArray∧dU M b R∧dU M c aE∧(∀k,b.ownBlock=some k→w.heap.size≤k)∧(∀k,c.ownBlock=some k→w.heap.size≤k),fun _ _ _ f h=>(by obtain⟨r,v,e,t,C,a0⟩:=h;exact⟨r,v,e,t.aq f,C.aq f,a0⟩)⟩] ?zA ?_;case zA=>
  refine⟨?zH,?zB,?zI,?zC,?zD,?zJ,?zE,?zF,?zG,trivial⟩;all_goals intro u w' m g
  all_goals simp only[z1,z2,z3,z4,au,Act.put,z5,z6,z7,Nat.reduceAdd,Nat.zero_add]
  case zB=>
   simp only[show u 0=_ from g 0];refine aC ?_;exact az _ _ rfl ⟨g1,0,none⟩ rfl V _ (fun a4 v ae=>O.out _ m a4 v ae) Tryz.underlying43 rfl s.out ⟨_,rfl,aA,rfl⟩
  case zC=>
   simp only[show u 2=_ from g 2];refine aC ?_;have q:=aG.out _ m;go_simp;exact⟨_,rfl,aA,rfl⟩
  case zD=>
   simp only[show u 3=_ from g 3];refine aC ?_;go_simp;refine(aM.out _ m).mono ?_;rintro e a7 he;obtain⟨v,rfl,aI,f4,aJ⟩:=he.ch;exact⟨_,rfl,f4,aI,fun k d=>by have:=aJ k d;have:=m.size;have:=U.out;omega⟩
  case zE=>
   simp only[show u 5=_ from g 5];refine aC ?_;have q:=c5.out _ m;go_simp;exact⟨_,rfl,aA,rfl⟩
  case zF=>
   simp only[show u 6=_ from g 6];refine aC ?_;go_simp;refine(aN.out _ m).mono ?_;rintro e a7 he;obtain⟨v,rfl,aI,f4,aJ⟩:=he.ch;exact⟨_,rfl,f4,aI,fun k d=>by have:=aJ k d;have:=m.size;have:=U.out;omega⟩
  case zG=>
   have aT:=(g 4).2;obtain⟨ba,n4,aG,aP,a1⟩:=dU.form (g 4).1;rw[aP]at aT;have aU:=(g 7).2;obtain⟨bb,n7,bc,aQ,a2⟩:=dU.form (g 7).1;rw[aQ]at aU;simp only[show u 1=_ from g 1,aP,aQ];refine aC ?_;exact jY 46 _ rfl _ _ (by simp only[List.map_toArray,List.map_cons,List.map_nil];rfl) (aV.out _ _ _ _ _ _) ⟨_,rfl,aA,_,_,rfl,a1,a2,aT,aU⟩
  all_goals
   refine aC ?_;go_simp;exact⟨_,rfl,aA,rfl⟩
 intro u w' m g;obtain⟨b,c,aR,F,G,aa,ab⟩:=g 8 (by omega);simp only[z1,z2,z3,z4,au,Act.put,z5,z6,z7,z8,z9,Nat.reduceAdd,Nat.zero_add];clear g;simp only[aR];have ac:=af (aL.out.fr m (fun x=>x));have aX:=af (F2.out.trans m);have aB:=af aa;have aD:=af ab;clear aa ab;obtain⟨a8,bf,bh,rfl,_⟩:=F.cl;obtain⟨a9,bg,bi,rfl,_⟩:=G.cl;have ap:=af F;have ar:=af G;clear m aR F G aL F2 aM aN aG c5 O;refine ai rfl 46 (.tmp 2) _ rfl g2 _ rfl rfl _ _ ac.out (by rw[E.out];exact bT) (by rw[E.out];rfl) (ax.out _ _ rfl rfl) ?_;intro am aO aH;have aW:=af aO;have aY:Hid (Fr ag w am):=aX.out.aw aH (fun i be e=>by have bd:i=g2:=e;have:=av.out;omega);have NE:Hid (∀v l,dU w' v l→dU am v l):=fun v l h=>h.cC aH (fun k d=>by
  obtain rfl:k=g2:=d;exact⟨fun x=>by have:=x.one ac.out.ty;exact absurd this (by decide),fun x=>by have:=x.one ac.out.ty;exact absurd this (by decide),fun x=>by have:=x.one ac.out.ty;exact absurd this (by decide)⟩);have aZ:=af (D.out am _ _ (NE.out _ _ ap.out) (NE.out _ _ ar.out) aY.out (fun k d=>by rw[←S.out];exact aB.out k d) (fun k d=>by rw[←S.out];exact aD.out k d));clear aO aH;go_wp2;exact bodyPost_ret (results_cell_row (fn:=Tryz.f87) (p:=2) (ty:=46) Tryz.results87 _ am _ 46 _ (0,0) _ rfl aW.out Tryz.underlying46 rfl (by rw[E.out];exact bT)) rfl aZ.out
end Go.Proofs.YtphjagkehiklkaaGreatDoor
namespace Go.Proofs.YtphjagkehiklkaaGreatDoor
open Go.RowKit Go.ChangeShapes Go.WideShapes Go.Deep
theorem zA:Tryz.prog.cellsOf 141=8:=by kernel_rfl
theorem xf:Tryz.prog.cellsOf 242=64:=by kernel_rfl
theorem uw:Tryz.prog.cellsOf 140=1:=by kernel_rfl
theorem qb:Tryz.prog.globalNamed "replevin/sha256.initial"=some 1:=by kernel_rfl
theorem tj:(Tryz.prog.globals[1]?).map (·.type)=some 141:=by kernel_rfl
theorem nE:Tryz.prog.globalNamed "replevin/sha256.constants"=some 2:=by kernel_rfl
theorem pT:(Tryz.prog.globals[2]?).map (·.type)=some 242:=by kernel_rfl
theorem Kc{W:World}{rest:List (String×DataW Unit)}(h:laidMet Tryz.prog (("replevin/sha256.initial",Rows.laid_replevin_sha256_initial)::("replevin/sha256.constants",Rows.laid_replevin_sha256_constants)::rest) W):bH W:=by
 have c:Lib.TabIs Tryz.prog W "replevin/sha256.initial" .u32 Cq:=Lib.tabIs_of_head qb tj Tryz.underlying141 Tryz.underlying140 uw zA (show laidMet Tryz.prog (_::_) W from h);have d:Lib.TabIs Tryz.prog W "replevin/sha256.constants" .u32 Ad:=Lib.tabIs_of_head nE pT Tryz.underlying242 Tryz.underlying140 uw xf (show laidMet Tryz.prog (_::_) W from laidMet.tail h);refine⟨fun j u hu=>?_,fun j a=>?_⟩
 ·have a:j<8:=(List.getElem?_eq_some_iff.1 hu).1;rw[c.cell qb j a,←hu];rcases j with _|_|_|_|_|_|_|_|j;·rfl
  ·rfl
  ·rfl
  ·rfl
  ·rfl
  ·rfl
  ·rfl
  ·rfl
  ·omega
 ·have b:j<sV.length:=a;rw[d.cell nE j (by rw[Ad,List.length_map];exact b)];unfold jC Ad;rw[List.getD_eq_getElem?_getD,List.getElem?_map,List.getElem?_eq_getElem b];rfl
end Go.Proofs.YtphjagkehiklkaaGreatDoor
