/- Texts. -/
import Derived.Test.YtphjagkehiklkaaGreatDoorXK10
set_option linter.unusedVariables false
set_option linter.unusedSimpArgs false
set_option maxRecDepth 100000
set_option maxHeartbeats 4000000
namespace Go.Proofs.YtphjagkehiklkaaGreatDoor
open Go.RowKit Go.Shelf
theorem EK(l:List UInt8)(m:Nat)(hm:m≤10)(h:(pn l m).2.2=0):enc (pn l m).1=l.take (pn l m).2.1∧(pn l m).2.1≤l.length:=by
 rcases sh l m hm with(a|a)|⟨k,c,d,b,e,_,f,a⟩;·rw[a]at h;simp at h
 ·rw[a]at h;simp at h
 ·rw[a];exact⟨Ix l m k c hm d b e f,b⟩
theorem pY{α:Type}(zero:α)(parse:List UInt8→α×Nat×Int)(st:List UInt8×Nat×Int)(h:st.2.2≠0):(aO zero parse st).2=st:=by
 unfold aO;rw[if_pos h]
theorem my(aP:Int)(st:List UInt8×Nat×Int)(h:(aO [] (cq aP) st).2.2.2=0):st.2.2=0∧st.1=bN (aO [] (cq aP) st).1++(aO [] (cq aP) st).2.1:=by
 by_cases b:st.2.2=0
 ·refine⟨b,?_⟩;unfold aO at h⊢;rw[if_neg (by omega)]at h⊢;by_cases a:(cq aP st.1).2.2=0
  ·rw[if_neg (by omega)];simp only;unfold cq at a⊢;by_cases c:(pn st.1 9).2.2≠0;·rw[if_pos c]at a;simp only at a;omega
   rw[if_neg c]at a⊢;by_cases d:aP<((pn st.1 9).1:Int)∨16777216<(pn st.1 9).1;·rw[if_pos d]at a;cases a
   rw[if_neg d]at a⊢;by_cases e:st.1.length<(pn st.1 9).2.1+(pn st.1 9).1;·rw[if_pos e]at a;cases a
   rw[if_neg e];simp only[bN];obtain⟨he,g⟩:=EK st.1 9 (by omega) (by omega);generalize(pn st.1 9).2.1=k at*;generalize(pn st.1 9).1=n at*;have f:((st.1.drop k).take n).length=n:=by rw[List.length_take,List.length_drop];omega
   rw[f,he,List.append_assoc,←List.drop_drop,List.take_append_drop,List.take_append_drop]
  ·rw[if_pos a]at h;exact absurd h a
 ·rw[pY _ _ _ b]at h;exact absurd h b
theorem qA(aP:Int)(st:List UInt8×Nat×Int)(h:(aO 0 (bj aP) st).2.2.2=0):st.2.2=0∧st.1=enc (aO 0 (bj aP) st).1.toNat++(aO 0 (bj aP) st).2.1:=by
 by_cases b:st.2.2=0
 ·refine⟨b,?_⟩;unfold aO at h⊢;rw[if_neg (by omega)]at h⊢;by_cases a:(bj aP st.1).2.2=0
  ·rw[if_neg (by omega)];simp only;unfold bj at a⊢;simp only at a⊢;have c:(pn st.1 9).2.2=0:=by
    split at a;·omega
    ·omega
   obtain⟨he,d⟩:=EK st.1 9 (by omega) c;rw[Int.toNat_natCast,he,List.take_append_drop]
  ·rw[if_pos a]at h;exact absurd h a
 ·rw[pY _ _ _ b]at h;exact absurd h b
theorem qB{α:Type}(zero:α)(parse:List UInt8→α×Nat×Int)(l:List UInt8)(p:Nat)(x:α)(k:Nat)(h:parse l=(x,k,0)):aO zero parse (l,p,0)=(x,(l.drop k,p+k,0)):=by
 unfold aO;simp[h]
theorem jX(u:Nat)(aP:Int)(hu:u<9223372036854775808)(hm:(u:Int)≤aP)(r:List UInt8)(p:Nat):aO 0 (bj aP) (enc u++r,p,0)=((u:Int),(r,p+(enc u).length,0)):=by
 have h:bj aP (enc u++r)=((u:Int),(enc u).length,0):=by
  unfold bj;rw[AO u r hu];simp only[true_and];rw[if_neg (by omega)];rfl
 rw[qB 0 (bj aP) _ p _ _ h,List.drop_left]
theorem lV(s:List UInt8)(aP:Int)(a:(s.length:Int)≤aP)(b:s.length≤16777216)(r:List UInt8)(p:Nat):aO [] (cq aP) (bN s++r,p,0)=(s,(r,p+(bN s).length,0)):=by
 have h:cq aP (bN s++r)=(s,(bN s).length,0):=by
  unfold cq bN;rw[List.append_assoc,AO s.length (s++r) (by omega)];simp only[ne_eq,not_true_eq_false,if_false];rw[if_neg (by omega),if_neg (by simp only[aW];omega),List.drop_left,List.take_left,aW]
 rw[qB [] (cq aP) _ p _ _ h,List.drop_left]
theorem sx(l:List UInt8):aS ⟨l.toArray⟩=l:=rfl
theorem yk{st:List UInt8×Nat×Int}(h:gg st=0):st.2.2=0∧st.1=[]:=by
 unfold gg at h;split at h;next a=>
  refine⟨a,?_⟩;split at h;·cases h
  ·exact List.eq_nil_of_length_eq_zero (by omega)
 next a=>exact absurd h a
theorem DT{u:gX}{l:List UInt8}(hu:ik[(dX l).1.toNat]? =some u)(m:gg (fH u l).2=0)(s:dD (fH u l).1=true):cJ (fH u l).1=l:=by
 have x:=uI l;have d:dX l=aO 0 (bj 20) (l,0,0):=rfl;obtain⟨a0,n⟩:∃a,dX l=a:=⟨_,rfl⟩;obtain⟨c,o⟩:∃a,ks u a0.2=a:=⟨_,rfl⟩;obtain⟨a2,p⟩:∃a,mO u c.2=a:=⟨_,rfl⟩;obtain⟨a3,q⟩:∃a,oP u a2.2=a:=⟨_,rfl⟩;obtain⟨a4,r⟩:∃a,pU u a3.2=a:=⟨_,rfl⟩;have y:fH u l=(⟨a0.1,⟨c.1.toArray⟩,a2.1,a3.1,⟨a4.1.toArray⟩⟩,a4.2):=by rw[fH,n,o,p,q,r]
 rw[y]at m s⊢;rw[n]at hu x d;simp only at m;obtain⟨k,A⟩:=yk m;have z:pX u ⟨a0.1,⟨c.1.toArray⟩,a2.1,a3.1,⟨a4.1.toArray⟩⟩=true:=by
  obtain⟨_,B,f,h⟩:=ru s;simp only at f;rw[hu]at f;cases f;exact h
 rw[se (u:=u) hu];have w:a3.2.2.2=0∧a3.2.1=(if u.text then bN a4.1 else[])++a4.2.1:=by
  rw[←r]at k⊢;unfold pU at k⊢;split;next b=>rw[if_pos b]at k;exact my 32 a3.2 k
  next b=>rw[if_neg b]at k;exact⟨k,rfl⟩
 have v:a2.2.2.2=0∧a2.2.1=(if u.index then enc a3.1.toNat else[])++a3.2.1:=by
  have j:=w.1;rw[←q]at j⊢;unfold oP at j⊢;split;next b=>rw[if_pos b]at j;exact qA u.aP a2.2 j
  next b=>rw[if_neg b]at j;exact⟨j,rfl⟩
 have s2:c.2.2.2=0∧c.2.1=(if u.number then enc a2.1.toNat else[])++a2.2.1:=by
  have i:=v.1;rw[←p]at i⊢;unfold mO at i⊢;split;next b=>rw[if_pos b]at i;exact qA 1073741824 c.2 i
  next b=>rw[if_neg b]at i;exact⟨i,rfl⟩
 have s1:a0.2.2.2=0∧a0.2.1=(if u.owner then bN c.1 else[])++c.2.1:=by
  have g:=s2.1;rw[←o]at g⊢;unfold ks at g⊢;split;next b=>rw[if_pos b]at g;exact my 16777216 a0.2 g
  next b=>rw[if_neg b]at g;exact⟨g,rfl⟩
 have t:=qA 20 (l,0,0) (by rw[←d];exact s1.1);rw[←d]at t;have e:=t.2;simp only at e;rw[e,s1.2,s2.2,v.2,w.2,A,List.append_nil];rfl
theorem Dw{u:gX}{n:aI}(h:pX u n=true)(a:u.text=true):n.text.size≤32:=by
 simp only[pX,Bool.and_eq_true,Bool.or_eq_true,Bool.not_eq_true']at h;rcases h.2 with h|h;·rw[a]at h;cases h
 ·simp only[kF,Bool.and_eq_true,decide_eq_true_eq]at h;exact h.1.2
theorem DS{m:aI}(G:dD m=true)(I:m.owner.size≤16777216):∃u,ik[(dX (cJ m)).1.toNat]? =some u∧gg (fH u (cJ m)).2=0∧(fH u (cJ m)).1=m:=by
 obtain⟨A,u,hu,v⟩:=ru G;have g:=td v;have hm:=As hu;rw[se hu];have B:=@Dw u m v;obtain⟨k,O,n,i,t⟩:=m;obtain⟨wd,b,a,bi,c,d⟩:=u;obtain⟨kk,rfl⟩:∃q:Nat,k=(q:Int):=⟨k.toNat,by simp only at A;omega⟩;simp only at A I hm B hu;simp only[nO];rw[Int.toNat_natCast]at hu⊢;have d0:∀r,dX (enc kk++r)=((kk:Int),(r,(enc kk).length,0)):=fun r=>by
  unfold dX;rw[jX kk 20 (by omega) (by omega) r 0,Nat.zero_add]
 refine⟨⟨wd,b,a,bi,c,d⟩,by rw[d0,Int.toNat_natCast];exact hu,?_⟩;obtain⟨y,s⟩:∃N,(if c=true then bN (aS t)else[])=N:=⟨_,rfl⟩;obtain⟨x,o⟩:∃N,(if bi=true then enc i.toNat else[])++y=N:=⟨_,rfl⟩;obtain⟨w,l⟩:∃N,(if a=true then enc n.toNat else[])++x=N:=⟨_,rfl⟩;obtain⟨z,j⟩:∃N,(if b=true then bN (aS O)else[])++w=N:=⟨_,rfl⟩;rw[s,o,l,j];have d1:∀p,∃f,ks ⟨wd,b,a,bi,c,d⟩ (z,p,0)=(aS O,(w,f,0)):=fun p=>by
  rw[←j];unfold ks;cases b;·have e:=g.o0 rfl;simp only at e;exact⟨p,by rw[e];rfl⟩
  ·exact⟨_,lV (aS O) 16777216 (by rw[aQ];omega) (by rw[aQ];omega) w p⟩
 have d2:∀p,∃f,mO ⟨wd,b,a,bi,c,d⟩ (w,p,0)=(n,(x,f,0)):=fun p=>by
  rw[←l];unfold mO;cases a;·have e:=g.n0 rfl;simp only at e;exact⟨p,by rw[e];rfl⟩
  ·have e:=g.n1 rfl;simp only at e;have h:=jX n.toNat 1073741824 (by omega) (by omega) x p;rw[Int.toNat_of_nonneg e.1]at h;exact⟨_,h⟩
 have d3:∀p,∃f,oP ⟨wd,b,a,bi,c,d⟩ (x,p,0)=(i,(y,f,0)):=fun p=>by
  rw[←o];unfold oP;cases bi;·have e:=g.i0 rfl;simp only at e;exact⟨p,by rw[e];rfl⟩
  ·have e:=g.i1 rfl;simp only at e;have h:=jX i.toNat d (by omega) (by omega) y p;rw[Int.toNat_of_nonneg e.1]at h;exact⟨_,h⟩
 have d4:∀p,∃f,pU ⟨wd,b,a,bi,c,d⟩ (y,p,0)=(aS t,([],f,0)):=fun p=>by
  rw[←s];unfold pU;cases c;·have e:=g.t0 rfl;simp only at e;exact⟨p,by rw[e];rfl⟩
  ·have e:=B rfl;have h:=lV (aS t) 32 (by rw[aQ];omega) (by rw[aQ];omega) [] p;rw[List.append_nil]at h;exact⟨_,h⟩
 obtain⟨J,C⟩:=d1 (enc kk).length;obtain⟨K,D⟩:=d2 J;obtain⟨L,E⟩:=d3 K;obtain⟨M,F⟩:=d4 L;have H:fH ⟨wd,b,a,bi,c,d⟩ (enc kk++z)=(⟨(kk:Int),⟨(aS O).toArray⟩,n,i,⟨(aS t).toArray⟩⟩,([],M,0)):=by
  rw[fH,d0];simp only[C,D,E,F]
 rw[H];exact⟨rfl,rfl⟩
def gm(l:List UInt8):aI×Int:=match ik[(dX l).1.toNat]? with
 |some u=>if gg (fH u l).2=0∧dD (fH u l).1=true then((fH u l).1,0)else(⟨0,ByteArray.empty,0,0,ByteArray.empty⟩,3)
 |none=>(⟨0,ByteArray.empty,0,0,ByteArray.empty⟩,3)
theorem rV(l:List UInt8):∃u,ik[(dX l).1.toNat]? =some u:=by
 have h:=uI l;have a:ik.length=21:=by decide
 exact⟨_,List.getElem?_eq_getElem (show(dX l).1.toNat<ik.length by omega)⟩
theorem qZ{l:List UInt8}{u:gX}(h:ik[(dX l).1.toNat]? =some u):gm l=if gg (fH u l).2=0∧dD (fH u l).1=true then((fH u l).1,0)else(⟨0,ByteArray.empty,0,0,ByteArray.empty⟩,3):=by
 unfold gm;rw[h]
theorem FO{m:aI}(a:dD m=true)(d:m.owner.size≤16777216):gm (cJ m)=(m,0):=by
 obtain⟨u,hu,b,c⟩:=DS a d;rw[qZ hu,c,if_pos ⟨b,a⟩]
theorem FP{l:List UInt8}(h:(gm l).2=0):dD (gm l).1=true∧cJ (gm l).1=l:=by
 obtain⟨u,hu⟩:=rV l;rw[qZ hu]at h⊢;by_cases a:gg (fH u l).2=0∧dD (fH u l).1=true;·rw[if_pos a];exact⟨a.2,DT hu a.1 a.2⟩
 ·rw[if_neg a]at h;cases h
theorem vy(aP:Int)(st:List UInt8×Nat×Int):(aO [] (cq aP) st).1.length≤st.1.length:=by
 unfold aO;split;·simp
 ·split;·simp
  next h=>
   simp only[cq];split;·simp
   ·split;·simp
    ·split;·simp
     ·simp only[List.length_take,List.length_drop];omega
theorem AV(aP:Int)(st:List UInt8×Nat×Int):(aO [] (cq aP) st).2.1.length≤st.1.length:=by
 unfold aO;split;·simp
 ·split;·simp
  ·simp only[List.length_drop];omega
theorem lU(aP:Int)(st:List UInt8×Nat×Int):(aO 0 (bj aP) st).2.1.length≤st.1.length:=by
 unfold aO;split;·simp
 ·split;·simp
  ·simp only[List.length_drop];omega
theorem sR(l:List UInt8):(gm l).1.owner.size≤l.length∧(gm l).1.text.size≤l.length:=by
 obtain⟨u,hu⟩:=rV l;rw[qZ hu];split
 ·have a:=lU 20 (l,0,0);have b:dX l=aO 0 (bj 20) (l,0,0):=rfl;rw[←b]at a;simp only at a;have c:∀st,(ks u st).1.length≤st.1.length∧(ks u st).2.1.length≤st.1.length:=fun st=>by
   unfold ks;split;·exact⟨vy _ _,AV _ _⟩
   ·simp
  have d:∀st,(mO u st).2.1.length≤st.1.length:=fun st=>by
   unfold mO;split;·exact lU _ _
   ·simp
  have e:∀st,(oP u st).2.1.length≤st.1.length:=fun st=>by
   unfold oP;split;·exact lU _ _
   ·simp
  have f:∀st,(pU u st).1.length≤st.1.length:=fun st=>by
   unfold pU;split;·exact vy _ _
   ·simp
  simp only[fH,ByteArray.size,List.size_toArray];have g:=c (dX l).2;have a2:=d (ks u (dX l).2).2;have a3:=e (mO u (ks u (dX l).2).2).2;have a4:=f (oP u (mO u (ks u (dX l).2).2).2).2;omega
 ·simp
def ug(w:World)(l:List UInt8)(e:Ending)(w':World):Prop:=e= .returned (.tuple #[.agg (gm l).1.cells.toArray, .int .i64 (gm l).2])∧Fr ah w w'
theorem Fh(s:ByteArray)(w:World)(d:ed w)(f:s.size≤16777216):Calls Tryz.prog 118 #[.string s] w (ug w (aS s)):=by
 obtain⟨u,hu⟩:=rV (aS s);refine(BU s u w d f hu).mono ?_;rintro e w'⟨n,k,rfl,a,h⟩;unfold ug;rw[qZ hu];rcases h with⟨b,c,rfl,rfl⟩|⟨h,rfl,rfl⟩;·rw[if_pos ⟨b,c⟩];exact⟨rfl,a⟩
 ·rw[if_neg h];exact⟨rfl,a⟩
abbrev fD:=List UInt8×Nat×Int
def dI(st:fD):List UInt8×fD:=aO [] (cq 65536) st
def LH:aI:=⟨0,ByteArray.empty,0,0,ByteArray.empty⟩
structure qN(L:List Ent)(last:aI)(st:fD):Prop where
 sort:cC L
 ok:∀x∈L,dD x.1=true
 owner:∀x∈L,x.1.owner.size≤70000
 text:∀x∈L,x.1.text.size≤70000
 value:∀x∈L,x.2.size≤70000
 len:2*L.length+st.1.length≤70000
 bytes:cE L+st.1.length≤70000
 last:L=[]∨∃M v,L=M++[(last,v)]
theorem qN.nil{l:List UInt8}(h:l.length≤70000)(st:fD)(a:st.1.length≤l.length):qN [] LH st:=
 ⟨List.Pairwise.nil,(fun _ h=>by cases h),(fun _ h=>by cases h),(fun _ h=>by cases h),(fun _ h=>by cases h),by simp;omega,by simp[cE];omega,Or.inl rfl⟩
theorem qN.jK{L:List Ent}{last:aI}{st:fD}(h:qN L last st):mE L:=
 ⟨h.sort,fun x a=>by have:=h.owner x a;omega,by have:=h.len;omega,by have:=h.bytes;omega,h.ok⟩
theorem qN.small{L:List Ent}{last:aI}{st:fD}(h:qN L last st):xY L:=
 ⟨h.ok,fun x a=>by have:=h.owner x a;omega,fun x a=>by have:=h.text x a;omega,fun x a=>by have:=h.value x a;omega,by have:=h.len;omega⟩
theorem od(s:List UInt8):s.length+1≤(bN s).length:=by
 unfold bN;have:1≤(enc s.length).length:=rf 9 _;rw[aW];omega
theorem zE(A B:List Ent):cE (A++B)=cE A+cE B:=by simp[cE]
theorem DY{L:List Ent}{last m:aI}(f:cC L)(e:L=[]∨∃M v,L=M++[(last,v)])(d:¬(0<L.length∧bP m last≤0)):∀y∈L,0<bP m y.1:=by
 rcases e with rfl|⟨M,u,rfl⟩;·intro y a;cases a
 ·have b:0<bP m last:=by
   by_cases h:0<bP m last;·exact h
   ·exact absurd ⟨by simp,by omega⟩ d
  intro y a;rcases List.mem_append.1 a with a|a;·have c:=(cC.parts f).2.2.1 y a;exact gj (ca.trans y.1 last m c (lk b))
  ·simp only[List.mem_singleton]at a;rw[a];exact b
theorem qN.next{L:List Ent}{last:aI}{st:fD}(h:qN L last st)(i:(gm (dI st).1).2=0)(j:¬(0<L.length∧bP (gm (dI st).1).1 last≤0))(k:(dI (dI st).2).2.2.2=0):
  qN (L++[((gm (dI st).1).1,⟨(dI (dI st).2).1.toArray⟩)]) (gm (dI st).1).1 (dI (dI st).2).2∧dC (gm (dI st).1).1 ⟨(dI (dI st).2).1.toArray⟩ L=L++[((gm (dI st).1).1,⟨(dI (dI st).2).1.toArray⟩)]∧
  (dI st).2.2.2=0∧st.2.2=0∧st.1=oS ((gm (dI st).1).1,⟨(dI (dI st).2).1.toArray⟩)++(dI (dI st).2).2.1:=by
 have Gk:=DY h.sort h.last j;obtain⟨d,s1⟩:=my 65536 (dI st).2 k;obtain⟨g,c⟩:=my 65536 st d;obtain⟨ok,l⟩:=FP i;have n:=sR (dI st).1;have e:dC (gm (dI st).1).1 ⟨(dI (dI st).2).1.toArray⟩ L=L++[((gm (dI st).1).1,⟨(dI (dI st).2).1.toArray⟩)]:=by
  have:=lO (v:=⟨(dI (dI st).2).1.toArray⟩) L [] Gk;rw[List.append_nil]at this;rw[this];rfl
 have t0:(dI st).1=(aO [] (cq 65536) st).1:=rfl;have t1:(dI st).2=(aO [] (cq 65536) st).2:=rfl;have q:(dI (dI st).2).1=(aO [] (cq 65536) (dI st).2).1:=rfl;have r:(dI (dI st).2).2=(aO [] (cq 65536) (dI st).2).2:=rfl;rw[←t0,←t1]at c;rw[←q,←r]at s1;have o:=congrArg List.length c;have l1:=congrArg List.length s1;rw[aW]at o l1;have b0:=od (dI st).1;have b1:=od (dI (dI st).2).1;have hlen:=h.len;have b:=h.bytes;generalize(dI (dI st).2).2=st2 at*;generalize(dI (dI st).2).1=v at*;generalize(dI st).2=st1 at*;generalize(dI st).1=p at*;generalize(gm p).1=m at*;have f:(⟨v.toArray⟩:ByteArray).size=v.length:=by simp[ByteArray.size]
 refine⟨⟨by rw[←e];exact(nM h.sort).1,?_,?_,?_,?_,?_,?_,Or.inr ⟨L,_,rfl⟩⟩,e,d,g,?_⟩
 ·intro x a;rcases List.mem_append.1 a with a|a;·exact h.ok x a
  ·simp only[List.mem_singleton]at a;rw[a];exact ok
 ·intro x a;rcases List.mem_append.1 a with a|a;·exact h.owner x a
  ·simp only[List.mem_singleton]at a;rw[a];simp only;omega
 ·intro x a;rcases List.mem_append.1 a with a|a;·exact h.text x a
  ·simp only[List.mem_singleton]at a;rw[a];simp only;omega
 ·intro x a;rcases List.mem_append.1 a with a|a;·exact h.value x a
  ·simp only[List.mem_singleton]at a;rw[a];simp only[f];omega
 ·simp only[aW,List.length_cons,List.length_nil];omega
 ·rw[zE];have:cE [((m:aI),(⟨v.toArray⟩:ByteArray))]=v.length:=by simp[cE,f]
  rw[this];omega
 ·rw[c,s1];simp only[oS];rw[l,List.append_assoc];rfl
structure dH where
 tick:Int
 cls:Int
 num:Int
 fA:ByteArray
structure ActV where
 key:dH
 reads:List CV
 writes:List CV
def dQ(k:dH):Bool:=
 decide (0≤k.tick)&&decide (k.tick≤1073741824)&&(decide (0≤k.cls)&&decide (k.cls≤2))&&(decide (0≤k.num)&&decide (k.num≤999999)&&!(k.cls==0&&k.num==0))&&
 (if k.cls=0 then k.fA.toList.isEmpty else(!k.fA.toList.isEmpty&&db k.fA&&!(k.cls==2&&k.num !=0)))
def jy(c:CV):Bool:=dD c.nm&&decide (c.value.size≤65536)&&(!c.bH||c.value.toList.isEmpty)
def fW:List CV→Bool
 |[]=>true
 |c::r=>jy c&&(match r with|[]=>true|d::_=>decide (bP c.nm d.nm<0))&&fW r
def gv(a:ActV):Bool:=dQ a.key&&fW a.reads&&fW a.writes
def jR(b:Bool):List UInt8:=[if b then 1 else 0]
def ny(c:CV):List UInt8:=bN (cJ c.nm)++(jR c.bH++bN (aS c.value))
def eT(l:List CV):List UInt8:=enc l.length++l.flatMap ny
def rp(k:dH):List UInt8:=enc k.tick.toNat++(enc k.cls.toNat++(enc k.num.toNat++bN (aS k.fA)))
def dj(a:ActV):List UInt8:=rp a.key++(eT a.reads++eT a.writes)
theorem DM(b:Bool)(r:List UInt8)(p:Nat):aO false cW (jR b++r,p,0)=(b,(r,p+1,0)):=by
 have h:cW (jR b++r)=(b,1,0):=by
  unfold cW jR;cases b<;>simp
 rw[qB false cW _ p _ _ h];rfl
theorem AU(st:fD):(aO false cW st).2.1.length≤st.1.length:=by
 unfold aO;split;·simp
 ·split;·simp
  ·simp only[List.length_drop];omega
def j6(st:fD):List UInt8×fD:=aO [] (cq 16777216) st
def lW:Nat→fD→List CV→Option (List CV×fD)
 |0,st,L=>some (L,st)
 |n+1,st,L=>
  if(gm (j6 st).1).2≠0 then none else
  lW n (dI (aO false cW (j6 st).2).2).2 (L++[⟨(gm (j6 st).1).1,⟨(dI (aO false cW (j6 st).2).2).1.toArray⟩,(aO false cW (j6 st).2).1⟩])
def jl(st:fD):Option (List CV×fD):=lW (aO 0 (bj (st.1.length:Int)) st).1.toNat (aO 0 (bj (st.1.length:Int)) st).2 []
def jd(l:List UInt8):Int×fD:=aO 0 (bj 1073741824) (l,0,0)
def jY(l:List UInt8):Int×fD:=aO 0 (bj 2) (jd l).2
def rdNum(l:List UInt8):Int×fD:=aO 0 (bj 999999) (jY l).2
def iV(l:List UInt8):List UInt8×fD:=j6 (rdNum l).2
def iD(l:List UInt8):dH×fD:=(⟨(jd l).1,(jY l).1,(rdNum l).1,⟨(iV l).1.toArray⟩⟩,(iV l).2)
def mN(l:List UInt8):Option ActV:=
 match jl (iD l).2 with
 |none=>none
 |some (a,st)=>match jl st with
  |none=>none
  |some (W,st2)=>if gg st2=0∧gv ⟨(iD l).1,a,W⟩=true then some ⟨(iD l).1,a,W⟩else none
structure gS(c:CV):Prop where
 owner:c.nm.owner.size≤1048576
 text:c.nm.text.size≤1048576
theorem xE:∀(M:List CV)(p:Nat)(r:List UInt8)(L:List CV),(∀c∈M,jy c=true)→(∀c∈M,gS c)→∃b,lW M.length (M.flatMap ny++r,p,0) L=some (L++M,(r,b,0))
 |[],p,r,L,_,_=>⟨p,by simp[lW]⟩
 |c::M,p,r,L,f,g=>by
  have a0:=f c (by simp);have e:=g c (by simp);simp only[jy,Bool.and_eq_true,decide_eq_true_eq]at a0;have a4:=ft c.nm;have b1:=e.owner;have b2:=e.text;have t0:j6 ((c::M).flatMap ny++r,p,0)=(cJ c.nm,(jR c.bH++(bN (aS c.value)++(M.flatMap ny++r)),p+(bN (cJ c.nm)).length,0)):=by
   unfold j6;rw[List.flatMap_cons,ny,List.append_assoc,List.append_assoc,List.append_assoc];exact lV (cJ c.nm) 16777216 (by omega) (by omega) _ p
  have t1:=DM c.bH (bN (aS c.value)++(M.flatMap ny++r)) (p+(bN (cJ c.nm)).length);have t2:∀q,dI (bN (aS c.value)++(M.flatMap ny++r),q,0)=(aS c.value,(M.flatMap ny++r,q+(bN (aS c.value)).length,0)):=fun q=>by
   unfold dI;exact lV (aS c.value) 65536 (by rw[aQ];omega) (by rw[aQ];omega) _ _
  have t3:gm (cJ c.nm)=(c.nm,0):=FO a0.1.1 (by omega);rw[List.length_cons,lW,t0];simp only;rw[t3];simp only[ne_eq,not_true_eq_false,if_false];rw[t1];simp only;rw[t2];simp only;obtain⟨b,h⟩:=xE M (p+(bN (cJ c.nm)).length+1+(bN (aS c.value)).length) r (L++[c]) (fun d a=>f d (by simp[a])) (fun d a=>g d (by simp[a]));refine⟨b,?_⟩;rw[show L++c::M=L++[c]++M by simp,←h];rfl
theorem Im(c:CV):3≤(ny c).length:=by
 have a:=od (cJ c.nm);have b:=od (aS c.value);simp only[ny,jR,aW,List.length_cons,List.length_nil];omega
theorem zL:∀M:List CV,3*M.length≤(M.flatMap ny).length
 |[]=>by simp
 |c::M=>by
  have a:=Im c;have b:=zL M;simp only[List.flatMap_cons,aW,List.length_cons];omega
theorem ky:∀{l:List CV},fW l=true→∀c∈l,jy c=true
 |[],_,_,h=>by cases h
 |d::r,h,c,a=>by
  simp only[fW,Bool.and_eq_true]at h;rcases List.mem_cons.1 a with rfl|a;·exact h.1.1
  ·exact ky h.2 c a
theorem vz(M:List CV)(p:Nat)(r:List UInt8)(d:∀c∈M,jy c=true)(e:∀c∈M,gS c)(g:(eT M++r).length<9223372036854775808):∃a,jl (eT M++r,p,0)=some (M,(r,a,0)):=by
 have f:=zL M;unfold jl;have hm:((M.length:Nat):Int)≤(((eT M++r).length:Nat):Int):=by
  rw[eT];simp only[aW];omega
 have b:M.length<9223372036854775808:=by omega
 simp only;generalize(((eT M++r).length:Nat):Int)=aP at hm;rw[eT,List.append_assoc,jX M.length aP b hm _ p];simp only[Int.toNat_natCast];obtain⟨a,h⟩:=xE M (p+(enc M.length).length) r [] d e;exact⟨a,h⟩
theorem FM{a:ActV}(f:gv a=true)(r:a.key.fA.size≤16777216)(h:∀c∈a.reads,gS c)(i:∀c∈a.writes,gS c)(hlen:(dj a).length<9223372036854775808):mN (dj a)=some a:=by
 have g:=f;simp only[gv,Bool.and_eq_true]at f;obtain⟨⟨e,k⟩,hw⟩:=f;obtain⟨⟨t,c,n,li⟩,z,W⟩:=a;simp only at r h i e k hw;simp only[dQ,Bool.and_eq_true,decide_eq_true_eq]at e;obtain⟨⟨⟨⟨t0,t1⟩,u,v⟩,⟨n0,n1⟩,_⟩,_⟩:=e;obtain⟨t,rfl⟩:∃q:Nat,t=(q:Int):=⟨t.toNat,by omega⟩;obtain⟨c,rfl⟩:∃q:Nat,c=(q:Int):=⟨c.toNat,by omega⟩;obtain⟨n,rfl⟩:∃q:Nat,n=(q:Int):=⟨n.toNat,by omega⟩;have o:dj ⟨⟨t,c,n,li⟩,z,W⟩=enc t++(enc c++(enc n++(bN (aS li)++(eT z++eT W)))):=by
  simp[dj,rp]
 rw[o]at hlen⊢;obtain⟨l,j⟩:∃l,enc t++(enc c++(enc n++(bN (aS li)++(eT z++eT W))))=l:=⟨_,rfl⟩;have d1:jd l=((t:Int),(enc c++(enc n++(bN (aS li)++(eT z++eT W))),0+(enc t).length,0)):=by
  rw[←j];exact jX t 1073741824 (by omega) (by omega) _ 0
 have d2:∃p,jY l=((c:Int),(enc n++(bN (aS li)++(eT z++eT W)),p,0)):=by
  rw[jY,d1];exact⟨_,jX c 2 (by omega) (by omega) _ _⟩
 obtain⟨w,d2⟩:=d2;have d3:∃p,rdNum l=((n:Int),(bN (aS li)++(eT z++eT W),p,0)):=by
  rw[rdNum,d2];exact⟨_,jX n 999999 (by omega) (by omega) _ _⟩
 obtain⟨x,d3⟩:=d3;have d4:∃p,iV l=(aS li,(eT z++eT W,p,0)):=by
  rw[iV,d3];exact⟨_,lV (aS li) 16777216 (by rw[aQ];omega) (by rw[aQ];omega) _ _⟩
 obtain⟨m,d4⟩:=d4;have b:(eT z++(eT W++[])).length<9223372036854775808:=by
  simp only[aW,List.length_nil]at hlen⊢;omega
 obtain⟨s,d5⟩:=vz z m (eT W++[]) (ky k) h b;obtain⟨y,d6⟩:=vz W s [] (ky hw) i (by simp only[aW,List.length_nil]at b⊢;omega);rw[List.append_nil]at d5 d6;have d:iD l=(⟨t,c,n,⟨(aS li).toArray⟩⟩,(eT z++eT W,m,0)):=by
  rw[iD,d1,d2,d3,d4]
 rw[j,mN,d];simp only;rw[d5];simp only;rw[d6];simp only;rw[if_pos ⟨rfl,g⟩];rfl
theorem qF:∀(xs:List CV)(L:List Ent)(m:Nat),cI m L→(∀c∈xs,eh c)→(∀c∈xs,dD c.nm=true)→cI (m+xs.length) (iZ xs L)
 |[],_,_,h,_,_=>h
 |c::xs,L,m,h,e,b=>(qF xs (kE c L) (m+1) (h.next (e c (by simp)) (b c (by simp))) (fun d a=>e d (by simp[a])) (fun d a=>b d (by simp[a]))).more (by simp only[List.length_cons];omega)
structure xZ(w:World)(N:Nat)(a:List CV)(v4 v5:Value):Prop where
 EI:w.ownsRow 0 119 7 v4 N (a.flatMap CV.cells)
 I5:w.ownsRow 0 247 7 v5 N (a.flatMap CV.cells)
 len:a.length=N
theorem xZ.ao{w w':World}{N:Nat}{b:List CV}{v4 v5:Value}(h:xZ w N b v4 v5)(a:Fr ah w w'):xZ w' N b v4 v5:=⟨aJ h.EI a (fun _ _ x=>x),aJ h.I5 a (fun _ _ x=>x),h.len⟩
theorem xZ.row{w w':World}{N:Nat}{f:List CV}{v4 v5 v:Value}{e:TypeId}{size n:Nat}{xs:List Value}(h:xZ w N f v4 v5)(d:w.ownsRow 0 e size v n xs)(c:Fr (nk v) w w')(i:e≠119)(j:e≠247):xZ w' N f v4 v5:=
 ⟨aJ h.EI c (fun g a b=>nT d h.EI i g b a),aJ h.I5 c (fun g a b=>nT d h.I5 j g b a),h.len⟩
theorem xZ.LF{w:World}{N c:Nat}{a:Option Addr}{b:List CV}{v5:Value}(h:xZ w N b (.slice a N c) v5):CL w (fun _=>True) a N b:=⟨(Rd.gO h.EI).any,h.len⟩
def Kv(w:World)(N:Nat)(d:List CV)(e:Ending)(w':World):Prop:=∃a c b c5,e= .returned (.tuple #[.slice a N c, .slice b N c5])∧Fr ah w w'∧xZ w' N d (.slice a N c) (.slice b N c5)
theorem KU(n:Nat)(xs:List CV)(A:Option Addr)(c:Nat)(S:Nat→Prop)(w:World)(f:CL w S A n xs)(l:n≤9223372036854775807):
  Calls Tryz.prog 127 #[.slice A n c] w (Kv w (min n 24) (rW xs n)):=by
 have a:(rW xs n).length=min n 24:=by rw[rW,List.length_map,List.length_take,f.len];omega
 refine(JA n xs A c S w f l).mono ?_;rintro e w2⟨v4,v5,rfl,b,d⟩;obtain⟨g,n4,k,rfl,i,_⟩:=aH b.own;obtain⟨h,n5,c5,rfl,j,_⟩:=aH d.own;obtain rfl:n4=min n 24:=i.out;obtain rfl:n5=min n 24:=j.out;exact⟨g,k,h,c5,rfl,b.ao,b.own,d.own,a⟩
def dV(a b:dH):Int:=aV (dR a.tick b.tick) (aV (dR a.cls b.cls) (aV (dR a.num b.num) (kI a.fA b.fA)))
theorem iz:gJ dV:=
 (eX.lex (eX.lex (eX.lex zQ))).pull (fun k:dH=>(k.tick,k.cls,k.num,k.fA)) (fun a b e=>by
  cases a;cases b;simpa using e)
def eo(L:List ActV)(a:ActV):Int×List ActV:=
 if gv a=false then(3,L)else
 match L.getLast? with
 |some b=>if dV a.key b.key≤0 then(32,L)else(0,L++[a])
 |none=>(0,L++[a])
def ee(L:List ActV)(E:List Ent):List Ent:=L.foldl (fun e a=>iZ a.writes e) E
theorem vF(L:List ActV)(a:ActV)(E:List Ent):ee (L++[a]) E=iZ a.writes (ee L E):=by
 simp[ee]
theorem vG{L:List ActV}{k:Nat}{a:ActV}(h:L[k]? =some a)(E:List Ent):ee (L.take (k+1)) E=iZ a.writes (ee (L.take k) E):=by
 rw[List.take_add_one,h,Option.toList_some,vF]
structure fZ(a:ActV):Prop where
 fA:a.key.fA.size≤100
 reads:∀c∈a.reads,eh c
 writes:∀c∈a.writes,eh c
 nr:a.reads.length≤6
 nw:a.writes.length≤6
theorem eh.cv{c:CV}(h:eh c):gS c:=⟨by have:=h.owner;omega,by have:=h.text;omega⟩
theorem Dv{a:ActV}(h:gv a=true):dQ a.key=true∧fW a.reads=true∧fW a.writes=true:=by
 simp only[gv,Bool.and_eq_true]at h;exact⟨h.1.1,h.1.2,h.2⟩
theorem nS{a:ActV}(h:gv a=true):∀c∈a.writes,dD c.nm=true:=fun c b=>by
 have:=ky (Dv h).2.2 c b;simp only[jy,Bool.and_eq_true]at this;exact this.1.1
theorem Cn{c:CV}(h:eh c):(ny c).length≤500:=by
 have a:=h.owner;have b:=h.text;have d:=h.value;have e:=ft c.nm;have f:=aX (cJ c.nm).length;have g:=aX (aS c.value).length;have i:=aQ c.value;simp only[ny,bN,jR,aW,List.length_cons,List.length_nil];omega
theorem qf:∀(l:List CV),(∀c∈l,eh c)→(l.flatMap ny).length≤500*l.length
 |[],_=>by simp
 |c::l,h=>by
  have b:=Cn (h c (by simp));have e:=qf l (fun d a=>h d (by simp[a]));simp only[List.flatMap_cons,aW,List.length_cons];omega
theorem fZ.len{a:ActV}(h:fZ a):(dj a).length≤6300:=by
 have e:=qf a.reads h.reads;have f:=qf a.writes h.writes;have g:=h.nr;have i:=h.nw;have j:=aX a.reads.length;have k:=aX a.writes.length;have l:=aX a.key.tick.toNat;have m:=aX a.key.cls.toNat;have n:=aX a.key.num.toNat;have b:=aX (aS a.key.fA).length;have c:=aQ a.key.fA;have d:=h.fA;simp only[dj,rp,eT,bN,aW];omega
theorem fZ.dec{a:ActV}(h:fZ a)(d:gv a=true):mN (dj a)=some a:=
 FM d (by have:=h.fA;omega) (fun c b=>(h.reads c b).cv) (fun c b=>(h.writes c b).cv) (by have:=h.len;omega)
structure eS(L:List ActV):Prop where
 ok:∀a∈L,gv a=true
 small:∀a∈L,fZ a
 len:L.length≤16
 ord:L.Pairwise (fun a b=>dV a.key b.key<0)
theorem eS.nil:eS []:=⟨fun _ h=>(by cases h),fun _ h=>(by cases h),Nat.zero_le _,List.Pairwise.nil⟩
theorem oL(L:List ActV)(a:ActV):((eo L a).1≠0∧(eo L a).2=L)∨((eo L a).1=0∧(eo L a).2=L++[a]∧gv a=true):=by
 unfold eo;cases h:gv a;·simp
 ·simp only[Bool.true_eq_false,if_false];split
  ·split;·exact .inl ⟨by simp,rfl⟩
   ·exact .inr ⟨rfl,rfl,trivial⟩
  ·exact .inr ⟨rfl,rfl,trivial⟩
theorem Cf(L:List ActV)(a:ActV)(h:(eo L a).1=0):∀b,L.getLast?=some b→dV b.key a.key<0:=fun b c=>by
 unfold eo at h;split at h;·cases h
 ·rw[c]at h;simp only at h;split at h;·cases h
  ·have:=iz.kH b.key a.key;omega
theorem AH:∀{L:List ActV},L.Pairwise (fun a b=>dV a.key b.key<0)→∀b,L.getLast?=some b→∀x∈L,dV x.key b.key≤0
 |[],_,_,h,_,_=>by cases h
 |[c],_,b,h,x,e=>by
  rw[List.mem_singleton.1 e];obtain rfl:c=b:=by simpa using h
  rw[iz.refl];exact Int.le_refl 0
 |c::d::L,g,b,h,x,e=>by
  have f:(d::L).getLast?=some b:=by simpa using h
  rcases List.mem_cons.1 e with rfl|e;·have:=(List.pairwise_cons.1 g).1 b (List.mem_of_getLast? f);omega
  ·exact AH (List.pairwise_cons.1 g).2 b f x e
theorem eS.append{L:List ActV}{a:ActV}(h:eS L)(j:fZ a)(l:L.length<16):eS (eo L a).2:=by
 rcases oL L a with⟨_,e⟩|⟨g,e,i⟩;·rw[e];exact h
 ·rw[e];refine⟨fun b c=>?_,fun b c=>?_,by rw[aW];simp;omega,?_⟩
  ·rcases List.mem_append.1 c with c|c;·exact h.ok b c
   ·rw[List.mem_singleton.1 c];exact i
  ·rcases List.mem_append.1 c with c|c;·exact h.small b c
   ·rw[List.mem_singleton.1 c];exact j
  ·refine List.pairwise_append.2 ⟨h.ord,List.pairwise_singleton _ _,fun x f y k=>?_⟩;rw[List.mem_singleton.1 k];have d:L≠[]:=by rintro rfl;cases f
   obtain⟨b,c⟩:∃b,L.getLast?=some b:=⟨L.getLast d,List.getLast?_eq_some_getLast d⟩;exact iz.Gu (AH h.ord b c x f) (Cf L a g b c)
theorem iG:∀(L:List ActV)(E:List Ent)(m:Nat),cI m E→(∀a∈L,gv a=true)→(∀a∈L,fZ a)→cI (m+6*L.length) (ee L E)
 |[],_,_,h,_,_=>h
 |a::L,E,m,h,e,f=>by
  have d:=f a (by simp);have g:=qF a.writes E m h d.writes (nS (e a (by simp)));have i:=iG L (iZ a.writes E) (m+a.writes.length) g (fun b c=>e b (by simp[c])) (fun b c=>f b (by simp[c]));have:=d.nw;exact i.more (by simp only[List.length_cons];omega)
theorem Ib{L:List ActV}(h:eS L){k:Nat}{a:ActV}(c:L[k]? =some a):eo (L.take k) a=(0,L.take (k+1)):=by
 have g:=h.ok a (List.mem_of_getElem? c);have f:L.take (k+1)=L.take k++[a]:=by rw[List.take_add_one,c,Option.toList_some]
 unfold eo;rw[if_neg (by rw[g];decide),f];have d:(L.take (k+1)).Pairwise (fun a b=>dV a.key b.key<0):=h.ord.sublist (List.take_sublist _ _);rw[f]at d;cases e:(L.take k).getLast? with
 |none=>rfl
 |some b=>
  have i:=(List.pairwise_append.1 d).2.2 b (List.mem_of_getLast? e) a (by simp);have j:=iz.kH b.key a.key;simp only;rw[if_neg (by omega)]
theorem eS.take{L:List ActV}(h:eS L)(k:Nat):eS (L.take k):=
 ⟨fun a b=>h.ok a (List.mem_of_mem_take b),fun a b=>h.small a (List.mem_of_mem_take b),by have:=h.len;rw[List.length_take];omega,h.ord.sublist (List.take_sublist _ _)⟩
def Ty(w:World)(k:Nat)(t:TypeId):Prop:=∃cs,w.heap[k]? =some (.cells cs t (0,0))
theorem aq.ty{w:World}{g:Nat}{t:TypeId}{cs:Array Value}(h:aq w g t cs):Ty w g t:=⟨cs,h⟩
theorem Ty.one{w:World}{k:Nat}{t b:TypeId}(h:Ty w k t)(a:Ty w k b):t=b:=by
 obtain⟨cs,h⟩:=h;obtain⟨cs',a⟩:=a;rw[h]at a;injection a with a;injection a with _ c
theorem jc{w:World}{base:Nat}{e:TypeId}{size n:Nat}{v:Value}{xs:List Value}(h:w.ownsRow base e size v n xs){k:Nat}(a:v.ownBlock=some k):Ty w k e:=by
 rcases h.2 with⟨rfl,_⟩|⟨b,cap,cur,rfl,_,c,_⟩;·simp[Value.ownBlock]at a
 ·have:b=k:=by simpa[Value.ownBlock]using a
  subst this;exact⟨cur,c⟩
def eZ(w:World)(T:Nat→Prop):Prop:=∀k,T k→¬Ty w k 177∧¬Ty w k 174∧¬Ty w k 119
theorem eZ.nothing(w:World):eZ w ah:=fun _ h=>h.elim
theorem eZ.of{w:World}{T:Nat→Prop}(h:∀k,T k→∃t,Ty w k t∧t≠177∧t≠174∧t≠119):eZ w T:=fun k e=>by
 obtain⟨t,a,b,c,d⟩:=h k e;exact⟨fun x=>b (a.one x),fun x=>c (a.one x),fun x=>d (a.one x)⟩
theorem eZ.new{w w':World}{T:Nat→Prop}(f:Fr ah w w')(h:∀k,T k→k<w.heap.size)(hF:eZ w T):eZ w' T:=fun k a=>by
 have e:=f.block k (h k a) (fun x=>x);obtain⟨b,c,d⟩:=hF k a;exact⟨fun⟨cs,x⟩=>b ⟨cs,by rw[←e];exact x⟩,fun⟨cs,x⟩=>c ⟨cs,by rw[←e];exact x⟩,fun⟨cs,x⟩=>d ⟨cs,by rw[←e];exact x⟩⟩
theorem ck.cu{w w':World}{T:Nat→Prop}(c:Fr T w w')(b:eZ w T):∀{a:Option Addr}{t:Tr},ck w a t→ck w' a t
 |_, .leaf,h=>h
 |_, .node _ _ _ _,⟨k,i,ra,e,f,g,d⟩=>⟨k,i,ra,e,f.cu c b,g.cu c b,d.fr c (fun x=>(b k x).1 d.ty)⟩
theorem ec.cu{w w':World}{T:Nat→Prop}{s:Nat}{L:List Ent}(h:ec w s L)(c:Fr T w w')(b:eZ w T):ec w' s L:=by
 obtain⟨t,⟨a,d,f⟩,e⟩:=h;exact⟨t,⟨a,d.fr c (fun x=>(b s x).2.1 d.ty),f.cu c b⟩,e⟩
def dU(w:World)(v:Value)(l:List CV):Prop:=w.ownsRow 0 119 7 v l.length (l.flatMap CV.cells)
theorem dU.cu{w w':World}{T:Nat→Prop}{v:Value}{l:List CV}(h:dU w v l)(b:Fr T w w')(a:eZ w T):dU w' v l:=
 aJ h b (fun k c d=>(a k d).2.2 (jc h c))
theorem dU.ao{w w':World}{v:Value}{l:List CV}(h:dU w v l)(a:Fr ah w w'):dU w' v l:=h.cu a (eZ.nothing w)
theorem dU.nil(w:World):dU w (.slice none 0 0) []:=⟨rfl, .inl ⟨rfl,rfl⟩⟩
theorem dU.cl{w:World}{v:Value}{l:List CV}(h:dU w v l):∃A n c,v= .slice A n c∧n=l.length∧n≤c∧CL w (fun _=>True) A n l:=by
 obtain⟨A,n,c,rfl,a,d⟩:=aH h;refine⟨A,n,c,rfl,a.out,?_,?_⟩
 ·rcases h.2 with⟨e,_⟩|⟨g,cap,cur,e,_,_,b,_⟩;·cases e;exact Nat.le_refl _
  ·cases e;exact b
 ·have e:=a.out;subst e;exact⟨(Rd.gO h).any,rfl⟩
def dH.cells(k:dH):List Value:=[.int .i64 k.tick, .int .i64 k.cls, .int .i64 k.num, .string k.fA]
def cy(w:World)(cs:List Value)(a:ActV):Prop:=∃b c,cs=a.key.cells++[b,c]∧dU w b a.reads∧dU w c a.writes
theorem cy.cu{w w':World}{T:Nat→Prop}{cs:List Value}{a:ActV}(h:cy w cs a)(c:Fr T w w')(b:eZ w T):cy w' cs a:=by
 obtain⟨g,i,e,d,f⟩:=h;exact⟨g,i,e,d.cu c b,f.cu c b⟩
theorem cy.ao{w w':World}{cs:List Value}{a:ActV}(h:cy w cs a)(b:Fr ah w w'):cy w' cs a:=h.cu b (eZ.nothing w)
theorem cy.len{w:World}{cs:List Value}{a:ActV}(h:cy w cs a):cs.length=6:=by
 obtain⟨b,c,rfl,_⟩:=h;rfl
def dF(w:World):List (List Value)→List ActV→Prop
 |[],[]=>True
 |c::cs,a::l=>cy w c a∧dF w cs l
 |_,_=>False
theorem dF.cu{w w':World}{T:Nat→Prop}(b:Fr T w w')(a:eZ w T):∀{cs:List (List Value)}{l:List ActV},dF w cs l→dF w' cs l
 |[],[],_=>trivial
 |_::_,_::_,h=>⟨h.1.cu b a,dF.cu b a h.2⟩
 |[],_::_,h=>h.elim
 |_::_,[],h=>h.elim
theorem dF.snoc{w:World}:∀{cs:List (List Value)}{l:List ActV}{c:List Value}{a:ActV},dF w cs l→cy w c a→dF w (cs++[c]) (l++[a])
 |[],[],_,_,_,h=>⟨h,trivial⟩
 |_::_,_::_,_,_,h,k=>⟨h.1,dF.snoc h.2 k⟩
 |[],_::_,_,_,h,_=>h.elim
 |_::_,[],_,_,h,_=>h.elim
theorem dF.len{w:World}:∀{cs:List (List Value)}{l:List ActV},dF w cs l→cs.length=l.length
 |[],[],_=>rfl
 |_::_,_::_,h=>by simp[dF.len h.2]
 |[],_::_,h=>h.elim
 |_::_,[],h=>h.elim
theorem dF.at_{w:World}:∀{cs:List (List Value)}{l:List ActV}{k:Nat},dF w cs l→k<l.length→∃c a,cs[k]? =some c∧l[k]? =some a∧cy w c a∧∀j x,c[j]? =some x→cs.flatten[k*6+j]? =some x
 |c::cs,a::l,0,h,_=>⟨c,a,rfl,rfl,h.1,fun j x b=>by
   rw[List.flatten_cons,Nat.zero_mul,Nat.zero_add,List.getElem?_append_left (List.getElem?_eq_some_iff.1 b).1];exact b⟩
 |c::cs,a::l,k+1,h,d=>by
  obtain⟨f,e,g,i,m,n⟩:=dF.at_ (k:=k) h.2 (by simpa using d);refine⟨f,e,by simpa using g,by simpa using i,m,fun j x b=>?_⟩;rw[List.flatten_cons,List.getElem?_append_right (by rw[h.1.len];omega),h.1.len,show(k+1)*6+j-6=k*6+j by omega];exact n j x b
 |[],_::_,_,h,_=>h.elim
 |_::_,[],_,h,_=>h.elim
 |[],[],_,_,d=>absurd d (by simp)
theorem dF.take{w:World}:∀{cs:List (List Value)}{l:List ActV}(k:Nat),dF w cs l→dF w (cs.take k) (l.take k)
 |[],[],_,_=>by simp[dF]
 |_::_,_::_,0,_=>by simp[dF]
 |_::_,_::_,k+1,h=>⟨h.1,dF.take k h.2⟩
 |[],_::_,_,h=>h.elim
 |_::_,[],_,h=>h.elim
def jr(w:World)(v:Value)(l:List ActV):Prop:=∃cs,w.ownsRow 0 46 6 v l.length cs.flatten∧dF w cs l
theorem jr.cu{w w':World}{T:Nat→Prop}{v:Value}{l:List ActV}(h:jr w v l)(a:Fr T w w')(d:eZ w T)(e:∀k,v.ownBlock=some k→¬T k):jr w' v l:=by
 obtain⟨cs,b,c⟩:=h;exact⟨cs,aJ b a e,c.cu a d⟩
theorem jr.ao{w w':World}{v:Value}{l:List ActV}(h:jr w v l)(a:Fr ah w w'):jr w' v l:=h.cu a (eZ.nothing w) (fun _ _ x=>x)
theorem jr.nil(w:World):jr w (.slice none 0 0) []:=⟨[],⟨rfl, .inl ⟨rfl,rfl⟩⟩,trivial⟩
def fj(l:List CV)(k:Nat):Bool:=match l[k]? with
 |some c=>jy c&&(match k with|0=>true|j+1=>match l[j]? with|some d=>decide (bP d.nm c.nm<0)|none=>true)
 |none=>true
theorem sg:∀(l:List CV),fW l=true↔∀k,k<l.length→fj l k=true
 |[]=>by simp[fW]
 |[c]=>by
  simp only[fW,Bool.and_true,List.length_singleton];constructor
  ·intro h k b;obtain rfl:k=0:=by omega
   simp[fj,h]
  ·intro h;have:=h 0 (by omega);simpa[fj]using this
 |c::d::r=>by
  have j:=sg (d::r);have e:fW (c::d::r)=(jy c&&decide (bP c.nm d.nm<0)&&fW (d::r)):=rfl;rw[e];simp only[Bool.and_eq_true];rw[j];constructor
  ·rintro⟨⟨g,i⟩,f⟩k b;rcases k with _|_|k;·simp[fj,g]
   ·have a:=f 0 (by simp);simp only[fj,List.getElem?_cons_zero,Bool.and_true]at a;simp[fj,a];simpa using i
   ·have a:=f (k+1) (by simpa using b);simpa[fj]using a
  ·intro h;refine⟨⟨?_,?_⟩,fun k b=>?_⟩;·have:=h 0 (by simp);simpa[fj]using this
   ·have:=h 1 (by simp);simp[fj]at this;simpa using this.2
   ·have:=h (k+1) (by simpa using b);rcases k with _|k;·simp[fj]at this⊢;exact this.1
    ·simpa[fj]using this
theorem GC{l:List CV}{k:Nat}(a:k<l.length)(h:fj l k=false):fW l=false:=by
 cases e:fW l;·rfl
 ·have:=(sg l).1 e k a;rw[h]at this;cases this
theorem Gz{l:List CV}(h:∀k,k<l.length→fj l k=true):fW l=true:=(sg l).2 h
theorem AG{l:List CV}{c:CV}(h:l[0]? =some c):fj l 0=jy c:=by
 simp[fj,h]
theorem AF{l:List CV}{k:Nat}{c d:CV}(h:l[k+1]? =some c)(a:l[k]? =some d):fj l (k+1)=(jy c&&decide (bP d.nm c.nm<0)):=by
 simp[fj,h,a]
theorem fQ:(Tryz.prog.info? 43).map (·.size)=some 4:=by kernel_rfl
theorem bM:(Tryz.prog.info? 46).map (·.size)=some 6:=by kernel_rfl
def sK(w:World)(k:dH)(e:Ending)(w':World):Prop:=∃c:Int,e= .returned (.int .i64 c)∧(c==0)=dQ k∧Fr ah w w'
theorem vZ(k:dH)(w:World)(v:k.fA.size≤1099511627776):
  Calls Tryz.prog 111 #[.agg k.cells.toArray] w (sK w k):=by
 obtain⟨t,c,n,s⟩:=k;simp only at v;have CV:Hid (∀w',Calls Tryz.prog 151 #[.string s] w' (aK w' (.bool (db s)))):=fun w'=>np s w' v;obtain⟨va,d⟩:∃va,db s=va:=⟨_,rfl⟩;rw[d]at CV;obtain⟨em,p⟩:∃em,s.toList.isEmpty=em:=⟨_,rfl⟩;have f:Hid (dQ ⟨t,c,n,s⟩=(decide (0≤t)&&decide (t≤1073741824)&&(decide (0≤c)&&decide (c≤2))&&(decide (0≤n)&&decide (n≤999999)&&!(c==0&&n==0))&&(if c=0 then em else(!em&&va&&!(c==2&&n !=0))))):=by
  rw[←d,←p];rfl
 have o:s.toList.isEmpty=em:=p;clear p;clear d v;unfold dH.cells;go_enter Tryz.func111,Tryz.ntmps111;go_wp2_with(refine aB rfl 43 (.tmp 0) rfl _ rfl ?_);intro w1 n1;have A:=af n1.fr;have q:=af n1.aD;clear n1;generalize w.heap.size=g at*;have I:w1.cell? ⟨g,0,none⟩=some (.int .i64 t):=q.out.cell 0;have F:w1.cell? ⟨g,1,none⟩=some (.int .i64 c):=q.out.cell 1;have G:w1.cell? ⟨g,2,none⟩=some (.int .i64 n):=q.out.cell 2;have c3:w1.cell? ⟨g,3,none⟩=some (.string s):=q.out.cell 3;clear q;have done:∀k:Int,(k==0)=dQ ⟨t,c,n,s⟩→sK w ⟨t,c,n,s⟩ (.returned (.int .i64 k)) w1:=fun k H=>⟨k,rfl,H,A.out⟩;have j:=af done;clear done;by_cases h:t<0
 ·have t1:decide (t<0)=true:=decide_eq_true h;have Z:Hid (((2:Int)==0)=dQ ⟨t,c,n,s⟩):=by rw[Hid,f.out,bZ (show¬0≤t by omega)];rfl
  clear h f;go_wp2;go_ret;exact j.out _ Z.out
 have D:=af h;have t1:decide (t<0)=false:=bZ (by omega);clear h;by_cases h:1073741824<t
 ·have t2:decide (1073741824<t)=true:=decide_eq_true h;have Z:Hid (((2:Int)==0)=dQ ⟨t,c,n,s⟩):=by rw[Hid,f.out,bZ (show¬t≤1073741824 by omega)];simp
  clear h f;go_wp2;go_ret;exact j.out _ Z.out
 have E:=af h;have t2:decide (1073741824<t)=false:=bZ (by omega);clear h;by_cases h:c<0
 ·have t3:decide (c<0)=true:=decide_eq_true h;have Z:Hid (((11:Int)==0)=dQ ⟨t,c,n,s⟩):=by rw[Hid,f.out,bZ (show¬0≤c by omega)];simp
  clear h f;go_wp2;go_ret;exact j.out _ Z.out
 have y:=af h;have t3:decide (c<0)=false:=bZ (by omega);clear h;by_cases h:2<c
 ·have t4:decide (2<c)=true:=decide_eq_true h;have Z:Hid (((11:Int)==0)=dQ ⟨t,c,n,s⟩):=by rw[Hid,f.out,bZ (show¬c≤2 by omega)];simp
  clear h f;go_wp2;go_ret;exact j.out _ Z.out
 have z:=af h;have t4:decide (2<c)=false:=bZ (by omega);clear h;by_cases h:n<0
 ·have t5:decide (n<0)=true:=decide_eq_true h;have Z:Hid (((2:Int)==0)=dQ ⟨t,c,n,s⟩):=by rw[Hid,f.out,bZ (show¬0≤n by omega)];simp
  clear h f;go_wp2;go_ret;exact j.out _ Z.out
 have B:=af h;have t5:decide (n<0)=false:=bZ (by omega);clear h;by_cases h:999999<n
 ·have t6:decide (999999<n)=true:=decide_eq_true h;have Z:Hid (((2:Int)==0)=dQ ⟨t,c,n,s⟩):=by rw[Hid,f.out,bZ (show¬n≤999999 by omega)];simp
  clear h f;go_wp2;go_ret;exact j.out _ Z.out
 have C:=af h;have t6:decide (999999<n)=false:=bZ (by omega);clear h;have b:Hid (dQ ⟨t,c,n,s⟩=(!(c==0&&n==0)&&(if c=0 then em else(!em&&va&&!(c==2&&n !=0))))):=by
  rw[Hid,f.out,cT (show 0≤t from Int.not_lt.1 D.out),cT (show t≤1073741824 from Int.not_lt.1 E.out),cT (show 0≤c from Int.not_lt.1 y.out),cT (show c≤2 from Int.not_lt.1 z.out),cT (show 0≤n from Int.not_lt.1 B.out),cT (show n≤999999 from Int.not_lt.1 C.out)];simp
 clear f D E y z B C;by_cases h:c=0
 ·have t7:(c==0)=true:=by rw[beq_iff_eq];exact h
  have r:=af h;clear h;by_cases h:n=0
  ·have t8:(n==0)=true:=by rw[beq_iff_eq];exact h
   have Z:Hid (((2:Int)==0)=dQ ⟨t,c,n,s⟩):=by rw[Hid,b.out,t7,t8];rfl
   clear h b r;go_wp2;go_ret;exact j.out _ Z.out
  ·have t8:(n==0)=false:=by rw[beq_eq_false_iff_ne];exact h
   cases a:em
   ·have Z:Hid (((3:Int)==0)=dQ ⟨t,c,n,s⟩):=by rw[Hid,b.out,t7,t8,if_pos r.out,a];rfl
    rw[a]at o;clear h b r a;go_wp2;go_ret;exact j.out _ Z.out
   ·have Z:Hid (((0:Int)==0)=dQ ⟨t,c,n,s⟩):=by rw[Hid,b.out,t7,t8,if_pos r.out,a];rfl
    rw[a]at o;clear h b r a;go_wp2;go_ret;exact j.out _ Z.out
 ·have t7:(c==0)=false:=by rw[beq_eq_false_iff_ne];exact h
  have l:Hid (dQ ⟨t,c,n,s⟩=(!em&&va&&!(c==2&&n !=0))):=by rw[Hid,b.out,t7,if_neg h];simp
  clear h b;cases a:em
  ·rw[a]at o;have m:Hid (dQ ⟨t,c,n,s⟩=(va&&!(c==2&&n !=0))):=by rw[Hid,l.out,a];rfl
   clear l a;go_wp2_with fail;refine(CV.out _).mono ?_;rintro e w2⟨rfl,f2⟩;have F:w2.cell? ⟨g,1,none⟩=some (.int .i64 c):=f2.aj F (fun x=>x);have G:w2.cell? ⟨g,2,none⟩=some (.int .i64 n):=f2.aj G (fun x=>x);have u:=af (A.out.trans f2);clear f2 j CV;cases d:va
   ·have Z:Hid (((12:Int)==0)=dQ ⟨t,c,n,s⟩):=by rw[Hid,m.out,d];rfl
    clear m d;go_wp2;go_ret;exact⟨_,rfl,Z.out,u.out⟩
   ·have i:Hid (dQ ⟨t,c,n,s⟩=!(c==2&&n !=0)):=by rw[Hid,m.out,d];rfl
    clear m d;cases t8:c==2
    ·have Z:Hid (((0:Int)==0)=dQ ⟨t,c,n,s⟩):=by rw[Hid,i.out,t8];rfl
     clear i;go_wp2;go_ret;exact⟨_,rfl,Z.out,u.out⟩
    ·cases t9:n !=0
     ·have Z:Hid (((0:Int)==0)=dQ ⟨t,c,n,s⟩):=by rw[Hid,i.out,t8,t9];rfl
      clear i;go_wp2;go_ret;exact⟨_,rfl,Z.out,u.out⟩
     ·have Z:Hid (((3:Int)==0)=dQ ⟨t,c,n,s⟩):=by rw[Hid,i.out,t8,t9];rfl
      clear i;go_wp2;go_ret;exact⟨_,rfl,Z.out,u.out⟩
  ·rw[a]at o;have Z:Hid (((12:Int)==0)=dQ ⟨t,c,n,s⟩):=by rw[Hid,l.out,a];rfl
   clear l a;go_wp2;go_ret;exact j.out _ Z.out
structure mD(c:CV):Prop where
 owner:c.nm.owner.size≤1099511627776
 text:c.nm.text.size≤1099511627776
theorem gS.fit{c:CV}(h:gS c):mD c:=⟨by have:=h.owner;omega,by have:=h.text;omega⟩
def Hk(w:World)(b:Bool)(e:Ending)(w':World):Prop:=aK w (.bool b) e w'
theorem ry(xs:List CV)(n:Nat)(A:Option Addr)(a4:Nat)(S:Nat→Prop)(w:World)(bc:ed w)(aP:CL w S A n xs)(bd:∀c∈xs,mD c)(be:n≤1099511627776):
  Calls Tryz.prog 112 #[.slice A n a4] w (Hk w (fW xs)):=by
 have aZ:=af aP;have bh:=af bc;have a2:=af bd;have a0:=af aP.len;have I:=af be;have m:Hid (∀k,k<xs.length→fj xs k=false→fW xs=false):=fun k X h=>GC X h;have C:Hid ((∀k,k<xs.length→fj xs k=true)→fW xs=true):=Gz;obtain⟨R,a⟩:∃R,fW xs=R:=⟨_,rfl⟩;rw[a]at m C⊢;clear aP bd bc be a;go_enter Tryz.func112,Tryz.ntmps112;go_wp2;go_loopw[7](fun i wr=>∃k:Nat,k≤n∧i= .int .i64 (k:Int)∧(∀j,j<k→fj xs j=true)∧Fr ah w wr)(fun i _=>n-(intOf i).toNat);case atStart=>exact⟨0,Nat.zero_le _,rfl,(fun j aS=>by omega),az⟩
 case round=>
  obtain⟨k,X,rfl,ba,hF⟩:=hrel;have aI:=af hF;have a3:=af ba;clear ba hF;by_cases ap:k<n
  ·have a9:(k:Int)<(n:Int):=by omega
   have bn:(0:Int)≤(k:Int):=by omega
   have t0:decide ((k:Int)<(n:Int))=true:=decide_eq_true a9;obtain⟨L,c,rfl,aQ,o⟩:=(aZ.out.ao aI.out).at_ ap;have Z:=af o;have bg:=af c.one;have G:Hid (xs[k]? =some c):=aQ;have aO:Hid (mD c):=a2.out c (List.mem_of_getElem? aQ);have aM:Hid (k<xs.length):=by rw[Hid,a0.out];exact ap
   clear o aQ;go_wp2_with(refine aC rfl 119 (.tmp 10) rfl _ rfl c.cells _ ?zN Tryz.underlying119 rfl jC (aR.go ?hold));case zN=>exact Z.out
   unfold aR;go_wp2_with(refine an rfl 119 rfl bY EV #[.int .i64 0, .string ByteArray.empty, .int .i64 0, .int .i64 0, .string ByteArray.empty, .string ByteArray.empty, .bool false] rfl ?_);intro br bf;have aN:=af bf;clear bf;generalize am:wr.heap.size=g4 at*;have ab:=af am;clear am;have aV:Hid (aq br g4 119 #[.int .i64 0, .string ByteArray.empty, .int .i64 0, .int .i64 0, .string ByteArray.empty, .string ByteArray.empty, .bool false]):=by have h:=aN.out.aD;rw[ab.out]at h;exact h
   go_wp2_with(refine ak rfl 119 (.tmp 4) _ rfl g4 c.cells.toArray rfl rfl _ _ aV.out jC rfl bg.out ?_);intro U bb a7;have aA:Hid (aq U g4 119 c.cells.toArray):=bb;have aY:Hid (Fr ah wr U):=aN.out.fr.au a7 (fun i bx e=>by have bu:i=g4:=e;have:=ab.out;omega);clear bb a7 aN aV Z;have Y:Hid (∀w',Fr ah U w'→∀j x,c.nm.cells[j]? =some x→w'.cell? ((⟨g4,0,none⟩:Addr).add j)=some x):=fun w' f j x ax=>by
    rw[Addr.add_mid,Nat.zero_add,(aA.out.fr f (fun x=>x)).cell j,bQ,CV.cells,List.getElem?_append_left (List.getElem?_eq_some_iff.1 ax).1];exact ax
   have p:Hid (Fr ah w U):=aI.out.trans aY.out;have K:Hid (jy c=(dD c.nm&&decide (c.value.size≤65536)&&(!c.bH||c.value.toList.isEmpty))):=rfl;have F:Hid (jy c=false→R=false):=fun h=>m.out k aM.out (by
    have e:=G.out;simp only[fj,e,h,Bool.false_and]);obtain⟨ok,T⟩:∃z,dD c.nm=z:=⟨_,rfl⟩;obtain⟨V,aG⟩:∃z,decide (65536<c.value.size)=z:=⟨_,rfl⟩;obtain⟨em,hem⟩:∃z,c.value.toList.isEmpty=z:=⟨_,rfl⟩;obtain⟨g,N⟩:∃z,c.bH=z:=⟨_,rfl⟩;have aX:Hid (∀w',Fr ah U w'→Calls Tryz.prog 115 #[.agg c.nm.cells.toArray] w' (fun e l=>∃t:Int,e= .returned (.int .i64 t)∧(t==0)=ok∧Fr ah w' l)):=fun w' f=>by
    rw[←T];exact lA c.nm w' (bh.out.ao (p.out.trans f)) (by have:=aO.out.owner;omega) (by have:=aO.out.text;omega)
   have al:decide (c.value.size≤65536)=!V:=by
    rw[←aG];by_cases h:c.value.size≤65536;·rw[decide_eq_true h,bZ (by omega)];rfl
    ·rw[decide_eq_false h,cT (by omega)];rfl
   have ai:decide ((65536:Int)<(c.value.size:Int))=V:=by
    rw[←aG];exact decide_eq_decide.2 (by omega)
   rw[T,al,N,hem]at K;have ad:=af ai;have ac:=af aG;have aa:=af hem;have c5:Hid (∀w',Fr ah U w'→w'.cell? {block:=g4,off:=5}=some (.string c.value)):=fun w' f=>(aA.out.fr f (fun x=>x)).cell 5;have a5:Hid (∀w',Fr ah U w'→w'.cell? {block:=g4,off:=6}=some (.bool g)):=fun w' f=>by rw[←N];exact(aA.out.fr f (fun x=>x)).cell 6
   clear T aG hem N al ai;obtain⟨aH,ag⟩:∃z:Bool,(bif ok then(bif V then true else(bif g then(!em)else false))else true)=z:=⟨_,rfl⟩;have E:=af ag;clear ag;go_upto_region 4 with fail;refine y9 19 [iS (.pointer (some ⟨g4,0,none⟩)),iS (.agg c.nm.cells.toArray),⟨fun bs _=>∃t:Int,bs= .int .i64 t∧(t==0)=ok,fun _ _ _ _ h=>h⟩,iS (.bool (!ok)),iS (.bool (!ok)),iS ((bif ok then .pointer (some ⟨g4,5,none⟩)else undef)),iS ((bif ok then .string c.value else undef)),iS ((bif ok then .int .i64 (c.value.size:Nat)else undef)),iS ((bif ok then .bool V else undef)),iS ((bif ok then .bool V else .bool true)),iS ((bif ok then .bool V else .bool true)),iS ((bif ok then(bif V then undef else .pointer (some ⟨g4,6,none⟩))else undef)),iS ((bif ok then(bif V then undef else .bool g)else undef)),iS ((bif ok then(bif V then undef else .bool g)else undef)),iS ((bif ok then(bif V then undef else(bif g then .pointer (some ⟨g4,5,none⟩)else undef))else undef)),iS ((bif ok then(bif V then undef else(bif g then .string c.value else undef))else undef)),iS ((bif ok then(bif V then undef else(bif g then .bool (!em)else undef))else undef)),iS ((bif ok then(bif V then undef else(bif g then .bool (!em)else .bool false))else undef)),iS (.bool aH)] ?zO ?_;case zO=>
    refine⟨?yI,?zQ,?zR,?zS,?zT,?zU,?zV,?zW,?zX,?zY,?zA,?zB,?zC,?zD,?zE,?zF,?zG,?zH,?zI,trivial⟩;all_goals intro u w' b a
    all_goals simp only[z1,z2,z3,z4,ar,Act.put,z5,z6,z7,Nat.reduceAdd,Nat.zero_add]
    case zQ=>
     simp only[show u 0=_ from a 0];refine aF ?_;exact aw _ _ rfl ⟨g4,0,none⟩ rfl c.nm.cells _ (fun ay v av=>Y.out _ b ay v av) Tryz.underlying106 rfl aT ⟨_,rfl,az,rfl⟩
    case zR=>
     simp only[show u 1=_ from a 1];refine aF ?_;go_simp;refine(aX.out _ b).mono ?_;rintro e bq⟨t,rfl,O,f4⟩;exact⟨_,rfl,f4,t,rfl,O⟩
    case zS=>
     obtain⟨t,aB,O⟩:=a 2;simp only[aB];refine aF ?_;have t1:(t !=0)=!ok:=by rw[bne,O]
     go_simp;exact⟨_,rfl,az,rfl⟩
    case' zT=>simp only[show u 3=_ from a 3]
    case' zU=>
     simp only[show u 4=_ from a 4];cases ok;case false=>exact jw
    case zV=>
     simp only[show u 5=_ from a 5,show u 4=_ from a 4];cases ok;case false=>exact jw
     refine aF ?_;have q:=c5.out _ b;go_simp;exact⟨_,rfl,az,rfl⟩
    case' zW=>
     simp only[show u 6=_ from a 6,show u 4=_ from a 4];cases ok;case false=>exact jw
    case zX=>
     simp only[show u 7=_ from a 7,show u 4=_ from a 4];cases ok;case false=>exact jw
     refine aF ?_;have t1:=ad.out;have t2:=ac.out;go_simp;exact⟨_,rfl,az,rfl⟩
    case' zY=>
     simp only[show u 4=_ from a 4,show u 8=_ from a 8];cases ok
    case' zA=>
     simp only[show u 9=_ from a 9];cases ok
    case' zB=>
     simp only[show u 10=_ from a 10];cases ok;case false=>exact jw
     cases V;case true=>exact jw
    case zC=>
     simp only[show u 11=_ from a 11,show u 10=_ from a 10];cases ok;case false=>exact jw
     cases V;case true=>exact jw
     refine aF ?_;have q:=a5.out _ b;go_simp;exact⟨_,rfl,az,rfl⟩
    case' zD=>
     simp only[show u 12=_ from a 12,show u 10=_ from a 10];cases ok;case false=>exact jw
     cases V;case true=>exact jw
    case' zE=>
     simp only[show u 13=_ from a 13];cases ok;case false=>exact jw
     cases V;case true=>exact jw
     cases g;case false=>exact jw
    case zF=>
     simp only[show u 14=_ from a 14,show u 13=_ from a 13];cases ok;case false=>exact jw
     cases V;case true=>exact jw
     cases g;case false=>exact jw
     refine aF ?_;have q:=c5.out _ b;go_simp;exact⟨_,rfl,az,rfl⟩
    case zG=>
     simp only[show u 15=_ from a 15,show u 13=_ from a 13];cases ok;case false=>exact jw
     cases V;case true=>exact jw
     cases g;case false=>exact jw
     refine aF ?_;have t1:=aa.out;go_simp;exact⟨_,rfl,az,rfl⟩
    case' zH=>
     simp only[show u 13=_ from a 13,show u 16=_ from a 16,show u 10=_ from a 10];cases ok;case false=>exact jw
     cases V;case true=>exact jw
     cases g
    case zI=>
     simp only[show u 10=_ from a 10,show u 17=_ from a 17];cases ok<;>cases V<;>cases g<;>exact aF (by go_simp;exact⟨_,rfl,az,congrArg Value.bool E.out⟩)
    all_goals
     try simp only[cond]
     refine aF ?_;go_simp;exact⟨_,rfl,az,rfl⟩
   intro u w' b a;simp only[z1,z2,z3,z4,ar,Act.put,z5,z6,z7,z8,z9,Nat.reduceAdd,Nat.zero_add,show u 18=_ from a 18 (by omega)];clear a;have p:Hid (Fr ah w w'):=p.out.trans b;have Y:Hid (∀l,Fr ah w' l→∀j x,c.nm.cells[j]? =some x→l.cell? ((⟨g4,0,none⟩:Addr).add j)=some x):=fun l f=>Y.out l (b.trans f);clear b aX c5 a5 ad ac aa aA aY;generalize w'=w3 at*;have r:Hid (jy c=!aH):=by
    rw[Hid,K.out,←E.out];cases ok<;>cases V<;>cases g<;>cases em<;>rfl
   clear K E;cases y:aH;case true=>
    obtain rfl:R=false:=F.out (by rw[r.out,y];rfl);clear y r F;go_wp2;go_ret;exact⟨rfl,p.out⟩
   have D:Hid (jy c=true):=by rw[Hid,r.out,y];rfl
   clear y r F;obtain⟨q,bo⟩:∃q:Nat,k-1=q:=⟨_,rfl⟩;have a1:Hid (0<k→(k:Int)-1=(q:Int)):=fun h=>by omega
   obtain⟨d,H⟩:∃d:CV,Hid (0<k→xs[q]? =some d):=by
    by_cases aE:0<k;·exact⟨_,fun _=>List.getElem?_eq_getElem (show q<xs.length by have:=aM.out;omega)⟩
    ·exact⟨c,fun h=>absurd h aE⟩
   have ae:Hid (0<k→some L=some L∧∀j x,d.nm.cells[j]? =some x→w3.cell? ((L.add (q*7)).add j)=some x):=fun h=>by
    obtain⟨bj,bt,bk,aB,bl⟩:=(aZ.out.ao p.out).at_ (show q<n by omega);cases bk;rw[H.out h]at aB;cases aB;refine⟨rfl,fun j x ax=>bl j x ?_⟩;rw[CV.cells,List.getElem?_append_left (List.getElem?_eq_some_iff.1 ax).1];exact ax
   have bi:Hid (0<k→mD d):=fun h=>a2.out d (List.mem_of_getElem? (H.out h));have aW:Hid (0<k→∀w',Calls Tryz.prog 128 #[.agg d.nm.cells.toArray, .agg c.nm.cells.toArray] w' (aK w' (.int .i64 (bP d.nm c.nm)))):=fun h w'=>fI d.nm c.nm w' (by have:=(bi.out h).owner;omega) (by have:=aO.out.owner;omega);have J:Hid (fj xs k=!(decide (0<k)&&decide (0≤bP d.nm c.nm))):=by
    by_cases aE:0<k
    ·obtain⟨aU,rfl⟩:∃aU,k=aU+1:=⟨k-1,by omega⟩;obtain rfl:aU=q:=by omega
     rw[Hid,AF G.out (H.out aE),D.out,decide_eq_true aE,Bool.true_and,Bool.true_and];by_cases a8:bP d.nm c.nm<0;·rw[decide_eq_true a8,bZ (show¬0≤bP d.nm c.nm by omega)];rfl
     ·rw[decide_eq_false a8,cT (show 0≤bP d.nm c.nm by omega)];rfl
    ·obtain rfl:k=0:=by omega
     rw[Hid,AG G.out,D.out];rfl
   obtain⟨P,W⟩:∃z:Bool,decide (0<k)=z:=⟨_,rfl⟩;obtain⟨Q,a6⟩:∃z:Bool,decide (0≤bP d.nm c.nm)=z:=⟨_,rfl⟩;obtain⟨B,M⟩:∃z:Bool,(bif P then Q else false)=z:=⟨_,rfl⟩;have HB:=af M;clear M;rw[W,a6]at J;clear bo;go_upto_region 6 with fail;refine iW 14 [.int .i64 (k:Int), .bool P, .bool P,bif P then .slice (some L) n a4 else undef,bif P then .int .i64 (k:Int)else undef,bif P then .int .i64 (q:Int)else undef,bif P then .pointer (some (L.add (q*7)))else undef,bif P then .pointer (some (L.add (q*7)))else undef,bif P then .agg d.nm.cells.toArray else undef,bif P then .pointer (some ⟨g4,0,none⟩)else undef,bif P then .agg c.nm.cells.toArray else undef,bif P then .int .i64 (bP d.nm c.nm)else undef,bif P then .bool Q else undef, .bool B] ?zP ?_;case zP=>
    refine⟨?yJ,?zZ,?yA,?yB,?yC,?yD,?yE,?yF,?yG,?yH,?zJ,?zK,?zL,?zM,trivial⟩;all_goals intro u w' b a
    all_goals simp only[z1,z2,z3,z4,ar,Act.put,z5,z6,z7,Nat.reduceAdd,Nat.zero_add]
    case' zZ=>simp only[show u 0=_ from a 0]
    case' yA=>simp only[show u 1=_ from a 1]
    case' yB=>
     simp only[show u 2=_ from a 2];cases P;case false=>exact bS
    case' yC=>
     simp only[show u 2=_ from a 2];cases P;case false=>exact bS
    case yD=>
     simp only[show u 4=_ from a 4,show u 2=_ from a 2];cases P;case false=>exact bS
     refine aF ?_;have X:=of_decide_eq_true W;have bv:(k:Int)-1=(q:Int):=a1.out X;have bm:IntKind.i64.wrap (q:Int)=(q:Int):=IntWalk.i64_in _ (by have:=I.out;omega);go_simp;exact aL
    case yE=>
     simp only[show u 3=_ from a 3,show u 5=_ from a 5,show u 2=_ from a 2];cases P;case false=>exact bS
     refine aF ?_;have X:=of_decide_eq_true W;have bm:(q:Int)<(n:Int):=by have:=a1.out X;omega
     have bw:(0:Int)≤(q:Int):=by omega
     go_simp;exact aL
    case' yF=>
     simp only[show u 6=_ from a 6,show u 2=_ from a 2];cases P;case false=>exact bS
    case yG=>
     simp only[show u 7=_ from a 7,show u 2=_ from a 2];cases P;case false=>exact bS
     refine aF ?_;exact aw _ _ rfl (L.add (q*7)) rfl d.nm.cells _ (fun ay v av=>b.aj ((ae.out (of_decide_eq_true W)).2 ay v av) (fun x=>x)) Tryz.underlying106 rfl aT aL
    case' yH=>
     simp only[show u 2=_ from a 2];cases P;case false=>exact bS
    case zJ=>
     simp only[show u 9=_ from a 9,show u 2=_ from a 2];cases P;case false=>exact bS
     refine aF ?_;exact aw _ _ rfl ⟨g4,0,none⟩ rfl c.nm.cells _ (fun ay v av=>Y.out _ b ay v av) Tryz.underlying106 rfl aT aL
    case zK=>
     simp only[show u 8=_ from a 8,show u 10=_ from a 10,show u 2=_ from a 2];cases P;case false=>exact bS
     refine aF ?_;go_simp;refine(aW.out (of_decide_eq_true W) _).mono ?_;rintro e bq⟨rfl,f4⟩;exact⟨rfl,f4⟩
    case' zL=>
     simp only[show u 11=_ from a 11,show u 2=_ from a 2];cases P;case false=>exact bS
    case zM=>
     simp only[show u 2=_ from a 2,show u 12=_ from a 12];cases P<;>exact aF (by go_simp;exact⟨by rw[←HB.out];rfl,az⟩)
    all_goals
     try simp only[cond]
     refine aF ?_;go_simp;exact aL
   intro w' b;simp only[z1,z2,z3,z4,ar,Act.put,z5,z6,z7,z8,z9,jn,jo,Nat.reduceAdd,Nat.zero_add];have p:Hid (Fr ah w w'):=p.out.trans b;clear b aW ae W a6 Y;have s:Hid (fj xs k=!B):=by
    rw[Hid,J.out,←HB.out];cases P<;>cases Q<;>rfl
   clear J HB;cases M:B;case true=>
    obtain rfl:R=false:=m.out k aM.out (by rw[s.out,M];rfl);clear M s;go_wp2;go_ret;exact⟨rfl,p.out⟩
   have aJ:Hid (fj xs k=true):=by rw[Hid,s.out,M];rfl
   clear M s;have bp:n≤1099511627776:=I.out;go_wp2;go_roundw;case rel=>
    refine⟨k+1,by omega,by go_num,fun j aS=>?_,p.out⟩;by_cases h:j=k;·rw[h];exact aJ.out
    ·exact a3.out j (by omega)
   case measure=>have bp:=I.out;simp[intOf];omega
  ·obtain rfl:k=n:=by omega
   have a9:¬(k:Int)<(k:Int):=by omega
   obtain rfl:R=true:=C.out (fun j aS=>a3.out j (by rw[←a0.out];exact aS));go_wp2;go_ret;exact⟨rfl,aI.out⟩
theorem ot(a:ActV)(cs:List Value)(w:World)(L:ed w)(ae:cy w cs a)(V:a.key.fA.size≤1099511627776)(W:∀c∈a.reads,mD c)(hw:∀c∈a.writes,mD c)(nr:a.reads.length≤1099511627776)(nw:a.writes.length≤1099511627776):
  Calls Tryz.prog 60 #[.agg cs.toArray] w (Hk w (gv a)):=by
 obtain⟨am,an,rfl,S,T⟩:=ae;obtain⟨p,aj,A,rfl,rfl,_,m⟩:=S.cl;obtain⟨r,ak,C,rfl,rfl,_,o⟩:=T.cl;have D:Hid (∀w',Calls Tryz.prog 111 #[.agg a.key.cells.toArray] w' (fun e M=>∃d:Int,e= .returned (.int .i64 d)∧(d==0)=dQ a.key∧Fr ah w' M)):=fun w'=>vZ a.key w' V;have N:Hid (∀w',Fr ah w w'→Calls Tryz.prog 112 #[.slice p a.reads.length A] w' (aK w' (.bool (fW a.reads)))):=fun w' f=>ry a.reads _ p A _ w' (L.ao f) (m.ao f) W nr;have CW:Hid (∀w',Fr ah w w'→Calls Tryz.prog 112 #[.slice r a.writes.length C] w' (aK w' (.bool (fW a.writes)))):=fun w' f=>ry a.writes _ r C _ w' (L.ao f) (o.ao f) hw nw;have k:Hid (gv a=(dQ a.key&&fW a.reads&&fW a.writes)):=rfl;obtain⟨P,I⟩:∃z,dQ a.key=z:=⟨_,rfl⟩;obtain⟨Q,J⟩:∃z,fW a.reads=z:=⟨_,rfl⟩;obtain⟨R,K⟩:∃z,fW a.writes=z:=⟨_,rfl⟩;obtain⟨O,H⟩:∃z,gv a=z:=⟨_,rfl⟩;rw[I]at D;rw[J]at N;rw[K]at CW;rw[I,J,K,H]at k;rw[H];generalize a.reads.length=Y at*;generalize a.writes.length=Z at*;obtain⟨⟨t,c,n,s⟩,_,_⟩:=a;simp only[dH.cells,List.cons_append,List.nil_append]at D⊢;clear L V W hw nr nw S T m o I J K H;go_enter Tryz.func60,Tryz.ntmps60;go_wp2_with(refine aB rfl 46 (.tmp 0) rfl _ rfl ?_);intro w1 n1;have F:=af n1.fr;have y:=af n1.aD;clear n1;generalize w.heap.size=g at*;have E:Hid (∀w',Fr ah w1 w'→∀j x,[Value.int .i64 t, .int .i64 c, .int .i64 n, .string s][j]? =some x→w'.cell? ((⟨g,0,none⟩:Addr).add j)=some x):=fun w' f j x X=>by
  rw[Addr.add_mid,Nat.zero_add,(y.out.fr f (fun x=>x)).cell j];rcases j with _|_|_|_|j<;>simp at X<;>simp[←X]
 have ac:Hid (∀w',Fr ah w1 w'→w'.cell? {block:=g,off:=4}=some (.slice p Y A)):=fun w' f=>(y.out.fr f (fun x=>x)).cell 4;have c5:Hid (∀w',Fr ah w1 w'→w'.cell? {block:=g,off:=5}=some (.slice r Z C)):=fun w' f=>(y.out.fr f (fun x=>x)).cell 5;clear y;obtain⟨B,U⟩:∃z:Bool,(bif P then(bif Q then R else false)else false)=z:=⟨_,rfl⟩;have HB:=af U;clear U;go_upto_region 1 with fail;refine y9 15 [iS (.pointer (some ⟨g,0,none⟩)),iS (.agg [Value.int .i64 t, .int .i64 c, .int .i64 n, .string s].toArray),⟨fun al _=>∃d:Int,al= .int .i64 d∧(d==0)=P,fun _ _ _ _ h=>h⟩,iS (.bool P),iS (.bool P),iS ((bif P then .pointer (some ⟨g,4,none⟩)else undef)),iS ((bif P then .slice p Y A else undef)),iS ((bif P then .bool Q else undef)),iS ((bif P then .bool Q else .bool false)),iS ((bif P then .bool Q else .bool false)),iS ((bif P then(bif Q then .pointer (some ⟨g,5,none⟩)else undef)else undef)),iS ((bif P then(bif Q then .slice r Z C else undef)else undef)),iS ((bif P then(bif Q then .bool R else undef)else undef)),iS (.bool B),iS (.bool B)] ?zF ?_;case zF=>
  refine⟨?zP,?zG,?zH,?zI,?zJ,?zK,?zL,?zM,?zN,?zO,?zA,?zB,?zC,?zD,?zE,trivial⟩;all_goals intro u w' i b
  all_goals simp only[z1,z2,z3,z4,ar,Act.put,z5,z6,z7,Nat.reduceAdd,Nat.zero_add]
  case zG=>
   simp only[show u 0=_ from b 0];refine aF ?_;exact aw _ _ rfl ⟨g,0,none⟩ rfl [Value.int .i64 t, .int .i64 c, .int .i64 n, .string s] _ (fun ai v ag=>E.out _ i ai v ag) Tryz.underlying43 rfl fQ ⟨_,rfl,az,rfl⟩
  case zH=>
   simp only[show u 1=_ from b 1];refine aF ?_;go_simp;refine(D.out _).mono ?_;rintro e aa⟨d,rfl,l,f4⟩;exact⟨_,rfl,f4,d,rfl,l⟩
  case zI=>
   obtain⟨d,ad,l⟩:=b 2;simp only[ad];refine aF ?_;have t1:(d==0)=P:=l;go_simp;exact⟨_,rfl,az,rfl⟩
  case' zJ=>simp only[show u 3=_ from b 3]
  case' zK=>
   simp only[show u 4=_ from b 4];cases P;case false=>exact jw
  case zL=>
   simp only[show u 5=_ from b 5,show u 4=_ from b 4];cases P;case false=>exact jw
   refine aF ?_;have q:=ac.out _ i;go_simp;exact⟨_,rfl,az,rfl⟩
  case zM=>
   simp only[show u 6=_ from b 6,show u 4=_ from b 4];cases P;case false=>exact jw
   refine aF ?_;go_simp;refine(N.out _ (F.out.trans i)).mono ?_;rintro e aa⟨rfl,f4⟩;exact⟨_,rfl,f4,rfl⟩
  case' zN=>
   simp only[show u 4=_ from b 4,show u 7=_ from b 7];cases P
  case' zO=>
   simp only[show u 8=_ from b 8];cases P
  case' zA=>
   simp only[show u 9=_ from b 9];cases P;case false=>exact jw
   cases Q;case false=>exact jw
  case zB=>
   simp only[show u 10=_ from b 10,show u 9=_ from b 9];cases P;case false=>exact jw
   cases Q;case false=>exact jw
   refine aF ?_;have q:=c5.out _ i;go_simp;exact⟨_,rfl,az,rfl⟩
  case zC=>
   simp only[show u 11=_ from b 11,show u 9=_ from b 9];cases P;case false=>exact jw
   cases Q;case false=>exact jw
   refine aF ?_;go_simp;refine(CW.out _ (F.out.trans i)).mono ?_;rintro e aa⟨rfl,f4⟩;exact⟨_,rfl,f4,rfl⟩
  case zD=>
   simp only[show u 9=_ from b 9,show u 12=_ from b 12];cases P<;>cases Q<;>exact aF (by go_simp;exact⟨_,rfl,az,congrArg Value.bool HB.out⟩)
  case' zE=>simp only[show u 13=_ from b 13]
  all_goals
   try simp only[cond]
   refine aF ?_;go_simp;exact⟨_,rfl,az,rfl⟩
 intro u w' i b;simp only[z1,z2,z3,z4,ar,Act.put,z5,z6,z7,z8,z9,Nat.reduceAdd,Nat.zero_add,show u 14=_ from b 14 (by omega)];clear b;have ab:=af (F.out.trans i);have G:Hid (O=B):=by
  rw[Hid,k.out,←HB.out];cases P<;>cases Q<;>cases R<;>rfl
 clear i k HB;go_wp2;go_ret;rw[G.out];exact⟨rfl,ab.out⟩
theorem Ge(a b:aI)(w:World):(binOp .eql 106 (.agg a.cells.toArray) (.agg b.cells.toArray)).run Tryz.prog w= .ok (.bool (yq a b)) w:=by
 by_cases h:a=b
 ·subst h;have e:yq a a=true:=by unfold yq;exact beq_iff_eq.2 (ca.refl _)
  rw[e];obtain⟨k,q,n,i,t⟩:=a;simp only[aI.cells];go_simp
 ·have e:yq a b=false:=by unfold yq;exact iK (fun e=>h (ca.eq _ _ e))
  rw[e];obtain⟨k,q,n,i,t⟩:=a;obtain⟨l,o,m,i',p⟩:=b;simp only[aI.cells];go_simp;intro c d f g j;exact h (by rw[c,toList_inj d,f,g,toList_inj j])
theorem tZ(c:CV):∀u∈c.cells,u.oneCell'=true:=fun u hu=>by
 have h:=c.one;rw[Array.all_eq_true_iff_forall_mem]at h;exact h u (by simpa using hu)
structure Wi(a W:World)(b:Nat)(l:List UInt8):Prop where
 fr:Fr ah a W
 wr:∃v,Wr W b v l 0∧∀k,v.ownBlock=some k→a.heap.size≤k
 new:a.heap.size≤b
def nj(W W':World):Prop:=∀g t cs,aq W g t cs→t≠185→t≠5→aq W' g t cs
theorem nj.of{W W':World}(h:Fr ah W W'):nj W W':=fun _ _ _ a _ _=>a.fr h (fun x=>x)
theorem nj.trans{W W' a:World}(h:nj W W')(k:nj W' a):nj W a:=fun g t cs d b c=>k g t cs (h g t cs d b c) b c
theorem Wi.later{b W W':World}{a:Nat}{l:List UInt8}(h:Wi b W a l)(f:Fr ah W W'):Wi b W' a l:=by
 obtain⟨v,c,d⟩:=h.wr;exact⟨h.fr.trans f,⟨v,c.cu f (fun _ _ x=>x),d⟩,h.new⟩
def tL(b W:World)(a:Nat)(l:List UInt8)(e:Ending)(W':World):Prop:=e= .returned (.tuple #[])∧Wi b W' a l∧nj W W'
theorem Wi.step{c W W':World}{a:Nat}{l f:List UInt8}{v j:Value}(h:Wi c W a l)(hw:Wr W a v l 0)(d:∀k,v.ownBlock=some k→c.heap.size≤k)(st:di W a v W' j (f,0)):Wi c W' a f∧nj W W':=by
 refine⟨⟨h.fr.au st.fr (fun i p e=>?_),⟨j,st.wr,fun k o=>?_⟩,h.new⟩,fun g t cs b m n=>b.fr st.fr (fun e=>?_)⟩
 ·rcases e with e|e;·have:=h.new;omega
  ·have:=d i e;omega
 ·rcases st.eE k o with e|e;·exact d k e
  ·exact Nat.le_trans h.fr.size e
 ·rcases e with e|e;·exact ey b hw.aD m e
  ·exact bK hw.own b (fun x=>n x.symm) e
theorem Wi.number{c W:World}{a:Nat}{l:List UInt8}(h:Wi c W a l)(n:Nat)(f:l.length≤1099511627776)(g:n≤9223372036854775807):
  Calls Tryz.prog 63 #[.pointer (some ⟨a,0,none⟩), .int .i64 (n:Int)] W (tL c W a (l++enc n)):=by
 obtain⟨v,b,d⟩:=h.wr;refine(jG a v l 0 (n:Int) W b f (by omega)).mono ?_;rintro e w'⟨rfl,i,st⟩;rw[iQ]at st;exact⟨rfl,h.step b d st⟩
theorem Wi.text{c W:World}{a:Nat}{l:List UInt8}(h:Wi c W a l)(s:ByteArray)(f:l.length≤1099511627776)(g:s.size≤16777216):
  Calls Tryz.prog 65 #[.pointer (some ⟨a,0,none⟩), .string s] W (tL c W a (l++bN (aS s))):=by
 obtain⟨v,b,d⟩:=h.wr;refine(lZ a v l 0 s W b f (by omega)).mono ?_;rintro e w'⟨rfl,i,st⟩;rw[iR _ _ (by omega),vT]at st;exact⟨rfl,h.step b d st⟩
theorem Wi.flag{d W:World}{a:Nat}{l:List UInt8}(h:Wi d W a l)(b:Bool)(i:l.length≤1099511627776):
  Calls Tryz.prog 66 #[.pointer (some ⟨a,0,none⟩), .bool b] W (tL d W a (l++jR b)):=by
 obtain⟨v,c,g⟩:=h.wr;refine(Eb a v l 0 b W c i).mono ?_;rintro e w'⟨rfl,j,st⟩;have f:sC (l,0) b=(l++jR b,0):=by unfold sC;rw[if_pos rfl];rfl
 rw[f]at st;exact⟨rfl,h.step c g st⟩
theorem Wi.start{b W:World}(h:Fr ah b W):
  Calls Tryz.prog 61 #[] W (fun e W'=>e= .returned (.pointer (some ⟨W.heap.size,0,none⟩))∧Wi b W' W.heap.size []∧Fr ah W W'):=by
 refine(lC W).mono ?_;rintro e w'⟨rfl,c,a⟩;exact⟨rfl,⟨h.trans a,⟨_,c,fun k d=>by simp[Value.ownBlock]at d⟩,h.size⟩,a⟩
theorem zd(p W:World)(b:Nat)(l:List UInt8)(h:Wi p W b l)(n:l.length≤1099511627776):
  Calls Tryz.prog 67 #[.pointer (some ⟨b,0,none⟩)] W (aK W (.tuple #[.string ⟨l.toArray⟩, .int .i64 0])):=by
 obtain⟨v,d,k⟩:=h.wr;have c:Hid (Calls Tryz.prog 103 #[.pointer (some ⟨b,0,none⟩)] W (tX W l 0)):=ph b v l 0 W d n;clear d k h;go_enter Tryz.func67,Tryz.ntmps67;go_wp2_with fail;refine c.out.mono ?_;rintro e w1⟨_,f⟩;obtain⟨q,rfl,a⟩:=f rfl;obtain⟨g,o,j,rfl,i,_⟩:=aH a.own;have m:=mU w1 _ g o j _ (pQ.rd a.own i.out);have F:=af a.ao;clear a f c;go_wp2;go_ret2;exact⟨rfl,F.out⟩
theorem wu(N W:World)(m:Nat)(l:List UInt8)(k:dH)(h:Wi N W m l)(L:l.length≤1000000000000)(K:dQ k=true)(o:k.fA.size≤16777216):
  Calls Tryz.prog 62 #[.agg k.cells.toArray, .pointer (some ⟨m,0,none⟩)] W (tL N W m (l++rp k)):=by
 obtain⟨t,c,n,s⟩:=k;simp only at o;simp only[dQ,Bool.and_eq_true,decide_eq_true_eq]at K;obtain⟨⟨⟨⟨t0,t1⟩,i,j⟩,⟨n0,n1⟩,_⟩,_⟩:=K;obtain⟨t,rfl⟩:∃q:Nat,t=(q:Int):=⟨t.toNat,by omega⟩;obtain⟨c,rfl⟩:∃q:Nat,c=(q:Int):=⟨c.toNat,by omega⟩;obtain⟨n,rfl⟩:∃q:Nat,n=(q:Int):=⟨n.toNat,by omega⟩;have x:=af h;have S:=af o;have O:=aX t;have P:=aX c;have Q:=aX n;have R:Hid (l.length≤1000000000000):=L;have w:Hid (l++rp ⟨t,c,n,s⟩=((l++enc t)++enc c++enc n)++bN (aS s)):=by simp[Hid,rp]
 have U:Hid ((l++enc t).length≤1099511627776):=by simp only[Hid,aW];omega
 have V:Hid ((l++enc t++enc c).length≤1099511627776):=by simp only[Hid,aW];omega
 have X:Hid ((l++enc t++enc c++enc n).length≤1099511627776):=by simp only[Hid,aW];omega
 have f:Hid (t≤1073741824∧c≤2∧n≤999999):=⟨by omega,by omega,by omega⟩;unfold dH.cells;rw[w.out];clear h o L t0 t1 i j n0 n1 O P Q w;go_enter Tryz.func62,Tryz.ntmps62;go_wp2_with(refine aB rfl 43 (.tmp 0) rfl _ rfl ?_);intro w1 n1;have a:Hid (aq w1 W.heap.size 43 #[.int .i64 (t:Int), .int .i64 (c:Int), .int .i64 (n:Int), .string s]):=n1.aD;have C:=af (x.out.later n1.fr);have y:=af (nj.of n1.fr);clear n1 x;generalize W.heap.size=g at*;have i:w1.cell? ⟨g,0,none⟩=some (.int .i64 t):=a.out.cell 0;go_wp2_with fail;refine(C.out.number t (by have:=R.out;omega) (by have:=f.out;omega)).mono ?_;rintro e w2⟨rfl,G,p⟩;have D:=af G;have b:=af (p _ _ _ a.out (by decide) (by decide));have z:=af (y.out.trans p);clear G p i C a y;have j:w2.cell? ⟨g,1,none⟩=some (.int .i64 c):=b.out.cell 1;go_wp2_with fail;refine(D.out.number c U.out (by have:=f.out;omega)).mono ?_;rintro e w3⟨rfl,H,r⟩;have E:=af H;have d:=af (r _ _ _ b.out (by decide) (by decide));have A:=af (z.out.trans r);clear H r j D b z;have Z:w3.cell? ⟨g,2,none⟩=some (.int .i64 n):=d.out.cell 2;go_wp2_with fail;refine(E.out.number n V.out (by have:=f.out;omega)).mono ?_;rintro e aa⟨rfl,I,u⟩;have F:=af I;have v:=af (u _ _ _ d.out (by decide) (by decide));have B:=af (A.out.trans u);clear I u Z E d A;have c3:aa.cell? ⟨g,3,none⟩=some (.string s):=v.out.cell 3;go_wp2_with fail;refine(F.out.text s X.out S.out).mono ?_;rintro e ab⟨rfl,J,M⟩;have Y:=af J;have T:=af (B.out.trans M);clear J M c3 F v B;go_wp2;go_end0;exact⟨rfl,Y.out,T.out⟩
structure RE(w W:World)(a:Nat)(nm:Array Value)(v:Value)(l:List UInt8):Prop where
 Ky:fC w (.slice none 0 0) W v l
 nb:aq W a 245 nm
theorem RE.next{w W b c:World}{d:Nat}{nm:Array Value}{v v2:Value}{l r:List UInt8}(h:RE w W d nm v l)(a:Fr ah W b)(k:bO 5 1 b v c v2 (l.length+r.length) (l.map bv++r.map bv)):RE w c d nm v2 (l++r):=by
 refine⟨fC.app (h.Ky.behind a) k rfl,(h.nb.fr a (fun x=>x)).fr k.fr (fun e=>?_)⟩;exact bK (aJ h.Ky.own a (fun _ _ x=>x)) (h.nb.fr a (fun x=>x)) (by decide) e
end Go.Proofs.YtphjagkehiklkaaGreatDoor
