/- Texts. -/
import Derived.Test.YtphjagkehiklkaaGreatDoorEK10
set_option linter.unusedVariables false
set_option linter.unusedSimpArgs false
set_option maxRecDepth 100000
set_option maxHeartbeats 4000000
namespace Go.Proofs.YtphjagkehiklkaaGreatDoor
open Proofs.Tryz Go.RowKit Go.Shelf
theorem Gt(l:List UInt8)(m:Nat)(hm:m<=10)(h:(pn l m).2.2=0):enc (pn l m).1=l.take (pn l m).2.1/\(pn l m).2.1<=l.length:=by
 rcases sZ l m hm with(a|a)|⟨k,c,d,b,e,_,f,a⟩;·rw[a]at h;simp at h
 ·rw[a]at h;simp at h
 ·rw[a];exact⟨JJ l m k c hm d b e f,b⟩
theorem nE{α:Type}(zero:α)(parse:List UInt8->α×Nat×Int)(st:List UInt8×Nat×Int)(h:st.2.2≠0):(aE zero parse st).2=st:=by
 unfold aE;rw[if_pos h]
theorem eV(aS:Int)(st:List UInt8×Nat×Int)(h:(aE [] (cg aS) st).2.2.2=0):st.2.2=0/\st.1=aN (aE [] (cg aS) st).1++(aE [] (cg aS) st).2.1:=by
 by_cases b:st.2.2=0
 ·refine⟨b,?_⟩;unfold aE at h⊢;rw[if_neg (by omega)]at h⊢;by_cases a:(cg aS st.1).2.2=0
  ·rw[if_neg (by omega)];simp only;unfold cg at a⊢;by_cases c:(pn st.1 9).2.2≠0;·rw[if_pos c]at a;simp only at a;omega
   rw[if_neg c]at a⊢;by_cases d:aS<((pn st.1 9).1:Int)\/16777216<(pn st.1 9).1;·rw[if_pos d]at a;cases a
   rw[if_neg d]at a⊢;by_cases e:st.1.length<(pn st.1 9).2.1+(pn st.1 9).1;·rw[if_pos e]at a;cases a
   rw[if_neg e];simp only[aN];obtain⟨he,g⟩:=Gt st.1 9 (by omega) (by omega);generalize(pn st.1 9).2.1=k at*;generalize(pn st.1 9).1=n at*;have f:((st.1.drop k).take n).length=n:=by rw[List.length_take,List.length_drop];omega
   rw[f,he,List.append_assoc,<-List.drop_drop,List.take_append_drop,List.take_append_drop]
  ·rw[if_pos a]at h;exact absurd h a
 ·rw[nE _ _ _ b]at h;exact absurd h b
theorem ib(aS:Int)(st:List UInt8×Nat×Int)(h:(aE 0 (aO aS) st).2.2.2=0):st.2.2=0/\st.1=enc (aE 0 (aO aS) st).1.toNat++(aE 0 (aO aS) st).2.1:=by
 by_cases b:st.2.2=0
 ·refine⟨b,?_⟩;unfold aE at h⊢;rw[if_neg (by omega)]at h⊢;by_cases a:(aO aS st.1).2.2=0
  ·rw[if_neg (by omega)];simp only;unfold aO at a⊢;simp only at a⊢;have c:(pn st.1 9).2.2=0:=by
    split at a;·omega
    ·omega
   obtain⟨he,d⟩:=Gt st.1 9 (by omega) c;rw[Int.toNat_natCast,he,List.take_append_drop]
  ·rw[if_pos a]at h;exact absurd h a
 ·rw[nE _ _ _ b]at h;exact absurd h b
theorem qX{α:Type}(zero:α)(parse:List UInt8->α×Nat×Int)(l:List UInt8)(p:Nat)(x:α)(k:Nat)(h:parse l=(x,k,0)):aE zero parse (l,p,0)=(x,(l.drop k,p+k,0)):=by
 unfold aE;simp[h]
theorem jk(u:Nat)(aS:Int)(hu:u<9223372036854775808)(hm:(u:Int)<=aS)(r:List UInt8)(p:Nat):aE 0 (aO aS) (enc u++r,p,0)=((u:Int),(r,p+(enc u).length,0)):=by
 have h:aO aS (enc u++r)=((u:Int),(enc u).length,0):=by
  unfold aO;rw[Ce u r hu];simp only[true_and];rw[if_neg (by omega)];rfl
 rw[qX 0 (aO aS) _ p _ _ h,List.drop_left]
theorem ij(s:List UInt8)(aS:Int)(a:(s.length:Int)<=aS)(b:s.length<=16777216)(r:List UInt8)(p:Nat):aE [] (cg aS) (aN s++r,p,0)=(s,(r,p+(aN s).length,0)):=by
 have h:cg aS (aN s++r)=(s,(aN s).length,0):=by
  unfold cg aN;rw[List.append_assoc,Ce s.length (s++r) (by omega)];simp only[ne_eq,not_true_eq_false,if_false];rw[if_neg (by omega),if_neg (by simp only[aT];omega),List.drop_left,List.take_left,aT]
 rw[qX [] (cg aS) _ p _ _ h,List.drop_left]
theorem nS(l:List UInt8):aQ ⟨l.toArray⟩=l:=rfl
theorem lO{st:List UInt8×Nat×Int}(h:dK st=0):st.2.2=0/\st.1=[]:=by
 unfold dK at h;split at h;next a=>
  refine⟨a,?_⟩;split at h;·cases h
  ·exact List.eq_nil_of_length_eq_zero (by omega)
 next a=>exact absurd h a
theorem Fj{u:iE}{l:List UInt8}(hu:iO[(ez l).1.toNat]? =some u)(m:dK (fS u l).2=0)(s:da (fS u l).1=true):bZ (fS u l).1=l:=by
 have x:=vK l;have d:ez l=aE 0 (aO 20) (l,0,0):=rfl;obtain⟨a0,n⟩:∃a,ez l=a:=⟨_,rfl⟩;obtain⟨c,o⟩:∃a,lh u a0.2=a:=⟨_,rfl⟩;obtain⟨a2,p⟩:∃a,nK u c.2=a:=⟨_,rfl⟩;obtain⟨a3,q⟩:∃a,po u a2.2=a:=⟨_,rfl⟩;obtain⟨a4,r⟩:∃a,qw u a3.2=a:=⟨_,rfl⟩;have y:fS u l=(⟨a0.1,⟨c.1.toArray⟩,a2.1,a3.1,⟨a4.1.toArray⟩⟩,a4.2):=by rw[fS,n,o,p,q,r]
 rw[y]at m s⊢;rw[n]at hu x d;simp only at m;obtain⟨k,A⟩:=lO m;have z:qC u ⟨a0.1,⟨c.1.toArray⟩,a2.1,a3.1,⟨a4.1.toArray⟩⟩=true:=by
  obtain⟨_,B,f,h⟩:=pJ s;simp only at f;rw[hu]at f;cases f;exact h
 rw[sX (u:=u) hu];have w:a3.2.2.2=0/\a3.2.1=(if u.text then aN a4.1 else[])++a4.2.1:=by
  rw[<-r]at k⊢;unfold qw at k⊢;split;next b=>rw[if_pos b]at k;exact eV 32 a3.2 k
  next b=>rw[if_neg b]at k;exact⟨k,rfl⟩
 have v:a2.2.2.2=0/\a2.2.1=(if u.index then enc a3.1.toNat else[])++a3.2.1:=by
  have j:=w.1;rw[<-q]at j⊢;unfold po at j⊢;split;next b=>rw[if_pos b]at j;exact ib u.aS a2.2 j
  next b=>rw[if_neg b]at j;exact⟨j,rfl⟩
 have s2:c.2.2.2=0/\c.2.1=(if u.number then enc a2.1.toNat else[])++a2.2.1:=by
  have i:=v.1;rw[<-p]at i⊢;unfold nK at i⊢;split;next b=>rw[if_pos b]at i;exact ib 1073741824 c.2 i
  next b=>rw[if_neg b]at i;exact⟨i,rfl⟩
 have s1:a0.2.2.2=0/\a0.2.1=(if u.owner then aN c.1 else[])++c.2.1:=by
  have g:=s2.1;rw[<-o]at g⊢;unfold lh at g⊢;split;next b=>rw[if_pos b]at g;exact eV 16777216 a0.2 g
  next b=>rw[if_neg b]at g;exact⟨g,rfl⟩
 have t:=ib 20 (l,0,0) (by rw[<-d];exact s1.1);rw[<-d]at t;have e:=t.2;simp only at e;rw[e,s1.2,s2.2,v.2,w.2,A,List.append_nil];rfl
theorem EM{u:iE}{n:aG}(h:qC u n=true)(a:u.text=true):n.text.size<=32:=by
 simp only[qC,Bool.and_eq_true,Bool.or_eq_true,Bool.not_eq_true']at h;rcases h.2 with h|h;·rw[a]at h;cases h
 ·simp only[lC,Bool.and_eq_true,decide_eq_true_eq]at h;exact h.1.2
theorem Fi{m:aG}(G:da m=true)(I:m.owner.size<=16777216):∃u,iO[(ez (bZ m)).1.toNat]? =some u/\dK (fS u (bZ m)).2=0/\(fS u (bZ m)).1=m:=by
 obtain⟨A,u,hu,v⟩:=pJ G;have g:=pK v;have hm:=BE hu;rw[sX hu];have B:=@EM u m v;obtain⟨k,O,n,i,t⟩:=m;obtain⟨wd,b,a,bi,c,d⟩:=u;obtain⟨kk,rfl⟩:∃q:Nat,k=(q:Int):=⟨k.toNat,by simp only at A;omega⟩;simp only at A I hm B hu;simp only[mB];rw[Int.toNat_natCast]at hu⊢;have d0:∀r,ez (enc kk++r)=((kk:Int),(r,(enc kk).length,0)):=λr=>by
  unfold ez;rw[jk kk 20 (by omega) (by omega) r 0,Nat.zero_add]
 refine⟨⟨wd,b,a,bi,c,d⟩,by rw[d0,Int.toNat_natCast];exact hu,?_⟩;obtain⟨y,s⟩:∃N,(if c=true then aN (aQ t)else[])=N:=⟨_,rfl⟩;obtain⟨x,o⟩:∃N,(if bi=true then enc i.toNat else[])++y=N:=⟨_,rfl⟩;obtain⟨w,l⟩:∃N,(if a=true then enc n.toNat else[])++x=N:=⟨_,rfl⟩;obtain⟨z,j⟩:∃N,(if b=true then aN (aQ O)else[])++w=N:=⟨_,rfl⟩;rw[s,o,l,j];have d1:∀p,∃f,lh ⟨wd,b,a,bi,c,d⟩ (z,p,0)=(aQ O,(w,f,0)):=λp=>by
  rw[<-j];unfold lh;cases b;·have e:=g.o0 rfl;simp only at e;exact⟨p,by rw[e];rfl⟩
  ·exact⟨_,ij (aQ O) 16777216 (by rw[aL];omega) (by rw[aL];omega) w p⟩
 have d2:∀p,∃f,nK ⟨wd,b,a,bi,c,d⟩ (w,p,0)=(n,(x,f,0)):=λp=>by
  rw[<-l];unfold nK;cases a;·have e:=g.n0 rfl;simp only at e;exact⟨p,by rw[e];rfl⟩
  ·have e:=g.n1 rfl;simp only at e;have h:=jk n.toNat 1073741824 (by omega) (by omega) x p;rw[Int.toNat_of_nonneg e.1]at h;exact⟨_,h⟩
 have d3:∀p,∃f,po ⟨wd,b,a,bi,c,d⟩ (x,p,0)=(i,(y,f,0)):=λp=>by
  rw[<-o];unfold po;cases bi;·have e:=g.i0 rfl;simp only at e;exact⟨p,by rw[e];rfl⟩
  ·have e:=g.i1 rfl;simp only at e;have h:=jk i.toNat d (by omega) (by omega) y p;rw[Int.toNat_of_nonneg e.1]at h;exact⟨_,h⟩
 have d4:∀p,∃f,qw ⟨wd,b,a,bi,c,d⟩ (y,p,0)=(aQ t,([],f,0)):=λp=>by
  rw[<-s];unfold qw;cases c;·have e:=g.t0 rfl;simp only at e;exact⟨p,by rw[e];rfl⟩
  ·have e:=B rfl;have h:=ij (aQ t) 32 (by rw[aL];omega) (by rw[aL];omega) [] p;rw[List.append_nil]at h;exact⟨_,h⟩
 obtain⟨J,C⟩:=d1 (enc kk).length;obtain⟨K,D⟩:=d2 J;obtain⟨L,E⟩:=d3 K;obtain⟨M,F⟩:=d4 L;have H:fS ⟨wd,b,a,bi,c,d⟩ (enc kk++z)=(⟨(kk:Int),⟨(aQ O).toArray⟩,n,i,⟨(aQ t).toArray⟩⟩,([],M,0)):=by
  rw[fS,d0];simp only[C,D,E,F]
 rw[H];exact⟨rfl,rfl⟩
def dh(l:List UInt8):aG×Int:=match iO[(ez l).1.toNat]? with
 |some u=>if dK (fS u l).2=0/\da (fS u l).1=true then((fS u l).1,0)else(⟨0,ByteArray.empty,0,0,ByteArray.empty⟩,3)
 |none=>(⟨0,ByteArray.empty,0,0,ByteArray.empty⟩,3)
theorem sL(l:List UInt8):∃u,iO[(ez l).1.toNat]? =some u:=by
 have h:=vK l;have a:iO.length=21:=by decide
 exact⟨_,List.getElem?_eq_getElem (show(ez l).1.toNat<iO.length by omega)⟩
theorem rN{l:List UInt8}{u:iE}(h:iO[(ez l).1.toNat]? =some u):dh l=if dK (fS u l).2=0/\da (fS u l).1=true then((fS u l).1,0)else(⟨0,ByteArray.empty,0,0,ByteArray.empty⟩,3):=by
 unfold dh;rw[h]
theorem yc{m:aG}(a:da m=true)(d:m.owner.size<=16777216):dh (bZ m)=(m,0):=by
 obtain⟨u,hu,b,c⟩:=Fi a d;rw[rN hu,c,if_pos ⟨b,a⟩]
theorem sK{l:List UInt8}(h:(dh l).2=0):da (dh l).1=true/\bZ (dh l).1=l:=by
 obtain⟨u,hu⟩:=sL l;rw[rN hu]at h⊢;by_cases a:dK (fS u l).2=0/\da (fS u l).1=true;·rw[if_pos a];exact⟨a.2,Fj hu a.1 a.2⟩
 ·rw[if_neg a]at h;cases h
theorem qY(aS:Int)(st:List UInt8×Nat×Int):(aE [] (cg aS) st).1.length<=st.1.length:=by
 unfold aE;split;·simp
 ·split;·simp
  next h=>
   simp only[cg];split;·simp
   ·split;·simp
    ·split;·simp
     ·simp only[List.length_take,List.length_drop];omega
theorem Cl(aS:Int)(st:List UInt8×Nat×Int):(aE [] (cg aS) st).2.1.length<=st.1.length:=by
 unfold aE;split;·simp
 ·split;·simp
  ·simp only[List.length_drop];omega
theorem ig(aS:Int)(st:List UInt8×Nat×Int):(aE 0 (aO aS) st).2.1.length<=st.1.length:=by
 unfold aE;split;·simp
 ·split;·simp
  ·simp only[List.length_drop];omega
theorem pk(l:List UInt8):(dh l).1.owner.size<=l.length/\(dh l).1.text.size<=l.length:=by
 obtain⟨u,hu⟩:=sL l;rw[rN hu];split
 ·have a:=ig 20 (l,0,0);have b:ez l=aE 0 (aO 20) (l,0,0):=rfl;rw[<-b]at a;simp only at a;have c:∀st,(lh u st).1.length<=st.1.length/\(lh u st).2.1.length<=st.1.length:=λst=>by
   unfold lh;split;·exact⟨qY _ _,Cl _ _⟩
   ·simp
  have d:∀st,(nK u st).2.1.length<=st.1.length:=λst=>by
   unfold nK;split;·exact ig _ _
   ·simp
  have e:∀st,(po u st).2.1.length<=st.1.length:=λst=>by
   unfold po;split;·exact ig _ _
   ·simp
  have f:∀st,(qw u st).1.length<=st.1.length:=λst=>by
   unfold qw;split;·exact qY _ _
   ·simp
  simp only[fS,ByteArray.size,List.size_toArray];have g:=c (ez l).2;have a2:=d (lh u (ez l).2).2;have a3:=e (nK u (lh u (ez l).2).2).2;have a4:=f (po u (nK u (lh u (ez l).2).2).2).2;omega
 ·simp
def rB(w:World)(l:List UInt8)(e:Ending)(w':World):Prop:=e= .returned (.tuple #[.agg (dh l).1.cells.toArray, .int .i64 (dh l).2])/\Fr Nothing w w'
theorem xO(s:ByteArray)(w:World)(d:dO w)(f:s.size<=16777216):Calls prog 118 #[.string s] w (rB w (aQ s)):=by
 obtain⟨u,hu⟩:=sL (aQ s);refine(Ds s u w d f hu).mono ?_;rintro e w'⟨n,k,rfl,a,h⟩;unfold rB;rw[rN hu];rcases h with⟨b,c,rfl,rfl⟩|⟨h,rfl,rfl⟩;·rw[if_pos ⟨b,c⟩];exact⟨rfl,a⟩
 ·rw[if_neg h];exact⟨rfl,a⟩
abbrev dc:=List UInt8×Nat×Int
def aV(st:dc):List UInt8×dc:=aE [] (cg 65536) st
def iz:Nat->dc->aG->List Ent->Int×List Ent
 |0,st,_,L=>(dK st,L)
 |n+1,st,last,L=>
  if(aV st).2.2.2≠0 then((aV st).2.2.2,[])else
  if(dh (aV st).1).2≠0 then((dh (aV st).1).2,[])else
  if 0<L.length/\bL (dh (aV st).1).1 last<=0 then(32,[])else
  if(aV (aV st).2).2.2.2≠0 then((aV (aV st).2).2.2.2,[])else
  iz n (aV (aV st).2).2 (dh (aV st).1).1 (L++[((dh (aV st).1).1,⟨(aV (aV st).2).1.toArray⟩)])
def Iw:aG:=⟨0,ByteArray.empty,0,0,ByteArray.empty⟩
def iW(l:List UInt8):Int×List Ent:=iz (aE 0 (aO 65536) (l,0,0)).1.toNat (aE 0 (aO 65536) (l,0,0)).2 Iw []
structure jU(L:List Ent)(last:aG)(st:dc):Prop where
 sort:cu L
 ok:∀x∈L,da x.1=true
 owner:∀x∈L,x.1.owner.size<=110000
 text:∀x∈L,x.1.text.size<=110000
 value:∀x∈L,x.2.size<=110000
 len:2*L.length+st.1.length<=110000
 bytes:cE L+st.1.length<=110000
 last:L=[]\/∃M v,L=M++[(last,v)]
theorem jU.nil{l:List UInt8}(h:l.length<=110000)(st:dc)(a:st.1.length<=l.length):jU [] Iw st:=
 ⟨List.Pairwise.nil,(λ_ h=>by cases h),(λ_ h=>by cases h),(λ_ h=>by cases h),(λ_ h=>by cases h),by simp;omega,by simp[cE];omega,Or.inl rfl⟩
theorem jU.jZ{L:List Ent}{last:aG}{st:dc}(h:jU L last st):lz L:=
 ⟨h.sort,λx a=>by have:=h.owner x a;omega,by have:=h.len;omega,by have:=h.bytes;omega,h.ok⟩
theorem jU.small{L:List Ent}{last:aG}{st:dc}(h:jU L last st):pZ L:=
 ⟨h.ok,λx a=>by have:=h.owner x a;omega,λx a=>by have:=h.text x a;omega,λx a=>by have:=h.value x a;omega,by have:=h.len;omega⟩
theorem kN(s:List UInt8):s.length+1<=(aN s).length:=by
 unfold aN;have:1<=(enc s.length).length:=pv 9 _;rw[aT];omega
theorem AI(A B:List Ent):cE (A++B)=cE A+cE B:=by simp[cE]
theorem Fq{L:List Ent}{last m:aG}(f:cu L)(e:L=[]\/∃M v,L=M++[(last,v)])(d:¬(0<L.length/\bL m last<=0)):∀y∈L,0<bL m y.1:=by
 rcases e with rfl|⟨M,u,rfl⟩;·intro y a;cases a
 ·have b:0<bL m last:=by
   by_cases h:0<bL m last;·exact h
   ·exact absurd ⟨by simp,by omega⟩ d
  intro y a;rcases List.mem_append.1 a with a|a;·have c:=(cu.parts f).2.2.1 y a;exact fT (cp.trans y.1 last m c (ma b))
  ·simp only[List.mem_singleton]at a;rw[a];exact b
theorem jU.next{L:List Ent}{last:aG}{st:dc}(h:jU L last st)(i:(dh (aV st).1).2=0)(j:¬(0<L.length/\bL (dh (aV st).1).1 last<=0))(k:(aV (aV st).2).2.2.2=0):
  jU (L++[((dh (aV st).1).1,⟨(aV (aV st).2).1.toArray⟩)]) (dh (aV st).1).1 (aV (aV st).2).2/\dC (dh (aV st).1).1 ⟨(aV (aV st).2).1.toArray⟩ L=L++[((dh (aV st).1).1,⟨(aV (aV st).2).1.toArray⟩)]/\
  (aV st).2.2.2=0/\st.2.2=0/\st.1=jy ((dh (aV st).1).1,⟨(aV (aV st).2).1.toArray⟩)++(aV (aV st).2).2.1:=by
 have Ih:=Fq h.sort h.last j;obtain⟨d,s1⟩:=eV 65536 (aV st).2 k;obtain⟨g,c⟩:=eV 65536 st d;obtain⟨ok,l⟩:=sK i;have n:=pk (aV st).1;have e:dC (dh (aV st).1).1 ⟨(aV (aV st).2).1.toArray⟩ L=L++[((dh (aV st).1).1,⟨(aV (aV st).2).1.toArray⟩)]:=by
  have:=my (v:=⟨(aV (aV st).2).1.toArray⟩) L [] Ih;rw[List.append_nil]at this;rw[this];rfl
 have t0:(aV st).1=(aE [] (cg 65536) st).1:=rfl;have t1:(aV st).2=(aE [] (cg 65536) st).2:=rfl;have q:(aV (aV st).2).1=(aE [] (cg 65536) (aV st).2).1:=rfl;have r:(aV (aV st).2).2=(aE [] (cg 65536) (aV st).2).2:=rfl;rw[<-t0,<-t1]at c;rw[<-q,<-r]at s1;have o:=congrArg List.length c;have l1:=congrArg List.length s1;rw[aT]at o l1;have b0:=kN (aV st).1;have b1:=kN (aV (aV st).2).1;have hlen:=h.len;have b:=h.bytes;generalize(aV (aV st).2).2=st2 at*;generalize(aV (aV st).2).1=v at*;generalize(aV st).2=st1 at*;generalize(aV st).1=p at*;generalize(dh p).1=m at*;have f:(⟨v.toArray⟩:ByteArray).size=v.length:=by simp[ByteArray.size]
 refine⟨⟨by rw[<-e];exact(kC h.sort).1,?_,?_,?_,?_,?_,?_,Or.inr ⟨L,_,rfl⟩⟩,e,d,g,?_⟩
 ·intro x a;rcases List.mem_append.1 a with a|a;·exact h.ok x a
  ·simp only[List.mem_singleton]at a;rw[a];exact ok
 ·intro x a;rcases List.mem_append.1 a with a|a;·exact h.owner x a
  ·simp only[List.mem_singleton]at a;rw[a];simp only;omega
 ·intro x a;rcases List.mem_append.1 a with a|a;·exact h.text x a
  ·simp only[List.mem_singleton]at a;rw[a];simp only;omega
 ·intro x a;rcases List.mem_append.1 a with a|a;·exact h.value x a
  ·simp only[List.mem_singleton]at a;rw[a];simp only[f];omega
 ·simp only[aT,List.length_cons,List.length_nil];omega
 ·rw[AI];have:cE [((m:aG),(⟨v.toArray⟩:ByteArray))]=v.length:=by simp[cE,f]
  rw[this];omega
 ·rw[c,s1];simp only[jy];rw[l,List.append_assoc];rfl
theorem yb:∀(n:Nat)(st:dc)(last:aG)(L:List Ent),jU L last st->(iz n st last L).1=0->
  ∃M b,(iz n st last L).2=L++M/\M.length=n/\st.2.2=0/\st.1=M.flatMap jy/\jU (L++M) b ([],0,0)
 |0,st,last,L,h,a=>by
  simp only[iz]at a⊢;obtain⟨f,g⟩:=lO a;exact⟨[],last,by simp,rfl,f,g,by rw[List.append_nil];exact⟨h.sort,h.ok,h.owner,h.text,h.value,by have:=h.len;simp;omega,by have:=h.bytes;simp;omega,h.last⟩⟩
 |n+1,st,last,L,h,a=>by
  rw[iz]at a⊢;by_cases c:(aV st).2.2.2≠0;·rw[if_pos c]at a;exact absurd a c
  rw[if_neg c]at a⊢;by_cases d:(dh (aV st).1).2≠0;·rw[if_pos d]at a;exact absurd a d
  rw[if_neg d]at a⊢;by_cases e:0<L.length/\bL (dh (aV st).1).1 last<=0;·rw[if_pos e]at a;cases a
  rw[if_neg e]at a⊢;by_cases c3:(aV (aV st).2).2.2.2≠0;·rw[if_pos c3]at a;exact absurd a c3
  rw[if_neg c3]at a⊢;obtain⟨l,_,_,j,o⟩:=h.next (by omega) e (by omega);obtain⟨M,m,f,g,p,k,i⟩:=yb n _ _ _ l a;refine⟨((dh (aV st).1).1,⟨(aV (aV st).2).1.toArray⟩)::M,m,?_,by simp[g],j,?_,?_⟩;·rw[f];simp
  ·rw[o,k];simp
  ·rw[List.append_assoc]at i;exact i
theorem yd{l:List UInt8}(g:l.length<=110000)(h:(iW l).1=0):cq (iW l).2=l/\∃last,jU (iW l).2 last ([],0,0):=by
 unfold iW at h⊢;have i:=ig 65536 (l,0,0);obtain⟨M,j,a,b,c,d,e⟩:=yb _ _ _ _ (jU.nil g _ i) h;have f:=(ib 65536 (l,0,0) c).2;rw[a];refine⟨?_,j,e⟩;rw[List.nil_append,cq,b,<-d];exact f.symm
theorem x9:∀(M:List Ent)(p:Nat)(last:aG)(L:List Ent),cu (L++M)->(L=[]\/∃K v,L=K++[(last,v)])->(∀x∈M,da x.1=true)->(∀x∈M,x.1.owner.size<=65000)->(∀x∈M,x.1.text.size<=100)->(∀x∈M,x.2.size<=65536)->
  iz M.length (M.flatMap jy,p,0) last L=(0,L++M)
 |[],p,last,L,_,_,_,_,_,_=>by simp[iz,dK]
 |x::M,p,last,L,f,k,e,b,c,d=>by
  have a0:=e x (by simp);have m:=b x (by simp);have a2:=c x (by simp);have a3:=d x (by simp);have a4:=eS x.1;have t0:aV ((x::M).flatMap jy,p,0)=(bZ x.1,(aN (aQ x.2)++M.flatMap jy,p+(aN (bZ x.1)).length,0)):=by
   unfold aV;rw[List.flatMap_cons,jy,List.append_assoc];exact ij (bZ x.1) 65536 (by omega) (by omega) _ p
  have t1:aV (aN (aQ x.2)++M.flatMap jy,p+(aN (bZ x.1)).length,0)=(aQ x.2,(M.flatMap jy,p+(aN (bZ x.1)).length+(aN (aQ x.2)).length,0)):=by
   unfold aV;exact ij (aQ x.2) 65536 (by rw[aL];omega) (by rw[aL];omega) _ _
  have t2:dh (bZ x.1)=(x.1,0):=yc a0 (by omega);have j:¬(0<L.length/\bL x.1 last<=0):=by
   rintro⟨g,n⟩;rcases k with rfl|⟨K,v,rfl⟩;·simp at g
   ·have h:=(cu.parts f).2.2.1 (last,v) (by simp);have i:=fT h;simp only at i;omega
  rw[List.length_cons,iz,t0];simp only;rw[if_neg (by simp),t2];simp only;rw[if_neg (by simp),if_neg j,t1];simp only;rw[if_neg (by simp)];have l:(x.1,(⟨(aQ x.2).toArray⟩:ByteArray))=x:=rfl;rw[l];have:=x9 M (p+(aN (bZ x.1)).length+(aN (aQ x.2)).length) x.1 (L++[x]) (by rw[List.append_assoc];exact f) (Or.inr ⟨L,x.2,rfl⟩) (λy a=>e y (by simp[a])) (λy a=>b y (by simp[a])) (λy a=>c y (by simp[a])) (λy a=>d y (by simp[a]));rw[this,List.append_assoc];rfl
theorem Hp{L:List Ent}(e:cu L)(f:L.length<=65536)(d:∀x∈L,da x.1=true)(a:∀x∈L,x.1.owner.size<=65000)(b:∀x∈L,x.1.text.size<=100)(c:∀x∈L,x.2.size<=65536):iW (cq L)=(0,L):=by
 unfold iW cq;rw[jk L.length 65536 (by omega) (by omega) _ 0];simp only[Int.toNat_natCast];exact x9 L _ Iw [] e (Or.inl rfl) d a b c
structure dM where
 tick:Int
 cls:Int
 num:Int
 fD:ByteArray
structure ActV where
 key:dM
 reads:List CV
 writes:List CV
def dZ(k:dM):Bool:=
 decide (0<=k.tick)&&decide (k.tick<=1073741824)&&(decide (0<=k.cls)&&decide (k.cls<=2))&&(decide (0<=k.num)&&decide (k.num<=999999)&&!(k.cls==0&&k.num==0))&&
 (if k.cls=0 then k.fD.toList.isEmpty else(!k.fD.toList.isEmpty&&dj k.fD&&!(k.cls==2&&k.num !=0)))
def jw(c:CV):Bool:=da c.nm&&decide (c.value.size<=65536)&&(!c.bw||c.value.toList.isEmpty)
def gz:List CV->Bool
 |[]=>true
 |c::r=>jw c&&(match r with|[]=>true|d::_=>decide (bL c.nm d.nm<0))&&gz r
def fR(a:ActV):Bool:=dZ a.key&&gz a.reads&&gz a.writes
def jG(b:Bool):List UInt8:=[if b then 1 else 0]
def kx(c:CV):List UInt8:=aN (bZ c.nm)++(jG c.bw++aN (aQ c.value))
def ep(l:List CV):List UInt8:=enc l.length++l.flatMap kx
def pE(k:dM):List UInt8:=enc k.tick.toNat++(enc k.cls.toNat++(enc k.num.toNat++aN (aQ k.fD)))
def bY(a:ActV):List UInt8:=pE a.key++(ep a.reads++ep a.writes)
theorem Cj(st:dc)(h:(aE false cC st).2.2.2=0):st.2.2=0/\st.1=jG (aE false cC st).1++(aE false cC st).2.1:=by
 by_cases f:st.2.2=0
 ·refine⟨f,?_⟩;unfold aE at h⊢;rw[if_neg (by omega)]at h⊢;by_cases a:(cC st.1).2.2=0
  ·rw[if_neg (by omega)];simp only;unfold cC at a⊢;by_cases d:st.1.length=0;·rw[if_pos d]at a;cases a
   rw[if_neg d]at a⊢;by_cases e:1<(st.1[0]?.getD 0).toNat;·rw[if_pos e]at a;cases a
   rw[if_neg e];simp only;cases g:st.1 with
   |nil=>rw[g]at d;simp at d
   |cons b r=>
    rw[g]at e;simp only[List.getElem?_cons_zero,Option.getD_some]at e⊢;simp only[jG,List.drop_succ_cons,List.drop_zero,List.cons_append,List.nil_append,List.cons.injEq,and_true];have c:b.toNat=0\/b.toNat=1:=by omega
    rcases c with c|c;·rw[c];exact UInt8.toNat_inj.1 (by rw[c];rfl)
    ·rw[c];exact UInt8.toNat_inj.1 (by rw[c];rfl)
  ·rw[if_pos a]at h;exact absurd h a
 ·rw[nE _ _ _ f]at h;exact absurd h f
theorem Fe(b:Bool)(r:List UInt8)(p:Nat):aE false cC (jG b++r,p,0)=(b,(r,p+1,0)):=by
 have h:cC (jG b++r)=(b,1,0):=by
  unfold cC jG;cases b<;>simp
 rw[qX false cC _ p _ _ h];rfl
theorem Ck(st:dc):(aE false cC st).2.1.length<=st.1.length:=by
 unfold aE;split;·simp
 ·split;·simp
  ·simp only[List.length_drop];omega
def dH(st:dc):List UInt8×dc:=aE [] (cg 16777216) st
def ko:Nat->dc->List CV->Option (List CV×dc)
 |0,st,L=>some (L,st)
 |n+1,st,L=>
  if(dh (dH st).1).2≠0 then none else
  ko n (aV (aE false cC (dH st).2).2).2 (L++[⟨(dh (dH st).1).1,⟨(aV (aE false cC (dH st).2).2).1.toArray⟩,(aE false cC (dH st).2).1⟩])
def ik(st:dc):Option (List CV×dc):=ko (aE 0 (aO (st.1.length:Int)) st).1.toNat (aE 0 (aO (st.1.length:Int)) st).2 []
def gJ(l:List UInt8):Int×dc:=aE 0 (aO 1073741824) (l,0,0)
def jc(l:List UInt8):Int×dc:=aE 0 (aO 2) (gJ l).2
def rdNum(l:List UInt8):Int×dc:=aE 0 (aO 999999) (jc l).2
def im(l:List UInt8):List UInt8×dc:=dH (rdNum l).2
def gM(l:List UInt8):dM×dc:=(⟨(gJ l).1,(jc l).1,(rdNum l).1,⟨(im l).1.toArray⟩⟩,(im l).2)
def jo(l:List UInt8):Option ActV:=
 match ik (gM l).2 with
 |none=>none
 |some (a,st)=>match ik st with
  |none=>none
  |some (W,st2)=>if dK st2=0/\fR ⟨(gM l).1,a,W⟩=true then some ⟨(gM l).1,a,W⟩else none
theorem yD:∀(n:Nat)(st:dc)(L M:List CV)(st':dc),ko n st L=some (M,st')->st'.2.2=0->∃K,M=L++K/\K.length=n/\st.2.2=0/\st.1=K.flatMap kx++st'.1
 |0,st,L,M,st',h,a=>by
  simp only[ko,Option.some.injEq,Prod.mk.injEq]at h;obtain⟨rfl,rfl⟩:=h;exact⟨[],by simp,rfl,a,by simp⟩
 |n+1,st,L,M,st',h,a=>by
  rw[ko]at h;by_cases c:(dh (dH st).1).2≠0;·rw[if_pos c]at h;cases h
  rw[if_neg c]at h;obtain⟨K,f,g,i,j⟩:=yD n _ _ _ _ h a;obtain⟨e,s2⟩:=eV 65536 (aE false cC (dH st).2).2 i;obtain⟨d,s1⟩:=Cj (dH st).2 e;obtain⟨b,o⟩:=eV 16777216 st d;obtain⟨_,k⟩:=sK (show(dh (dH st).1).2=0 by omega);refine⟨_::K,by rw[f,List.append_assoc];rfl,by simp[g],b,?_⟩;rw[List.flatMap_cons,kx];simp only;rw[k];have l:st.1=aN (dH st).1++(dH st).2.1:=o;have m:(aE false cC (dH st).2).2.1=aN (aV (aE false cC (dH st).2).2).1++(aV (aE false cC (dH st).2).2).2.1:=s2;rw[l,s1,m,j];simp only[List.append_assoc];rfl
theorem wN{st st':dc}{M:List CV}(h:ik st=some (M,st'))(b:st'.2.2=0):st.2.2=0/\st.1=ep M++st'.1:=by
 unfold ik at h;obtain⟨K,a,c,d,f⟩:=yD _ _ _ _ _ h b;obtain⟨e,s⟩:=ib _ st d;rw[List.nil_append]at a;subst a;refine⟨e,?_⟩;rw[s,f,ep,c,List.append_assoc]
theorem x8{l:List UInt8}{a:ActV}(h:jo l=some a):fR a=true/\bY a=l:=by
 unfold jo at h;cases b:ik (gM l).2 with
 |none=>rw[b]at h;cases h
 |some x=>
  obtain⟨z,st⟩:=x;rw[b]at h;simp only at h;cases d:ik st with
  |none=>rw[d]at h;cases h
  |some y=>
   obtain⟨W,st2⟩:=y;rw[d]at h;simp only at h;by_cases c:dK st2=0/\fR ⟨(gM l).1,z,W⟩=true
   ·rw[if_pos c]at h;cases h;refine⟨c.2,?_⟩;obtain⟨g,r⟩:=lO c.1;obtain⟨f,s1⟩:=wN d g;obtain⟨e,s⟩:=wN b f;obtain⟨i,t⟩:=eV 16777216 (rdNum l).2 e;obtain⟨j,u⟩:=ib 999999 (jc l).2 i;obtain⟨k,v⟩:=ib 2 (gJ l).2 j;obtain⟨_,w⟩:=ib 1073741824 (l,0,0) k;have q:l=enc (gJ l).1.toNat++(gJ l).2.1:=w;have p:(gJ l).2.1=enc (jc l).1.toNat++(jc l).2.1:=v;have o:(jc l).2.1=enc (rdNum l).1.toNat++(rdNum l).2.1:=u;have n:(rdNum l).2.1=aN (im l).1++(im l).2.1:=t;have m:(im l).2.1=ep z++st.1:=s;rw[bY,pE];simp only[gM];rw[nS,r,List.append_nil]at*;conv=>rhs;rw[q,p,o,n,m,s1]
    simp only[List.append_assoc]
   ·rw[if_neg c]at h;cases h
structure iy(c:CV):Prop where
 owner:c.nm.owner.size<=1048576
 text:c.nm.text.size<=1048576
theorem yC:∀(M:List CV)(p:Nat)(r:List UInt8)(L:List CV),(∀c∈M,jw c=true)->(∀c∈M,iy c)->∃b,ko M.length (M.flatMap kx++r,p,0) L=some (L++M,(r,b,0))
 |[],p,r,L,_,_=>⟨p,by simp[ko]⟩
 |c::M,p,r,L,f,g=>by
  have a0:=f c (by simp);have e:=g c (by simp);simp only[jw,Bool.and_eq_true,decide_eq_true_eq]at a0;have a4:=eS c.nm;have b1:=e.owner;have b2:=e.text;have t0:dH ((c::M).flatMap kx++r,p,0)=(bZ c.nm,(jG c.bw++(aN (aQ c.value)++(M.flatMap kx++r)),p+(aN (bZ c.nm)).length,0)):=by
   unfold dH;rw[List.flatMap_cons,kx,List.append_assoc,List.append_assoc,List.append_assoc];exact ij (bZ c.nm) 16777216 (by omega) (by omega) _ p
  have t1:=Fe c.bw (aN (aQ c.value)++(M.flatMap kx++r)) (p+(aN (bZ c.nm)).length);have t2:∀q,aV (aN (aQ c.value)++(M.flatMap kx++r),q,0)=(aQ c.value,(M.flatMap kx++r,q+(aN (aQ c.value)).length,0)):=λq=>by
   unfold aV;exact ij (aQ c.value) 65536 (by rw[aL];omega) (by rw[aL];omega) _ _
  have t3:dh (bZ c.nm)=(c.nm,0):=yc a0.1.1 (by omega);rw[List.length_cons,ko,t0];simp only;rw[t3];simp only[ne_eq,not_true_eq_false,if_false];rw[t1];simp only;rw[t2];simp only;obtain⟨b,h⟩:=yC M (p+(aN (bZ c.nm)).length+1+(aN (aQ c.value)).length) r (L++[c]) (λd a=>f d (by simp[a])) (λd a=>g d (by simp[a]));refine⟨b,?_⟩;rw[show L++c::M=L++[c]++M by simp,<-h];rfl
theorem JB(c:CV):3<=(kx c).length:=by
 have a:=kN (bZ c.nm);have b:=kN (aQ c.value);simp only[kx,jG,aT,List.length_cons,List.length_nil];omega
theorem rM:∀M:List CV,3*M.length<=(M.flatMap kx).length
 |[]=>by simp
 |c::M=>by
  have a:=JB c;have b:=rM M;simp only[List.flatMap_cons,aT,List.length_cons];omega
theorem j7:∀{l:List CV},gz l=true->∀c∈l,jw c=true
 |[],_,_,h=>by cases h
 |d::r,h,c,a=>by
  simp only[gz,Bool.and_eq_true]at h;rcases List.mem_cons.1 a with rfl|a;·exact h.1.1
  ·exact j7 h.2 c a
theorem wM(M:List CV)(p:Nat)(r:List UInt8)(d:∀c∈M,jw c=true)(e:∀c∈M,iy c)(g:(ep M++r).length<9223372036854775808):∃a,ik (ep M++r,p,0)=some (M,(r,a,0)):=by
 have f:=rM M;unfold ik;have hm:((M.length:Nat):Int)<=(((ep M++r).length:Nat):Int):=by
  rw[ep];simp only[aT];omega
 have b:M.length<9223372036854775808:=by omega
 simp only;generalize(((ep M++r).length:Nat):Int)=aS at hm;rw[ep,List.append_assoc,jk M.length aS b hm _ p];simp only[Int.toNat_natCast];obtain⟨a,h⟩:=yC M (p+(enc M.length).length) r [] d e;exact⟨a,h⟩
theorem Hm{a:ActV}(f:fR a=true)(r:a.key.fD.size<=16777216)(h:∀c∈a.reads,iy c)(i:∀c∈a.writes,iy c)(hlen:(bY a).length<9223372036854775808):jo (bY a)=some a:=by
 have g:=f;simp only[fR,Bool.and_eq_true]at f;obtain⟨⟨e,k⟩,hw⟩:=f;obtain⟨⟨t,c,n,li⟩,z,W⟩:=a;simp only at r h i e k hw;simp only[dZ,Bool.and_eq_true,decide_eq_true_eq]at e;obtain⟨⟨⟨⟨t0,t1⟩,u,v⟩,⟨n0,n1⟩,_⟩,_⟩:=e;obtain⟨t,rfl⟩:∃q:Nat,t=(q:Int):=⟨t.toNat,by omega⟩;obtain⟨c,rfl⟩:∃q:Nat,c=(q:Int):=⟨c.toNat,by omega⟩;obtain⟨n,rfl⟩:∃q:Nat,n=(q:Int):=⟨n.toNat,by omega⟩;have o:bY ⟨⟨t,c,n,li⟩,z,W⟩=enc t++(enc c++(enc n++(aN (aQ li)++(ep z++ep W)))):=by
  simp[bY,pE]
 rw[o]at hlen⊢;obtain⟨l,j⟩:∃l,enc t++(enc c++(enc n++(aN (aQ li)++(ep z++ep W))))=l:=⟨_,rfl⟩;have d1:gJ l=((t:Int),(enc c++(enc n++(aN (aQ li)++(ep z++ep W))),0+(enc t).length,0)):=by
  rw[<-j];exact jk t 1073741824 (by omega) (by omega) _ 0
 have d2:∃p,jc l=((c:Int),(enc n++(aN (aQ li)++(ep z++ep W)),p,0)):=by
  rw[jc,d1];exact⟨_,jk c 2 (by omega) (by omega) _ _⟩
 obtain⟨w,d2⟩:=d2;have d3:∃p,rdNum l=((n:Int),(aN (aQ li)++(ep z++ep W),p,0)):=by
  rw[rdNum,d2];exact⟨_,jk n 999999 (by omega) (by omega) _ _⟩
 obtain⟨x,d3⟩:=d3;have d4:∃p,im l=(aQ li,(ep z++ep W,p,0)):=by
  rw[im,d3];exact⟨_,ij (aQ li) 16777216 (by rw[aL];omega) (by rw[aL];omega) _ _⟩
 obtain⟨m,d4⟩:=d4;have b:(ep z++(ep W++[])).length<9223372036854775808:=by
  simp only[aT,List.length_nil]at hlen⊢;omega
 obtain⟨s,d5⟩:=wM z m (ep W++[]) (j7 k) h b;obtain⟨y,d6⟩:=wM W s [] (j7 hw) i (by simp only[aT,List.length_nil]at b⊢;omega);rw[List.append_nil]at d5 d6;have d:gM l=(⟨t,c,n,⟨(aQ li).toArray⟩⟩,(ep z++ep W,m,0)):=by
  rw[gM,d1,d2,d3,d4]
 rw[j,jo,d];simp only;rw[d5];simp only;rw[d6];simp only;rw[if_pos ⟨rfl,g⟩];rfl
def ew(a b:dM):Int:=bh (ec a.tick b.tick) (bh (ec a.cls b.cls) (bh (ec a.num b.num) (lH a.fD b.fD)))
theorem iU:gV ew:=
 (fm.lex (fm.lex (fm.lex AV))).pull (λk:dM=>(k.tick,k.cls,k.num,k.fD)) (λa b e=>by
  cases a;cases b;simpa using e)
def dP(L:List ActV)(a:ActV):Int×List ActV:=
 if fR a=false then(3,L)else
 match L.getLast? with
 |some b=>if ew a.key b.key<=0 then(32,L)else(0,L++[a])
 |none=>(0,L++[a])
def eY(L:List ActV)(E:List Ent):List Ent:=L.foldl (λe a=>jq a.writes e) E
theorem re(L:List ActV)(a:ActV)(E:List Ent):eY (L++[a]) E=jq a.writes (eY L E):=by
 simp[eY]
theorem Fl{L:List ActV}{k:Nat}{a:ActV}(h:L[k]? =some a)(E:List Ent):eY (L.take (k+1)) E=jq a.writes (eY (L.take k) E):=by
 rw[List.take_add_one,h,Option.toList_some,re]
structure fX(a:ActV):Prop where
 fD:a.key.fD.size<=100
 reads:∀c∈a.reads,eo c
 writes:∀c∈a.writes,eo c
 nr:a.reads.length<=6
 nw:a.writes.length<=6
theorem eo.cv{c:CV}(h:eo c):iy c:=⟨by have:=h.owner;omega,by have:=h.text;omega⟩
theorem wC{a:ActV}(h:fR a=true):dZ a.key=true/\gz a.reads=true/\gz a.writes=true:=by
 simp only[fR,Bool.and_eq_true]at h;exact⟨h.1.1,h.1.2,h.2⟩
theorem oD{a:ActV}(h:fR a=true):∀c∈a.writes,da c.nm=true:=λc b=>by
 have:=j7 (wC h).2.2 c b;simp only[jw,Bool.and_eq_true]at this;exact this.1.1
theorem DU{c:CV}(h:eo c):(kx c).length<=500:=by
 have a:=h.owner;have b:=h.text;have d:=h.value;have e:=eS c.nm;have f:=aY (bZ c.nm).length;have g:=aY (aQ c.value).length;have i:=aL c.value;simp only[kx,aN,jG,aT,List.length_cons,List.length_nil];omega
theorem qJ:∀(l:List CV),(∀c∈l,eo c)->(l.flatMap kx).length<=500*l.length
 |[],_=>by simp
 |c::l,h=>by
  have b:=DU (h c (by simp));have e:=qJ l (λd a=>h d (by simp[a]));simp only[List.flatMap_cons,aT,List.length_cons];omega
theorem fX.len{a:ActV}(h:fX a):(bY a).length<=6300:=by
 have e:=qJ a.reads h.reads;have f:=qJ a.writes h.writes;have g:=h.nr;have i:=h.nw;have j:=aY a.reads.length;have k:=aY a.writes.length;have l:=aY a.key.tick.toNat;have m:=aY a.key.cls.toNat;have n:=aY a.key.num.toNat;have b:=aY (aQ a.key.fD).length;have c:=aL a.key.fD;have d:=h.fD;simp only[bY,pE,ep,aN,aT];omega
theorem fX.dec{a:ActV}(h:fX a)(d:fR a=true):jo (bY a)=some a:=
 Hm d (by have:=h.fD;omega) (λc b=>(h.reads c b).cv) (λc b=>(h.writes c b).cv) (by have:=h.len;omega)
structure ej(L:List ActV):Prop where
 ok:∀a∈L,fR a=true
 small:∀a∈L,fX a
 len:L.length<=16
 ord:L.Pairwise (λa b=>ew a.key b.key<0)
theorem ej.nil:ej []:=⟨λ_ h=>(by cases h),λ_ h=>(by cases h),Nat.zero_le _,List.Pairwise.nil⟩
theorem kY(L:List ActV)(a:ActV):((dP L a).1≠0/\(dP L a).2=L)\/((dP L a).1=0/\(dP L a).2=L++[a]/\fR a=true):=by
 unfold dP;cases h:fR a;·simp
 ·simp only[Bool.true_eq_false,if_false];split
  ·split;·exact .inl ⟨by simp,rfl⟩
   ·exact .inr ⟨rfl,rfl,trivial⟩
  ·exact .inr ⟨rfl,rfl,trivial⟩
theorem DG(L:List ActV)(a:ActV)(h:(dP L a).1=0):∀b,L.getLast?=some b->ew b.key a.key<0:=λb c=>by
 unfold dP at h;split at h;·cases h
 ·rw[c]at h;simp only at h;split at h;·cases h
  ·have:=iU.lG b.key a.key;omega
theorem Ca:∀{L:List ActV},L.Pairwise (λa b=>ew a.key b.key<0)->∀b,L.getLast?=some b->∀x∈L,ew x.key b.key<=0
 |[],_,_,h,_,_=>by cases h
 |[c],_,b,h,x,e=>by
  rw[List.mem_singleton.1 e];obtain rfl:c=b:=by simpa using h
  rw[iU.refl];exact Int.le_refl 0
 |c::d::L,g,b,h,x,e=>by
  have f:(d::L).getLast?=some b:=by simpa using h
  rcases List.mem_cons.1 e with rfl|e;·have:=(List.pairwise_cons.1 g).1 b (List.mem_of_getLast? f);omega
  ·exact Ca (List.pairwise_cons.1 g).2 b f x e
theorem ej.append{L:List ActV}{a:ActV}(h:ej L)(j:fX a)(l:L.length<16):ej (dP L a).2:=by
 rcases kY L a with⟨_,e⟩|⟨g,e,i⟩;·rw[e];exact h
 ·rw[e];refine⟨λb c=>?_,λb c=>?_,by rw[aT];simp;omega,?_⟩
  ·rcases List.mem_append.1 c with c|c;·exact h.ok b c
   ·rw[List.mem_singleton.1 c];exact i
  ·rcases List.mem_append.1 c with c|c;·exact h.small b c
   ·rw[List.mem_singleton.1 c];exact j
  ·refine List.pairwise_append.2 ⟨h.ord,List.pairwise_singleton _ _,λx f y k=>?_⟩;rw[List.mem_singleton.1 k];have d:L≠[]:=by rintro rfl;cases f
   obtain⟨b,c⟩:∃b,L.getLast?=some b:=⟨L.getLast d,List.getLast?_eq_some_getLast d⟩;exact iU.Iu (Ca h.ord b c x f) (DG L a g b c)
theorem kI:∀(L:List ActV)(E:List Ent)(m:Nat),cM m E->(∀a∈L,fR a=true)->(∀a∈L,fX a)->cM (m+6*L.length) (eY L E)
 |[],_,_,h,_,_=>h
 |a::L,E,m,h,e,f=>by
  have d:=f a (by simp);have g:=rh a.writes E m h d.writes (oD (e a (by simp)));have i:=kI L (jq a.writes E) (m+a.writes.length) g (λb c=>e b (by simp[c])) (λb c=>f b (by simp[c]));have:=d.nw;exact i.more (by simp only[List.length_cons];omega)
theorem Jr{L:List ActV}(h:ej L){k:Nat}{a:ActV}(c:L[k]? =some a):dP (L.take k) a=(0,L.take (k+1)):=by
 have g:=h.ok a (List.mem_of_getElem? c);have f:L.take (k+1)=L.take k++[a]:=by rw[List.take_add_one,c,Option.toList_some]
 unfold dP;rw[if_neg (by rw[g];decide),f];have d:(L.take (k+1)).Pairwise (λa b=>ew a.key b.key<0):=h.ord.sublist (List.take_sublist _ _);rw[f]at d;cases e:(L.take k).getLast? with
 |none=>rfl
 |some b=>
  have i:=(List.pairwise_append.1 d).2.2 b (List.mem_of_getLast? e) a (by simp);have j:=iU.lG b.key a.key;simp only;rw[if_neg (by omega)]
theorem ej.take{L:List ActV}(h:ej L)(k:Nat):ej (L.take k):=
 ⟨λa b=>h.ok a (List.mem_of_mem_take b),λa b=>h.small a (List.mem_of_mem_take b),by have:=h.len;rw[List.length_take];omega,h.ord.sublist (List.take_sublist _ _)⟩
def Ty(w:World)(k:Nat)(t:TypeId):Prop:=∃cs,w.heap[k]? =some (.cells cs t (0,0))
theorem aq.ty{w:World}{g:Nat}{t:TypeId}{cs:Array Value}(h:aq w g t cs):Ty w g t:=⟨cs,h⟩
theorem Ty.one{w:World}{k:Nat}{t b:TypeId}(h:Ty w k t)(a:Ty w k b):t=b:=by
 obtain⟨cs,h⟩:=h;obtain⟨cs',a⟩:=a;rw[h]at a;injection a with a;injection a with _ c
theorem jC{w:World}{base:Nat}{e:TypeId}{size n:Nat}{v:Value}{xs:List Value}(h:w.ownsRow base e size v n xs){k:Nat}(a:v.ownBlock=some k):Ty w k e:=by
 rcases h.2 with⟨rfl,_⟩|⟨b,cap,cur,rfl,_,c,_⟩;·simp[Value.ownBlock]at a
 ·have:b=k:=by simpa[Value.ownBlock]using a
  subst this;exact⟨cur,c⟩
def fN(w:World)(T:Nat->Prop):Prop:=∀k,T k->¬Ty w k 177/\¬Ty w k 174/\¬Ty w k 119
theorem fN.nothing(w:World):fN w Nothing:=λ_ h=>h.elim
theorem fN.of{w:World}{T:Nat->Prop}(h:∀k,T k->∃t,Ty w k t/\t≠177/\t≠174/\t≠119):fN w T:=λk e=>by
 obtain⟨t,a,b,c,d⟩:=h k e;exact⟨λx=>b (a.one x),λx=>c (a.one x),λx=>d (a.one x)⟩
theorem fN.new{w w':World}{T:Nat->Prop}(f:Fr Nothing w w')(h:∀k,T k->k<w.heap.size)(hF:fN w T):fN w' T:=λk a=>by
 have e:=f.block k (h k a) id;obtain⟨b,c,d⟩:=hF k a;exact⟨λ⟨cs,x⟩=>b ⟨cs,by rw[<-e];exact x⟩,λ⟨cs,x⟩=>c ⟨cs,by rw[<-e];exact x⟩,λ⟨cs,x⟩=>d ⟨cs,by rw[<-e];exact x⟩⟩
theorem ck.cJ{w w':World}{T:Nat->Prop}(b:Fr T w w')(hT:fN w T):∀{a:Option Addr}{t:Tr},ck w a t->ck w' a t
 |_, .leaf,h=>h
 |_, .node _ _ _ _,⟨k,g,ra,e,d,f,c⟩=>⟨k,g,ra,e,d.cJ b hT,f.cJ b hT,c.fr b (λx=>(hT k x).1 c.ty)⟩
theorem dQ.cJ{w w':World}{T:Nat->Prop}{s:Nat}{L:List Ent}(h:dQ w s L)(b:Fr T w w')(hT:fN w T):dQ w' s L:=by
 obtain⟨t,⟨a,c,d⟩,e⟩:=h;exact⟨t,⟨a,c.fr b (λx=>(hT s x).2.1 c.ty),d.cJ b hT⟩,e⟩
def ed(w:World)(v:Value)(l:List CV):Prop:=w.ownsRow 0 119 7 v l.length (l.flatMap CV.cells)
theorem ed.cJ{w w':World}{T:Nat->Prop}{v:Value}{l:List CV}(h:ed w v l)(a:Fr T w w')(hT:fN w T):ed w' v l:=
 aP h a (λk b c=>(hT k c).2.2 (jC h b))
theorem ed.ao{w w':World}{v:Value}{l:List CV}(h:ed w v l)(a:Fr Nothing w w'):ed w' v l:=h.cJ a (fN.nothing w)
theorem ed.nil(w:World):ed w (.slice none 0 0) []:=⟨rfl, .inl ⟨rfl,rfl⟩⟩
theorem ed.cl{w:World}{v:Value}{l:List CV}(h:ed w v l):∃A n c,v= .slice A n c/\n=l.length/\n<=c/\CL w (λ_=>True) A n l:=by
 obtain⟨A,n,c,rfl,a,d⟩:=aK h;refine⟨A,n,c,rfl,a.out,?_,?_⟩
 ·rcases h.2 with⟨e,_⟩|⟨g,cap,cur,e,_,_,b,_⟩;·cases e;exact Nat.le_refl _
  ·cases e;exact b
 ·have e:=a.out;subst e;exact⟨(Rd.ia h).any,rfl⟩
def dM.cells(k:dM):List Value:=[.int .i64 k.tick, .int .i64 k.cls, .int .i64 k.num, .string k.fD]
def cL(w:World)(cs:List Value)(a:ActV):Prop:=∃b c,cs=a.key.cells++[b,c]/\ed w b a.reads/\ed w c a.writes
theorem cL.cJ{w w':World}{T:Nat->Prop}{cs:List Value}{a:ActV}(h:cL w cs a)(b:Fr T w w')(hT:fN w T):cL w' cs a:=by
 obtain⟨f,g,e,c,d⟩:=h;exact⟨f,g,e,c.cJ b hT,d.cJ b hT⟩
theorem cL.ao{w w':World}{cs:List Value}{a:ActV}(h:cL w cs a)(b:Fr Nothing w w'):cL w' cs a:=h.cJ b (fN.nothing w)
theorem cL.len{w:World}{cs:List Value}{a:ActV}(h:cL w cs a):cs.length=6:=by
 obtain⟨b,c,rfl,_⟩:=h;rfl
def dJ(w:World):List (List Value)->List ActV->Prop
 |[],[]=>True
 |c::cs,a::l=>cL w c a/\dJ w cs l
 |_,_=>False
theorem dJ.cJ{w w':World}{T:Nat->Prop}(a:Fr T w w')(hT:fN w T):∀{cs:List (List Value)}{l:List ActV},dJ w cs l->dJ w' cs l
 |[],[],_=>trivial
 |_::_,_::_,h=>⟨h.1.cJ a hT,dJ.cJ a hT h.2⟩
 |[],_::_,h=>h.elim
 |_::_,[],h=>h.elim
theorem dJ.snoc{w:World}:∀{cs:List (List Value)}{l:List ActV}{c:List Value}{a:ActV},dJ w cs l->cL w c a->dJ w (cs++[c]) (l++[a])
 |[],[],_,_,_,h=>⟨h,trivial⟩
 |_::_,_::_,_,_,h,k=>⟨h.1,dJ.snoc h.2 k⟩
 |[],_::_,_,_,h,_=>h.elim
 |_::_,[],_,_,h,_=>h.elim
theorem dJ.len{w:World}:∀{cs:List (List Value)}{l:List ActV},dJ w cs l->cs.length=l.length
 |[],[],_=>rfl
 |_::_,_::_,h=>by simp[dJ.len h.2]
 |[],_::_,h=>h.elim
 |_::_,[],h=>h.elim
theorem dJ.at_{w:World}:∀{cs:List (List Value)}{l:List ActV}{k:Nat},dJ w cs l->k<l.length->∃c a,cs[k]? =some c/\l[k]? =some a/\cL w c a/\∀j x,c[j]? =some x->cs.flatten[k*6+j]? =some x
 |c::cs,a::l,0,h,_=>⟨c,a,rfl,rfl,h.1,λj x b=>by
   rw[List.flatten_cons,Nat.zero_mul,Nat.zero_add,List.getElem?_append_left (List.getElem?_eq_some_iff.1 b).1];exact b⟩
 |c::cs,a::l,k+1,h,d=>by
  obtain⟨f,e,g,i,m,n⟩:=dJ.at_ (k:=k) h.2 (by simpa using d);refine⟨f,e,by simpa using g,by simpa using i,m,λj x b=>?_⟩;rw[List.flatten_cons,List.getElem?_append_right (by rw[h.1.len];omega),h.1.len,show(k+1)*6+j-6=k*6+j by omega];exact n j x b
 |[],_::_,_,h,_=>h.elim
 |_::_,[],_,h,_=>h.elim
 |[],[],_,_,d=>absurd d (by simp)
theorem dJ.take{w:World}:∀{cs:List (List Value)}{l:List ActV}(k:Nat),dJ w cs l->dJ w (cs.take k) (l.take k)
 |[],[],_,_=>by simp[dJ]
 |_::_,_::_,0,_=>by simp[dJ]
 |_::_,_::_,k+1,h=>⟨h.1,dJ.take k h.2⟩
 |[],_::_,_,h=>h.elim
 |_::_,[],_,h=>h.elim
def ki(w:World)(v:Value)(l:List ActV):Prop:=∃cs,w.ownsRow 0 46 6 v l.length cs.flatten/\dJ w cs l
theorem ki.cJ{w w':World}{T:Nat->Prop}{v:Value}{l:List ActV}(h:ki w v l)(a:Fr T w w')(hT:fN w T)(d:∀k,v.ownBlock=some k->¬T k):ki w' v l:=by
 obtain⟨cs,b,c⟩:=h;exact⟨cs,aP b a d,c.cJ a hT⟩
theorem ki.ao{w w':World}{v:Value}{l:List ActV}(h:ki w v l)(a:Fr Nothing w w'):ki w' v l:=h.cJ a (fN.nothing w) (λ_ _ x=>x)
theorem ki.nil(w:World):ki w (.slice none 0 0) []:=⟨[],⟨rfl, .inl ⟨rfl,rfl⟩⟩,trivial⟩
def fE(l:List CV)(k:Nat):Bool:=match l[k]? with
 |some c=>jw c&&(match k with|0=>true|j+1=>match l[j]? with|some d=>decide (bL d.nm c.nm<0)|none=>true)
 |none=>true
theorem sY:∀(l:List CV),gz l=true↔∀k,k<l.length->fE l k=true
 |[]=>by simp[gz]
 |[c]=>by
  simp only[gz,Bool.and_true,List.length_singleton];constructor
  ·intro h k b;obtain rfl:k=0:=by omega
   simp[fE,h]
  ·intro h;have:=h 0 (by omega);simpa[fE]using this
 |c::d::r=>by
  have j:=sY (d::r);have e:gz (c::d::r)=(jw c&&decide (bL c.nm d.nm<0)&&gz (d::r)):=rfl;rw[e];simp only[Bool.and_eq_true];rw[j];constructor
  ·rintro⟨⟨g,i⟩,f⟩k b;rcases k with _|_|k;·simp[fE,g]
   ·have a:=f 0 (by simp);simp only[fE,List.getElem?_cons_zero,Bool.and_true]at a;simp[fE,a];simpa using i
   ·have a:=f (k+1) (by simpa using b);simpa[fE]using a
  ·intro h;refine⟨⟨?_,?_⟩,λk b=>?_⟩;·have:=h 0 (by simp);simpa[fE]using this
   ·have:=h 1 (by simp);simp[fE]at this;simpa using this.2
   ·have:=h (k+1) (by simpa using b);rcases k with _|k;·simp[fE]at this⊢;exact this.1
    ·simpa[fE]using this
theorem IB{l:List CV}{k:Nat}(a:k<l.length)(h:fE l k=false):gz l=false:=by
 cases e:gz l;·rfl
 ·have:=(sY l).1 e k a;rw[h]at this;cases this
theorem IA{l:List CV}(h:∀k,k<l.length->fE l k=true):gz l=true:=(sY l).2 h
theorem BY{l:List CV}{c:CV}(h:l[0]? =some c):fE l 0=jw c:=by
 simp[fE,h]
theorem BV{l:List CV}{k:Nat}{c d:CV}(h:l[k+1]? =some c)(a:l[k]? =some d):fE l (k+1)=(jw c&&decide (bL d.nm c.nm<0)):=by
 simp[fE,h,a]
theorem gj:(prog.info? 43).map (·.size)=some 4:=by kernel_rfl
theorem bQ:(prog.info? 46).map (·.size)=some 6:=by kernel_rfl
def tH(w:World)(k:dM)(e:Ending)(w':World):Prop:=∃c:Int,e= .returned (.int .i64 c)/\(c==0)=dZ k/\Fr Nothing w w'
theorem xm(k:dM)(w:World)(v:k.fD.size<=1099511627776):
  Calls prog 111 #[.agg k.cells.toArray] w (tH w k):=by
 obtain⟨t,c,n,s⟩:=k;simp only at v;have CV:Hid (∀w',Calls prog 151 #[.string s] w' (aM w' (.bool (dj s)))):=λw'=>oe s w' v;obtain⟨va,d⟩:∃va,dj s=va:=⟨_,rfl⟩;rw[d]at CV;obtain⟨em,p⟩:∃em,s.toList.isEmpty=em:=⟨_,rfl⟩;have f:Hid (dZ ⟨t,c,n,s⟩=(decide (0<=t)&&decide (t<=1073741824)&&(decide (0<=c)&&decide (c<=2))&&(decide (0<=n)&&decide (n<=999999)&&!(c==0&&n==0))&&(if c=0 then em else(!em&&va&&!(c==2&&n !=0))))):=by
  rw[<-d,<-p];rfl
 have o:s.toList.isEmpty=em:=p;clear p;clear d v;unfold dM.cells;go_enter func111,ntmps111;go_wp2_with(refine aD rfl 43 (.tmp 0) rfl _ rfl ?_);intro w1 n1;have z:=af n1.fr;have q:=af n1.aF;clear n1;generalize w.heap.size=g at*;have H:w1.cell? ⟨g,0,none⟩=some (.int .i64 t):=q.out.cell 0;have E:w1.cell? ⟨g,1,none⟩=some (.int .i64 c):=q.out.cell 1;have F:w1.cell? ⟨g,2,none⟩=some (.int .i64 n):=q.out.cell 2;have c3:w1.cell? ⟨g,3,none⟩=some (.string s):=q.out.cell 3;clear q;have done:∀k:Int,(k==0)=dZ ⟨t,c,n,s⟩->tH w ⟨t,c,n,s⟩ (.returned (.int .i64 k)) w1:=λk G=>⟨k,rfl,G,z.out⟩;have j:=af done;clear done;by_cases h:t<0
 ·have t1:decide (t<0)=true:=decide_eq_true h;have Z:Hid (((2:Int)==0)=dZ ⟨t,c,n,s⟩):=by rw[Hid,f.out,ct (show¬0<=t by omega)];rfl
  clear h f;go_wp2;go_ret;exact j.out _ Z.out
 have C:=af h;have t1:decide (t<0)=false:=ct (by omega);clear h;by_cases h:1073741824<t
 ·have t2:decide (1073741824<t)=true:=decide_eq_true h;have Z:Hid (((2:Int)==0)=dZ ⟨t,c,n,s⟩):=by rw[Hid,f.out,ct (show¬t<=1073741824 by omega)];simp
  clear h f;go_wp2;go_ret;exact j.out _ Z.out
 have D:=af h;have t2:decide (1073741824<t)=false:=ct (by omega);clear h;by_cases h:c<0
 ·have t3:decide (c<0)=true:=decide_eq_true h;have Z:Hid (((11:Int)==0)=dZ ⟨t,c,n,s⟩):=by rw[Hid,f.out,ct (show¬0<=c by omega)];simp
  clear h f;go_wp2;go_ret;exact j.out _ Z.out
 have x:=af h;have t3:decide (c<0)=false:=ct (by omega);clear h;by_cases h:2<c
 ·have t4:decide (2<c)=true:=decide_eq_true h;have Z:Hid (((11:Int)==0)=dZ ⟨t,c,n,s⟩):=by rw[Hid,f.out,ct (show¬c<=2 by omega)];simp
  clear h f;go_wp2;go_ret;exact j.out _ Z.out
 have y:=af h;have t4:decide (2<c)=false:=ct (by omega);clear h;by_cases h:n<0
 ·have t5:decide (n<0)=true:=decide_eq_true h;have Z:Hid (((2:Int)==0)=dZ ⟨t,c,n,s⟩):=by rw[Hid,f.out,ct (show¬0<=n by omega)];simp
  clear h f;go_wp2;go_ret;exact j.out _ Z.out
 have A:=af h;have t5:decide (n<0)=false:=ct (by omega);clear h;by_cases h:999999<n
 ·have t6:decide (999999<n)=true:=decide_eq_true h;have Z:Hid (((2:Int)==0)=dZ ⟨t,c,n,s⟩):=by rw[Hid,f.out,ct (show¬n<=999999 by omega)];simp
  clear h f;go_wp2;go_ret;exact j.out _ Z.out
 have B:=af h;have t6:decide (999999<n)=false:=ct (by omega);clear h;have b:Hid (dZ ⟨t,c,n,s⟩=(!(c==0&&n==0)&&(if c=0 then em else(!em&&va&&!(c==2&&n !=0))))):=by
  rw[Hid,f.out,cX (show 0<=t from Int.not_lt.1 C.out),cX (show t<=1073741824 from Int.not_lt.1 D.out),cX (show 0<=c from Int.not_lt.1 x.out),cX (show c<=2 from Int.not_lt.1 y.out),cX (show 0<=n from Int.not_lt.1 A.out),cX (show n<=999999 from Int.not_lt.1 B.out)];simp
 clear f C D x y A B;by_cases h:c=0
 ·have t7:(c==0)=true:=by rw[beq_iff_eq];exact h
  have r:=af h;clear h;by_cases h:n=0
  ·have t8:(n==0)=true:=by rw[beq_iff_eq];exact h
   have Z:Hid (((2:Int)==0)=dZ ⟨t,c,n,s⟩):=by rw[Hid,b.out,t7,t8];rfl
   clear h b r;go_wp2;go_ret;exact j.out _ Z.out
  ·have t8:(n==0)=false:=by rw[beq_eq_false_iff_ne];exact h
   cases a:em
   ·have Z:Hid (((3:Int)==0)=dZ ⟨t,c,n,s⟩):=by rw[Hid,b.out,t7,t8,if_pos r.out,a];rfl
    rw[a]at o;clear h b r a;go_wp2;go_ret;exact j.out _ Z.out
   ·have Z:Hid (((0:Int)==0)=dZ ⟨t,c,n,s⟩):=by rw[Hid,b.out,t7,t8,if_pos r.out,a];rfl
    rw[a]at o;clear h b r a;go_wp2;go_ret;exact j.out _ Z.out
 ·have t7:(c==0)=false:=by rw[beq_eq_false_iff_ne];exact h
  have l:Hid (dZ ⟨t,c,n,s⟩=(!em&&va&&!(c==2&&n !=0))):=by rw[Hid,b.out,t7,if_neg h];simp
  clear h b;cases a:em
  ·rw[a]at o;have m:Hid (dZ ⟨t,c,n,s⟩=(va&&!(c==2&&n !=0))):=by rw[Hid,l.out,a];rfl
   clear l a;go_wp2_with fail;refine(CV.out _).mono ?_;rintro e w2⟨rfl,f2⟩;have E:w2.cell? ⟨g,1,none⟩=some (.int .i64 c):=f2.ak E id;have F:w2.cell? ⟨g,2,none⟩=some (.int .i64 n):=f2.ak F id;have u:=af (z.out.trans f2);clear f2 j CV;cases d:va
   ·have Z:Hid (((12:Int)==0)=dZ ⟨t,c,n,s⟩):=by rw[Hid,m.out,d];rfl
    clear m d;go_wp2;go_ret;exact⟨_,rfl,Z.out,u.out⟩
   ·have i:Hid (dZ ⟨t,c,n,s⟩=!(c==2&&n !=0)):=by rw[Hid,m.out,d];rfl
    clear m d;cases t8:c==2
    ·have Z:Hid (((0:Int)==0)=dZ ⟨t,c,n,s⟩):=by rw[Hid,i.out,t8];rfl
     clear i;go_wp2;go_ret;exact⟨_,rfl,Z.out,u.out⟩
    ·cases t9:n !=0
     ·have Z:Hid (((0:Int)==0)=dZ ⟨t,c,n,s⟩):=by rw[Hid,i.out,t8,t9];rfl
      clear i;go_wp2;go_ret;exact⟨_,rfl,Z.out,u.out⟩
     ·have Z:Hid (((3:Int)==0)=dZ ⟨t,c,n,s⟩):=by rw[Hid,i.out,t8,t9];rfl
      clear i;go_wp2;go_ret;exact⟨_,rfl,Z.out,u.out⟩
  ·rw[a]at o;have Z:Hid (((12:Int)==0)=dZ ⟨t,c,n,s⟩):=by rw[Hid,l.out,a];rfl
   clear l a;go_wp2;go_ret;exact j.out _ Z.out
theorem AL(x y z t:Int):∀(k:Nat)(v:Int),([x,y,z,t])[k]? =some v->v≠0->(∀(j:Nat)(u:Int),j<k->([x,y,z,t])[j]? =some u->u=0)->bh x (bh y (bh z t))=v
 |0,v,a,c,_=>by
  obtain rfl:x=v:=by simpa using a
  simp[bh,c]
 |1,v,a,c,b=>by
  obtain rfl:y=v:=by simpa using a
  have:=b 0 x (by omega) rfl;simp[bh,this,c]
 |2,v,a,c,b=>by
  obtain rfl:z=v:=by simpa using a
  have d:=b 0 x (by omega) rfl;have e:=b 1 y (by omega) rfl;simp[bh,d,e,c]
 |3,v,a,_,b=>by
  obtain rfl:t=v:=by simpa using a
  have d:=b 0 x (by omega) rfl;have e:=b 1 y (by omega) rfl;have f:=b 2 z (by omega) rfl;simp[bh,d,e,f]
 |k+4,v,a,_,_=>by simp at a
theorem zl(x y z t:Int)(a:∀(j:Nat)(u:Int),j<4->([x,y,z,t])[j]? =some u->u=0):bh x (bh y (bh z t))=0:=by
 have b:=a 0 x (by omega) rfl;have c:=a 1 y (by omega) rfl;have d:=a 2 z (by omega) rfl;have e:=a 3 t (by omega) rfl;simp[bh,b,c,d,e]
theorem AW(x y z t:Int)(g:Nat)(w:World)(h:aq w g 3 #[.int .i64 x, .int .i64 y, .int .i64 z, .int .i64 t]):Calls prog 132 #[.slice (some ⟨g,0,none⟩) 4 4] w (bJ w (.int .i64 (bh x (bh y (bh z t))))):=by
 have HB:=af h;have n:Hid (∀k:Nat,k<4->∃v:Int,([x,y,z,t])[k]? =some v/\w.cell? ⟨g,k,none⟩=some (.int .i64 v)):=λk f=>by
  match k,f with
  |0,_=>exact⟨x,rfl,h.cell 0⟩
  |1,_=>exact⟨y,rfl,h.cell 1⟩
  |2,_=>exact⟨z,rfl,h.cell 2⟩
  |3,_=>exact⟨t,rfl,h.cell 3⟩
 clear h;have o:Hid (∀(k:Nat)(v:Int),([x,y,z,t])[k]? =some v->v≠0->(∀(j:Nat)(u:Int),j<k->([x,y,z,t])[j]? =some u->u=0)->bh x (bh y (bh z t))=v):=λk v=>AL x y z t k v;have p:Hid ((∀(j:Nat)(u:Int),j<4->([x,y,z,t])[j]? =some u->u=0)->bh x (bh y (bh z t))=0):=zl x y z t;generalize bh x (bh y (bh z t))=A at*;go_enter func132,ntmps132;go_wp2;go_loopw[8](λi wr=>∃k:Nat,k<=4/\(∀j u,j<k->([x,y,z,t])[j]? =some u->u=0)/\i= .int .i64 k/\w=wr)(λi _=>4-(intOf i).toNat);case atStart=>exact⟨0,by omega,λj u h=>by omega,rfl,rfl⟩
 case round=>
  obtain⟨k,f,m,rfl,rfl⟩:=hrel;have b:=af m;clear m;by_cases c:k<4
  ·have q:(k:Int)<4:=by omega
   obtain⟨v,l,r⟩:=n.out k c;have d:=af l;clear l;by_cases a:v=0
   ·subst a;go_wp2;go_roundw
    case rel=>exact⟨k+1,by omega,λj u s hu=>by
      by_cases e:j=k;·subst e;have:=d.out;rw[hu]at this;cases this;rfl
      ·exact b.out j u (by omega) hu,by go_num,trivial⟩
    case measure=>simp[intOf];omega
   ·have t1:=tJ a;obtain rfl:A=v:=o.out k v d.out a b.out;go_wp2;go_ret;exact⟨rfl,rfl⟩
  ·obtain rfl:k=4:=by omega
   obtain rfl:A=0:=p.out b.out;go_wp2;go_ret;exact⟨rfl,rfl⟩
theorem oO(k m:dM)(w:World)(x:k.fD.size<=1099511627776)(hm:m.fD.size<=1099511627776):Calls prog 85 #[.agg k.cells.toArray, .agg m.cells.toArray] w (aM w (.int .i64 (ew k m))):=by
 have B:Hid (∀w,Calls prog 133 #[.int .i64 k.tick, .int .i64 m.tick] w (bJ w (.int .i64 (ec k.tick m.tick)))):=λw=>iT _ _ w;have C:Hid (∀w,Calls prog 133 #[.int .i64 k.cls, .int .i64 m.cls] w (bJ w (.int .i64 (ec k.cls m.cls)))):=λw=>iT _ _ w;have D:Hid (∀w,Calls prog 133 #[.int .i64 k.num, .int .i64 m.num] w (bJ w (.int .i64 (ec k.num m.num)))):=λw=>iT _ _ w;have E:=af (λw=>lI k.fD m.fD w x hm);have I:Hid (ew k m=bh (ec k.tick m.tick) (bh (ec k.cls m.cls) (bh (ec k.num m.num) (lH k.fD m.fD)))):=rfl;generalize ew k m=O at*;generalize ec k.tick m.tick=o at*;generalize ec k.cls m.cls=p at*;generalize ec k.num m.num=r at*;generalize lH k.fD m.fD=y3 at*;clear x hm;go_enter func85,ntmps85;go_wp2_with(refine aD rfl 43 (.tmp 0) rfl k.cells.toArray rfl ?_);intro w1 n1;have t:=af n1;clear n1;generalize j:w.heap.size=g at*;have f:Hid (aq w1 g 43 k.cells.toArray):=by have h:=t.out.aF;rw[j]at h;exact h
 clear j;go_wp2_with(refine aD rfl 43 (.tmp 1) rfl m.cells.toArray rfl ?_);intro w2 z;have s:=af z;clear z;generalize l:w1.heap.size=i at*;have d:Hid (aq w2 i 43 m.cells.toArray):=by have h:=s.out.aF;rw[l]at h;exact h
 clear l;have c:=af (f.out.fr s.out.fr id);have F:=af (t.out.fr.trans s.out.fr);clear t s f;go_upto_region 1 with fail;refine iH 20 [.pointer (some ⟨g,0,none⟩), .int .i64 k.tick, .pointer (some ⟨i,0,none⟩), .int .i64 m.tick, .int .i64 o, .pointer (some ⟨g,1,none⟩), .int .i64 k.cls, .pointer (some ⟨i,1,none⟩), .int .i64 m.cls, .int .i64 p, .pointer (some ⟨g,2,none⟩), .int .i64 k.num, .pointer (some ⟨i,2,none⟩), .int .i64 m.num, .int .i64 r, .pointer (some ⟨g,3,none⟩), .string k.fD, .pointer (some ⟨i,3,none⟩), .string m.fD, .int .i64 y3] ?zG ?_;case zG=>
  refine⟨?zR,?zH,?zS,?zI,?zJ,?zT,?zK,?zU,?zL,?zM,?zN,?zA,?zO,?zB,?zC,?zP,?zD,?zQ,?zE,?zF,trivial⟩;all_goals intro u w' b a
  all_goals simp only[z1,z2,z3,z4,ar,Act.put,z5,z6,z7,Nat.reduceAdd,Nat.zero_add]
  case zH=>
   simp only[ah (a 0)];refine aI ?_;have q:_=some (Value.int .i64 k.tick):=(c.out.fr b id).cell 0;go_simp;exact aR
  case zI=>
   simp only[ah (a 2)];refine aI ?_;have q:_=some (Value.int .i64 m.tick):=(d.out.fr b id).cell 0;go_simp;exact aR
  case zJ=>
   simp only[ah (a 1),ah (a 3)];refine aI ?_;go_simp;refine(B.out _).mono ?_;rintro e v⟨rfl,rfl⟩;exact aR
  case zK=>
   simp only[ah (a 5)];refine aI ?_;have q:_=some (Value.int .i64 k.cls):=(c.out.fr b id).cell 1;go_simp;exact aR
  case zL=>
   simp only[ah (a 7)];refine aI ?_;have q:_=some (Value.int .i64 m.cls):=(d.out.fr b id).cell 1;go_simp;exact aR
  case zM=>
   simp only[ah (a 6),ah (a 8)];refine aI ?_;go_simp;refine(C.out _).mono ?_;rintro e v⟨rfl,rfl⟩;exact aR
  case zA=>
   simp only[ah (a 10)];refine aI ?_;have q:_=some (Value.int .i64 k.num):=(c.out.fr b id).cell 2;go_simp;exact aR
  case zB=>
   simp only[ah (a 12)];refine aI ?_;have q:_=some (Value.int .i64 m.num):=(d.out.fr b id).cell 2;go_simp;exact aR
  case zC=>
   simp only[ah (a 11),ah (a 13)];refine aI ?_;go_simp;refine(D.out _).mono ?_;rintro e v⟨rfl,rfl⟩;exact aR
  case zD=>
   simp only[ah (a 15)];refine aI ?_;have q:_=some (Value.string k.fD):=(c.out.fr b id).cell 3;go_simp;exact aR
  case zE=>
   simp only[ah (a 17)];refine aI ?_;have q:_=some (Value.string m.fD):=(d.out.fr b id).cell 3;go_simp;exact aR
  case zF=>
   simp only[ah (a 16),ah (a 18)];refine aI ?_;go_simp;refine(E.out _).mono ?_;rintro e v⟨rfl,f4⟩;exact⟨rfl,f4⟩
  all_goals
   refine aI ?_;go_simp;exact aR
 intro w' b;simp only[z1,z2,z3,z4,ar,Act.put,z5,z6,z7,z8,z9,jS,jT,Nat.reduceAdd,Nat.zero_add];have H:=af (F.out.trans b);clear b;obtain⟨i0,L,y,n,M⟩:=info_parts sS;have J:Hid (¬4*i0.size>2^24):=by simp only[Hid];rw[n];omega
 have K:Hid (¬4*i0.size=0):=by simp only[Hid];rw[n];omega
 go_wp2_with fail;have A:Hid (aq (w'.alloc (.cells #[.int .i64 o, .int .i64 p, .int .i64 r, .int .i64 y3] 3)) w'.heap.size 3 #[.int .i64 o, .int .i64 p, .int .i64 r, .int .i64 y3]):=aq.new _ _ _;have G:=af (H.out.trans ((Fr.refl Nothing w').alloc (.cells #[.int .i64 o, .int .i64 p, .int .i64 r, .int .i64 y3] 3)));refine(AW o p r y3 _ _ A.out).mono ?_;rintro e N⟨rfl,rfl⟩;go_wp2;go_ret;rw[I.out];exact⟨rfl,G.out⟩
theorem tD(L:List Ent)(a:ActV)(cs:List Value)(m s:Nat)(w:World)(A:cL w cs a)(u:dQ w s L)(v:dO w)(r:js m L)(x:∀c∈a.writes,xk c)(hm:m+a.writes.length<=60000):
  Calls prog 86 #[.agg cs.toArray, .pointer (some ⟨s,0,none⟩)] w (kW w L a.writes):=by
 obtain⟨D,E,rfl,_,o⟩:=A;obtain⟨h,B,i,rfl,rfl,_,d⟩:=o.cl;have k:Hid (∀w',Fr Nothing w w'->Calls prog 82 #[.pointer (some ⟨s,0,none⟩), .slice h a.writes.length i] w' (kW w' L a.writes)):=λw' f=>uO L a.writes _ m h i _ s w' (u.ao f) (v.ao f) r (d.ao f) x hm;generalize a.writes.length=n at*;obtain⟨⟨t,c,C,li⟩,_,ws⟩:=a;simp only[dM.cells,List.cons_append,List.nil_append]at k⊢;clear u v r x hm o d;go_enter func86,ntmps86;go_wp2_with(refine aD rfl 46 (.tmp 0) rfl _ rfl ?_);intro w1 n1;have l:=af n1.fr;have j:=af n1.aF;clear n1;generalize w.heap.size=g at*;have c5:w1.cell? ⟨g,5,none⟩=some (.slice h n i):=j.out.cell 5;go_wp2_with fail;refine(k.out _ l.out).mono ?_;rintro e w2⟨p,q,rfl,f2,b⟩;have y:=af (l.out.trans f2);have z:=af b;clear f2 b c5 j;go_wp2;go_ret2;exact⟨p,q,rfl,y.out,z.out⟩
theorem mL(L:List Ent)(a:ActV)(cs:List Value)(m s:Nat)(w:World)(b:cL w cs a)(e:dQ w s L)(f:dO w)(d:cM m L)(h:∀c∈a.writes,eo c)(hm:m+a.writes.length<=60000):
  Calls prog 86 #[.agg cs.toArray, .pointer (some ⟨s,0,none⟩)] w (kW w L a.writes):=tD L a cs m s w b e f d.g (λc i=>(h c i).g) hm
theorem Gk(w:World)(a:Option Addr)(l c:Nat):(binOp .eql 44 (.slice a l c) (.slice none 0 0)).run prog w= .ok (.bool a.isNone) w:=by
 simp only[binOp];simp[run_equal_slice_nil w 44 119 a l c underlying44]
def uW(w:World)(l:List CV)(e:Ending)(w':World):Prop:=∃v,e= .returned v/\bT 119 7 w (.slice none 0 0) w' v l.length (l.flatMap CV.cells)
theorem uW.ch{w w':World}{l:List CV}{e:Ending}(h:uW w l e w'):∃v,e= .returned v/\ed w' v l/\Fr Nothing w w'/\∀k,v.ownBlock=some k->w.heap.size<=k:=by
 obtain⟨v,rfl,a⟩:=h;exact⟨v,rfl,a.own,a.ao,a.new⟩
theorem rK(xs:List CV)(n:Nat)(A:Option Addr)(c:Nat)(S:Nat->Prop)(w:World)(a:CL w S A n xs)(r:n<=1099511627776):Calls prog 135 #[.slice A n c] w (uW w xs):=by
 obtain⟨i0,f,m,o,p⟩:=info_parts nX;have t:=af a;have v:=af a.len;have x:Hid (∀u∈xs.flatMap CV.cells,u.oneCell'=true):=by
  intro u hu;obtain⟨d,_,B⟩:=List.mem_flatMap.1 hu;have h:=d.one;rw[Array.all_eq_true_iff_forall_mem]at h;exact h u (by simpa using B)
 cases A with
 |none=>
  have l:n=0:=by
   rcases Nat.eq_zero_or_pos n with h|h;·exact h
   ·obtain⟨g,h,_⟩:=a.rd.2 h;cases h
  subst l;have E:xs=[]:=List.eq_nil_of_length_eq_zero a.len;subst E;have D:∀w:World,(binOp .eql 44 (.slice none 0 c) (.slice none 0 0)).run prog w= .ok (.bool true) w:=λw=>Gk w none 0 c;clear a;go_enter func135,ntmps135;go_wp2;go_ret;exact⟨_,rfl,bT.start ⟨rfl, .inl ⟨rfl,rfl⟩⟩⟩
 |some g=>
  have D:∀w:World,(binOp .eql 44 (.slice (some g) n c) (.slice none 0 0)).run prog w= .ok (.bool false) w:=λw=>Gk w (some g) n c;have i:=af r;clear a r;go_enter func135,ntmps135;go_wp2_with(refine tu rfl 44 119 rfl i0 underlying44 f ?_);intro w1 s;have j:=af s;clear s;generalize e:w.heap.size=g1 at*;have b:=af e;clear e;have z:Hid (w1.ownsRow 0 119 7 (.slice (some ⟨g1,0,none⟩) 0 0) 0 []):=by rw[<-b.out];exact j.out.Km
  go_wp2_with(refine fJ _ rfl _ _ 44 rfl 119 i0 cm 7 80 underlying44 f m o p rfl (by decide) _ _ _ rfl z.out S (some g) n c (xs.flatMap CV.cells) rfl (t.out.ao j.out.fr).rd x.out (by have:=i.out;omega) (by decide) ?_);intro v2 w2 q;have y:Hid (bT 119 7 w (.slice none 0 0) w2 v2 xs.length (xs.flatMap CV.cells)):=by
   have h:=bT.fresh j.out.fr (λk C=>by simp only[Value.ownBlock,Option.some.injEq]at C;have:=b.out;omega) q;rw[Hid,v.out];exact h
  clear q;go_wp2;go_ret;exact⟨_,rfl,y.out⟩
def kr(B:Nat)(cs:List Value):Prop:=∀v∈cs,∀k,v.ownBlock=some k->B<=k
theorem kr.mono{B a:Nat}{cs:List Value}(h:kr B cs)(b:a<=B):kr a cs:=λv d k c=>Nat.le_trans b (h v d k c)
theorem cL.ze{w w':World}{T:Nat->Prop}{cs:List Value}{a:ActV}{B:Nat}(h:cL w cs a)(e:kr B cs)(d:Fr T w w')(hT:∀k,T k->k<B):cL w' cs a:=by
 obtain⟨f,g,rfl,i,j⟩:=h;refine⟨f,g,rfl,aP i d (λk b c=>?_),aP j d (λk b c=>?_)⟩;·have:=hT k c;have:=e f (by simp) k b;omega
 ·have:=hT k c;have:=e g (by simp) k b;omega
def rp(w:World)(a:ActV)(e:Ending)(w':World):Prop:=∃cs,e= .returned (.agg cs.toArray)/\cL w' cs a/\Fr Nothing w w'/\kr w.heap.size cs
theorem xT(t c n:Int)(s:ByteArray)(A B:Option Addr)(x y z u:Nat):prog.built 46 [(0, .agg [Value.int .i64 t, .int .i64 c, .int .i64 n, .string s].toArray),(1, .slice A x y),(2, .slice B z u)]=some ([Value.int .i64 t, .int .i64 c, .int .i64 n, .string s]++[Value.slice A x y, .slice B z u]).toArray:=by kernel_rfl
def eF:Value:= .agg #[.int .i64 0, .int .i64 0, .int .i64 0, .string ByteArray.empty, .slice none 0 0, .slice none 0 0]
theorem kh(w:World):(zeroValue 46).run prog w= .ok eF w:=by kernel_rfl
theorem ActV.one{w:World}{cs:List Value}{a:ActV}(h:cL w cs a):cs.toArray.all (·.oneCell')=true:=by
 obtain⟨f,g,rfl,b,e⟩:=h;obtain⟨A,n,c,rfl,_⟩:=b.cl;obtain⟨B,m,d,rfl,_⟩:=e.cl;simp[dM.cells,Value.oneCell']
theorem ed.form{w:World}{v:Value}{l:List CV}(h:ed w v l):∃A n c,v= .slice A n c/\ed w (.slice A n c) l:=by
 obtain⟨A,n,c,rfl,_⟩:=h.cl;exact⟨A,n,c,rfl,h⟩
theorem ph(a:ActV)(cs:List Value)(w:World)(a3:cL w cs a)(nr:a.reads.length<=1099511627776)(nw:a.writes.length<=1099511627776):
  Calls prog 87 #[.agg cs.toArray] w (rp w a):=by
 obtain⟨b,c,rfl,t,C⟩:=a3;obtain⟨I,a5,K,rfl,rfl,_,Y⟩:=t.cl;obtain⟨J,a6,L,rfl,rfl,_,Z⟩:=C.cl;have P:Hid (∀w',Fr Nothing w w'->Calls prog 135 #[.slice I a.reads.length K] w' (uW w' a.reads)):=λw' f=>rK a.reads _ I K _ w' (Y.ao f) nr;have Q:Hid (∀w',Fr Nothing w w'->Calls prog 135 #[.slice J a.writes.length L] w' (uW w' a.writes)):=λw' f=>rK a.writes _ J L _ w' (Z.ao f) nw;have N:Hid (∀(A B:Option Addr)(x y z u:Nat),prog.built 46 [(0, .agg a.key.cells.toArray),(1, .slice A x y),(2, .slice B z u)]=some (a.key.cells++[Value.slice A x y, .slice B z u]).toArray):=λA B x y z u=>xT _ _ _ _ A B x y z u;have s:Hid ((prog.info? 43).map (·.size)=some a.key.cells.length):=gj;have o:Hid (a.key.cells.length=4):=rfl;have D:Hid (∀(w':World)(b c:Value),ed w' b a.reads->ed w' c a.writes->Fr Nothing w w'->(∀k,b.ownBlock=some k->w.heap.size<=k)->(∀k,c.ownBlock=some k->w.heap.size<=k)->rp w a (.returned (.agg (a.key.cells++[b,c]).toArray)) w'):=λw' b c t C f n1 ag=>⟨_,rfl,⟨b,c,rfl,t,C⟩,f,λv ae k d=>by
  simp only[dM.cells,List.cons_append,List.nil_append,List.mem_cons,List.not_mem_nil,or_false]at ae;rcases ae with rfl|rfl|rfl|rfl|rfl|rfl;·cases d
  ·cases d
  ·cases d
  ·cases d
  ·exact n1 k d
  ·exact ag k d⟩;have E:Hid (∀b c:Value,(a.key.cells++[b,c]).toArray.size=6):=λb c=>rfl;have ay:Hid (∀b c:Value,b.oneCell'=true->c.oneCell'=true->(a.key.cells++[b,c]).toArray.all (·.oneCell')=true):=λb c t C=>by simp only[dM.cells,List.cons_append,List.nil_append,List.all_toArray,List.all_cons,List.all_nil,t,C];rfl
 generalize rp w a=PP at*;generalize a.reads.length=aj at*;generalize a.writes.length=ak at*;generalize a.reads=R at*;generalize a.writes=aC at*;generalize a.key.cells=V at*;clear t C Y Z nr nw;go_enter func87,ntmps87;go_wp2_with(refine aD rfl 46 (.tmp 0) rfl (V++[Value.slice I aj K, .slice J ak L]).toArray rfl ?_);intro w1 n1;have am:=af n1.fr;have aK:=af n1.aF;clear n1;generalize W:w.heap.size=g1 at*;have S:=af W;clear W;go_wp2_with(refine an rfl 46 rfl eF kh #[.int .i64 0, .int .i64 0, .int .i64 0, .string ByteArray.empty, .slice none 0 0, .slice none 0 0] rfl ?_);intro w2 ag;have ad:=af ag;clear ag;generalize X:w1.heap.size=g2 at*;have T:=af X;clear X;have aL:Hid (aq w2 g2 46 #[.int .i64 0, .int .i64 0, .int .i64 0, .string ByteArray.empty, .slice none 0 0, .slice none 0 0]):=by have h:=ad.out.aF;rw[T.out]at h;exact h
 have F2:=af (am.out.trans ad.out.fr);have n:=af (aK.out.fr ad.out.fr id);have ax:Hid (w.heap.size<=g2):=by have:=am.out.size;have:=T.out;simp only[Hid];omega
 have O:Hid (∀w',Fr Nothing w2 w'->∀j x,V[j]? =some x->w'.cell? ((⟨g1,0,none⟩:Addr).add j)=some x):=λw' f j x aS=>by
  rw[Addr.add_mid,Nat.zero_add,(n.out.fr f id).cell j,bP,List.getElem?_append_left (List.getElem?_eq_some_iff.1 aS).1];exact aS
 have aE:Hid (∀w',Fr Nothing w2 w'->w'.cell? {block:=g1,off:=4}=some (.slice I aj K)):=λw' f=>by
  rw[(n.out.fr f id).cell 4,bP,List.getElem?_append_right (by rw[o.out];omega),o.out];rfl
 have c5:Hid (∀w',Fr Nothing w2 w'->w'.cell? {block:=g1,off:=5}=some (.slice J ak L)):=λw' f=>by
  rw[(n.out.fr f id).cell 5,bP,List.getElem?_append_right (by rw[o.out];omega),o.out];rfl
 have aM:Hid (∀w',Fr Nothing w2 w'->Calls prog 135 #[.slice I aj K] w' (uW w' R)):=λw' f=>P.out w' (F2.out.trans f);have aN:Hid (∀w',Fr Nothing w2 w'->Calls prog 135 #[.slice J ak L] w' (uW w' aC)):=λw' f=>Q.out w' (F2.out.trans f);have aV:=N;have U:Hid (w.heap.size<=w2.heap.size):=F2.out.size;clear ad aK n P Q N am;go_upto_region 1 with fail;refine Ae 9 [iS (.pointer (some ⟨g1,0,none⟩)),iS (.agg V.toArray),iS (.pointer (some ⟨g1,4,none⟩)),iS (.slice I aj K),⟨λH M=>ed M H R/\∀k,H.ownBlock=some k->w.heap.size<=k,λ_ _ _ f h=>⟨h.1.ao f,h.2⟩⟩,iS (.pointer (some ⟨g1,5,none⟩)),iS (.slice J ak L),⟨λH M=>ed M H aC/\∀k,H.ownBlock=some k->w.heap.size<=k,λ_ _ _ f h=>⟨h.1.ao f,h.2⟩⟩,⟨λH M=>∃b c,H= .agg (V++[b,c]).toArray/\ed M b R/\ed M c aC/\(∀k,b.ownBlock=some k->w.heap.size<=k)/\(∀k,c.ownBlock=some k->w.heap.size<=k),λ_ _ _ f h=>(by obtain⟨r,v,e,t,C,a0⟩:=h;exact⟨r,v,e,t.ao f,C.ao f,a0⟩)⟩] ?zA ?_;case zA=>
  refine⟨?zH,?zB,?zI,?zC,?zD,?zJ,?zE,?zF,?zG,trivial⟩;all_goals intro u w' m g
  all_goals simp only[z1,z2,z3,z4,ar,Act.put,z5,z6,z7,Nat.reduceAdd,Nat.zero_add]
  case zB=>
   simp only[ah (g 0)];refine aI ?_;exact au _ _ rfl ⟨g1,0,none⟩ rfl V _ (λa4 v ae=>O.out _ m a4 v ae) underlying43 rfl s.out ⟨_,rfl,aA,rfl⟩
  case zC=>
   simp only[ah (g 2)];refine aI ?_;have q:=aE.out _ m;go_simp;exact⟨_,rfl,aA,rfl⟩
  case zD=>
   simp only[ah (g 3)];refine aI ?_;go_simp;refine(aM.out _ m).mono ?_;rintro e a7 he;obtain⟨v,rfl,aH,f4,aJ⟩:=he.ch;exact⟨_,rfl,f4,aH,λk d=>by have:=aJ k d;have:=m.size;have:=U.out;omega⟩
  case zE=>
   simp only[ah (g 5)];refine aI ?_;have q:=c5.out _ m;go_simp;exact⟨_,rfl,aA,rfl⟩
  case zF=>
   simp only[ah (g 6)];refine aI ?_;go_simp;refine(aN.out _ m).mono ?_;rintro e a7 he;obtain⟨v,rfl,aH,f4,aJ⟩:=he.ch;exact⟨_,rfl,f4,aH,λk d=>by have:=aJ k d;have:=m.size;have:=U.out;omega⟩
  case zG=>
   have aT:=(g 4).2;obtain⟨ba,n4,aE,aP,a1⟩:=ed.form (g 4).1;rw[aP]at aT;have aU:=(g 7).2;obtain⟨bb,n7,bc,aQ,a2⟩:=ed.form (g 7).1;rw[aQ]at aU;simp only[ah (g 1),aP,aQ];refine aI ?_;exact iw 46 _ rfl _ _ (by simp only[List.map_toArray,List.map_cons,List.map_nil];rfl) (aV.out _ _ _ _ _ _) ⟨_,rfl,aA,_,_,rfl,a1,a2,aT,aU⟩
  all_goals
   refine aI ?_;go_simp;exact⟨_,rfl,aA,rfl⟩
 intro u w' m g;obtain⟨b,c,aR,F,G,aa,ab⟩:=g 8 (by omega);simp only[z1,z2,z3,z4,ar,Act.put,z5,z6,z7,z8,z9,Nat.reduceAdd,Nat.zero_add];clear g;simp only[aR];have ac:=af (aL.out.fr m id);have aX:=af (F2.out.trans m);have az:=af aa;have aB:=af ab;clear aa ab;obtain⟨a8,bf,bh,rfl,_⟩:=F.cl;obtain⟨a9,bg,bi,rfl,_⟩:=G.cl;have ap:=af F;have av:=af G;clear m aR F G aL F2 aM aN aE c5 O;refine ai rfl 46 (.tmp 2) _ rfl g2 _ rfl rfl _ _ ac.out (by rw[E.out];exact bQ) (by rw[E.out];rfl) (ay.out _ _ rfl rfl) ?_;intro al aO aG;have aW:=af aO;have aY:Hid (Fr Nothing w al):=aX.out.aw aG (λi be e=>by have bd:i=g2:=e;have:=ax.out;omega);have NE:Hid (∀v l,ed w' v l->ed al v l):=λv l h=>h.cJ aG (λk d=>by
  obtain rfl:k=g2:=d;exact⟨λx=>by have:=x.one ac.out.ty;exact absurd this (by decide),λx=>by have:=x.one ac.out.ty;exact absurd this (by decide),λx=>by have:=x.one ac.out.ty;exact absurd this (by decide)⟩);have aZ:=af (D.out al _ _ (NE.out _ _ ap.out) (NE.out _ _ av.out) aY.out (λk d=>by rw[<-S.out];exact az.out k d) (λk d=>by rw[<-S.out];exact aB.out k d));clear aO aG;go_wp2;exact bodyPost_ret (results_cell_row (fn:=Tryz.f87) (p:=2) (ty:=46) results87 _ al _ 46 _ (0,0) _ rfl aW.out underlying46 rfl (by rw[E.out];exact bQ)) rfl aZ.out
end Go.Proofs.YtphjagkehiklkaaGreatDoor
namespace Go.Proofs
open Proofs.Tryz Go.Shelf
def Tryz.zH:Go.Shelf.Ren:=⟨λ|125=>150|128=>172|129=>173|n=>n,λ|46=>205|3=>3|51=>140|53=>187|4=>4|5=>5|9=>9|n=>n,λ|n=>n⟩
theorem Tryz.Ka:Go.Proofs.Lays.n125 Tryz.prog Tryz.zH:={
 mixed:=by kernel_rfl
 f125:=Tryz.func150.trans (congrArg some (by kernel_rfl))
 f128:=Tryz.func172.trans (congrArg some (by kernel_rfl))
 f129:=Tryz.func173.trans (congrArg some (by kernel_rfl))
 t3:=Tryz.underlying3
 a3:=Tryz.isAgg3
 z3:=Tryz.sizeOf3
 v3:=Tryz.zeroValue3
 t4:=Tryz.underlying4
 a4:=Tryz.isAgg4
 z4:=Tryz.sizeOf4
 v4:=Tryz.zeroValue4
 t5:=Tryz.underlying5
 a5:=Tryz.isAgg5
 z5:=Tryz.sizeOf5
 v5:=Tryz.zeroValue5
 t9:=Tryz.underlying9
 a9:=Tryz.isAgg9
 z9:=Tryz.sizeOf9
 v9:=Tryz.zeroValue9
 t46:=Tryz.underlying205
 a46:=Tryz.isAgg205
 z46:=Tryz.sizeOf205
 v46:=Tryz.zeroValue205
 t51:=Tryz.underlying140
 a51:=Tryz.isAgg140
 z51:=Tryz.sizeOf140
 v51:=Tryz.zeroValue140
 t53:=Tryz.underlying187
 a53:=Tryz.isAgg187
 z53:=Tryz.sizeOf187
 v53:=Tryz.zeroValue187}
theorem Tryz.bits_Len(x:Int)(w:World)(a:0<=x)(b:x<=18446744073709551615):
  Calls Tryz.prog 150 #[.int .u64 x] w λe w'=>e= .returned (.int .i64 (Lib.bitLen x.toNat))/\w'=w:=Any.bits_Len Tryz.Ka x w a b
end Go.Proofs
