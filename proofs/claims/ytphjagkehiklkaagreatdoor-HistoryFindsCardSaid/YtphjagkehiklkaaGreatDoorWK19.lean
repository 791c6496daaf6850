/- Texts. -/
import Derived.Test.YtphjagkehiklkaaGreatDoorWK18
set_option linter.unusedVariables false
set_option linter.unusedSimpArgs false
set_option maxRecDepth 100000
namespace Go.Proofs.YtphjagkehiklkaaGreatDoor
open Go.RowKit Go.Shelf
theorem DH(l:List UInt8)(m:Nat)(hm:m≤10)(h:(pn l m).2.2=0):enc (pn l m).1=l.take (pn l m).2.1∧(pn l m).2.1≤l.length:=by
 rcases rQ l m hm with(a|a)|⟨k,c,d,b,e,_,f,a⟩;·rw[a]at h;simp at h
 ·rw[a]at h;simp at h
 ·rw[a];exact⟨GU l m k c hm d b e f,b⟩
theorem pO{α:Type}(zero:α)(parse:List UInt8→α×Nat×Int)(st:List UInt8×Nat×Int)(h:st.2.2≠0):(aN zero parse st).2=st:=by
 unfold aN;rw[if_pos h]
theorem mn(aP:Int)(st:List UInt8×Nat×Int)(h:(aN [] (cq aP) st).2.2.2=0):st.2.2=0∧st.1=bO (aN [] (cq aP) st).1++(aN [] (cq aP) st).2.1:=by
 by_cases b:st.2.2=0
 ·refine⟨b,?_⟩;unfold aN at h⊢;rw[if_neg (by omega)]at h⊢;by_cases a:(cq aP st.1).2.2=0
  ·rw[if_neg (by omega)];simp only;unfold cq at a⊢;by_cases c:(pn st.1 9).2.2≠0;·rw[if_pos c]at a;simp only at a;omega
   rw[if_neg c]at a⊢;by_cases d:aP<((pn st.1 9).1:Int)∨16777216<(pn st.1 9).1;·rw[if_pos d]at a;cases a
   rw[if_neg d]at a⊢;by_cases e:st.1.length<(pn st.1 9).2.1+(pn st.1 9).1;·rw[if_pos e]at a;cases a
   rw[if_neg e];simp only[bO];obtain⟨he,g⟩:=DH st.1 9 (by omega) (by omega);generalize(pn st.1 9).2.1=k at*;generalize(pn st.1 9).1=n at*;have f:((st.1.drop k).take n).length=n:=by rw[List.length_take,List.length_drop];omega
   rw[f,he,List.append_assoc,←List.drop_drop,List.take_append_drop,List.take_append_drop]
  ·rw[if_pos a]at h;exact absurd h a
 ·rw[pO _ _ _ b]at h;exact absurd h b
theorem qi(aP:Int)(st:List UInt8×Nat×Int)(h:(aN 0 (bp aP) st).2.2.2=0):st.2.2=0∧st.1=enc (aN 0 (bp aP) st).1.toNat++(aN 0 (bp aP) st).2.1:=by
 by_cases b:st.2.2=0
 ·refine⟨b,?_⟩;unfold aN at h⊢;rw[if_neg (by omega)]at h⊢;by_cases a:(bp aP st.1).2.2=0
  ·rw[if_neg (by omega)];simp only;unfold bp at a⊢;simp only at a⊢;have c:(pn st.1 9).2.2=0:=by
    split at a;·omega
    ·omega
   obtain⟨he,d⟩:=DH st.1 9 (by omega) c;rw[Int.toNat_natCast,he,List.take_append_drop]
  ·rw[if_pos a]at h;exact absurd h a
 ·rw[pO _ _ _ b]at h;exact absurd h b
theorem qj{α:Type}(zero:α)(parse:List UInt8→α×Nat×Int)(l:List UInt8)(p:Nat)(x:α)(k:Nat)(h:parse l=(x,k,0)):aN zero parse (l,p,0)=(x,(l.drop k,p+k,0)):=by
 unfold aN;simp[h]
theorem jN(u:Nat)(aP:Int)(hu:u<9223372036854775808)(hm:(u:Int)≤aP)(r:List UInt8)(p:Nat):aN 0 (bp aP) (enc u++r,p,0)=((u:Int),(r,p+(enc u).length,0)):=by
 have h:bp aP (enc u++r)=((u:Int),(enc u).length,0):=by
  unfold bp;rw[zR u r hu];simp only[true_and];rw[if_neg (by omega)];rfl
 rw[qj 0 (bp aP) _ p _ _ h,List.drop_left]
theorem lG(s:List UInt8)(aP:Int)(a:(s.length:Int)≤aP)(b:s.length≤16777216)(r:List UInt8)(p:Nat):aN [] (cq aP) (bO s++r,p,0)=(s,(r,p+(bO s).length,0)):=by
 have h:cq aP (bO s++r)=(s,(bO s).length,0):=by
  unfold cq bO;rw[List.append_assoc,zR s.length (s++r) (by omega)];simp only[ne_eq,not_true_eq_false,if_false];rw[if_neg (by omega),if_neg (by simp only[bh];omega),List.drop_left,List.take_left,bh]
 rw[qj [] (cq aP) _ p _ _ h,List.drop_left]
theorem rY(l:List UInt8):aR ⟨l.toArray⟩=l:=rfl
theorem xJ{st:List UInt8×Nat×Int}(h:fZ st=0):st.2.2=0∧st.1=[]:=by
 unfold fZ at h;split at h;next a=>
  refine⟨a,?_⟩;split at h;·cases h
  ·exact List.eq_nil_of_length_eq_zero (by omega)
 next a=>exact absurd h a
theorem Cs{u:gT}{l:List UInt8}(hu:ig[(dS l).1.toNat]? =some u)(m:fZ (fG u l).2=0)(s:dA (fG u l).1=true):cL (fG u l).1=l:=by
 have x:=ue l;have d:dS l=aN 0 (bp 20) (l,0,0):=rfl;obtain⟨a0,n⟩:∃a,dS l=a:=⟨_,rfl⟩;obtain⟨c,o⟩:∃a,j7 u a0.2=a:=⟨_,rfl⟩;obtain⟨a2,p⟩:∃a,mK u c.2=a:=⟨_,rfl⟩;obtain⟨a3,q⟩:∃a,oD u a2.2=a:=⟨_,rfl⟩;obtain⟨a4,r⟩:∃a,pJ u a3.2=a:=⟨_,rfl⟩;have y:fG u l=(⟨a0.1,⟨c.1.toArray⟩,a2.1,a3.1,⟨a4.1.toArray⟩⟩,a4.2):=by rw[fG,n,o,p,q,r]
 rw[y]at m s⊢;rw[n]at hu x d;simp only at m;obtain⟨k,A⟩:=xJ m;have z:pN u ⟨a0.1,⟨c.1.toArray⟩,a2.1,a3.1,⟨a4.1.toArray⟩⟩=true:=by
  obtain⟨_,B,f,h⟩:=qZ s;simp only at f;rw[hu]at f;cases f;exact h
 rw[rM (u:=u) hu];have w:a3.2.2.2=0∧a3.2.1=(if u.text then bO a4.1 else[])++a4.2.1:=by
  rw[←r]at k⊢;unfold pJ at k⊢;split;next b=>rw[if_pos b]at k;exact mn 32 a3.2 k
  next b=>rw[if_neg b]at k;exact⟨k,rfl⟩
 have v:a2.2.2.2=0∧a2.2.1=(if u.index then enc a3.1.toNat else[])++a3.2.1:=by
  have j:=w.1;rw[←q]at j⊢;unfold oD at j⊢;split;next b=>rw[if_pos b]at j;exact qi u.aP a2.2 j
  next b=>rw[if_neg b]at j;exact⟨j,rfl⟩
 have s2:c.2.2.2=0∧c.2.1=(if u.number then enc a2.1.toNat else[])++a2.2.1:=by
  have i:=v.1;rw[←p]at i⊢;unfold mK at i⊢;split;next b=>rw[if_pos b]at i;exact qi 1073741824 c.2 i
  next b=>rw[if_neg b]at i;exact⟨i,rfl⟩
 have s1:a0.2.2.2=0∧a0.2.1=(if u.owner then bO c.1 else[])++c.2.1:=by
  have g:=s2.1;rw[←o]at g⊢;unfold j7 at g⊢;split;next b=>rw[if_pos b]at g;exact mn 16777216 a0.2 g
  next b=>rw[if_neg b]at g;exact⟨g,rfl⟩
 have t:=qi 20 (l,0,0) (by rw[←d];exact s1.1);rw[←d]at t;have e:=t.2;simp only at e;rw[e,s1.2,s2.2,v.2,w.2,A,List.append_nil];rfl
theorem Cc{u:gT}{n:aK}(h:pN u n=true)(a:u.text=true):n.text.size≤32:=by
 simp only[pN,Bool.and_eq_true,Bool.or_eq_true,Bool.not_eq_true']at h;rcases h.2 with h|h;·rw[a]at h;cases h
 ·simp only[kj,Bool.and_eq_true,decide_eq_true_eq]at h;exact h.1.2
theorem Cr{m:aK}(G:dA m=true)(I:m.owner.size≤16777216):∃u,ig[(dS (cL m)).1.toNat]? =some u∧fZ (fG u (cL m)).2=0∧(fG u (cL m)).1=m:=by
 obtain⟨A,u,hu,v⟩:=qZ G;have g:=sH v;have hm:=zE hu;rw[rM hu];have B:=@Cc u m v;obtain⟨k,O,n,i,t⟩:=m;obtain⟨wd,b,a,bi,c,d⟩:=u;obtain⟨kk,rfl⟩:∃q:Nat,k=(q:Int):=⟨k.toNat,by simp only at A;omega⟩;simp only at A I hm B hu;simp only[nK];rw[Int.toNat_natCast]at hu⊢;have d0:∀r,dS (enc kk++r)=((kk:Int),(r,(enc kk).length,0)):=fun r=>by
  unfold dS;rw[jN kk 20 (by omega) (by omega) r 0,Nat.zero_add]
 refine⟨⟨wd,b,a,bi,c,d⟩,by rw[d0,Int.toNat_natCast];exact hu,?_⟩;obtain⟨y,s⟩:∃N,(if c=true then bO (aR t)else[])=N:=⟨_,rfl⟩;obtain⟨x,o⟩:∃N,(if bi=true then enc i.toNat else[])++y=N:=⟨_,rfl⟩;obtain⟨w,l⟩:∃N,(if a=true then enc n.toNat else[])++x=N:=⟨_,rfl⟩;obtain⟨z,j⟩:∃N,(if b=true then bO (aR O)else[])++w=N:=⟨_,rfl⟩;rw[s,o,l,j];have d1:∀p,∃f,j7 ⟨wd,b,a,bi,c,d⟩ (z,p,0)=(aR O,(w,f,0)):=fun p=>by
  rw[←j];unfold j7;cases b;·have e:=g.o0 rfl;simp only at e;exact⟨p,by rw[e];rfl⟩
  ·exact⟨_,lG (aR O) 16777216 (by rw[aO];omega) (by rw[aO];omega) w p⟩
 have d2:∀p,∃f,mK ⟨wd,b,a,bi,c,d⟩ (w,p,0)=(n,(x,f,0)):=fun p=>by
  rw[←l];unfold mK;cases a;·have e:=g.n0 rfl;simp only at e;exact⟨p,by rw[e];rfl⟩
  ·have e:=g.n1 rfl;simp only at e;have h:=jN n.toNat 1073741824 (by omega) (by omega) x p;rw[Int.toNat_of_nonneg e.1]at h;exact⟨_,h⟩
 have d3:∀p,∃f,oD ⟨wd,b,a,bi,c,d⟩ (x,p,0)=(i,(y,f,0)):=fun p=>by
  rw[←o];unfold oD;cases bi;·have e:=g.i0 rfl;simp only at e;exact⟨p,by rw[e];rfl⟩
  ·have e:=g.i1 rfl;simp only at e;have h:=jN i.toNat d (by omega) (by omega) y p;rw[Int.toNat_of_nonneg e.1]at h;exact⟨_,h⟩
 have d4:∀p,∃f,pJ ⟨wd,b,a,bi,c,d⟩ (y,p,0)=(aR t,([],f,0)):=fun p=>by
  rw[←s];unfold pJ;cases c;·have e:=g.t0 rfl;simp only at e;exact⟨p,by rw[e];rfl⟩
  ·have e:=B rfl;have h:=lG (aR t) 32 (by rw[aO];omega) (by rw[aO];omega) [] p;rw[List.append_nil]at h;exact⟨_,h⟩
 obtain⟨J,C⟩:=d1 (enc kk).length;obtain⟨K,D⟩:=d2 J;obtain⟨L,E⟩:=d3 K;obtain⟨M,F⟩:=d4 L;have H:fG ⟨wd,b,a,bi,c,d⟩ (enc kk++z)=(⟨(kk:Int),⟨(aR O).toArray⟩,n,i,⟨(aR t).toArray⟩⟩,([],M,0)):=by
  rw[fG,d0];simp only[C,D,E,F]
 rw[H];exact⟨rfl,rfl⟩
def gh(l:List UInt8):aK×Int:=match ig[(dS l).1.toNat]? with
 |some u=>if fZ (fG u l).2=0∧dA (fG u l).1=true then((fG u l).1,0)else(⟨0,ByteArray.empty,0,0,ByteArray.empty⟩,3)
 |none=>(⟨0,ByteArray.empty,0,0,ByteArray.empty⟩,3)
theorem rD(l:List UInt8):∃u,ig[(dS l).1.toNat]? =some u:=by
 have h:=ue l;have a:ig.length=21:=by decide
 exact⟨_,List.getElem?_eq_getElem (show(dS l).1.toNat<ig.length by omega)⟩
theorem qL{l:List UInt8}{u:gT}(h:ig[(dS l).1.toNat]? =some u):gh l=if fZ (fG u l).2=0∧dA (fG u l).1=true then((fG u l).1,0)else(⟨0,ByteArray.empty,0,0,ByteArray.empty⟩,3):=by
 unfold gh;rw[h]
theorem EB{m:aK}(a:dA m=true)(d:m.owner.size≤16777216):gh (cL m)=(m,0):=by
 obtain⟨u,hu,b,c⟩:=Cr a d;rw[qL hu,c,if_pos ⟨b,a⟩]
theorem EC{l:List UInt8}(h:(gh l).2=0):dA (gh l).1=true∧cL (gh l).1=l:=by
 obtain⟨u,hu⟩:=rD l;rw[qL hu]at h⊢;by_cases a:fZ (fG u l).2=0∧dA (fG u l).1=true;·rw[if_pos a];exact⟨a.2,Cs hu a.1 a.2⟩
 ·rw[if_neg a]at h;cases h
theorem uO(aP:Int)(st:List UInt8×Nat×Int):(aN [] (cq aP) st).1.length≤st.1.length:=by
 unfold aN;split;·simp
 ·split;·simp
  next h=>
   simp only[cq];split;·simp
   ·split;·simp
    ·split;·simp
     ·simp only[List.length_take,List.length_drop];omega
theorem zX(aP:Int)(st:List UInt8×Nat×Int):(aN [] (cq aP) st).2.1.length≤st.1.length:=by
 unfold aN;split;·simp
 ·split;·simp
  ·simp only[List.length_drop];omega
theorem lF(aP:Int)(st:List UInt8×Nat×Int):(aN 0 (bp aP) st).2.1.length≤st.1.length:=by
 unfold aN;split;·simp
 ·split;·simp
  ·simp only[List.length_drop];omega
theorem sx(l:List UInt8):(gh l).1.owner.size≤l.length∧(gh l).1.text.size≤l.length:=by
 obtain⟨u,hu⟩:=rD l;rw[qL hu];split
 ·have a:=lF 20 (l,0,0);have b:dS l=aN 0 (bp 20) (l,0,0):=rfl;rw[←b]at a;simp only at a;have c:∀st,(j7 u st).1.length≤st.1.length∧(j7 u st).2.1.length≤st.1.length:=fun st=>by
   unfold j7;split;·exact⟨uO _ _,zX _ _⟩
   ·simp
  have d:∀st,(mK u st).2.1.length≤st.1.length:=fun st=>by
   unfold mK;split;·exact lF _ _
   ·simp
  have e:∀st,(oD u st).2.1.length≤st.1.length:=fun st=>by
   unfold oD;split;·exact lF _ _
   ·simp
  have f:∀st,(pJ u st).1.length≤st.1.length:=fun st=>by
   unfold pJ;split;·exact uO _ _
   ·simp
  simp only[fG,ByteArray.size,List.size_toArray];have g:=c (dS l).2;have a2:=d (j7 u (dS l).2).2;have a3:=e (mK u (j7 u (dS l).2).2).2;have a4:=f (oD u (mK u (j7 u (dS l).2).2).2).2;omega
 ·simp
def tH(w:World)(l:List UInt8)(e:Ending)(w':World):Prop:=e= .returned (.tuple #[.agg (gh l).1.cells.toArray, .int .i64 (gh l).2])∧Fr ag w w'
theorem Ed(s:ByteArray)(w:World)(d:eE w)(f:s.size≤16777216):Calls Tryz.prog 118 #[.string s] w (tH w (aR s)):=by
 obtain⟨u,hu⟩:=rD (aR s);refine(AF s u w d f hu).mono ?_;rintro e w'⟨n,k,rfl,a,h⟩;unfold tH;rw[qL hu];rcases h with⟨b,c,rfl,rfl⟩|⟨h,rfl,rfl⟩;·rw[if_pos ⟨b,c⟩];exact⟨rfl,a⟩
 ·rw[if_neg h];exact⟨rfl,a⟩
abbrev fp:=List UInt8×Nat×Int
def dG(st:fp):List UInt8×fp:=aN [] (cq 65536) st
def Ko:aK:=⟨0,ByteArray.empty,0,0,ByteArray.empty⟩
structure qA(L:List Ent)(last:aK)(st:fp):Prop where
 sort:fF L
 ok:∀x∈L,dA x.1=true
 owner:∀x∈L,x.1.owner.size≤70000
 text:∀x∈L,x.1.text.size≤70000
 value:∀x∈L,x.2.size≤70000
 len:2*L.length+st.1.length≤70000
 bytes:dm L+st.1.length≤70000
 last:L=[]∨∃M v,L=M++[(last,v)]
theorem qA.nil{l:List UInt8}(h:l.length≤70000)(st:fp)(a:st.1.length≤l.length):qA [] Ko st:=
 ⟨List.Pairwise.nil,(fun _ h=>by cases h),(fun _ h=>by cases h),(fun _ h=>by cases h),(fun _ h=>by cases h),by simp;omega,by simp[dm];omega,Or.inl rfl⟩
theorem qA.oh{L:List Ent}{last:aK}{st:fp}(h:qA L last st):rq L:=
 ⟨h.sort,fun x a=>by have:=h.owner x a;omega,by have:=h.len;omega,by have:=h.bytes;omega,h.ok⟩
theorem qA.small{L:List Ent}{last:aK}{st:fp}(h:qA L last st):xv L:=
 ⟨h.ok,fun x a=>by have:=h.owner x a;omega,fun x a=>by have:=h.text x a;omega,fun x a=>by have:=h.value x a;omega,by have:=h.len;omega⟩
theorem nV(s:List UInt8):s.length+1≤(bO s).length:=by
 unfold bO;have:1≤(enc s.length).length:=qN 9 _;rw[bh];omega
theorem yS(A B:List Ent):dm (A++B)=dm A+dm B:=by simp[dm]
theorem Cx{L:List Ent}{last m:aK}(f:fF L)(e:L=[]∨∃M v,L=M++[(last,v)])(d:¬(0<L.length∧cT m last≤0)):∀y∈L,0<cT m y.1:=by
 rcases e with rfl|⟨M,u,rfl⟩;·intro y a;cases a
 ·have b:0<cT m last:=by
   by_cases h:0<cT m last;·exact h
   ·exact absurd ⟨by simp,by omega⟩ d
  intro y a;rcases List.mem_append.1 a with a|a;·have c:=(fF.parts f).2.2.1 y a;exact jG (cU.trans y.1 last m c (mI b))
  ·simp only[List.mem_singleton]at a;rw[a];exact b
theorem qA.next{L:List Ent}{last:aK}{st:fp}(h:qA L last st)(i:(gh (dG st).1).2=0)(j:¬(0<L.length∧cT (gh (dG st).1).1 last≤0))(k:(dG (dG st).2).2.2.2=0):
  qA (L++[((gh (dG st).1).1,⟨(dG (dG st).2).1.toArray⟩)]) (gh (dG st).1).1 (dG (dG st).2).2∧dY (gh (dG st).1).1 ⟨(dG (dG st).2).1.toArray⟩ L=L++[((gh (dG st).1).1,⟨(dG (dG st).2).1.toArray⟩)]∧
  (dG st).2.2.2=0∧st.2.2=0∧st.1=oF ((gh (dG st).1).1,⟨(dG (dG st).2).1.toArray⟩)++(dG (dG st).2).2.1:=by
 have ES:=Cx h.sort h.last j;obtain⟨d,s1⟩:=mn 65536 (dG st).2 k;obtain⟨g,c⟩:=mn 65536 st d;obtain⟨ok,l⟩:=EC i;have n:=sx (dG st).1;have e:dY (gh (dG st).1).1 ⟨(dG (dG st).2).1.toArray⟩ L=L++[((gh (dG st).1).1,⟨(dG (dG st).2).1.toArray⟩)]:=by
  have:=qV (v:=⟨(dG (dG st).2).1.toArray⟩) L [] ES;rw[List.append_nil]at this;rw[this];rfl
 have t0:(dG st).1=(aN [] (cq 65536) st).1:=rfl;have t1:(dG st).2=(aN [] (cq 65536) st).2:=rfl;have q:(dG (dG st).2).1=(aN [] (cq 65536) (dG st).2).1:=rfl;have r:(dG (dG st).2).2=(aN [] (cq 65536) (dG st).2).2:=rfl;rw[←t0,←t1]at c;rw[←q,←r]at s1;have o:=congrArg List.length c;have l1:=congrArg List.length s1;rw[bh]at o l1;have b0:=nV (dG st).1;have b1:=nV (dG (dG st).2).1;have hlen:=h.len;have b:=h.bytes;generalize(dG (dG st).2).2=st2 at*;generalize(dG (dG st).2).1=v at*;generalize(dG st).2=st1 at*;generalize(dG st).1=p at*;generalize(gh p).1=m at*;have f:(⟨v.toArray⟩:ByteArray).size=v.length:=by simp[ByteArray.size]
 refine⟨⟨by rw[←e];exact(nH h.sort).1,?_,?_,?_,?_,?_,?_,Or.inr ⟨L,_,rfl⟩⟩,e,d,g,?_⟩
 ·intro x a;rcases List.mem_append.1 a with a|a;·exact h.ok x a
  ·simp only[List.mem_singleton]at a;rw[a];exact ok
 ·intro x a;rcases List.mem_append.1 a with a|a;·exact h.owner x a
  ·simp only[List.mem_singleton]at a;rw[a];simp only;omega
 ·intro x a;rcases List.mem_append.1 a with a|a;·exact h.text x a
  ·simp only[List.mem_singleton]at a;rw[a];simp only;omega
 ·intro x a;rcases List.mem_append.1 a with a|a;·exact h.value x a
  ·simp only[List.mem_singleton]at a;rw[a];simp only[f];omega
 ·simp only[bh,List.length_cons,List.length_nil];omega
 ·rw[yS];have:dm [((m:aK),(⟨v.toArray⟩:ByteArray))]=v.length:=by simp[dm,f]
  rw[this];omega
 ·rw[c,s1];simp only[oF];rw[l,List.append_assoc];rfl
structure eN where
 tick:Int
 cls:Int
 num:Int
 fA:ByteArray
structure ActV where
 key:eN
 reads:List CV
 writes:List CV
def dM(k:eN):Bool:=
 decide (0≤k.tick)&&decide (k.tick≤1073741824)&&(decide (0≤k.cls)&&decide (k.cls≤2))&&(decide (0≤k.num)&&decide (k.num≤999999)&&!(k.cls==0&&k.num==0))&&
 (if k.cls=0 then k.fA.toList.isEmpty else(!k.fA.toList.isEmpty&&dc k.fA&&!(k.cls==2&&k.num !=0)))
def jn(c:CV):Bool:=dA c.nm&&decide (c.value.size≤65536)&&(!c.bA||c.value.toList.isEmpty)
def fW:List CV→Bool
 |[]=>true
 |c::r=>jn c&&(match r with|[]=>true|d::_=>decide (cT c.nm d.nm<0))&&fW r
def gm(a:ActV):Bool:=dM a.key&&fW a.reads&&fW a.writes
def jH(b:Bool):List UInt8:=[if b then 1 else 0]
def ng(c:CV):List UInt8:=bO (cL c.nm)++(jH c.bA++bO (aR c.value))
def eI(l:List CV):List UInt8:=enc l.length++l.flatMap ng
def qW(k:eN):List UInt8:=enc k.tick.toNat++(enc k.cls.toNat++(enc k.num.toNat++bO (aR k.fA)))
def dk(a:ActV):List UInt8:=qW a.key++(eI a.reads++eI a.writes)
theorem Co(b:Bool)(r:List UInt8)(p:Nat):aN false cY (jH b++r,p,0)=(b,(r,p+1,0)):=by
 have h:cY (jH b++r)=(b,1,0):=by
  unfold cY jH;cases b<;>simp
 rw[qj false cY _ p _ _ h];rfl
theorem zV(st:fp):(aN false cY st).2.1.length≤st.1.length:=by
 unfold aN;split;·simp
 ·split;·simp
  ·simp only[List.length_drop];omega
def jR(st:fp):List UInt8×fp:=aN [] (cq 16777216) st
def lH:Nat→fp→List CV→Option (List CV×fp)
 |0,st,L=>some (L,st)
 |n+1,st,L=>
  if(gh (jR st).1).2≠0 then none else
  lH n (dG (aN false cY (jR st).2).2).2 (L++[⟨(gh (jR st).1).1,⟨(dG (aN false cY (jR st).2).2).1.toArray⟩,(aN false cY (jR st).2).1⟩])
def jk(st:fp):Option (List CV×fp):=lH (aN 0 (bp (st.1.length:Int)) st).1.toNat (aN 0 (bp (st.1.length:Int)) st).2 []
def ja(l:List UInt8):Int×fp:=aN 0 (bp 1073741824) (l,0,0)
def jO(l:List UInt8):Int×fp:=aN 0 (bp 2) (ja l).2
def rdNum(l:List UInt8):Int×fp:=aN 0 (bp 999999) (jO l).2
def iP(l:List UInt8):List UInt8×fp:=jR (rdNum l).2
def iz(l:List UInt8):eN×fp:=(⟨(ja l).1,(jO l).1,(rdNum l).1,⟨(iP l).1.toArray⟩⟩,(iP l).2)
def mJ(l:List UInt8):Option ActV:=
 match jk (iz l).2 with
 |none=>none
 |some (a,st)=>match jk st with
  |none=>none
  |some (W,st2)=>if fZ st2=0∧gm ⟨(iz l).1,a,W⟩=true then some ⟨(iz l).1,a,W⟩else none
structure gL(c:CV):Prop where
 owner:c.nm.owner.size≤1048576
 text:c.nm.text.size≤1048576
theorem xc:∀(M:List CV)(p:Nat)(r:List UInt8)(L:List CV),(∀c∈M,jn c=true)→(∀c∈M,gL c)→∃b,lH M.length (M.flatMap ng++r,p,0) L=some (L++M,(r,b,0))
 |[],p,r,L,_,_=>⟨p,by simp[lH]⟩
 |c::M,p,r,L,f,g=>by
  have a0:=f c (by simp);have e:=g c (by simp);simp only[jn,Bool.and_eq_true,decide_eq_true_eq]at a0;have a4:=fi c.nm;have b1:=e.owner;have b2:=e.text;have t0:jR ((c::M).flatMap ng++r,p,0)=(cL c.nm,(jH c.bA++(bO (aR c.value)++(M.flatMap ng++r)),p+(bO (cL c.nm)).length,0)):=by
   unfold jR;rw[List.flatMap_cons,ng,List.append_assoc,List.append_assoc,List.append_assoc];exact lG (cL c.nm) 16777216 (by omega) (by omega) _ p
  have t1:=Co c.bA (bO (aR c.value)++(M.flatMap ng++r)) (p+(bO (cL c.nm)).length);have t2:∀q,dG (bO (aR c.value)++(M.flatMap ng++r),q,0)=(aR c.value,(M.flatMap ng++r,q+(bO (aR c.value)).length,0)):=fun q=>by
   unfold dG;exact lG (aR c.value) 65536 (by rw[aO];omega) (by rw[aO];omega) _ _
  have t3:gh (cL c.nm)=(c.nm,0):=EB a0.1.1 (by omega);rw[List.length_cons,lH,t0];simp only;rw[t3];simp only[ne_eq,not_true_eq_false,if_false];rw[t1];simp only;rw[t2];simp only;obtain⟨b,h⟩:=xc M (p+(bO (cL c.nm)).length+1+(bO (aR c.value)).length) r (L++[c]) (fun d a=>f d (by simp[a])) (fun d a=>g d (by simp[a]));refine⟨b,?_⟩;rw[show L++c::M=L++[c]++M by simp,←h];rfl
theorem GM(c:CV):3≤(ng c).length:=by
 have a:=nV (cL c.nm);have b:=nV (aR c.value);simp only[ng,jH,bh,List.length_cons,List.length_nil];omega
theorem yZ:∀M:List CV,3*M.length≤(M.flatMap ng).length
 |[]=>by simp
 |c::M=>by
  have a:=GM c;have b:=yZ M;simp only[List.flatMap_cons,bh,List.length_cons];omega
theorem j9:∀{l:List CV},fW l=true→∀c∈l,jn c=true
 |[],_,_,h=>by cases h
 |d::r,h,c,a=>by
  simp only[fW,Bool.and_eq_true]at h;rcases List.mem_cons.1 a with rfl|a;·exact h.1.1
  ·exact j9 h.2 c a
theorem uP(M:List CV)(p:Nat)(r:List UInt8)(d:∀c∈M,jn c=true)(e:∀c∈M,gL c)(g:(eI M++r).length<9223372036854775808):∃a,jk (eI M++r,p,0)=some (M,(r,a,0)):=by
 have f:=yZ M;unfold jk;have hm:((M.length:Nat):Int)≤(((eI M++r).length:Nat):Int):=by
  rw[eI];simp only[bh];omega
 have b:M.length<9223372036854775808:=by omega
 simp only;generalize(((eI M++r).length:Nat):Int)=aP at hm;rw[eI,List.append_assoc,jN M.length aP b hm _ p];simp only[Int.toNat_natCast];obtain⟨a,h⟩:=xc M (p+(enc M.length).length) r [] d e;exact⟨a,h⟩
theorem EA{a:ActV}(f:gm a=true)(r:a.key.fA.size≤16777216)(h:∀c∈a.reads,gL c)(i:∀c∈a.writes,gL c)(hlen:(dk a).length<9223372036854775808):mJ (dk a)=some a:=by
 have g:=f;simp only[gm,Bool.and_eq_true]at f;obtain⟨⟨e,k⟩,hw⟩:=f;obtain⟨⟨t,c,n,li⟩,z,W⟩:=a;simp only at r h i e k hw;simp only[dM,Bool.and_eq_true,decide_eq_true_eq]at e;obtain⟨⟨⟨⟨t0,t1⟩,u,v⟩,⟨n0,n1⟩,_⟩,_⟩:=e;obtain⟨t,rfl⟩:∃q:Nat,t=(q:Int):=⟨t.toNat,by omega⟩;obtain⟨c,rfl⟩:∃q:Nat,c=(q:Int):=⟨c.toNat,by omega⟩;obtain⟨n,rfl⟩:∃q:Nat,n=(q:Int):=⟨n.toNat,by omega⟩;have o:dk ⟨⟨t,c,n,li⟩,z,W⟩=enc t++(enc c++(enc n++(bO (aR li)++(eI z++eI W)))):=by
  simp[dk,qW]
 rw[o]at hlen⊢;obtain⟨l,j⟩:∃l,enc t++(enc c++(enc n++(bO (aR li)++(eI z++eI W))))=l:=⟨_,rfl⟩;have d1:ja l=((t:Int),(enc c++(enc n++(bO (aR li)++(eI z++eI W))),0+(enc t).length,0)):=by
  rw[←j];exact jN t 1073741824 (by omega) (by omega) _ 0
 have d2:∃p,jO l=((c:Int),(enc n++(bO (aR li)++(eI z++eI W)),p,0)):=by
  rw[jO,d1];exact⟨_,jN c 2 (by omega) (by omega) _ _⟩
 obtain⟨w,d2⟩:=d2;have d3:∃p,rdNum l=((n:Int),(bO (aR li)++(eI z++eI W),p,0)):=by
  rw[rdNum,d2];exact⟨_,jN n 999999 (by omega) (by omega) _ _⟩
 obtain⟨x,d3⟩:=d3;have d4:∃p,iP l=(aR li,(eI z++eI W,p,0)):=by
  rw[iP,d3];exact⟨_,lG (aR li) 16777216 (by rw[aO];omega) (by rw[aO];omega) _ _⟩
 obtain⟨m,d4⟩:=d4;have b:(eI z++(eI W++[])).length<9223372036854775808:=by
  simp only[bh,List.length_nil]at hlen⊢;omega
 obtain⟨s,d5⟩:=uP z m (eI W++[]) (j9 k) h b;obtain⟨y,d6⟩:=uP W s [] (j9 hw) i (by simp only[bh,List.length_nil]at b⊢;omega);rw[List.append_nil]at d5 d6;have d:iz l=(⟨t,c,n,⟨(aR li).toArray⟩⟩,(eI z++eI W,m,0)):=by
  rw[iz,d1,d2,d3,d4]
 rw[j,mJ,d];simp only;rw[d5];simp only;rw[d6];simp only;rw[if_pos ⟨rfl,g⟩];rfl
end Go.Proofs.YtphjagkehiklkaaGreatDoor
namespace Go.Proofs.YtphjagkehiklkaaGreatDoor
open Go.ChangeShapes Go.WideShapes Go.ChangeAt Go.RowKit Go.Deep
def Bv:List Int:=[1779033703,3144134277,1013904242,2773480762,1359893119,2600822924,528734635,1541459225]
def zA:List Int:=sE.map (fun n:Nat=>(n:Int))
structure aK.oh(n:aK):Prop where
 kind:-9223372036854775808≤n.kind∧n.kind≤9223372036854775807
 number:-9223372036854775808≤n.number∧n.number≤9223372036854775807
 index:-9223372036854775808≤n.index∧n.index≤9223372036854775807
 owner:n.owner.size≤9223372036854775807
 text:n.text.size≤9223372036854775807
structure CV.oh(c:CV):Prop where
 nm:c.nm.oh
 value:c.value.size≤9223372036854775807
theorem Cd{H:Type}{enc:TypeId×Value→H}{w:World}{base:Nat}{sp:Nat→Bool}{held:Bool}{fuel:Nat}{l:List Value}{x:DataW H×List MemPlace}
  (h:DataW.trod enc Tryz.prog w base sp held fuel 245 l=some x):∃n:aK,n.oh∧l=n.cells:=by
 obtain⟨p,q,_,rfl,a,c,b⟩:=DataW.trod_struct Tryz.underlying245 h;rw[yX]at a;match l,a with
 |[r,s,t,x3,u],_=>
  have g0:=b 0 _ rfl;have g1:=b 1 _ rfl;have g2:=b 2 _ rfl;have g3:=b 3 _ rfl;have g4:=b 4 _ rfl;match p,c with
  |[v,y,z,y3,y4],_=>
   simp[rz,rA]at g0 g1 g2 g3 g4;obtain⟨a0,d,rfl,b0⟩:=DataW.trod_int Tryz.underlying3 g0;obtain⟨o,e,rfl,b1⟩:=DataW.trod_string Tryz.underlying9 g1;obtain⟨a2,f,rfl,b2⟩:=DataW.trod_int Tryz.underlying3 g2;obtain⟨a3,g,rfl,b3⟩:=DataW.trod_int Tryz.underlying3 g3;obtain⟨a4,i,rfl,b4⟩:=DataW.trod_string Tryz.underlying9 g4;simp only[List.cons.injEq,and_true]at d e f g i;subst d e f g i;have j:=bounds_i64 b0;have k:=bounds_i64 b2;have m:=bounds_i64 b3;unfold maxLen at b1 b4;exact⟨⟨a0,o,a2,a3,a4⟩,⟨⟨j.1,j.2⟩,⟨k.1,k.2⟩,⟨m.1,m.2⟩,b1,b4⟩,rfl⟩
theorem Jc{H:Type}{enc:TypeId×Value→H}{w:World}{base:Nat}{sp:Nat→Bool}{held:Bool}{fuel:Nat}{l:List Value}{x:DataW H×List MemPlace}
  (h:DataW.trod enc Tryz.prog w base sp held fuel 247 l=some x):∃c:CV,c.oh∧l=c.cells:=by
 obtain⟨k,m,_,rfl,a,d,b⟩:=DataW.trod_struct Tryz.underlying247 h;rw[Du]at a;match l,a with
 |[o,p,q,x3,r,s,t],_=>
  have g0:=b 0 _ rfl;have g1:=b 1 _ rfl;have g2:=b 2 _ rfl;match k,d with
  |[u,v,y],_=>
   simp[yX,rA,tR]at g0 g1 g2;obtain⟨n,j,i⟩:=Cd g0;obtain⟨g,e,rfl,b1⟩:=DataW.trod_string Tryz.underlying9 g1;obtain⟨a2,f,rfl⟩:=DataW.trod_bool Tryz.underlying4 g2;simp only[List.cons.injEq,and_true]at e f;subst e f;unfold maxLen at b1;refine⟨⟨n,g,a2⟩,⟨j,b1⟩,?_⟩;rw[CV.cells,←i];rfl
theorem zK{H:Type}{enc:TypeId×Value→H}{w:World}{fuel:Nat}{a:Option Addr}{len cap:Nat}{x:DataW H×List MemPlace}
  (h:DataW.trod enc Tryz.prog w 0 (fun _=>true) true fuel 55 [.slice a len cap]=some x):
  ∃cs:List CV,CL w (Old w) a len cs∧(∀c∈cs,c.oh)∧len≤cap∧cap≤9223372036854775807:=by
 rcases open_slice Tryz.underlying55 h with⟨b,_⟩|⟨p,F,E,m,n,D,C,b,_,B,hm,g,_,o⟩;·simp only[List.cons.injEq,Value.slice.injEq,and_true]at b;obtain⟨rfl,rfl,rfl⟩:=b;exact⟨[],⟨Rd.none_,rfl⟩,by simp,Nat.le_refl _,Nat.zero_le _⟩
 ·simp only[List.cons.injEq,Value.slice.injEq,and_true]at b;obtain⟨rfl,rfl,rfl⟩:=b;simp only[if_true]at g;rw[Du]at o;have f:∀i,i<len→∃c:CV,c.oh∧∀j u,c.cells[j]? =some u→w.cell? ((p.add (i*7)).add j)=some u:=by
   intro i z;obtain⟨cs',t,k⟩:=o i (by omega);obtain⟨c,y,e⟩:=Jc k;obtain⟨_,v,d⟩:=World.cells?_some t;refine⟨c,y,fun j u hu=>?_⟩;have A:j<7:=by
    have:=(List.getElem?_eq_some_iff.1 hu).1;simpa[CV.cells,aK.cells]using this
   rw[d j A,←hu,←e]
  obtain⟨l,q,r,s⟩:=yj CV.cells 7 CV.oh (fun c=>c.ey) (by omega) f;exact⟨l,⟨s,q⟩,r,B,by unfold maxLen at hm;exact hm⟩
end Go.Proofs.YtphjagkehiklkaaGreatDoor
namespace Go.Proofs.YtphjagkehiklkaaGreatDoor
open Go.RowKit Go.Shelf
theorem qq:∀(xs:List CV)(L:List Ent)(m:Nat),cW m L→(∀c∈xs,ed c)→(∀c∈xs,dA c.nm=true)→cW (m+xs.length) (mr xs L)
 |[],_,_,h,_,_=>h
 |c::xs,L,m,h,e,b=>(qq xs (ki c L) (m+1) (h.next (e c (by simp)) (b c (by simp))) (fun d a=>e d (by simp[a])) (fun d a=>b d (by simp[a]))).more (by simp only[List.length_cons];omega)
structure xw(w:World)(N:Nat)(a:List CV)(v4 v5:Value):Prop where
 DG:w.ownsRow 0 119 7 v4 N (a.flatMap CV.cells)
 Hv:w.ownsRow 0 247 7 v5 N (a.flatMap CV.cells)
 len:a.length=N
theorem xw.ar{w w':World}{N:Nat}{b:List CV}{v4 v5:Value}(h:xw w N b v4 v5)(a:Fr ag w w'):xw w' N b v4 v5:=⟨aQ h.DG a (fun _ _ x=>x),aQ h.Hv a (fun _ _ x=>x),h.len⟩
theorem xw.row{w w':World}{N:Nat}{f:List CV}{v4 v5 v:Value}{e:TypeId}{size n:Nat}{xs:List Value}(h:xw w N f v4 v5)(d:w.ownsRow 0 e size v n xs)(c:Fr (mZ v) w w')(i:e≠119)(j:e≠247):xw w' N f v4 v5:=
 ⟨aQ h.DG c (fun g a b=>nM d h.DG i g b a),aQ h.Hv c (fun g a b=>nM d h.Hv j g b a),h.len⟩
theorem xw.Kl{w:World}{N c:Nat}{a:Option Addr}{b:List CV}{v5:Value}(h:xw w N b (.slice a N c) v5):CL w (fun _=>True) a N b:=⟨(Rd.ib h.DG).any,h.len⟩
def Jw(w:World)(N:Nat)(d:List CV)(e:Ending)(w':World):Prop:=∃a c b c5,e= .returned (.tuple #[.slice a N c, .slice b N c5])∧Fr ag w w'∧xw w' N d (.slice a N c) (.slice b N c5)
theorem JJ(n:Nat)(xs:List CV)(A:Option Addr)(c:Nat)(S:Nat→Prop)(w:World)(f:CL w S A n xs)(l:n≤9223372036854775807):
  Calls Tryz.prog 127 #[.slice A n c] w (Jw w (min n 24) (rE xs n)):=by
 have a:(rE xs n).length=min n 24:=by rw[rE,List.length_map,List.length_take,f.len];omega
 refine(IB n xs A c S w f l).mono ?_;rintro e w2⟨v4,v5,rfl,b,d⟩;obtain⟨g,n4,k,rfl,i,_⟩:=aU b.own;obtain⟨h,m,c5,rfl,j,_⟩:=aU d.own;obtain rfl:n4=min n 24:=i.out;obtain rfl:m=min n 24:=j.out;exact⟨g,k,h,c5,rfl,b.ar,b.own,d.own,a⟩
def gD(a b:eN):Int:=aV (dN a.tick b.tick) (aV (dN a.cls b.cls) (aV (dN a.num b.num) (kq a.fA b.fA)))
theorem tY:ik gD:=
 (eS.lex (eS.lex (eS.lex ze))).pull (fun k:eN=>(k.tick,k.cls,k.num,k.fA)) (fun a b e=>by
  cases a;cases b;simpa using e)
def eY(L:List ActV)(a:ActV):Int×List ActV:=
 if gm a=false then(3,L)else
 match L.getLast? with
 |some b=>if gD a.key b.key≤0 then(32,L)else(0,L++[a])
 |none=>(0,L++[a])
def fT(L:List ActV)(E:List Ent):List Ent:=L.foldl (fun e a=>mr a.writes e) E
theorem uT(L:List ActV)(a:ActV)(E:List Ent):fT (L++[a]) E=mr a.writes (fT L E):=by
 simp[fT]
theorem Cu{L:List ActV}{k:Nat}{a:ActV}(h:L[k]? =some a)(E:List Ent):fT (L.take (k+1)) E=mr a.writes (fT (L.take k) E):=by
 rw[List.take_add_one,h,Option.toList_some,uT]
structure gW(a:ActV):Prop where
 fA:a.key.fA.size≤100
 reads:∀c∈a.reads,ed c
 writes:∀c∈a.writes,ed c
 nr:a.reads.length≤6
 nw:a.writes.length≤6
theorem ed.cv{c:CV}(h:ed c):gL c:=⟨by have:=h.owner;omega,by have:=h.text;omega⟩
theorem Cb{a:ActV}(h:gm a=true):dM a.key=true∧fW a.reads=true∧fW a.writes=true:=by
 simp only[gm,Bool.and_eq_true]at h;exact⟨h.1.1,h.1.2,h.2⟩
theorem qh{a:ActV}(h:gm a=true):∀c∈a.writes,dA c.nm=true:=fun c b=>by
 have:=j9 (Cb h).2.2 c b;simp only[jn,Bool.and_eq_true]at this;exact this.1.1
theorem AX{c:CV}(h:ed c):(ng c).length≤500:=by
 have a:=h.owner;have b:=h.text;have d:=h.value;have e:=fi c.nm;have f:=aW (cL c.nm).length;have g:=aW (aR c.value).length;have i:=aO c.value;simp only[ng,bO,jH,bh,List.length_cons,List.length_nil];omega
theorem pV:∀(l:List CV),(∀c∈l,ed c)→(l.flatMap ng).length≤500*l.length
 |[],_=>by simp
 |c::l,h=>by
  have b:=AX (h c (by simp));have e:=pV l (fun d a=>h d (by simp[a]));simp only[List.flatMap_cons,bh,List.length_cons];omega
theorem gW.len{a:ActV}(h:gW a):(dk a).length≤6300:=by
 have e:=pV a.reads h.reads;have f:=pV a.writes h.writes;have g:=h.nr;have i:=h.nw;have j:=aW a.reads.length;have k:=aW a.writes.length;have l:=aW a.key.tick.toNat;have m:=aW a.key.cls.toNat;have n:=aW a.key.num.toNat;have b:=aW (aR a.key.fA).length;have c:=aO a.key.fA;have d:=h.fA;simp only[dk,qW,eI,bO,bh];omega
theorem gW.dec{a:ActV}(h:gW a)(d:gm a=true):mJ (dk a)=some a:=
 EA d (by have:=h.fA;omega) (fun c b=>(h.reads c b).cv) (fun c b=>(h.writes c b).cv) (by have:=h.len;omega)
structure iH(L:List ActV):Prop where
 ok:∀a∈L,gm a=true
 small:∀a∈L,gW a
 len:L.length≤16
 ord:L.Pairwise (fun a b=>gD a.key b.key<0)
theorem iH.nil:iH []:=⟨fun _ h=>(by cases h),fun _ h=>(by cases h),Nat.zero_le _,List.Pairwise.nil⟩
theorem oz(L:List ActV)(a:ActV):((eY L a).1≠0∧(eY L a).2=L)∨((eY L a).1=0∧(eY L a).2=L++[a]∧gm a=true):=by
 unfold eY;cases h:gm a;·simp
 ·simp only[Bool.true_eq_false,if_false];split
  ·split;·exact .inl ⟨by simp,rfl⟩
   ·exact .inr ⟨rfl,rfl,trivial⟩
  ·exact .inr ⟨rfl,rfl,trivial⟩
theorem Kw(L:List ActV)(a:ActV)(h:(eY L a).1=0):∀b,L.getLast?=some b→gD b.key a.key<0:=fun b c=>by
 unfold eY at h;split at h;·cases h
 ·rw[c]at h;simp only at h;split at h;·cases h
  ·have:=tY.lS b.key a.key;omega
theorem Kv:∀{L:List ActV},L.Pairwise (fun a b=>gD a.key b.key<0)→∀b,L.getLast?=some b→∀x∈L,gD x.key b.key≤0
 |[],_,_,h,_,_=>by cases h
 |[c],_,b,h,x,e=>by
  rw[List.mem_singleton.1 e];obtain rfl:c=b:=by simpa using h
  rw[tY.refl];exact Int.le_refl 0
 |c::d::L,g,b,h,x,e=>by
  have f:(d::L).getLast?=some b:=by simpa using h
  rcases List.mem_cons.1 e with rfl|e;·have:=(List.pairwise_cons.1 g).1 b (List.mem_of_getLast? f);omega
  ·exact Kv (List.pairwise_cons.1 g).2 b f x e
theorem iH.append{L:List ActV}{a:ActV}(h:iH L)(j:gW a)(l:L.length<16):iH (eY L a).2:=by
 rcases oz L a with⟨_,e⟩|⟨g,e,i⟩;·rw[e];exact h
 ·rw[e];refine⟨fun b c=>?_,fun b c=>?_,by rw[bh];simp;omega,?_⟩
  ·rcases List.mem_append.1 c with c|c;·exact h.ok b c
   ·rw[List.mem_singleton.1 c];exact i
  ·rcases List.mem_append.1 c with c|c;·exact h.small b c
   ·rw[List.mem_singleton.1 c];exact j
  ·refine List.pairwise_append.2 ⟨h.ord,List.pairwise_singleton _ _,fun x f y k=>?_⟩;rw[List.mem_singleton.1 k];have d:L≠[]:=by rintro rfl;cases f
   obtain⟨b,c⟩:∃b,L.getLast?=some b:=⟨L.getLast d,List.getLast?_eq_some_getLast d⟩;exact tY.Kx (Kv h.ord b c x f) (Kw L a g b c)
theorem lI:∀(L:List ActV)(E:List Ent)(m:Nat),cW m E→(∀a∈L,gm a=true)→(∀a∈L,gW a)→cW (m+6*L.length) (fT L E)
 |[],_,_,h,_,_=>h
 |a::L,E,m,h,e,f=>by
  have d:=f a (by simp);have g:=qq a.writes E m h d.writes (qh (e a (by simp)));have i:=lI L (mr a.writes E) (m+a.writes.length) g (fun b c=>e b (by simp[c])) (fun b c=>f b (by simp[c]));have:=d.nw;exact i.more (by simp only[List.length_cons];omega)
theorem iH.take{L:List ActV}(h:iH L)(k:Nat):iH (L.take k):=
 ⟨fun a b=>h.ok a (List.mem_of_mem_take b),fun a b=>h.small a (List.mem_of_mem_take b),by have:=h.len;rw[List.length_take];omega,h.ord.sublist (List.take_sublist _ _)⟩
def eV(l:List CV)(k:Nat):Bool:=match l[k]? with
 |some c=>jn c&&(match k with|0=>true|j+1=>match l[j]? with|some d=>decide (cT d.nm c.nm<0)|none=>true)
 |none=>true
theorem rP:∀(l:List CV),fW l=true↔∀k,k<l.length→eV l k=true
 |[]=>by simp[fW]
 |[c]=>by
  simp only[fW,Bool.and_true,List.length_singleton];constructor
  ·intro h k b;obtain rfl:k=0:=by omega
   simp[eV,h]
  ·intro h;have:=h 0 (by omega);simpa[eV]using this
 |c::d::r=>by
  have j:=rP (d::r);have e:fW (c::d::r)=(jn c&&decide (cT c.nm d.nm<0)&&fW (d::r)):=rfl;rw[e];simp only[Bool.and_eq_true];rw[j];constructor
  ·rintro⟨⟨g,i⟩,f⟩k b;rcases k with _|_|k;·simp[eV,g]
   ·have a:=f 0 (by simp);simp only[eV,List.getElem?_cons_zero,Bool.and_true]at a;simp[eV,a];simpa using i
   ·have a:=f (k+1) (by simpa using b);simpa[eV]using a
  ·intro h;refine⟨⟨?_,?_⟩,fun k b=>?_⟩;·have:=h 0 (by simp);simpa[eV]using this
   ·have:=h 1 (by simp);simp[eV]at this;simpa using this.2
   ·have:=h (k+1) (by simpa using b);rcases k with _|k;·simp[eV]at this⊢;exact this.1
    ·simpa[eV]using this
theorem Fm{l:List CV}{k:Nat}(a:k<l.length)(h:eV l k=false):fW l=false:=by
 cases e:fW l;·rfl
 ·have:=(rP l).1 e k a;rw[h]at this;cases this
theorem Fl{l:List CV}(h:∀k,k<l.length→eV l k=true):fW l=true:=(rP l).2 h
theorem zN{l:List CV}{c:CV}(h:l[0]? =some c):eV l 0=jn c:=by
 simp[eV,h]
theorem zM{l:List CV}{k:Nat}{c d:CV}(h:l[k+1]? =some c)(a:l[k]? =some d):eV l (k+1)=(jn c&&decide (cT d.nm c.nm<0)):=by
 simp[eV,h,a]
theorem EH(a b:aK)(w:World):(binOp .eql 106 (.agg a.cells.toArray) (.agg b.cells.toArray)).run Tryz.prog w= .ok (.bool (xM a b)) w:=by
 by_cases h:a=b
 ·subst h;have e:xM a a=true:=by unfold xM;exact beq_iff_eq.2 (cU.refl _)
  rw[e];obtain⟨k,q,n,i,t⟩:=a;simp only[aK.cells];go_simp
 ·have e:xM a b=false:=by unfold xM;exact ku (fun e=>h (cU.eq _ _ e))
  rw[e];obtain⟨k,q,n,i,t⟩:=a;obtain⟨l,o,m,i',p⟩:=b;simp only[aK.cells];go_simp;intro c d f g j;exact h (by rw[c,toList_inj d,f,g,toList_inj j])
theorem ts(c:CV):∀u∈c.cells,u.oneCell'=true:=fun u hu=>by
 have h:=c.one;rw[Array.all_eq_true_iff_forall_mem]at h;exact h u (by simpa using hu)
end Go.Proofs.YtphjagkehiklkaaGreatDoor
