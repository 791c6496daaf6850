/- Texts. -/
import Derived.Test.YtphjagkehiklkaaGreatDoorUK18
set_option linter.unusedVariables false
set_option linter.unusedSimpArgs false
set_option maxRecDepth 100000
set_option maxHeartbeats 4000000
namespace Go.Proofs.YtphjagkehiklkaaGreatDoor
open Go.RowKit Go.Shelf
theorem By(l:List UInt8)(m:Nat)(hm:m≤10)(h:(pn l m).2.2=0):enc (pn l m).1=l.take (pn l m).2.1∧(pn l m).2.1≤l.length:=by
 rcases qF l m hm with(a|a)|⟨k,c,d,b,e,_,f,a⟩;·rw[a]at h;simp at h
 ·rw[a]at h;simp at h
 ·rw[a];exact⟨EO l m k c hm d b e f,b⟩
theorem lF{α:Type}(zero:α)(parse:List UInt8→α×Nat×Int)(st:List UInt8×Nat×Int)(h:st.2.2≠0):(aF zero parse st).2=st:=by
 unfold aF;rw[if_pos h]
theorem gF(aJ:Int)(st:List UInt8×Nat×Int)(h:(aF [] (bJ aJ) st).2.2.2=0):st.2.2=0∧st.1=aY (aF [] (bJ aJ) st).1++(aF [] (bJ aJ) st).2.1:=by
 by_cases b:st.2.2=0
 ·refine⟨b,?_⟩;unfold aF at h⊢;rw[if_neg (by omega)]at h⊢;by_cases a:(bJ aJ st.1).2.2=0
  ·rw[if_neg (by omega)];simp only;unfold bJ at a⊢;by_cases c:(pn st.1 9).2.2≠0;·rw[if_pos c]at a;simp only at a;omega
   rw[if_neg c]at a⊢;by_cases d:aJ<((pn st.1 9).1:Int)∨16777216<(pn st.1 9).1;·rw[if_pos d]at a;cases a
   rw[if_neg d]at a⊢;by_cases e:st.1.length<(pn st.1 9).2.1+(pn st.1 9).1;·rw[if_pos e]at a;cases a
   rw[if_neg e];simp only[aY];obtain⟨he,g⟩:=By st.1 9 (by omega) (by omega);generalize(pn st.1 9).2.1=k at*;generalize(pn st.1 9).1=n at*;have f:((st.1.drop k).take n).length=n:=by rw[List.length_take,List.length_drop];omega
   rw[f,he,List.append_assoc,←List.drop_drop,List.take_append_drop,List.take_append_drop]
  ·rw[if_pos a]at h;exact absurd h a
 ·rw[lF _ _ _ b]at h;exact absurd h b
theorem iq(aJ:Int)(st:List UInt8×Nat×Int)(h:(aF 0 (aT aJ) st).2.2.2=0):st.2.2=0∧st.1=enc (aF 0 (aT aJ) st).1.toNat++(aF 0 (aT aJ) st).2.1:=by
 by_cases b:st.2.2=0
 ·refine⟨b,?_⟩;unfold aF at h⊢;rw[if_neg (by omega)]at h⊢;by_cases a:(aT aJ st.1).2.2=0
  ·rw[if_neg (by omega)];simp only;unfold aT at a⊢;simp only at a⊢;have c:(pn st.1 9).2.2=0:=by
    split at a;·omega
    ·omega
   obtain⟨he,d⟩:=By st.1 9 (by omega) c;rw[Int.toNat_natCast,he,List.take_append_drop]
  ·rw[if_pos a]at h;exact absurd h a
 ·rw[lF _ _ _ b]at h;exact absurd h b
theorem pd{α:Type}(zero:α)(parse:List UInt8→α×Nat×Int)(l:List UInt8)(p:Nat)(x:α)(k:Nat)(h:parse l=(x,k,0)):aF zero parse (l,p,0)=(x,(l.drop k,p+k,0)):=by
 unfold aF;simp[h]
theorem jf(u:Nat)(aJ:Int)(hu:u<9223372036854775808)(hm:(u:Int)≤aJ)(r:List UInt8)(p:Nat):aF 0 (aT aJ) (enc u++r,p,0)=((u:Int),(r,p+(enc u).length,0)):=by
 have h:aT aJ (enc u++r)=((u:Int),(enc u).length,0):=by
  unfold aT;rw[yD u r hu];simp only[true_and];rw[if_neg (by omega)];rfl
 rw[pd 0 (aT aJ) _ p _ _ h,List.drop_left]
theorem kB(s:List UInt8)(aJ:Int)(a:(s.length:Int)≤aJ)(b:s.length≤16777216)(r:List UInt8)(p:Nat):aF [] (bJ aJ) (aY s++r,p,0)=(s,(r,p+(aY s).length,0)):=by
 have h:bJ aJ (aY s++r)=(s,(aY s).length,0):=by
  unfold bJ aY;rw[List.append_assoc,yD s.length (s++r) (by omega)];simp only[ne_eq,not_true_eq_false,if_false];rw[if_neg (by omega),if_neg (by simp only[List.length_append];omega),List.drop_left,List.take_left,List.length_append]
 rw[pd [] (bJ aJ) _ p _ _ h,List.drop_left]
theorem ox(l:List UInt8):aC ⟨l.toArray⟩=l:=rfl
theorem pK{st:List UInt8×Nat×Int}(h:eK st=0):st.2.2=0∧st.1=[]:=by
 unfold eK at h;split at h;next a=>
  refine⟨a,?_⟩;split at h;·cases h
  ·exact List.eq_nil_of_length_eq_zero (by omega)
 next a=>exact absurd h a
theorem AG{u:fM}{l:List UInt8}(hu:fQ[(dm l).1.toNat]? =some u)(m:eK (eD u l).2=0)(s:cU (eD u l).1=true):bT (eD u l).1=l:=by
 have x:=sU l;have d:dm l=aF 0 (aT 20) (l,0,0):=rfl;obtain⟨a0,n⟩:∃a,dm l=a:=⟨_,rfl⟩;obtain⟨c,o⟩:∃a,jz u a0.2=a:=⟨_,rfl⟩;obtain⟨a2,p⟩:∃a,lM u c.2=a:=⟨_,rfl⟩;obtain⟨a3,q⟩:∃a,nh u a2.2=a:=⟨_,rfl⟩;obtain⟨a4,r⟩:∃a,oD u a3.2=a:=⟨_,rfl⟩;have y:eD u l=(⟨a0.1,⟨c.1.toArray⟩,a2.1,a3.1,⟨a4.1.toArray⟩⟩,a4.2):=by rw[eD,n,o,p,q,r]
 rw[y]at m s⊢;rw[n]at hu x d;simp only at m;obtain⟨k,A⟩:=pK m;have z:oI u ⟨a0.1,⟨c.1.toArray⟩,a2.1,a3.1,⟨a4.1.toArray⟩⟩=true:=by
  obtain⟨_,B,f,h⟩:=pW s;simp only at f;rw[hu]at f;cases f;exact h
 rw[qB (u:=u) hu];have w:a3.2.2.2=0∧a3.2.1=(if u.text then aY a4.1 else[])++a4.2.1:=by
  rw[←r]at k⊢;unfold oD at k⊢;split;next b=>rw[if_pos b]at k;exact gF 32 a3.2 k
  next b=>rw[if_neg b]at k;exact⟨k,rfl⟩
 have v:a2.2.2.2=0∧a2.2.1=(if u.index then enc a3.1.toNat else[])++a3.2.1:=by
  have j:=w.1;rw[←q]at j⊢;unfold nh at j⊢;split;next b=>rw[if_pos b]at j;exact iq u.aJ a2.2 j
  next b=>rw[if_neg b]at j;exact⟨j,rfl⟩
 have s2:c.2.2.2=0∧c.2.1=(if u.number then enc a2.1.toNat else[])++a2.2.1:=by
  have i:=v.1;rw[←p]at i⊢;unfold lM at i⊢;split;next b=>rw[if_pos b]at i;exact iq 1073741824 c.2 i
  next b=>rw[if_neg b]at i;exact⟨i,rfl⟩
 have s1:a0.2.2.2=0∧a0.2.1=(if u.owner then aY c.1 else[])++c.2.1:=by
  have g:=s2.1;rw[←o]at g⊢;unfold jz at g⊢;split;next b=>rw[if_pos b]at g;exact gF 16777216 a0.2 g
  next b=>rw[if_neg b]at g;exact⟨g,rfl⟩
 have t:=iq 20 (l,0,0) (by rw[←d];exact s1.1);rw[←d]at t;have e:=t.2;simp only at e;rw[e,s1.2,s2.2,v.2,w.2,A,List.append_nil];rfl
theorem Ak{u:fM}{n:aD}(h:oI u n=true)(a:u.text=true):n.text.size≤32:=by
 simp only[oI,Bool.and_eq_true,Bool.or_eq_true,Bool.not_eq_true']at h;rcases h.2 with h|h;·rw[a]at h;cases h
 ·simp only[jK,Bool.and_eq_true,decide_eq_true_eq]at h;exact h.1.2
theorem AF{m:aD}(G:cU m=true)(I:m.owner.size≤16777216):∃u,fQ[(dm (bT m)).1.toNat]? =some u∧eK (eD u (bT m)).2=0∧(eD u (bT m)).1=m:=by
 obtain⟨A,u,hu,v⟩:=pW G;have g:=rC v;have hm:=yo hu;rw[qB hu];have B:=@Ak u m v;obtain⟨k,O,n,i,t⟩:=m;obtain⟨wd,b,a,bi,c,d⟩:=u;obtain⟨kk,rfl⟩:∃q:Nat,k=(q:Int):=⟨k.toNat,by simp only at A;omega⟩;simp only at A I hm B hu;simp only[mw];rw[Int.toNat_natCast]at hu⊢;have d0:∀r,dm (enc kk++r)=((kk:Int),(r,(enc kk).length,0)):=fun r=>by
  unfold dm;rw[jf kk 20 (by omega) (by omega) r 0,Nat.zero_add]
 refine⟨⟨wd,b,a,bi,c,d⟩,by rw[d0,Int.toNat_natCast];exact hu,?_⟩;obtain⟨y,s⟩:∃N,(if c=true then aY (aC t)else[])=N:=⟨_,rfl⟩;obtain⟨x,o⟩:∃N,(if bi=true then enc i.toNat else[])++y=N:=⟨_,rfl⟩;obtain⟨w,l⟩:∃N,(if a=true then enc n.toNat else[])++x=N:=⟨_,rfl⟩;obtain⟨z,j⟩:∃N,(if b=true then aY (aC O)else[])++w=N:=⟨_,rfl⟩;rw[s,o,l,j];have d1:∀p,∃f,jz ⟨wd,b,a,bi,c,d⟩ (z,p,0)=(aC O,(w,f,0)):=fun p=>by
  rw[←j];unfold jz;cases b;·have e:=g.o0 rfl;simp only at e;exact⟨p,by rw[e];rfl⟩
  ·exact⟨_,kB (aC O) 16777216 (by rw[aG];omega) (by rw[aG];omega) w p⟩
 have d2:∀p,∃f,lM ⟨wd,b,a,bi,c,d⟩ (w,p,0)=(n,(x,f,0)):=fun p=>by
  rw[←l];unfold lM;cases a;·have e:=g.n0 rfl;simp only at e;exact⟨p,by rw[e];rfl⟩
  ·have e:=g.n1 rfl;simp only at e;have h:=jf n.toNat 1073741824 (by omega) (by omega) x p;rw[Int.toNat_of_nonneg e.1]at h;exact⟨_,h⟩
 have d3:∀p,∃f,nh ⟨wd,b,a,bi,c,d⟩ (x,p,0)=(i,(y,f,0)):=fun p=>by
  rw[←o];unfold nh;cases bi;·have e:=g.i0 rfl;simp only at e;exact⟨p,by rw[e];rfl⟩
  ·have e:=g.i1 rfl;simp only at e;have h:=jf i.toNat d (by omega) (by omega) y p;rw[Int.toNat_of_nonneg e.1]at h;exact⟨_,h⟩
 have d4:∀p,∃f,oD ⟨wd,b,a,bi,c,d⟩ (y,p,0)=(aC t,([],f,0)):=fun p=>by
  rw[←s];unfold oD;cases c;·have e:=g.t0 rfl;simp only at e;exact⟨p,by rw[e];rfl⟩
  ·have e:=B rfl;have h:=kB (aC t) 32 (by rw[aG];omega) (by rw[aG];omega) [] p;rw[List.append_nil]at h;exact⟨_,h⟩
 obtain⟨J,C⟩:=d1 (enc kk).length;obtain⟨K,D⟩:=d2 J;obtain⟨L,E⟩:=d3 K;obtain⟨M,F⟩:=d4 L;have H:eD ⟨wd,b,a,bi,c,d⟩ (enc kk++z)=(⟨(kk:Int),⟨(aC O).toArray⟩,n,i,⟨(aC t).toArray⟩⟩,([],M,0)):=by
  rw[eD,d0];simp only[C,D,E,F]
 rw[H];exact⟨rfl,rfl⟩
def eL(l:List UInt8):aD×Int:=match fQ[(dm l).1.toNat]? with
 |some u=>if eK (eD u l).2=0∧cU (eD u l).1=true then((eD u l).1,0)else(⟨0,ByteArray.empty,0,0,ByteArray.empty⟩,3)
 |none=>(⟨0,ByteArray.empty,0,0,ByteArray.empty⟩,3)
theorem qq(l:List UInt8):∃u,fQ[(dm l).1.toNat]? =some u:=by
 have h:=sU l;have a:fQ.length=21:=by decide
 exact⟨_,List.getElem?_eq_getElem (show(dm l).1.toNat<fQ.length by omega)⟩
theorem pL{l:List UInt8}{u:fM}(h:fQ[(dm l).1.toNat]? =some u):eL l=if eK (eD u l).2=0∧cU (eD u l).1=true then((eD u l).1,0)else(⟨0,ByteArray.empty,0,0,ByteArray.empty⟩,3):=by
 unfold eL;rw[h]
theorem C7{m:aD}(a:cU m=true)(d:m.owner.size≤16777216):eL (bT m)=(m,0):=by
 obtain⟨u,hu,b,c⟩:=AF a d;rw[pL hu,c,if_pos ⟨b,a⟩]
theorem uS{l:List UInt8}(h:(eL l).2=0):cU (eL l).1=true∧bT (eL l).1=l:=by
 obtain⟨u,hu⟩:=qq l;rw[pL hu]at h⊢;by_cases a:eK (eD u l).2=0∧cU (eD u l).1=true;·rw[if_pos a];exact⟨a.2,AG hu a.1 a.2⟩
 ·rw[if_neg a]at h;cases h
theorem tI(aJ:Int)(st:List UInt8×Nat×Int):(aF [] (bJ aJ) st).1.length≤st.1.length:=by
 unfold aF;split;·simp
 ·split;·simp
  next h=>
   simp only[bJ];split;·simp
   ·split;·simp
    ·split;·simp
     ·simp only[List.length_take,List.length_drop];omega
theorem yJ(aJ:Int)(st:List UInt8×Nat×Int):(aF [] (bJ aJ) st).2.1.length≤st.1.length:=by
 unfold aF;split;·simp
 ·split;·simp
  ·simp only[List.length_drop];omega
theorem kA(aJ:Int)(st:List UInt8×Nat×Int):(aF 0 (aT aJ) st).2.1.length≤st.1.length:=by
 unfold aF;split;·simp
 ·split;·simp
  ·simp only[List.length_drop];omega
theorem rm(l:List UInt8):(eL l).1.owner.size≤l.length∧(eL l).1.text.size≤l.length:=by
 obtain⟨u,hu⟩:=qq l;rw[pL hu];split
 ·have a:=kA 20 (l,0,0);have b:dm l=aF 0 (aT 20) (l,0,0):=rfl;rw[←b]at a;simp only at a;have c:∀st,(jz u st).1.length≤st.1.length∧(jz u st).2.1.length≤st.1.length:=fun st=>by
   unfold jz;split;·exact⟨tI _ _,yJ _ _⟩
   ·simp
  have d:∀st,(lM u st).2.1.length≤st.1.length:=fun st=>by
   unfold lM;split;·exact kA _ _
   ·simp
  have e:∀st,(nh u st).2.1.length≤st.1.length:=fun st=>by
   unfold nh;split;·exact kA _ _
   ·simp
  have f:∀st,(oD u st).1.length≤st.1.length:=fun st=>by
   unfold oD;split;·exact tI _ _
   ·simp
  simp only[eD,ByteArray.size,List.size_toArray];have g:=c (dm l).2;have a2:=d (jz u (dm l).2).2;have a3:=e (lM u (jz u (dm l).2).2).2;have a4:=f (nh u (lM u (jz u (dm l).2).2).2).2;omega
 ·simp
end Go.Proofs.YtphjagkehiklkaaGreatDoor
namespace Go.Proofs.YtphjagkehiklkaaGreatDoor
open Go.RowKit Go.Shelf
def sx(w:World)(l:List UInt8)(e:Ending)(w':World):Prop:=e= .returned (.tuple #[.agg (eL l).1.cells.toArray, .int .i64 (eL l).2])∧Fr af w w'
theorem Ce(s:ByteArray)(w:World)(d:dy w)(f:s.size≤16777216):Calls Tryz.prog 118 #[.string s] w (sx w (aC s)):=by
 obtain⟨u,hu⟩:=qq (aC s);refine(zm s u w d f hu).mono ?_;rintro e w'⟨n,k,rfl,a,h⟩;unfold sx;rw[pL hu];rcases h with⟨b,c,rfl,rfl⟩|⟨h,rfl,rfl⟩;·rw[if_pos ⟨b,c⟩];exact⟨rfl,a⟩
 ·rw[if_neg h];exact⟨rfl,a⟩
abbrev dP:=List UInt8×Nat×Int
def cY(st:dP):List UInt8×dP:=aF [] (bJ 65536) st
def IE:aD:=⟨0,ByteArray.empty,0,0,ByteArray.empty⟩
structure px(L:List Ent)(last:aD)(st:dP):Prop where
 sort:eC L
 ok:∀x∈L,cU x.1=true
 owner:∀x∈L,x.1.owner.size≤70000
 text:∀x∈L,x.1.text.size≤70000
 value:∀x∈L,x.2.size≤70000
 len:2*L.length+st.1.length≤70000
 bytes:cG L+st.1.length≤70000
 last:L=[]∨∃M v,L=M++[(last,v)]
theorem px.nil{l:List UInt8}(h:l.length≤70000)(st:dP)(a:st.1.length≤l.length):px [] IE st:=
 ⟨List.Pairwise.nil,(fun _ h=>by cases h),(fun _ h=>by cases h),(fun _ h=>by cases h),(fun _ h=>by cases h),by simp;omega,by simp[cG];omega,Or.inl rfl⟩
theorem px.kX{L:List Ent}{last:aD}{st:dP}(h:px L last st):qh L:=
 ⟨h.sort,fun x a=>by have:=h.owner x a;omega,by have:=h.len;omega,by have:=h.bytes;omega,h.ok⟩
theorem px.small{L:List Ent}{last:aD}{st:dP}(h:px L last st):vU L:=
 ⟨h.ok,fun x a=>by have:=h.owner x a;omega,fun x a=>by have:=h.text x a;omega,fun x a=>by have:=h.value x a;omega,by have:=h.len;omega⟩
theorem mH(s:List UInt8):s.length+1≤(aY s).length:=by
 unfold aY;have:1≤(enc s.length).length:=pN 9 _;rw[List.length_append];omega
theorem xI(A B:List Ent):cG (A++B)=cG A+cG B:=by simp[cG]
theorem AM{L:List Ent}{last m:aD}(f:eC L)(e:L=[]∨∃M v,L=M++[(last,v)])(d:¬(0<L.length∧cp m last≤0)):∀y∈L,0<cp m y.1:=by
 rcases e with rfl|⟨M,u,rfl⟩;·intro y a;cases a
 ·have b:0<cp m last:=by
   by_cases h:0<cp m last;·exact h
   ·exact absurd ⟨by simp,by omega⟩ d
  intro y a;rcases List.mem_append.1 a with a|a;·have c:=(eC.parts f).2.2.1 y a;exact ja (cq.trans y.1 last m c (lL b))
  ·simp only[List.mem_singleton]at a;rw[a];exact b
theorem px.next{L:List Ent}{last:aD}{st:dP}(h:px L last st)(i:(eL (cY st).1).2=0)(j:¬(0<L.length∧cp (eL (cY st).1).1 last≤0))(k:(cY (cY st).2).2.2.2=0):
  px (L++[((eL (cY st).1).1,⟨(cY (cY st).2).1.toArray⟩)]) (eL (cY st).1).1 (cY (cY st).2).2∧dq (eL (cY st).1).1 ⟨(cY (cY st).2).1.toArray⟩ L=L++[((eL (cY st).1).1,⟨(cY (cY st).2).1.toArray⟩)]∧
  (cY st).2.2.2=0∧st.2.2=0∧st.1=nk ((eL (cY st).1).1,⟨(cY (cY st).2).1.toArray⟩)++(cY (cY st).2).2.1:=by
 have Dl:=AM h.sort h.last j;obtain⟨d,s1⟩:=gF 65536 (cY st).2 k;obtain⟨g,c⟩:=gF 65536 st d;obtain⟨ok,l⟩:=uS i;have n:=rm (cY st).1;have e:dq (eL (cY st).1).1 ⟨(cY (cY st).2).1.toArray⟩ L=L++[((eL (cY st).1).1,⟨(cY (cY st).2).1.toArray⟩)]:=by
  have:=pU (v:=⟨(cY (cY st).2).1.toArray⟩) L [] Dl;rw[List.append_nil]at this;rw[this];rfl
 have t0:(cY st).1=(aF [] (bJ 65536) st).1:=rfl;have t1:(cY st).2=(aF [] (bJ 65536) st).2:=rfl;have q:(cY (cY st).2).1=(aF [] (bJ 65536) (cY st).2).1:=rfl;have r:(cY (cY st).2).2=(aF [] (bJ 65536) (cY st).2).2:=rfl;rw[←t0,←t1]at c;rw[←q,←r]at s1;have o:=congrArg List.length c;have l1:=congrArg List.length s1;rw[List.length_append]at o l1;have b0:=mH (cY st).1;have b1:=mH (cY (cY st).2).1;have hlen:=h.len;have b:=h.bytes;generalize(cY (cY st).2).2=st2 at*;generalize(cY (cY st).2).1=v at*;generalize(cY st).2=st1 at*;generalize(cY st).1=p at*;generalize(eL p).1=m at*;have f:(⟨v.toArray⟩:ByteArray).size=v.length:=by simp[ByteArray.size]
 refine⟨⟨by rw[←e];exact(mq h.sort).1,?_,?_,?_,?_,?_,?_,Or.inr ⟨L,_,rfl⟩⟩,e,d,g,?_⟩
 ·intro x a;rcases List.mem_append.1 a with a|a;·exact h.ok x a
  ·simp only[List.mem_singleton]at a;rw[a];exact ok
 ·intro x a;rcases List.mem_append.1 a with a|a;·exact h.owner x a
  ·simp only[List.mem_singleton]at a;rw[a];simp only;omega
 ·intro x a;rcases List.mem_append.1 a with a|a;·exact h.text x a
  ·simp only[List.mem_singleton]at a;rw[a];simp only;omega
 ·intro x a;rcases List.mem_append.1 a with a|a;·exact h.value x a
  ·simp only[List.mem_singleton]at a;rw[a];simp only[f];omega
 ·simp only[List.length_append,List.length_cons,List.length_nil];omega
 ·rw[xI];have:cG [((m:aD),(⟨v.toArray⟩:ByteArray))]=v.length:=by simp[cG,f]
  rw[this];omega
 ·rw[c,s1];simp only[nk];rw[l,List.append_assoc];rfl
end Go.Proofs.YtphjagkehiklkaaGreatDoor
namespace Go.Proofs.YtphjagkehiklkaaGreatDoor
open Go.RowKit Go.Shelf
structure dV where
 tick:Int
 cls:Int
 num:Int
 ez:ByteArray
structure ActV where
 key:dV
 reads:List CV
 writes:List CV
def de(k:dV):Bool:=
 decide (0≤k.tick)&&decide (k.tick≤1073741824)&&(decide (0≤k.cls)&&decide (k.cls≤2))&&(decide (0≤k.num)&&decide (k.num≤999999)&&!(k.cls==0&&k.num==0))&&
 (if k.cls=0 then k.ez.toList.isEmpty else(!k.ez.toList.isEmpty&&cC k.ez&&!(k.cls==2&&k.num !=0)))
def iA(c:CV):Bool:=cU c.nm&&decide (c.value.size≤65536)&&(!c.aV||c.value.toList.isEmpty)
def fh:List CV→Bool
 |[]=>true
 |c::r=>iA c&&(match r with|[]=>true|d::_=>decide (cp c.nm d.nm<0))&&fh r
def eW(a:ActV):Bool:=de a.key&&fh a.reads&&fh a.writes
def gZ(b:Bool):List UInt8:=[if b then 1 else 0]
def lz(c:CV):List UInt8:=aY (bT c.nm)++(gZ c.aV++aY (aC c.value))
def dp(l:List CV):List UInt8:=enc l.length++l.flatMap lz
def oG(k:dV):List UInt8:=enc k.tick.toNat++(enc k.cls.toNat++(enc k.num.toNat++aY (aC k.ez)))
def bY(a:ActV):List UInt8:=oG a.key++(dp a.reads++dp a.writes)
theorem AB(b:Bool)(r:List UInt8)(p:Nat):aF false bH (gZ b++r,p,0)=(b,(r,p+1,0)):=by
 have h:bH (gZ b++r)=(b,1,0):=by
  unfold bH gZ;cases b<;>simp
 rw[pd false bH _ p _ _ h];rfl
theorem yI(st:dP):(aF false bH st).2.1.length≤st.1.length:=by
 unfold aF;split;·simp
 ·split;·simp
  ·simp only[List.length_drop];omega
def gv(st:dP):List UInt8×dP:=aF [] (bJ 16777216) st
def iU:Nat→dP→List CV→Option (List CV×dP)
 |0,st,L=>some (L,st)
 |n+1,st,L=>
  if(eL (gv st).1).2≠0 then none else
  iU n (cY (aF false bH (gv st).2).2).2 (L++[⟨(eL (gv st).1).1,⟨(cY (aF false bH (gv st).2).2).1.toArray⟩,(aF false bH (gv st).2).1⟩])
def fH(st:dP):Option (List CV×dP):=iU (aF 0 (aT (st.1.length:Int)) st).1.toNat (aF 0 (aT (st.1.length:Int)) st).2 []
def fj(l:List UInt8):Int×dP:=aF 0 (aT 1073741824) (l,0,0)
def gG(l:List UInt8):Int×dP:=aF 0 (aT 2) (fj l).2
def rdNum(l:List UInt8):Int×dP:=aF 0 (aT 999999) (gG l).2
def fI(l:List UInt8):List UInt8×dP:=gv (rdNum l).2
def fo(l:List UInt8):dV×dP:=(⟨(fj l).1,(gG l).1,(rdNum l).1,⟨(fI l).1.toArray⟩⟩,(fI l).2)
def iw(l:List UInt8):Option ActV:=
 match fH (fo l).2 with
 |none=>none
 |some (a,st)=>match fH st with
  |none=>none
  |some (W,st2)=>if eK st2=0∧eW ⟨(fo l).1,a,W⟩=true then some ⟨(fo l).1,a,W⟩else none
structure fL(c:CV):Prop where
 owner:c.nm.owner.size≤1048576
 text:c.nm.text.size≤1048576
theorem vB:∀(M:List CV)(p:Nat)(r:List UInt8)(L:List CV),(∀c∈M,iA c=true)→(∀c∈M,fL c)→∃b,iU M.length (M.flatMap lz++r,p,0) L=some (L++M,(r,b,0))
 |[],p,r,L,_,_=>⟨p,by simp[iU]⟩
 |c::M,p,r,L,f,g=>by
  have a0:=f c (by simp);have e:=g c (by simp);simp only[iA,Bool.and_eq_true,decide_eq_true_eq]at a0;have a4:=ej c.nm;have b1:=e.owner;have b2:=e.text;have t0:gv ((c::M).flatMap lz++r,p,0)=(bT c.nm,(gZ c.aV++(aY (aC c.value)++(M.flatMap lz++r)),p+(aY (bT c.nm)).length,0)):=by
   unfold gv;rw[List.flatMap_cons,lz,List.append_assoc,List.append_assoc,List.append_assoc];exact kB (bT c.nm) 16777216 (by omega) (by omega) _ p
  have t1:=AB c.aV (aY (aC c.value)++(M.flatMap lz++r)) (p+(aY (bT c.nm)).length);have t2:∀q,cY (aY (aC c.value)++(M.flatMap lz++r),q,0)=(aC c.value,(M.flatMap lz++r,q+(aY (aC c.value)).length,0)):=fun q=>by
   unfold cY;exact kB (aC c.value) 65536 (by rw[aG];omega) (by rw[aG];omega) _ _
  have t3:eL (bT c.nm)=(c.nm,0):=C7 a0.1.1 (by omega);rw[List.length_cons,iU,t0];simp only;rw[t3];simp only[ne_eq,not_true_eq_false,if_false];rw[t1];simp only;rw[t2];simp only;obtain⟨b,h⟩:=vB M (p+(aY (bT c.nm)).length+1+(aY (aC c.value)).length) r (L++[c]) (fun d a=>f d (by simp[a])) (fun d a=>g d (by simp[a]));refine⟨b,?_⟩;rw[show L++c::M=L++[c]++M by simp,←h];rfl
theorem EG(c:CV):3≤(lz c).length:=by
 have a:=mH (bT c.nm);have b:=mH (aC c.value);simp only[lz,gZ,List.length_append,List.length_cons,List.length_nil];omega
theorem pJ:∀M:List CV,3*M.length≤(M.flatMap lz).length
 |[]=>by simp
 |c::M=>by
  have a:=EG c;have b:=pJ M;simp only[List.flatMap_cons,List.length_append,List.length_cons];omega
theorem jB:∀{l:List CV},fh l=true→∀c∈l,iA c=true
 |[],_,_,h=>by cases h
 |d::r,h,c,a=>by
  simp only[fh,Bool.and_eq_true]at h;rcases List.mem_cons.1 a with rfl|a;·exact h.1.1
  ·exact jB h.2 c a
theorem tJ(M:List CV)(p:Nat)(r:List UInt8)(d:∀c∈M,iA c=true)(e:∀c∈M,fL c)(g:(dp M++r).length<9223372036854775808):∃a,fH (dp M++r,p,0)=some (M,(r,a,0)):=by
 have f:=pJ M;unfold fH;have hm:((M.length:Nat):Int)≤(((dp M++r).length:Nat):Int):=by
  rw[dp];simp only[List.length_append];omega
 have b:M.length<9223372036854775808:=by omega
 simp only;generalize(((dp M++r).length:Nat):Int)=aJ at hm;rw[dp,List.append_assoc,jf M.length aJ b hm _ p];simp only[Int.toNat_natCast];obtain⟨a,h⟩:=vB M (p+(enc M.length).length) r [] d e;exact⟨a,h⟩
theorem CM{a:ActV}(f:eW a=true)(r:a.key.ez.size≤16777216)(h:∀c∈a.reads,fL c)(i:∀c∈a.writes,fL c)(hlen:(bY a).length<9223372036854775808):iw (bY a)=some a:=by
 have g:=f;simp only[eW,Bool.and_eq_true]at f;obtain⟨⟨e,k⟩,hw⟩:=f;obtain⟨⟨t,c,n,li⟩,z,W⟩:=a;simp only at r h i e k hw;simp only[de,Bool.and_eq_true,decide_eq_true_eq]at e;obtain⟨⟨⟨⟨t0,t1⟩,u,v⟩,⟨n0,n1⟩,_⟩,_⟩:=e;obtain⟨t,rfl⟩:∃q:Nat,t=(q:Int):=⟨t.toNat,by omega⟩;obtain⟨c,rfl⟩:∃q:Nat,c=(q:Int):=⟨c.toNat,by omega⟩;obtain⟨n,rfl⟩:∃q:Nat,n=(q:Int):=⟨n.toNat,by omega⟩;have o:bY ⟨⟨t,c,n,li⟩,z,W⟩=enc t++(enc c++(enc n++(aY (aC li)++(dp z++dp W)))):=by
  simp[bY,oG]
 rw[o]at hlen⊢;obtain⟨l,j⟩:∃l,enc t++(enc c++(enc n++(aY (aC li)++(dp z++dp W))))=l:=⟨_,rfl⟩;have d1:fj l=((t:Int),(enc c++(enc n++(aY (aC li)++(dp z++dp W))),0+(enc t).length,0)):=by
  rw[←j];exact jf t 1073741824 (by omega) (by omega) _ 0
 have d2:∃p,gG l=((c:Int),(enc n++(aY (aC li)++(dp z++dp W)),p,0)):=by
  rw[gG,d1];exact⟨_,jf c 2 (by omega) (by omega) _ _⟩
 obtain⟨w,d2⟩:=d2;have d3:∃p,rdNum l=((n:Int),(aY (aC li)++(dp z++dp W),p,0)):=by
  rw[rdNum,d2];exact⟨_,jf n 999999 (by omega) (by omega) _ _⟩
 obtain⟨x,d3⟩:=d3;have d4:∃p,fI l=(aC li,(dp z++dp W,p,0)):=by
  rw[fI,d3];exact⟨_,kB (aC li) 16777216 (by rw[aG];omega) (by rw[aG];omega) _ _⟩
 obtain⟨m,d4⟩:=d4;have b:(dp z++(dp W++[])).length<9223372036854775808:=by
  simp only[List.length_append,List.length_nil]at hlen⊢;omega
 obtain⟨s,d5⟩:=tJ z m (dp W++[]) (jB k) h b;obtain⟨y,d6⟩:=tJ W s [] (jB hw) i (by simp only[List.length_append,List.length_nil]at b⊢;omega);rw[List.append_nil]at d5 d6;have d:fo l=(⟨t,c,n,⟨(aC li).toArray⟩⟩,(dp z++dp W,m,0)):=by
  rw[fo,d1,d2,d3,d4]
 rw[j,iw,d];simp only;rw[d5];simp only;rw[d6];simp only;rw[if_pos ⟨rfl,g⟩];rfl
end Go.Proofs.YtphjagkehiklkaaGreatDoor
namespace Go.Proofs.YtphjagkehiklkaaGreatDoor
open Go.RowKit Go.Shelf
theorem BU(w:World):(zeroValue 119).run Tryz.prog w= .ok cE w:=by kernel_rfl
def lH(w:World)(L:List Ent)(xs:List CV)(e:Ending)(w':World):Prop:=∃p k,e= .returned (.tuple #[.pointer p, .int .i64 k])∧Fr af w w'∧
 (((∀c∈xs,cU c.nm=true)∧k=0∧∃a,p=some ⟨a,0,none⟩∧ew w' a (ln xs L))∨((∃c∈xs,cU c.nm=false)∧k=12∧p=none))
def Hh(w:World)(L:List Ent)(xs:List CV)(n m:Nat)(s i:Value)(wr:World):Prop:=∃(k a:Nat),k≤n∧s= .pointer (some ⟨a,0,none⟩)∧i= .int .i64 (k:Int)∧ew wr a (ln (xs.take k) L)∧ct (m+k) (ln (xs.take k) L)∧(∀c∈xs.take k,cU c.nm=true)∧Fr af w wr
theorem sg(L:List Ent)(xs:List CV)(n m:Nat)(A:Option Addr)(ay:Nat)(S:Nat→Prop)(s:Nat)(w:World)(am:ew w s L)(an:dy w)(C:ct m L)(T:CL w S A n xs)(ap:∀c∈xs,du c)(hm:m+n≤60000):
  Calls Tryz.prog 82 #[.pointer (some ⟨s,0,none⟩), .slice A n ay] w (lH w L xs):=by
 have au:=Lib.hid T;have aa:=Lib.hid an;have ax:=Lib.hid ap;have av:=Lib.hid T.len;have Z:Hid (Hh w L xs n m (.pointer (some ⟨s,0,none⟩)) (.int .i64 0) w):=⟨0,s,by omega,rfl,rfl,am,C,(fun c v=>by simp at v),Fr.refl _ _⟩;clear T ap am C an;go_enter Tryz.func82,Tryz.ntmps82;go_wp2;go_loopw[0,13](fun s i wr=>Hh w L xs n m s i wr)(fun _ i _=>n-(intOf i).toNat);case atStart=>exact Z.out
 case round=>
  obtain⟨k,s1,aH,rfl,rfl,aj,C,ag,hF⟩:=hrel;have M:=Lib.hid hF;have R:=Lib.hid aj;have N:=Lib.hid C;have I:=Lib.hid ag;clear aj C ag hF Z;by_cases U:k<n
  ·have aA:(k:Int)<(n:Int):=by omega
   have aB:(0:Int)≤(k:Int):=by omega
   have t0:decide ((k:Int)<(n:Int))=true:=decide_eq_true aA;obtain⟨aD,c,rfl,v,o⟩:=(au.out.al M.out).at_ U;have z:=Lib.hid o;have ar:=Lib.hid c.one;have H:=Lib.hid (AJ v L);have u:Hid (du c):=ax.out c (List.mem_of_getElem? v);have r:Hid (xs[k]? =some c):=v;have Y:Hid (qh (ln (xs.take k) L)):=N.out.kX (by omega);generalize ln (xs.take k) L=Lk at*;clear o v;go_wp2_with(refine aw rfl 119 (.tmp 15) rfl _ rfl c.cells _ ?zE Tryz.underlying119 rfl iD (aR.go ?hold));case zE=>exact z.out
   unfold aR;go_wp2_with(refine ai rfl 119 rfl cE BU #[.int .i64 0, .string ByteArray.empty, .int .i64 0, .int .i64 0, .string ByteArray.empty, .string ByteArray.empty, .bool false] rfl ?_);intro aC aq;have Q:=Lib.hid aq;clear aq;generalize D:wr.heap.size=g7 at*;have B:=Lib.hid D;clear D;have V:Hid (ak aC g7 119 #[.int .i64 0, .string ByteArray.empty, .int .i64 0, .int .i64 0, .string ByteArray.empty, .string ByteArray.empty, .bool false]):=by have h:=Q.out.az;rw[B.out]at h;exact h
   go_wp2_with(refine ah rfl 119 (.tmp 7) _ rfl g7 c.cells.toArray rfl rfl _ _ V.out iD rfl ar.out ?_);intro t bb ae;have J:Hid (ak t g7 119 c.cells.toArray):=bb;have X:Hid (Fr af wr t):=Q.out.fr.ao ae (fun i aG e=>by have aF:i=g7:=e;have:=B.out;omega);clear bb ae Q V z;have ac:Hid (ew t s1 Lk):=R.out.al X.out;have ad:t.cell? {block:=g7,off:=6}=some (.bool c.aV):=J.out.cell 6;have aE:t.cell? {block:=g7,off:=5}=some (.string c.value):=J.out.cell 5;have W:Hid (∀j x,c.nm.cells[j]? =some x→t.cell? ((⟨g7,0,none⟩:Addr).add j)=some x):=fun j x g=>by
    rw[Addr.add_mid,Nat.zero_add,J.out.cell j,List.getElem?_toArray,CV.cells,List.getElem?_append_left (List.getElem?_eq_some_iff.1 g).1];exact g
   have G:Hid (Fr af w t):=M.out.trans X.out;cases l:c.aV
   ·rw[l]at ad;have O:Hid (jI c Lk=dq c.nm c.value Lk):=by simp only[Hid,jI,l];rfl
    have K:Hid (∀w',Fr af t w'→Calls Tryz.prog 130 #[.pointer (some ⟨s1,0,none⟩), .agg c.nm.cells.toArray, .string c.value] w' (Bh w' Lk c.nm c.value)):=fun w' f=>Ck _ _ _ _ _ (ac.out.al f) (aa.out.al (G.out.trans f)) Y.out u.out.name;have ab:Hid (c.value.size≤65536):=by have:=u.out.value;simp only[Hid];omega
    clear l;go_wp2_with(refine aw rfl 106 (.tmp 28) rfl ⟨g7,0,none⟩ rfl c.nm.cells _ ?zA Tryz.underlying106 rfl aX (aR.go ?zC));case zA=>exact W.out
    unfold aR;go_wp2_with fail;refine(K.out _ (Fr.refl _ _)).mono ?_;rintro e F⟨p,q,rfl,f3,a⟩;have y:Hid (Fr af w F):=G.out.trans f3;cases b:cU c.nm
    ·obtain⟨rfl,rfl⟩:q=12∧p=none:=by
      rcases a with⟨h,_⟩|⟨_,h⟩|⟨h,_⟩;·rw[b]at h;cases h
      ·exact h
      ·rw[b]at h;cases h
     have d:=Lib.hid b;clear a b f3;go_wp2;go_ret2;exact⟨_,12,rfl,y.out, .inr ⟨⟨c,List.mem_of_getElem? r.out,d.out⟩,rfl,rfl⟩⟩
    ·obtain⟨rfl,s2,rfl,E⟩:q=0∧∃s2,p=some ⟨s2,0,none⟩∧ew F s2 (jI c Lk):=by
      rw[O.out];rcases a with⟨_,_,h⟩|⟨h,_⟩|⟨_,h,_⟩;·exact h
      ·rw[b]at h;cases h
      ·exact absurd ab.out (by omega)
     have d:=Lib.hid b;have P:=Lib.hid E;clear a b f3 E;go_wp2;go_roundw;case rel=>
      refine⟨k+1,s2,by omega,rfl,by go_num,?_,?_,fun x g=>?_,y.out⟩;·rw[H.out];exact P.out
      ·rw[H.out];exact(N.out.next u.out d.out).more (by omega)
      ·rw[List.take_add_one,r.out,Option.toList_some,List.mem_append,List.mem_singleton]at g;rcases g with g|rfl;·exact I.out x g
       ·exact d.out
     case measure=>simp[intOf];omega
   ·rw[l]at ad;have O:Hid (jI c Lk=cT c.nm Lk):=by simp only[Hid,jI,l];rfl
    have K:Hid (∀w',Fr af t w'→Calls Tryz.prog 129 #[.pointer (some ⟨s1,0,none⟩), .agg c.nm.cells.toArray] w' (sD w' Lk c.nm)):=fun w' f=>vW _ _ _ _ (ac.out.al f) (aa.out.al (G.out.trans f)) Y.out u.out.name;have ab:Hid (c.value.size≤65536):=by have:=u.out.value;simp only[Hid];omega
    clear l;go_wp2_with(refine aw rfl 106 (.tmp 21) rfl ⟨g7,0,none⟩ rfl c.nm.cells _ ?zB Tryz.underlying106 rfl aX (aR.go ?zD));case zB=>exact W.out
    unfold aR;go_wp2_with fail;refine(K.out _ (Fr.refl _ _)).mono ?_;rintro e F⟨p,q,rfl,f3,a⟩;have y:Hid (Fr af w F):=G.out.trans f3;cases b:cU c.nm
    ·obtain⟨rfl,rfl⟩:q=12∧p=none:=by
      rcases a with⟨h,_⟩|⟨_,h⟩;·rw[b]at h;cases h
      ·exact h
     have d:=Lib.hid b;clear a b f3;go_wp2;go_ret2;exact⟨_,12,rfl,y.out, .inr ⟨⟨c,List.mem_of_getElem? r.out,d.out⟩,rfl,rfl⟩⟩
    ·obtain⟨rfl,s2,rfl,E⟩:q=0∧∃s2,p=some ⟨s2,0,none⟩∧ew F s2 (jI c Lk):=by
      rw[O.out];rcases a with⟨_,h⟩|⟨h,_⟩;·exact h
      ·rw[b]at h;cases h
     have d:=Lib.hid b;have P:=Lib.hid E;clear a b f3 E;go_wp2;go_roundw;case rel=>
      refine⟨k+1,s2,by omega,rfl,by go_num,?_,?_,fun x g=>?_,y.out⟩;·rw[H.out];exact P.out
      ·rw[H.out];exact(N.out.next u.out d.out).more (by omega)
      ·rw[List.take_add_one,r.out,Option.toList_some,List.mem_append,List.mem_singleton]at g;rcases g with g|rfl;·exact I.out x g
       ·exact d.out
     case measure=>simp[intOf];omega
  ·obtain rfl:k=n:=by omega
   have t0:decide ((k:Int)<(k:Int))=false:=decide_eq_false (by omega);go_wp2;go_ret2;have g:xs.take k=xs:=List.take_of_length_le (by have:=av.out;omega);rw[g]at R I;exact⟨_,0,rfl,M.out, .inl ⟨I.out,rfl,s1,rfl,R.out⟩⟩
end Go.Proofs.YtphjagkehiklkaaGreatDoor
namespace Go.Proofs.YtphjagkehiklkaaGreatDoor
open Go.RowKit Go.Shelf
def fC(a b:dV):Int:=aN (df a.tick b.tick) (aN (df a.cls b.cls) (aN (df a.num b.num) (jP a.ez b.ez)))
theorem sO:gz fC:=
 (dW.lex (dW.lex (dW.lex xT))).pull (fun k:dV=>(k.tick,k.cls,k.num,k.ez)) (fun a b e=>by
  cases a;cases b;simpa using e)
def ee(L:List ActV)(a:ActV):Int×List ActV:=
 if eW a=false then(3,L)else
 match L.getLast? with
 |some b=>if fC a.key b.key≤0 then(32,L)else(0,L++[a])
 |none=>(0,L++[a])
def eU(L:List ActV)(E:List Ent):List Ent:=L.foldl (fun e a=>ln a.writes e) E
theorem tP(L:List ActV)(a:ActV)(E:List Ent):eU (L++[a]) E=ln a.writes (eU L E):=by
 simp[eU]
structure fX(a:ActV):Prop where
 ez:a.key.ez.size≤100
 reads:∀c∈a.reads,du c
 writes:∀c∈a.writes,du c
 nr:a.reads.length≤6
 nw:a.writes.length≤6
theorem du.cv{c:CV}(h:du c):fL c:=⟨by have:=h.owner;omega,by have:=h.text;omega⟩
theorem Aj{a:ActV}(h:eW a=true):de a.key=true∧fh a.reads=true∧fh a.writes=true:=by
 simp only[eW,Bool.and_eq_true]at h;exact⟨h.1.1,h.1.2,h.2⟩
theorem pc{a:ActV}(h:eW a=true):∀c∈a.writes,cU c.nm=true:=fun c b=>by
 have:=jB (Aj h).2.2 c b;simp only[iA,Bool.and_eq_true]at this;exact this.1.1
theorem zE{c:CV}(h:du c):(lz c).length≤500:=by
 have a:=h.owner;have b:=h.text;have d:=h.value;have e:=ej c.nm;have f:=aO (bT c.nm).length;have g:=aO (aC c.value).length;have i:=aG c.value;simp only[lz,aY,gZ,List.length_append,List.length_cons,List.length_nil];omega
theorem oR:∀(l:List CV),(∀c∈l,du c)→(l.flatMap lz).length≤500*l.length
 |[],_=>by simp
 |c::l,h=>by
  have b:=zE (h c (by simp));have e:=oR l (fun d a=>h d (by simp[a]));simp only[List.flatMap_cons,List.length_append,List.length_cons];omega
theorem fX.len{a:ActV}(h:fX a):(bY a).length≤6300:=by
 have e:=oR a.reads h.reads;have f:=oR a.writes h.writes;have g:=h.nr;have i:=h.nw;have j:=aO a.reads.length;have k:=aO a.writes.length;have l:=aO a.key.tick.toNat;have m:=aO a.key.cls.toNat;have n:=aO a.key.num.toNat;have b:=aO (aC a.key.ez).length;have c:=aG a.key.ez;have d:=h.ez;simp only[bY,oG,dp,aY,List.length_append];omega
theorem fX.dec{a:ActV}(h:fX a)(d:eW a=true):iw (bY a)=some a:=
 CM d (by have:=h.ez;omega) (fun c b=>(h.reads c b).cv) (fun c b=>(h.writes c b).cv) (by have:=h.len;omega)
structure gL(L:List ActV):Prop where
 ok:∀a∈L,eW a=true
 small:∀a∈L,fX a
 len:L.length≤16
theorem gL.nil:gL []:=⟨fun _ h=>(by cases h),fun _ h=>(by cases h),Nat.zero_le _⟩
theorem mY(L:List ActV)(a:ActV):((ee L a).1≠0∧(ee L a).2=L)∨((ee L a).1=0∧(ee L a).2=L++[a]∧eW a=true):=by
 unfold ee;cases h:eW a;·simp
 ·simp only[Bool.true_eq_false,if_false];split
  ·split;·exact .inl ⟨by simp,rfl⟩
   ·exact .inr ⟨rfl,rfl,trivial⟩
  ·exact .inr ⟨rfl,rfl,trivial⟩
theorem gL.append{L:List ActV}{a:ActV}(h:gL L)(f:fX a)(g:L.length<16):gL (ee L a).2:=by
 rcases mY L a with⟨_,e⟩|⟨_,e,d⟩;·rw[e];exact h
 ·rw[e];refine⟨fun b c=>?_,fun b c=>?_,by rw[List.length_append];simp;omega⟩
  ·rcases List.mem_append.1 c with c|c;·exact h.ok b c
   ·rw[List.mem_singleton.1 c];exact d
  ·rcases List.mem_append.1 c with c|c;·exact h.small b c
   ·rw[List.mem_singleton.1 c];exact f
theorem kC:∀(L:List ActV)(E:List Ent)(m:Nat),ct m E→(∀a∈L,eW a=true)→(∀a∈L,fX a)→ct (m+6*L.length) (eU L E)
 |[],_,_,h,_,_=>h
 |a::L,E,m,h,e,f=>by
  have d:=f a (by simp);have g:=ph a.writes E m h d.writes (pc (e a (by simp)));have i:=kC L (ln a.writes E) (m+a.writes.length) g (fun b c=>e b (by simp[c])) (fun b c=>f b (by simp[c]));have:=d.nw;exact i.more (by simp only[List.length_cons];omega)
end Go.Proofs.YtphjagkehiklkaaGreatDoor
namespace Go.Proofs.YtphjagkehiklkaaGreatDoor
open Go.RowKit Go.Shelf
def ea(l:List CV)(k:Nat):Bool:=match l[k]? with
 |some c=>iA c&&(match k with|0=>true|j+1=>match l[j]? with|some d=>decide (cp d.nm c.nm<0)|none=>true)
 |none=>true
theorem qE:∀(l:List CV),fh l=true↔∀k,k<l.length→ea l k=true
 |[]=>by simp[fh]
 |[c]=>by
  simp only[fh,Bool.and_true,List.length_singleton];constructor
  ·intro h k b;obtain rfl:k=0:=by omega
   simp[ea,h]
  ·intro h;have:=h 0 (by omega);simpa[ea]using this
 |c::d::r=>by
  have j:=qE (d::r);have e:fh (c::d::r)=(iA c&&decide (cp c.nm d.nm<0)&&fh (d::r)):=rfl;rw[e];simp only[Bool.and_eq_true];rw[j];constructor
  ·rintro⟨⟨g,i⟩,f⟩k b;rcases k with _|_|k;·simp[ea,g]
   ·have a:=f 0 (by simp);simp only[ea,List.getElem?_cons_zero,Bool.and_true]at a;simp[ea,a];simpa using i
   ·have a:=f (k+1) (by simpa using b);simpa[ea]using a
  ·intro h;refine⟨⟨?_,?_⟩,fun k b=>?_⟩;·have:=h 0 (by simp);simpa[ea]using this
   ·have:=h 1 (by simp);simp[ea]at this;simpa using this.2
   ·have:=h (k+1) (by simpa using b);rcases k with _|k;·simp[ea]at this⊢;exact this.1
    ·simpa[ea]using this
theorem Dz{l:List CV}{k:Nat}(a:k<l.length)(h:ea l k=false):fh l=false:=by
 cases e:fh l;·rfl
 ·have:=(qE l).1 e k a;rw[h]at this;cases this
theorem Dy{l:List CV}(h:∀k,k<l.length→ea l k=true):fh l=true:=(qE l).2 h
theorem yA{l:List CV}{c:CV}(h:l[0]? =some c):ea l 0=iA c:=by
 simp[ea,h]
theorem yz{l:List CV}{k:Nat}{c d:CV}(h:l[k+1]? =some c)(a:l[k]? =some d):ea l (k+1)=(iA c&&decide (cp d.nm c.nm<0)):=by
 simp[ea,h,a]
end Go.Proofs.YtphjagkehiklkaaGreatDoor
namespace Go.Proofs.YtphjagkehiklkaaGreatDoor
open Go.RowKit Go.Shelf
structure RE(w W:World)(a:Nat)(nm:Array Value)(v:Value)(l:List UInt8):Prop where
 IJ:fT w (.slice none 0 0) W v l
 nb:ak W a 245 nm
end Go.Proofs.YtphjagkehiklkaaGreatDoor
