/- Texts. -/
import Derived.Test.YtphjagkehiklkaaGreatDoorXK20
set_option linter.unusedVariables false
set_option linter.unusedSimpArgs false
set_option maxRecDepth 100000
set_option maxHeartbeats 4000000
namespace Go.Proofs.YtphjagkehiklkaaGreatDoor
open Go.RowKit Go.Shelf
def dZ(l:List UInt8):List UInt8:=Lt.sd (1::l)
def nN(E:List Ent):List UInt8:=Lt.sd (0::eJ (fE E))
def dk(E:List Ent)(L:List ActV):List (List UInt8):=nN E::L.map (fun a=>dZ (dj a))
theorem jV(l:List UInt8):(dZ l).length=32:=Lt.mG _
theorem qu(E:List Ent):(nN E).length=32:=Lt.mG _
theorem lx(E:List Ent)(L:List ActV):(dk E L).length=L.length+1:=by simp[dk]
theorem Dl(E:List Ent)(L:List ActV)(a:ActV):dk E (L++[a])=dk E L++[dZ (dj a)]:=by simp[dk]
theorem qw(E:List Ent)(L:List ActV)(n:Nat):(dk E L).take (n+1)=dk E (L.take n):=by simp[dk,List.map_take]
theorem qv(E:List Ent)(L:List ActV):∀d∈dk E L,d.length=32:=fun d b=>by
 rcases List.mem_cons.1 b with rfl|b;·exact qu E
 ·obtain⟨a,_,rfl⟩:=List.mem_map.1 b;exact jV _
def HB(h:Nat)(va vk:Value)(g:Nat)(A:Option Addr)(n c:Nat)(mb:Option Nat)(k:Nat):Prop:=k=h∨va.ownBlock=some k∨vk.ownBlock=some k∨Lt.TB g A n c mb k
structure dG(w:World)(h b s g:Nat)(va vk:Value)(K:List Nat)(A:Option Addr)(c:Nat)(mb:Option Nat)(E:List Ent)(La Lk Ll Lg:List ActV):Prop where
 aD:aq w h 111 #[.pointer (some ⟨b,0,none⟩),va,vk, .pointer (some ⟨s,0,none⟩), .pointer (some ⟨g,0,none⟩)]
 base:ec w b E
 jt:jr w va La
 kept:w.ownsRow 0 25 1 vk K.length (K.map fun k=>Value.pointer (some ⟨k,0,none⟩))
 lP:K.length=Lk.length/16
 qs:∀i k,K[i]? =some k→ec w k (ee (Lk.take (16*(i+1))) E)
 last:ec w s (ee Ll E)
 log:Lt.ew w g A (Lg.length+1) c mb (dk E Lg) (Lt.aY (Lg.length+1))
abbrev KL(w:World)(h b s g:Nat)(va vk:Value)(K:List Nat)(A:Option Addr)(c:Nat)(mb:Option Nat)(E:List Ent)(L:List ActV):Prop:=dG w h b s g va vk K A c mb E L L L L
def eD(w:World)(h:Nat)(E:List Ent)(L:List ActV)(T:Nat→Prop):Prop:=
 ∃b s g va vk K A c mb,KL w h b s g va vk K A c mb E L∧T=HB h va vk g A (L.length+1) c mb
theorem mr{w:World}{b:Nat}{ds:List (List UInt8)}{C:Nat→Nat→Prop}(h:Lt.df w b ds C)(t:TypeId):¬Ty w b t:=by
 obtain⟨es,clock,c,_⟩:=h;rintro⟨cs,a⟩;rw[c]at a;cases a
theorem dG.cu{w:World}{h b s g:Nat}{va vk:Value}{K:List Nat}{A:Option Addr}{c:Nat}{mb:Option Nat}{E:List Ent}{La Lk Ll Lg:List ActV}(d:dG w h b s g va vk K A c mb E La Lk Ll Lg):eZ w (HB h va vk g A (Lg.length+1) c mb):=by
 obtain⟨cs,e,_⟩:=d.jt;intro k a;rcases a with rfl|a|a|rfl|a|a;·exact⟨fun x=>absurd (x.one d.aD.ty) (by decide),fun x=>absurd (x.one d.aD.ty) (by decide),fun x=>absurd (x.one d.aD.ty) (by decide)⟩
 ·have t:=jc e a;exact⟨fun x=>absurd (x.one t) (by decide),fun x=>absurd (x.one t) (by decide),fun x=>absurd (x.one t) (by decide)⟩
 ·have t:=jc d.kept a;exact⟨fun x=>absurd (x.one t) (by decide),fun x=>absurd (x.one t) (by decide),fun x=>absurd (x.one t) (by decide)⟩
 ·have t:=d.log.aD.ty;exact⟨fun x=>absurd (x.one t) (by decide),fun x=>absurd (x.one t) (by decide),fun x=>absurd (x.one t) (by decide)⟩
 ·rcases d.log.parts with⟨f,rfl,hm⟩|⟨rfl,_⟩;·cases a;exact⟨mr hm _,mr hm _,mr hm _⟩
  ·cases a
 ·have t:=jc d.log.row a;exact⟨fun x=>absurd (x.one t) (by decide),fun x=>absurd (x.one t) (by decide),fun x=>absurd (x.one t) (by decide)⟩
theorem dG.apart{w:World}{h b s g:Nat}{va vk:Value}{K:List Nat}{A:Option Addr}{c:Nat}{mb:Option Nat}{E:List Ent}{La Lk Ll Lg:List ActV}(a:dG w h b s g va vk K A c mb E La Lk Ll Lg):
  (va.ownBlock≠some h∧vk.ownBlock≠some h∧¬Lt.TB g A (Lg.length+1) c mb h)∧(∀k,va.ownBlock=some k→vk.ownBlock≠some k∧¬Lt.TB g A (Lg.length+1) c mb k)∧∀k,vk.ownBlock=some k→¬Lt.TB g A (Lg.length+1) c mb k:=by
 obtain⟨cs,i,_⟩:=a.jt;have l:∀k t,Ty w k t→t≠180→t≠38→¬Lt.TB g A (Lg.length+1) c mb k:=fun k t j m n d=>by
  rcases d with rfl|d|d;·exact m (j.one a.log.aD.ty)
  ·rcases a.log.parts with⟨o,rfl,hm⟩|⟨rfl,_⟩;·cases d;exact mr hm _ j
   ·cases d
  ·exact n (j.one (jc a.log.row d))
 refine⟨⟨bK i a.aD (by decide),bK a.kept a.aD (by decide),l _ _ a.aD.ty (by decide) (by decide)⟩,fun k e=>⟨fun f=>?_,l _ _ (jc i e) (by decide) (by decide)⟩,fun k e=>l _ _ (jc a.kept e) (by decide) (by decide)⟩;exact absurd ((jc i e).one (jc a.kept f)) (by decide)
theorem j5{w w':World}{T:Nat→Prop}{p:Nat}{A:Option Addr}{n c:Nat}{mb:Option Nat}{ds:List (List UInt8)}{C:Nat→Nat→Prop}(h:Lt.ew w p A n c mb ds C)(d:Fr T w w')(a:∀k,Lt.TB p A n c mb k→¬T k):Lt.ew w' p A n c mb ds C:=
 ⟨h.aD.fr d (a p (.inl rfl)),aJ h.row d (fun k g=>a k (.inr (.inr g))),h.len,h.each,by
  rcases h.parts with⟨b,e,i⟩|f;·exact .inl ⟨b,e,i.fr d (a b (.inr (.inl e)))⟩
  ·exact .inr f⟩
theorem dG.jx{w w':World}{T:Nat→Prop}{h b s g:Nat}{va vk:Value}{K:List Nat}{A:Option Addr}{c:Nat}{mb:Option Nat}{E:List Ent}{La Lk Ll Lg:List ActV}(a:dG w h b s g va vk K A c mb E La Lk Ll Lg)(d:Fr T w w')(hF:eZ w T)(f:∀k,HB h va vk g A (Lg.length+1) c mb k→¬T k):dG w' h b s g va vk K A c mb E La Lk Ll Lg:=
  ⟨a.aD.fr d (f h (.inl rfl)),a.base.cu d hF,a.jt.cu d hF (fun k e=>f k (.inr (.inl e))),aJ a.kept d (fun k e=>f k (.inr (.inr (.inl e)))),a.lP,fun i k e=>(a.qs i k e).cu d hF,a.last.cu d hF,
   j5 a.log d (fun k e=>f k (.inr (.inr (.inr e))))⟩
theorem dG.ao{w w':World}{h b s g:Nat}{va vk:Value}{K:List Nat}{A:Option Addr}{c:Nat}{mb:Option Nat}{E:List Ent}{La Lk Ll Lg:List ActV}(d:dG w h b s g va vk K A c mb E La Lk Ll Lg)(a:Fr ah w w'):dG w' h b s g va vk K A c mb E La Lk Ll Lg:=
 d.jx a (eZ.nothing w) (fun _ _ x=>x)
theorem eD.ao{w w':World}{h:Nat}{E:List Ent}{L:List ActV}{T:Nat→Prop}(d:eD w h E L T)(a:Fr ah w w'):eD w' h E L T:=by
 obtain⟨b,s,g,va,vk,K,A,c,mb,f,e⟩:=d;exact⟨b,s,g,va,vk,K,A,c,mb,f.ao a,e⟩
theorem eD.jx{w w':World}{h:Nat}{E:List Ent}{L:List ActV}{T T':Nat→Prop}(e:eD w h E L T)(d:Fr T' w w')(hF:eZ w T')(a:∀k,T k→¬T' k):eD w' h E L T:=by
 obtain⟨b,s,g,va,vk,K,A,c,mb,f,rfl⟩:=e;exact⟨b,s,g,va,vk,K,A,c,mb,f.jx d hF a,rfl⟩
theorem eD.cu{w:World}{h:Nat}{E:List Ent}{L:List ActV}{T:Nat→Prop}(a:eD w h E L T):eZ w T:=by
 obtain⟨b,s,g,va,vk,K,A,c,mb,d,rfl⟩:=a;exact d.cu
theorem mu{w:World}{base n:Nat}{e:TypeId}{size:Nat}{v:Value}{xs:List Value}(h:w.ownsRow base e size v n xs){k:Nat}(b:v.ownBlock=some k):k<w.heap.size:=by
 obtain⟨cs,a⟩:=jc h b;exact(Array.getElem?_eq_some_iff.1 a).1
theorem eD.lt{w:World}{h:Nat}{E:List Ent}{L:List ActV}{T:Nat→Prop}(e:eD w h E L T):∀k,T k→k<w.heap.size:=by
 obtain⟨b,s,g,va,vk,K,A,c,mb,d,rfl⟩:=e;obtain⟨cs,f,_⟩:=d.jt;intro k a;rcases a with rfl|a|a|rfl|a|a;·exact d.aD.lt
 ·exact mu f a
 ·exact mu d.kept a
 ·exact d.log.aD.lt
 ·rcases d.log.parts with⟨i,rfl,hm⟩|⟨rfl,_⟩;·cases a;exact hm.lt
  ·cases a
 ·exact mu d.log.row a
theorem iO(w:World)(h b:Nat)(a:w.cell? ⟨h,0,none⟩=some (.pointer (some ⟨b,0,none⟩))):
  Calls Tryz.prog 55 #[.pointer (some ⟨h,0,none⟩)] w (bG w (.bool false)):=by
 go_enter Tryz.func55,Tryz.ntmps55;go_wp2;go_ret;exact⟨rfl,rfl⟩
theorem xG(a b:ByteArray):aS (a++b)=aS a++aS b:=by simp[aS]
theorem uS(s:ByteArray)(w:World)(j:bU w)(y:s.size<4294960000):Calls Tryz.prog 59 #[.string s] w (aK w (aU (dZ (aS s)))):=by
 have CL:Hid (∀w',Fr ah w w'→Calls Tryz.prog 76 #[.string ({data:=#[1]}++s)] w' (aK w' (aU (dZ (aS s))))):=fun w' f=>by
  have e:aS ({data:=#[1]}++s)=1::aS s:=xG _ _;have h:=Lt.wW ({data:=#[1]}++s) w' (j.ao f) (by have:=aQ ({data:=#[1]}++s);rw[e,List.length_cons,aQ]at this;omega);have t:eN ({data:=#[1]}++s)=1::aS s:=e;rw[t]at h;exact h
 have a:=af (Lt.dB.of (jV (aS s)));unfold aU at*;generalize((dZ (aS s)).map bL).toArray=d at*;clear j;go_enter Tryz.func59,Tryz.ntmps59;go_wp2_with(refine an rfl 38 rfl aZ iJ aE rfl ?_);intro w1 n1;have b:=af n1.fr;have c:=af n1.aD;clear n1;generalize k:w.heap.size=g at*;have o:=af k;clear k;go_wp2_with fail;refine(CL.out _ b.out).mono ?_;rintro e w2⟨rfl,f2⟩;have n:=af (b.out.trans f2);have m:=af (c.out.fr f2 (fun x=>x));clear f2 CL b c;go_wp2_with(refine ak rfl 38 (.tmp 2) _ rfl g d rfl rfl _ _ m.out a.out.info a.out.zero a.out.one ?_);intro l b5 f5;have q:=af b5;have r:Hid (Fr ah w l):=n.out.au f5 (fun i v e=>by have u:i=g:=e;have:=o.out;omega);clear b5 f5;go_wp2;exact bodyPost_ret (results_cell_row (fn:=Tryz.f59) (p:=2) (ty:=38) Tryz.results59 _ l _ 38 d (0,0) _ rfl q.out Tryz.underlying38 rfl a.out.info) rfl ⟨rfl,r.out⟩
end Go.Proofs.YtphjagkehiklkaaGreatDoor
namespace Go.Proofs.YtphjagkehiklkaaGreatDoor.Lt
open Go.RowKit
def oK(w w':World)(p:Nat)(ds:List (List UInt8)):Prop:=∃A c mb,ew w' p A ds.length c mb ds (aY ds.length)∧Fr ah w w'∧∀k,TB p A ds.length c mb k→w.heap.size≤k
theorem oK.ao{w w' a:World}{p:Nat}{ds:List (List UInt8)}(h:oK w w' p ds)(b:Fr ah w' a):oK w a p ds:=by
 obtain⟨A,c,mb,d,e,f⟩:=h;exact⟨A,c,mb,d.ao b,e.trans b,f⟩
theorem oK.append{w w' a:World}{p:Nat}{ds:List (List UInt8)}{d:List UInt8}{A:Option Addr}{c:Nat}{mb:Option Nat}(g:∀k,TB p A ds.length c mb k→w.heap.size≤k)(f:Fr ah w w'){e:Ending}(n:mK w' p A ds.length c mb ds d e a):oK w a p (ds++[d]):=by
 obtain⟨_,l,m,b,o,q,r⟩:=n;refine⟨l,m,b,by rw[aW,List.length_singleton];exact o,f.au q (fun i s e=>by have:=g i e;omega),fun k j=>?_⟩;rw[aW,List.length_singleton]at j;rcases r k j with h|h;·exact g k h
 ·exact Nat.le_trans f.size h
end Go.Proofs.YtphjagkehiklkaaGreatDoor.Lt
namespace Go.Proofs.YtphjagkehiklkaaGreatDoor.Lt
open Go.RowKit
def cX(ds:List (List UInt8))(index:Nat):List (List UInt8):=
 if a:1≤aN ds.length∧aN ds.length<ds.length then
  (if index<aN ds.length then cX (ds.take (aN ds.length)) index++[cR (ds.drop (aN ds.length))]else cX (ds.drop (aN ds.length)) (index-aN ds.length)++[cR (ds.take (aN ds.length))])
 else[]
termination_by ds.length
decreasing_by
 ·simp only[List.length_take];omega
 ·simp only[List.length_drop];omega
theorem lS(ds:List (List UInt8))(index:Nat)(h:ds.length≤1):cX ds index=[]:=by
 rw[cX,dif_neg (by omega)]
theorem mw(ds:List (List UInt8))(index n:Nat)(b:ds.length=n)(d:2≤n)(e:n≤1099511627776):cX ds index=if index<aN n then cX (ds.take (aN n)) index++[cR (ds.drop (aN n))]else cX (ds.drop (aN n)) (index-aN n)++[cR (ds.take (aN n))]:=by
 obtain⟨a,_,c⟩:=dz n d e;rw[cX,dif_pos (by rw[b];exact⟨c,a⟩),b]
theorem Dj(n k:Nat)(c:2≤n)(d:n≤1099511627776)(h:n≤2^(k+1)):aN n≤2^k:=by
 obtain⟨a,_,_⟩:=dz n c d;have e:aN n=2^(Lib.bitLen (n-1)-1):=rfl;rw[e]at a⊢;refine Nat.pow_le_pow_right (by omega) ?_;rcases Nat.lt_or_ge k (Lib.bitLen (n-1)-1)with b|b;·have:2^(k+1)≤2^(Lib.bitLen (n-1)-1):=Nat.pow_le_pow_right (by omega) b;omega
 ·exact b
theorem kX:∀(k:Nat)(ds:List (List UInt8))(i:Nat),ds.length≤2^k→ds.length≤1048576→(cX ds i).length≤k
 |0,ds,i,h,_=>by rw[lS ds i (by simpa using h)];simp
 |k+1,ds,i,h,e=>by
  by_cases d:2≤ds.length
  ·obtain⟨a,b,c⟩:=dz ds.length d (by omega);have f:=Dj ds.length k d (by omega) h;rw[mw ds i _ rfl d (by omega)];split;·rw[aW,List.length_singleton];have:=kX k (ds.take (aN ds.length)) i (by rw[List.length_take];omega) (by rw[List.length_take];omega);omega
   ·rw[aW,List.length_singleton];have:=kX k (ds.drop (aN ds.length)) (i-aN ds.length) (by rw[List.length_drop];omega) (by rw[List.length_drop];omega);omega
  ·rw[lS ds i (by omega)];simp
theorem AN(n:Nat):∀(ds:List (List UInt8))(i:Nat),ds.length=n→n≤1048576→(∀d∈ds,d.length=32)→∀d∈cX ds i,d.length=32:=by
 induction n using Nat.strongRecOn with
 |_ n k=>
  intro ds i g m he d f;by_cases j:2≤n
  ·obtain⟨a,b,c⟩:=dz n j (by omega);rw[mw ds i n g j (by omega)]at f;have l:(cR (ds.drop (aN n))).length=32:=fV (n-aN n) _ (by rw[List.length_drop,g]) (by omega) (by omega) (fun x e=>he x (List.mem_of_mem_drop e));have j:(cR (ds.take (aN n))).length=32:=fV (aN n) _ (by rw[List.length_take,g];omega) (by omega) (by omega) (fun x e=>he x (List.mem_of_mem_take e));split at f
   ·rcases List.mem_append.1 f with h|h;·exact k (aN n) a _ i (by rw[List.length_take,g];omega) (by omega) (fun x e=>he x (List.mem_of_mem_take e)) d h
    ·rw[List.mem_singleton.1 h];exact l
   ·rcases List.mem_append.1 f with h|h;·exact k (n-aN n) (by omega) _ _ (by rw[List.length_drop,g]) (by omega) (fun x e=>he x (List.mem_of_mem_drop e)) d h
    ·rw[List.mem_singleton.1 h];exact j
  ·rw[lS ds i (by omega)]at f;cases f
theorem vJ(leaf:List UInt8)(pre:List Bool)(P X:List (List UInt8))(h:P.length=pre.length):dE leaf pre (P++X)=dE leaf pre P:=by
 unfold dE;have:pre.zip (P++X)=pre.zip P:=by
  have a:=List.zip_append (l₁:=pre) (l₂:=P) (r₁:=[]) (r₂:=X) h.symm;simpa using a
 rw[this]
theorem GH(n:Nat):∀(ds:List (List UInt8))(i:Nat),ds.length=n→i<n→n≤1048576→(cX ds i).length=(bR i n).length∧(dE (ds.getD i []) (bR i n) (cX ds i)).1=cR ds:=by
 induction n using Nat.strongRecOn with
 |_ n l=>
  intro ds i j m o;by_cases h:2≤n
  ·obtain⟨a,b,c⟩:=dz n h (by omega);rw[mw ds i n j h (by omega),mz ds n j h (by omega)];by_cases f:i<aN n
   ·obtain⟨e,g⟩:=l (aN n) a (ds.take (aN n)) i (by rw[List.length_take,j];omega) f (by omega);have k:(ds.take (aN n)).getD i []=ds.getD i []:=by rw[List.getD_eq_getElem?_getD,List.getD_eq_getElem?_getD,List.getElem?_take_of_lt f]
    rw[k]at g;rw[if_pos f,rE h (by omega) f];refine⟨by rw[aW,aW,e];rfl,?_⟩;rw[lX _ _ _ true (cR (ds.drop (aN n))) (by rw[←e,List.getElem?_append_right (Nat.le_refl _),Nat.sub_self];rfl),vJ _ _ _ _ e];simp only[oc,if_true,g]
   ·obtain⟨e,g⟩:=l (n-aN n) (by omega) (ds.drop (aN n)) (i-aN n) (by rw[List.length_drop,j]) (by omega) (by omega);have k:(ds.drop (aN n)).getD (i-aN n) []=ds.getD i []:=by rw[List.getD_eq_getElem?_getD,List.getD_eq_getElem?_getD,List.getElem?_drop,show aN n+(i-aN n)=i by omega]
    rw[k]at g;rw[if_neg f,pZ h (by omega) f];refine⟨by rw[aW,aW,e];rfl,?_⟩;rw[lX _ _ _ false (cR (ds.take (aN n))) (by rw[←e,List.getElem?_append_right (Nat.le_refl _),Nat.sub_self];rfl),vJ _ _ _ _ e];simp only[oc,Bool.false_eq_true,if_false,g]
  ·obtain rfl:n=1:=by omega
   obtain rfl:i=0:=by omega
   rw[lS ds 0 (by omega),tu];refine⟨rfl,?_⟩;match ds,j with
   |[d],_=>rw[qD];rfl
theorem DH(n:Nat)(ds:List (List UInt8))(i:Nat)(d:ds.length=n)(c:i<n)(e:n≤1048576):(dm (ds.getD i []) i n (cX ds i)).1=cR ds∧(dm (ds.getD i []) i n (cX ds i)).2.2=0:=by
 obtain⟨a,b⟩:=GH n ds i d c e;unfold dm;rw[if_pos (by omega),Int.toNat_natCast,Int.toNat_natCast,if_pos a];exact⟨b,rfl⟩
def xR(m:Nat):Prop:=∀(w:World)(p:Nat)(A:Option Addr)(n c:Nat)(mb:Option Nat)(ds:List (List UInt8))(C:Nat→Nat→Prop)(f k i:Nat),ew w p A n c mb ds C→Full C n→n≤1048576→bU w→i<m→f+m≤n→m≤2^k→2^k∣f→
 Calls Tryz.prog 109 #[.pointer (some ⟨p,0,none⟩), .int .i64 i, .int .i64 f, .int .i64 m] w (oF w (cX ((ds.drop f).take m) i).length (cX ((ds.drop f).take m) i))
theorem yx:xR 1:=by
 intro w p A n c mb ds C f k i _ _ _ _ _ _ _ _;rw[lS _ _ (by rw[List.length_take];omega)];go_enter Tryz.func109,Tryz.ntmps109;go_wp2;go_ret;exact⟨_,rfl,bO.start ⟨rfl, .inl ⟨rfl,rfl⟩⟩⟩
theorem wE(m:Nat)(Y:∀j,j<m→xR j)(R:2≤m):xR m:=by
 intro w p A n c mb ds C f k i t hF X N an S U I;obtain⟨i0,B,D,o,V⟩:=info_parts rm;obtain⟨a,b,Q⟩:=dz m R (by omega);obtain⟨lv,y⟩:∃lv,aN m=2^lv:=⟨_,rfl⟩;have ai:lv≤k:=pb (by omega);have M:2^lv∣f:=oQ ai I;have hlen:((ds.drop f).take m).length=m:=by rw[List.length_take,List.length_drop,t.len];omega
 have aa:=af (fun w=>mH m w R (by omega));obtain⟨P,W⟩:∃P,P=aN m:=⟨_,rfl⟩;rw[←W]at aa a b Q y;have e:=mw _ i m hlen R (by omega);rw[←W,p9 _ (by omega),List.drop_take,List.drop_drop]at e;obtain⟨f2,x⟩:∃f2:Nat,f2=f+P:=⟨_,rfl⟩;obtain⟨m2,K⟩:∃m2:Nat,m2=m-P:=⟨_,rfl⟩;rw[←x,←K]at e;have s1:(f:Int)+(P:Int)=(f2:Int):=by omega
 have s2:(m:Int)-(P:Int)=(m2:Int):=by omega
 have f4:f≤1048576:=by omega
 have f24:f2≤1048576:=by omega
 have m4:m≤1048576:=by omega
 have m24:m2≤1048576:=by omega
 have am:P≤1048576:=by omega
 have i4:i≤1048576:=by omega
 have m1:((m:Int)==1)=false:=by rw[beq_eq_false_iff_ne];omega
 have g1:Hid (¬1*i0.size>2^24):=by simp only[Hid];rw[o];omega
 have g2:Hid (¬1*i0.size=0):=by simp only[Hid];rw[o];omega
 have E:∀(l:List (List UInt8))(j:Nat),l.length≤1048576→(cX l j).length≤20:=fun l j h=>kX 20 l j h h;by_cases J:i<P
 ·rw[if_pos J]at e;rw[e];have Z:Hid (∀w',Fr ah w w'→Calls Tryz.prog 109 #[.pointer (some ⟨p,0,none⟩), .int .i64 i, .int .i64 f, .int .i64 P] w' (oF w' (cX ((ds.drop f).take P) i).length (cX ((ds.drop f).take P) i))):=
   fun w' v=>Y P a w' p A n c mb ds C f lv i (t.ao v) hF X (N.ao v) J (by omega) (by omega) M;have F:Hid (∀w',Fr ah w w'→Calls Tryz.prog 110 #[.pointer (some ⟨p,0,none⟩), .int .i64 f2, .int .i64 m2] w' (aK w' (aU (cR ((ds.drop f2).take m2))))):=
   fun w' v=>vC m2 (by omega) w' p A n c mb ds C f2 lv (t.ao v) hF X (N.ao v) (by omega) (by omega) (by omega) (by rw[x,y];exact(Nat.dvd_add_right M).2 (Nat.dvd_refl _));have L:(cR ((ds.drop f2).take m2)).length=32:=fV m2 _ (by rw[List.length_take,List.length_drop,t.len];omega) (by omega) (by omega) (fun d ag=>t.each d (List.mem_of_mem_drop (List.mem_of_mem_take ag)));have al:=E ((ds.drop f).take P) i (by rw[List.length_take];omega);have ak:(i:Int)<(P:Int):=by omega
  generalize cX ((ds.drop f).take P) i=PL at*;generalize cR ((ds.drop f2).take m2)=g at*;have ab:Hid (Instr.fill (fun i=>some (i*32,32)) ((Array.range (1*32)).map (aZ.cells[· %aZ.cells.size]!)) [(0, .agg (aA g).toArray)]=some (aA g).toArray):=rX _ _ (by simp[aA,L]) (by simp);have ac:Hid ((aA g).toArray.size=1*32):=by simp[Hid,aA,L]
  have ad:Hid (∀u∈(aA g).toArray.toList,u.oneCell'=true):=by
   intro u hu;exact iP _ u (by simpa[aA]using hu)
  have q:Hid ((PL++[g]).flatMap aA=PL.flatMap aA++aA g∧(PL++[g]).length=PL.length+1):=⟨by rw[List.flatMap_append,List.flatMap_singleton],by simp⟩;unfold aU at F;simp only[show∀l:List UInt8,l.map bL=aA l from fun _=>rfl]at F;generalize aA g=z at*;have g3:Hid (Instr.fill (fun i=>some (i*i0.size,i0.size)) ((Array.range (1*i0.size)).map (aZ.cells[· %aZ.cells.size]!)) [(0, .agg z.toArray)]=some z.toArray):=by simp only[Hid];rw[o];exact ab.out
  clear t hF N W x K S U I M ai hlen Y R a b Q y e L E;go_enter Tryz.func109,Tryz.ntmps109;go_wp2_with fail;refine(aa.out _).mono ?_;rintro e w'⟨rfl,rfl⟩;go_wp2_with fail;refine(Z.out _ az).mono ?_;rintro e w1⟨v1,rfl,H⟩;have G:=af H;obtain⟨aj,n1,Q,rfl,H1,_⟩:=aH H.own;clear H;go_wp2_with fail;refine(F.out _ G.out.ao).mono ?_;rintro e w2⟨rfl,r⟩;have O:=af (G.out.behind r);clear r G;go_wp2_with(refine wpList_buildSlice rfl 31 38 1 #[(0, .tmp 29)] rfl z.toArray i0 aZ Tryz.underlying31 B D g1.out g2.out (by simp only[List.map_toArray,List.map_cons,List.map_nil];exact g3.out) (aR.go ?hold));unfold aR;refine cL _ rfl _ _ 31 rfl 38 i0 aZ 32 32 Tryz.underlying31 B D o V rfl (by omega) _ _ _ rfl O.out.own 1 z.toArray _ rfl rfl ac.out ad.out (by omega) (by omega) ?_;intro v3 w3 s;have ae:Hid (bO 38 32 w (.slice none 0 0) w3 v3 (PL++[g]).length ((PL++[g]).flatMap aA)):=by
   have h:=O.out.trans s;simp only[Hid];rw[q.out.1,q.out.2];exact h
  clear s;go_wp2;go_ret;exact⟨_,rfl,ae.out⟩
 ·rw[if_neg J]at e;rw[e];obtain⟨i2,T⟩:∃i2:Nat,i2=i-P:=⟨_,rfl⟩;rw[←T];have aq:(i:Int)-(P:Int)=(i2:Int):=by omega
  have i24:i2≤1048576:=by omega
  have Z:Hid (∀w',Fr ah w w'→Calls Tryz.prog 109 #[.pointer (some ⟨p,0,none⟩), .int .i64 i2, .int .i64 f2, .int .i64 m2] w' (oF w' (cX ((ds.drop f2).take m2) i2).length (cX ((ds.drop f2).take m2) i2))):=
   fun w' v=>Y m2 (by omega) w' p A n c mb ds C f2 lv i2 (t.ao v) hF X (N.ao v) (by omega) (by omega) (by omega) (by rw[x,y];exact(Nat.dvd_add_right M).2 (Nat.dvd_refl _));have F:Hid (∀w',Fr ah w w'→Calls Tryz.prog 110 #[.pointer (some ⟨p,0,none⟩), .int .i64 f, .int .i64 P] w' (aK w' (aU (cR ((ds.drop f).take P))))):=
   fun w' v=>vC P (by omega) w' p A n c mb ds C f lv (t.ao v) hF X (N.ao v) (by omega) (by omega) (by omega) M;have L:(cR ((ds.drop f).take P)).length=32:=fV P _ (by rw[List.length_take,List.length_drop,t.len];omega) (by omega) (by omega) (fun d ag=>t.each d (List.mem_of_mem_drop (List.mem_of_mem_take ag)));have al:=E ((ds.drop f2).take m2) i2 (by rw[List.length_take];omega);have ak:decide ((i:Int)<(P:Int))=false:=bZ (by omega);have ap:¬i<P:=by omega
  generalize cX ((ds.drop f2).take m2) i2=PL at*;generalize cR ((ds.drop f).take P)=g at*;have ab:Hid (Instr.fill (fun i=>some (i*32,32)) ((Array.range (1*32)).map (aZ.cells[· %aZ.cells.size]!)) [(0, .agg (aA g).toArray)]=some (aA g).toArray):=rX _ _ (by simp[aA,L]) (by simp);have ac:Hid ((aA g).toArray.size=1*32):=by simp[Hid,aA,L]
  have ad:Hid (∀u∈(aA g).toArray.toList,u.oneCell'=true):=by
   intro u hu;exact iP _ u (by simpa[aA]using hu)
  have q:Hid ((PL++[g]).flatMap aA=PL.flatMap aA++aA g∧(PL++[g]).length=PL.length+1):=⟨by rw[List.flatMap_append,List.flatMap_singleton],by simp⟩;unfold aU at F;simp only[show∀l:List UInt8,l.map bL=aA l from fun _=>rfl]at F;generalize aA g=z at*;have g3:Hid (Instr.fill (fun i=>some (i*i0.size,i0.size)) ((Array.range (1*i0.size)).map (aZ.cells[· %aZ.cells.size]!)) [(0, .agg z.toArray)]=some z.toArray):=by simp only[Hid];rw[o];exact ab.out
  clear t hF N W x K T S U I M ai hlen Y R a b Q y e L E;go_enter Tryz.func109,Tryz.ntmps109;go_wp2_with fail;refine(aa.out _).mono ?_;rintro e w'⟨rfl,rfl⟩;go_wp2_with fail;refine(Z.out _ az).mono ?_;rintro e w1⟨v1,rfl,H⟩;have G:=af H;obtain⟨aj,n1,Q,rfl,H1,_⟩:=aH H.own;clear H;go_wp2_with fail;refine(F.out _ G.out.ao).mono ?_;rintro e w2⟨rfl,r⟩;have O:=af (G.out.behind r);clear r G;go_wp2_with(refine wpList_buildSlice rfl 31 38 1 #[(0, .tmp 46)] rfl z.toArray i0 aZ Tryz.underlying31 B D g1.out g2.out (by simp only[List.map_toArray,List.map_cons,List.map_nil];exact g3.out) (aR.go ?zA));unfold aR;refine cL _ rfl _ _ 31 rfl 38 i0 aZ 32 32 Tryz.underlying31 B D o V rfl (by omega) _ _ _ rfl O.out.own 1 z.toArray _ rfl rfl ac.out ad.out (by omega) (by omega) ?_;intro v3 w3 s;have ae:Hid (bO 38 32 w (.slice none 0 0) w3 v3 (PL++[g]).length ((PL++[g]).flatMap aA)):=by
   have h:=O.out.trans s;simp only[Hid];rw[q.out.1,q.out.2];exact h
  clear s;go_wp2;go_ret;exact⟨_,rfl,ae.out⟩
theorem Ac(m:Nat)(hm:1≤m):xR m:=by
 induction m using Nat.strongRecOn with
 |_ m e=>
  by_cases b:2≤m
  ·refine wE m (fun j d=>?_) b;rcases Nat.eq_zero_or_pos j with rfl|a;·intro w p A n c mb ds C f k i _ _ _ _ h;omega
   ·exact e j d a
  ·obtain rfl:m=1:=by omega
   exact yx
def rk(ds:List (List UInt8))(i k:Int):List (List UInt8)×Int:=if 1≤k∧k≤ds.length∧0≤i∧i<k then(cX (ds.take k.toNat) i.toNat,0)else([],2)
def rP(w:World)(V:List (List UInt8)×Int)(e:Ending)(w':World):Prop:=∃v,e= .returned (.tuple #[v, .int .i64 V.2])∧bO 38 32 w (.slice none 0 0) w' v V.1.length (V.1.flatMap aA)
theorem rP.none{w w':World}{k:Int}(h:Fr ah w w'):rP w ([],k) (.returned (.tuple #[.slice none 0 0, .int .i64 k])) w':=⟨_,rfl,⟨⟨rfl, .inl ⟨rfl,rfl⟩⟩,h.bJ,fun _ a=> .inl a⟩⟩
theorem xS(E w:World)(p:Nat)(ds:List (List UInt8))(i k:Int)(B:oK E w p ds)(C:ds.length≤1048576)(o:bU w)(G:-9223372036854775808≤i∧i≤9223372036854775807)(H:-9223372036854775808≤k∧k≤9223372036854775807):
  Calls Tryz.prog 56 #[.pointer (some ⟨p,0,none⟩), .int .i64 i, .int .i64 k] w (rP w (rk ds i k)):=by
 obtain⟨A,c,mb,l,q,r⟩:=B;obtain⟨n,f⟩:∃n,n=ds.length:=⟨_,rfl⟩;have j:Hid (∀w',Calls Tryz.prog 89 #[.int .i64 k, .int .i64 1, .int .i64 n] w' (bG w' (.bool (decide (1≤k∧k≤n))))):=fun w'=>eK k 1 n w';have F:w.cell? ⟨p,0,none⟩=some (.slice A n c):=by rw[f];exact l.aD.cell 0
 by_cases a:1≤k∧k≤(n:Int)
 ·obtain⟨kn,rfl⟩:∃kn:Nat,k=kn:=⟨k.toNat,by omega⟩;obtain⟨g,x⟩:∃g:Nat,(kn:Int)-1=(g:Int):=⟨kn-1,by omega⟩;have m:Hid (∀w',Calls Tryz.prog 89 #[.int .i64 i, .int .i64 0, .int .i64 g] w' (bG w' (.bool (decide (0≤i∧i≤g))))):=fun w'=>eK i 0 g w';rw[decide_eq_true a]at j;by_cases d:0≤i∧i≤(g:Int)
  ·obtain⟨b,rfl⟩:∃b:Nat,i=b:=⟨i.toNat,by omega⟩;rw[decide_eq_true d]at m;have e:rk ds b kn=(cX (ds.take kn) b,0):=by
    unfold rk;rw[if_pos (by omega),Int.toNat_natCast,Int.toNat_natCast]
   rw[e];have y:Hid (∀w',Fr ah w w'→Calls Tryz.prog 109 #[.pointer (some ⟨p,0,none⟩), .int .i64 b, .int .i64 0, .int .i64 kn] w' (oF w' (cX (ds.take kn) b).length (cX (ds.take kn) b))):=fun w' u=>by
    have h:=Ac kn (by omega) w' p A ds.length c mb ds (aY ds.length) 0 20 b (l.ao u) (th _) C (o.ao u) (by omega) (by omega) (by omega) (Nat.dvd_zero _);rw[List.drop_zero]at h;exact h
   generalize cX (ds.take kn) b=PL at*;have s:kn≤1048576:=by omega
   have D:b≤1048576:=by omega
   clear e l q r o a d f;go_enter Tryz.func56,Tryz.ntmps56;go_wp2_with fail;refine(j.out _).mono ?_;rintro e w'⟨rfl,rfl⟩;go_wp2_with fail;refine(m.out _).mono ?_;rintro e w'⟨rfl,rfl⟩;go_wp2_with fail;refine(y.out _ az).mono ?_;rintro e w1⟨v,rfl,t⟩;have z:=af t;clear t;go_wp2;go_ret2;exact⟨v,rfl,z.out⟩
  ·rw[decide_eq_false d]at m;have e:rk ds i kn=([],2):=by
    unfold rk;rw[if_neg (by omega)]
   rw[e];have s:kn≤1048576:=by omega
   clear e l q r o a d f;go_enter Tryz.func56,Tryz.ntmps56;go_wp2_with fail;refine(j.out _).mono ?_;rintro e w'⟨rfl,rfl⟩;go_wp2_with fail;refine(m.out _).mono ?_;rintro e w'⟨rfl,rfl⟩;go_wp2;go_ret2;exact rP.none az
 ·rw[decide_eq_false a]at j;have e:rk ds i k=([],2):=by
   unfold rk;rw[if_neg (by omega)]
  rw[e];clear e l q r o a f;go_enter Tryz.func56,Tryz.ntmps56;go_wp2_with fail;refine(j.out _).mono ?_;rintro e w'⟨rfl,rfl⟩;go_wp2;go_ret2;exact rP.none az
theorem Hu(T w:World)(p:Nat)(ds:List (List UInt8))(a:Nat)(N:oK T w p ds)(Q:ds.length≤1048576)(R:a≤ds.length)(H:bU w):
  Calls Tryz.prog 57 #[.pointer (some ⟨p,0,none⟩), .int .i64 a] w (aK w (.tuple #[aU (gz (ds.take a)), .int .i64 0])):=by
 obtain⟨A,c,mb,t,L,M⟩:=N;obtain⟨n,m⟩:∃n,n=ds.length:=⟨_,rfl⟩;have s:w.cell? ⟨p,0,none⟩=some (.slice A n c):=by rw[m];exact t.aD.cell 0
 have n4:n≤1048576:=by omega
 have y:Hid (∀w',Calls Tryz.prog 89 #[.int .i64 a, .int .i64 0, .int .i64 n] w' (bG w' (.bool (decide (0≤(a:Int)∧(a:Int)≤n))))):=fun w'=>eK a 0 n w';rw[cT (show 0≤(a:Int)∧(a:Int)≤n by omega)]at y;have I:(gz (ds.take a)).length=32:=mJ a _ (by rw[List.length_take];omega) (by omega) (fun d O=>t.each d (List.mem_of_mem_take O));have z:Hid (a=0→∀w',Fr ah w w'→Calls Tryz.prog 73 #[] w' (aK w' (aU (gz (ds.take a))))):=fun h w' u=>by
  rw[h,List.take_zero];exact Bv w' (H.ao u)
 have C:Hid (¬a=0→∀w',Fr ah w w'→Calls Tryz.prog 110 #[.pointer (some ⟨p,0,none⟩), .int .i64 0, .int .i64 a] w' (aK w' (aU (gz (ds.take a))))):=fun h w' u=>by
  have k:=vC a (by omega) w' p A ds.length c mb ds (aY ds.length) 0 20 (t.ao u) (th _) Q (H.ao u) (by omega) (by omega) (by omega) (Nat.dvd_zero _);rw[List.drop_zero]at k;have e:gz (ds.take a)=cR (ds.take a):=by
   unfold gz;rw[if_neg (by intro j;have:=congrArg List.length j;rw[List.length_take,List.length_nil]at this;omega)]
  rw[e];exact k
 generalize gz (ds.take a)=rt at*;have g:Hid (dB (aA rt).toArray):=dB.of I;have a4:a≤1048576:=by omega
 unfold aU at*;simp only[show∀l:List UInt8,l.map bL=aA l from fun _=>rfl]at*;generalize aA rt=r at*;clear t L M m R I H;by_cases j:a=0
 ·have B:=af (z.out j);have t0:((a:Int)==0)=true:=by rw[j];rfl
  subst j;clear z C;go_enter Tryz.func57,Tryz.ntmps57;go_wp2_with(refine an rfl 38 rfl aZ iJ aE rfl ?_);intro w1 b;have f:=af b;have J:w1.cell? ⟨p,0,none⟩=some (.slice A n c):=b.fr.aj s (fun x=>x);clear b s;go_wp2_with fail;refine(y.out _).mono ?_;rintro e w'⟨rfl,rfl⟩;go_wp2_with fail;refine(B.out _ f.out.fr).mono ?_;rintro e w2⟨rfl,f2⟩;have E:=af (f.out.fr.trans f2);have v:=af (f.out.aD.fr f2 (fun x=>x));clear f2 f;go_wp2_with(refine ak rfl 38 (.tmp 4) _ rfl w.heap.size r.toArray rfl rfl _ _ v.out g.out.info g.out.zero g.out.one ?_);intro o b5 f5;have F:=af b5;have G:Hid (Fr ah w o):=E.out.au f5 (fun i P e=>by have K:i=w.heap.size:=e;omega);clear b5 f5;go_wp2;exact bodyPost_ret (dO (fn:=Tryz.f57) (p:=4) (q:=5) (ty:=38) Tryz.results57 _ o _ 38 r.toArray (0,0) _ rfl F.out Tryz.underlying38 rfl g.out.info _ rfl) rfl ⟨rfl,G.out⟩
 ·have D:=af (C.out j);have t0:((a:Int)==0)=false:=by rw[beq_eq_false_iff_ne];omega
  have S:¬a=0:=j;clear z C;go_enter Tryz.func57,Tryz.ntmps57;go_wp2_with(refine an rfl 38 rfl aZ iJ aE rfl ?_);intro w1 b;have f:=af b;have J:w1.cell? ⟨p,0,none⟩=some (.slice A n c):=b.fr.aj s (fun x=>x);clear b s;go_wp2_with fail;refine(y.out _).mono ?_;rintro e w'⟨rfl,rfl⟩;go_wp2_with fail;refine(D.out _ f.out.fr).mono ?_;rintro e w2⟨rfl,f2⟩;have E:=af (f.out.fr.trans f2);have v:=af (f.out.aD.fr f2 (fun x=>x));clear f2 f;go_wp2_with(refine ak rfl 38 (.tmp 4) _ rfl w.heap.size r.toArray rfl rfl _ _ v.out g.out.info g.out.zero g.out.one ?_);intro o b5 f5;have F:=af b5;have G:Hid (Fr ah w o):=E.out.au f5 (fun i P e=>by have K:i=w.heap.size:=e;omega);clear b5 f5;go_wp2;exact bodyPost_ret (dO (fn:=Tryz.f57) (p:=4) (q:=5) (ty:=38) Tryz.results57 _ o _ 38 r.toArray (0,0) _ rfl F.out Tryz.underlying38 rfl g.out.info _ rfl) rfl ⟨rfl,G.out⟩
end Go.Proofs.YtphjagkehiklkaaGreatDoor.Lt
namespace Go.Proofs.YtphjagkehiklkaaGreatDoor.Lt
open Go.RowKit
def Ca(w:World)(PL:List (List UInt8))(v:Value)(w':World):Prop:=∃v1,v=v1∧bO 37 32 w (.slice none 0 0) w' v1 PL.length (PL.flatMap aA)
theorem Ca.ag{w W:World}{PL:List (List UInt8)}:∀v w' a,Fr ah W w'→Fr ah w' a→Ca w PL v w'→Ca w PL v a:=fun _ _ _ _ c⟨v1,h,b⟩=>⟨v1,h,b.behind c⟩
end Go.Proofs.YtphjagkehiklkaaGreatDoor.Lt
namespace Go.Proofs.YtphjagkehiklkaaGreatDoor.Lt
open Go.RowKit Go.ChangeShapes Go.WideShapes Go.Deep
end Go.Proofs.YtphjagkehiklkaaGreatDoor.Lt
namespace Go.Proofs.YtphjagkehiklkaaGreatDoor
open Go.RowKit Go.Shelf
theorem xI{w:World}{p:Nat}{A:Option Addr}{n c:Nat}{mb:Option Nat}{ds:List (List UInt8)}(h:Lt.ew w p A n c mb ds (Lt.aY n)):Lt.oK {w with heap:=#[]} w p ds:=by
 have e:=h.len;subst e;exact⟨A,c,mb,h,⟨rfl,rfl,rfl,Nat.zero_le _,fun k a=>absurd a (by simp)⟩,fun k _=>Nat.zero_le _⟩
def xP(E:List Ent)(L:List ActV)(n:Int):Value:=if 0≤n∧n≤L.length then .tuple #[aU (Lt.gz (dk E (L.take n.toNat))), .int .i64 0]else .tuple #[.agg aE, .int .i64 2]
theorem wV(h:Nat)(E:List Ent)(L:List ActV)(T:Nat→Prop)(w:World)(m:eD w h E L T):Calls Tryz.prog 46 #[.pointer (some ⟨h,0,none⟩)] w (bG w (.int .i64 (L.length:Int))):=by
 obtain⟨b,s,g,va,vk,K,A,c,mb,d,rfl⟩:=m;obtain⟨l,a,f⟩:=d.jt;obtain⟨n,n1,j,rfl,H1,_⟩:=aH a;have i:=d.aD.cell 0;have j:=d.aD.cell 1;simp only[bQ,List.getElem?_cons_succ,List.getElem?_cons_zero]at i j;have k:=H1;clear d a f;go_enter Tryz.func46,Tryz.ntmps46;go_wp2_with fail;refine(iO w h b i).mono ?_;rintro e w'⟨rfl,rfl⟩;go_wp2;go_ret;exact⟨by rw[k.out];rfl,rfl⟩
def BE(w:World)(E:List Ent)(L:List ActV)(e:Ending)(w':World):Prop:=∃s,e= .returned (.tuple #[.pointer (some ⟨s,0,none⟩), .int .i64 0])∧w=w'∧ec w' s (ee L E)
theorem ng(h:Nat)(E:List Ent)(L:List ActV)(T:Nat→Prop)(w:World)(m:eD w h E L T):Calls Tryz.prog 38 #[.pointer (some ⟨h,0,none⟩), .int .i64 (L.length:Int)] w (BE w E L):=by
 obtain⟨b,s,g,va,vk,K,A,c,mb,d,rfl⟩:=m;obtain⟨l,a,f⟩:=d.jt;obtain⟨n,n1,j,rfl,H1,_⟩:=aH a;have i:=d.aD.cell 0;have j:=d.aD.cell 1;have c3:=d.aD.cell 3;simp only[bQ,List.getElem?_cons_succ,List.getElem?_cons_zero]at i j c3;have k:=af d.last;obtain rfl:n1=L.length:=H1.out;clear d a f H1;generalize L.length=n1 at*;have t1:decide ((n1:Int)<0)=false:=bZ (by omega);have t2:decide ((n1:Int)<(n1:Int))=false:=bZ (by omega);have t3:((n1:Int)==(n1:Int))=true:=by rw[beq_iff_eq]
 go_enter Tryz.func38,Tryz.ntmps38;go_wp2_with fail;refine(iO w h b i).mono ?_;rintro e w'⟨rfl,rfl⟩;go_wp2;go_ret2;exact⟨s,rfl,rfl,k.out⟩
theorem BF(h:Nat)(E:List Ent)(L:List ActV)(T:Nat→Prop)(n:Int)(w:World)(ae:eD w h E L T)(S:bU w)(hL:L.length≤65536):Calls Tryz.prog 16 #[.pointer (some ⟨h,0,none⟩), .int .i64 n] w (aK w (xP E L n)):=by
 obtain⟨b,s,g,va,vk,K,A,c,mb,v,rfl⟩:=ae;obtain⟨ac,m,N⟩:=v.jt;obtain⟨V,n1,aa,rfl,H1,_⟩:=aH m;have al:=af v;have Y:Hid (∀w',Fr ah w w'→Calls Tryz.prog 55 #[.pointer (some ⟨h,0,none⟩)] w' (bG w' (.bool false))):=fun w' f=>iO w' h b ((v.aD.fr f (fun x=>x)).cell 0);have O:Hid (∀(k:Nat)w',Fr ah w w'→k≤L.length→Calls Tryz.prog 57 #[.pointer (some ⟨g,0,none⟩), .int .i64 ((k:Int)+1)] w' (aK w' (.tuple #[aU (Lt.gz (dk E (L.take k))), .int .i64 0]))):=fun k w' f am=>by
  have h:=Lt.Hu _ w' g (dk E L) (k+1) (xI (v.ao f).log) (by rw[lx];omega) (by rw[lx];omega) (S.ao f);rw[qw]at h;exact h
 have J:Hid (∀k,(Lt.gz (dk E (L.take k))).length=32):=fun k=>Lt.mJ _ _ rfl (by rw[lx,List.length_take];omega) (qv _ _);have d:Hid (n1=L.length):=H1.out;have I:=af hL;obtain⟨R,M⟩:∃R,xP E L n=R:=⟨_,rfl⟩;have a:Hid (R=if 0≤n∧n≤L.length then .tuple #[aU (Lt.gz (dk E (L.take n.toNat))), .int .i64 0]else .tuple #[.agg aE, .int .i64 2]):=M.symm;rw[M];have ab:Hid (∀W,Fr ah w W→W.cell? {block:=h,off:=1}=some (.slice V n1 aa)∧W.cell? {block:=h,off:=4}=some (.pointer (some ⟨g,0,none⟩))):=fun W f=>⟨(v.aD.fr f (fun x=>x)).cell 1,(v.aD.fr f (fun x=>x)).cell 4⟩;clear v m N H1 S hL M;go_enter Tryz.func16,Tryz.ntmps16;go_wp2_with(refine an rfl 38 rfl aZ iJ aE rfl ?_);intro w1 y;have t:=af y.fr;have F:=af y.aD;clear y;generalize D:w.heap.size=g4 at*;have u:Hid (w.heap.size≤g4):=by rw[Hid,D];exact Nat.le_refl _
 clear D;go_wp2_with fail;refine(Y.out _ t.out).mono ?_;rintro e w'⟨rfl,rfl⟩;obtain⟨ai,aj⟩:=ab.out _ t.out;by_cases H:n<0
 ·have t1:decide (n<0)=true:=decide_eq_true H;have z:Hid (R= .tuple #[.agg aE, .int .i64 2]):=by rw[Hid,a.out,if_neg (by omega)]
  clear H;go_wp2_with(first|(refine wpList_buildTo rfl 38 #[] rfl aE Lt.qW ?_)|(refine ak rfl 38 (.tmp 4) _ rfl g4 aE rfl rfl _ _ F.out Lt.yC rfl Lt.xL ?_));intro o j l;have B:=af j;have C:Hid (Fr ah w o):=t.out.au l (fun i U e=>by have Q:i=g4:=e;have:=u.out;omega);clear j l;go_wp2;rw[z.out];exact bodyPost_ret (dO (fn:=Tryz.f16) (p:=4) (q:=5) (ty:=38) Tryz.results16 _ o _ 38 aE (0,0) _ rfl B.out Tryz.underlying38 rfl Lt.yC _ rfl) rfl ⟨rfl,C.out⟩
 obtain⟨k,rfl⟩:∃k:Nat,n=k:=⟨n.toNat,by omega⟩;have t1:decide ((k:Int)<0)=false:=decide_eq_false H;clear H;by_cases ad:n1<k
 ·have t2:decide ((n1:Int)<(k:Int))=true:=cT (by omega);have z:Hid (R= .tuple #[.agg aE, .int .i64 2]):=by rw[Hid,a.out,if_neg (by have:=d.out;omega)]
  clear a;go_wp2_with(first|(refine wpList_buildTo rfl 38 #[] rfl aE Lt.qW ?_)|(refine ak rfl 38 (.tmp 4) _ rfl g4 aE rfl rfl _ _ F.out Lt.yC rfl Lt.xL ?_));intro o j l;have B:=af j;have C:Hid (Fr ah w o):=t.out.au l (fun i U e=>by have Q:i=g4:=e;have:=u.out;omega);clear j l;go_wp2;rw[z.out];exact bodyPost_ret (dO (fn:=Tryz.f16) (p:=4) (q:=5) (ty:=38) Tryz.results16 _ o _ 38 aE (0,0) _ rfl B.out Tryz.underlying38 rfl Lt.yC _ rfl) rfl ⟨rfl,C.out⟩
 have t2:decide ((n1:Int)<(k:Int))=false:=bZ (by omega);have ag:¬(n1:Int)<(k:Int):=by omega
 have z:Hid (R= .tuple #[aU (Lt.gz (dk E (L.take k))), .int .i64 0]):=by rw[Hid,a.out,if_pos (by have:=d.out;omega),Int.toNat_natCast]
 have r:=af (O.out k _ t.out (by have:=d.out;omega));have G:Hid (Lt.dB ((Lt.gz (dk E (L.take k))).map bL).toArray):=Lt.dB.of (J.out k);unfold aU at z r;generalize((Lt.gz (dk E (L.take k))).map bL).toArray=P at*;have ap:k≤65536:=by have:=d.out;have:=I.out;omega
 have aq:IntKind.i64.wrap ((k:Int)+1)=(k:Int)+1:=IntWalk.i64_in _ (by omega);clear a O ad;go_wp2_with fail;refine r.out.mono ?_;rintro e w2⟨rfl,f2⟩;have Z:=af (t.out.trans f2);have X:=af (F.out.fr f2 (fun x=>x));clear f2 r t F ai aj;go_wp2_with(refine ak rfl 38 (.tmp 4) _ rfl g4 P rfl rfl _ _ X.out G.out.info G.out.zero G.out.one ?_);intro o j l;have B:=af j;have C:Hid (Fr ah w o):=Z.out.au l (fun i U e=>by have Q:i=g4:=e;have:=u.out;omega);clear j l;go_wp2;rw[z.out];exact bodyPost_ret (dO (fn:=Tryz.f16) (p:=4) (q:=5) (ty:=38) Tryz.results16 _ o _ 38 P (0,0) _ rfl B.out Tryz.underlying38 rfl G.out.info _ rfl) rfl ⟨rfl,C.out⟩
def dM:List Value:=[.int .i64 0, .int .i64 0, .string ByteArray.empty, .slice none 0 0]
theorem pw:Tryz.prog.built 33 []=some dM.toArray:=by kernel_rfl
theorem Ik(i n:Int)(s:ByteArray)(A:Option Addr)(x y:Nat):Tryz.prog.built 33 [(0, .int .i64 i),(1, .int .i64 n),(2, .string s),(3, .slice A x y)]=some [Value.int .i64 i, .int .i64 n, .string s, .slice A x y].toArray:=by kernel_rfl
theorem KE(w:World):(zeroValue 33).run Tryz.prog w= .ok (.agg dM.toArray) w:=by kernel_rfl
theorem kg:(Tryz.prog.info? 33).map (·.size)=some dM.toArray.size:=by kernel_rfl
theorem IK:(Tryz.prog.info? 33).map (·.size)=some 4:=by kernel_rfl
theorem mB:dM.toArray.all (·.oneCell')=true:=by simp[dM,Value.oneCell']
def qM(w:World)(E:List Ent)(L:List ActV)(i n:Int)(e:Ending)(w':World):Prop:=
 (¬(0≤n∧n≤L.length∧0≤i∧i<n)∧e= .returned (.tuple #[.agg dM.toArray, .int .i64 2])∧Fr ah w w')∨
 ∃(k m:Nat)(a:ActV)(v:Value),i=(k:Int)∧n=(m:Int)∧k<m∧m≤L.length∧L[k]? =some a∧e= .returned (.tuple #[.agg [Value.int .i64 (k:Int), .int .i64 (m:Int), .string ⟨(dj a).toArray⟩,v].toArray, .int .i64 0])∧bO 38 32 w (.slice none 0 0) w' v (Lt.cX (dk E (L.take m)) (k+1)).length ((Lt.cX (dk E (L.take m)) (k+1)).flatMap Lt.aA)
theorem kb{w:World}{A:Option Addr}{n c:Nat}{e:List (List Value)}{L:List ActV}(f:w.ownsRow 0 46 6 (.slice A n c) L.length e.flatten)(h:dF w e L)(p:n=L.length){k:Nat}(o:k<L.length):
  ∃g d a,A=some g∧L[k]? =some a∧cy w d a∧d.length=6∧∀j x,d[j]? =some x→w.cell? ((g.add (k*6)).add j)=some x:=by
 subst p;obtain⟨d,l,_,r,i,s⟩:=dF.at_ (k:=k) h o;obtain⟨g,m,_,b⟩:=(Rd.gO f).2 (by omega);refine⟨g,d,l,m,r,i,i.len,fun j x q=>?_⟩;rw[iq];exact b _ x (s j x q)
theorem zk(h:Nat)(E:List Ent)(L:List ActV)(T:Nat→Prop)(i n:Int)(w:World)(a3:eD w h E L T)(aP:ed w)(aO:bU w)(a4:L.length≤65536)(ab:∀a∈L,gv a=true)(ac:∀a∈L,Hw a):
  Calls Tryz.prog 15 #[.pointer (some ⟨h,0,none⟩), .int .i64 i, .int .i64 n] w (qM w E L i n):=by
 obtain⟨b,s,g,va,vk,K,A,c,mb,Q,rfl⟩:=a3;obtain⟨aZ,C,Z⟩:=Q.jt;obtain⟨aB,n1,aY,rfl,H1,_⟩:=aH C;have aT:Hid (∀w',Fr ah w w'→Calls Tryz.prog 55 #[.pointer (some ⟨h,0,none⟩)] w' (bG w' (.bool false))):=fun w' f=>iO w' h b ((Q.aD.fr f (fun x=>x)).cell 0);have aI:Hid (∀(k m:Nat)w',Fr ah w w'→k<m→m≤L.length→Calls Tryz.prog 56 #[.pointer (some ⟨g,0,none⟩), .int .i64 ((k:Int)+1), .int .i64 ((m:Int)+1)] w' (Lt.rP w' (Lt.cX (dk E (L.take m)) (k+1),0))):=fun k m w' f aS hm=>by
  have h:=Lt.xS _ w' g (dk E L) ((k:Int)+1) ((m:Int)+1) (xI (Q.ao f).log) (by rw[lx];omega) (aO.ao f) (by omega) (by omega);have e:Lt.rk (dk E L) ((k:Int)+1) ((m:Int)+1)=(Lt.cX (dk E (L.take m)) (k+1),0):=by
   unfold Lt.rk;rw[if_pos (by rw[lx];omega),show((m:Int)+1).toNat=m+1 by omega,show((k:Int)+1).toNat=k+1 by omega,qw]
  rw[e]at h;exact h
 have S:Hid (∀k,k<L.length→∃ag u a,aB=some ag∧L[k]? =some a∧cy w u a∧u.length=6∧∀j x,u[j]? =some x→w.cell? ((ag.add (k*6)).add j)=some x):=fun k aS=>kb C Z H1.out aS;have aG:Hid (∀a u w',a∈L→cy w u a→Fr ah w w'→Calls Tryz.prog 18 #[.agg u.toArray] w' (aK w' (.tuple #[.string ⟨(dj a).toArray⟩, .int .i64 0]))):=fun a u w' aQ a5 f=>by
  have h:=rK a u w' (aP.ao f) (a5.ao f) (ac a aQ);unfold kJ at h;rw[if_pos (ab a aQ)]at h;exact h
 have F:Hid (n1=L.length∧n1≤65536):=by have:=H1.out;exact⟨this,by omega⟩
 have aM:Hid (∀W,Fr ah w W→W.cell? {block:=h,off:=1}=some (.slice aB n1 aY)∧W.cell? {block:=h,off:=4}=some (.pointer (some ⟨g,0,none⟩))):=fun W f=>⟨(Q.aD.fr f (fun x=>x)).cell 1,(Q.aD.fr f (fun x=>x)).cell 4⟩;have d:Hid (¬(0≤n∧n≤n1∧0≤i∧i<n)→∀w',Fr ah w w'→qM w E L i n (.returned (.tuple #[.agg dM.toArray, .int .i64 2])) w'):=fun am w' f=> .inl ⟨by rw[←H1.out];exact am,rfl,f⟩;have l:Hid (∀(k m:Nat)(a:ActV)(v:Value)w',i=(k:Int)→n=(m:Int)→k<m→m≤n1→L[k]? =some a→bO 38 32 w (.slice none 0 0) w' v (Lt.cX (dk E (L.take m)) (k+1)).length ((Lt.cX (dk E (L.take m)) (k+1)).flatMap Lt.aA)→qM w E L i n (.returned (.tuple #[.agg [Value.int .i64 (k:Int), .int .i64 (m:Int), .string ⟨(dj a).toArray⟩,v].toArray, .int .i64 0])) w'):=fun k m a v w' am O aN a0 a1 a2=> .inr ⟨k,m,a,v,am,O,aN,by rw[←H1.out];exact a0,a1,rfl,a2⟩;generalize qM w E L i n=PP at*;clear Q C Z H1 aO a4 aP ab ac;go_enter Tryz.func15,Tryz.ntmps15;go_wp2_with(refine an rfl 33 rfl (.agg dM.toArray) KE dM.toArray rfl ?_);intro w1 J;have D:=af J.fr;have N:=af J.aD;clear J;generalize aa:w.heap.size=g6 at*;have y:Hid (w.heap.size≤g6):=by rw[Hid,aa];exact Nat.le_refl _
 clear aa;go_wp2_with fail;refine(aT.out _ D.out).mono ?_;rintro e w'⟨rfl,rfl⟩;obtain⟨ay,az⟩:=aM.out _ D.out;by_cases al:n<0;·have t1:decide (n<0)=true:=decide_eq_true al;have G:=af (d.out (by omega));clear d l al;go_wp2_with(first|(refine wpList_buildTo rfl 33 #[] rfl dM.toArray pw ?_)|(refine ak rfl 33 (.tmp 6) _ rfl g6 dM.toArray rfl rfl _ _ N.out kg rfl mB ?_));intro r t o;have H:=af t;have I:Hid (Fr ah w r):=D.out.au o (fun i P e=>by have ai:i=g6:=e;have:=y.out;omega);clear t o;go_wp2;exact bodyPost_ret (bh (fn:=Tryz.f15) (p:=6) (q:=7) (ty:=33) Tryz.results15 _ r _ 33 dM.toArray (0,0) _ rfl H.out Tryz.underlying33 rfl kg _ rfl) rfl (G.out _ I.out)
 obtain⟨m,rfl⟩:∃m:Nat,n=m:=⟨n.toNat,by omega⟩;have t1:decide ((m:Int)<0)=false:=decide_eq_false al;clear al;by_cases am:n1<m;·have t2:decide ((n1:Int)<(m:Int))=true:=cT (by omega);have G:=af (d.out (by omega));clear d l;go_wp2_with(first|(refine wpList_buildTo rfl 33 #[] rfl dM.toArray pw ?_)|(refine ak rfl 33 (.tmp 6) _ rfl g6 dM.toArray rfl rfl _ _ N.out kg rfl mB ?_));intro r t o;have H:=af t;have I:Hid (Fr ah w r):=D.out.au o (fun i P e=>by have ai:i=g6:=e;have:=y.out;omega);clear t o;go_wp2;exact bodyPost_ret (bh (fn:=Tryz.f15) (p:=6) (q:=7) (ty:=33) Tryz.results15 _ r _ 33 dM.toArray (0,0) _ rfl H.out Tryz.underlying33 rfl kg _ rfl) rfl (G.out _ I.out)
 have t2:decide ((n1:Int)<(m:Int))=false:=bZ (by omega);have a9:¬(n1:Int)<(m:Int):=by omega
 by_cases O:i<0;·have t3:decide (i<0)=true:=decide_eq_true O;have G:=af (d.out (by omega));clear d l O;go_wp2_with(first|(refine wpList_buildTo rfl 33 #[] rfl dM.toArray pw ?_)|(refine ak rfl 33 (.tmp 6) _ rfl g6 dM.toArray rfl rfl _ _ N.out kg rfl mB ?_));intro r t o;have H:=af t;have I:Hid (Fr ah w r):=D.out.au o (fun i P e=>by have ai:i=g6:=e;have:=y.out;omega);clear t o;go_wp2;exact bodyPost_ret (bh (fn:=Tryz.f15) (p:=6) (q:=7) (ty:=33) Tryz.results15 _ r _ 33 dM.toArray (0,0) _ rfl H.out Tryz.underlying33 rfl kg _ rfl) rfl (G.out _ I.out)
 obtain⟨k,rfl⟩:∃k:Nat,i=k:=⟨i.toNat,by omega⟩;have t3:decide ((k:Int)<0)=false:=decide_eq_false O;clear O;by_cases aN:m≤k
 ·have t4:decide ((m:Int)≤(k:Int))=true:=cT (by omega);have ax:(m:Int)≤(k:Int):=by omega
  have G:=af (d.out (by omega));clear d l;go_wp2_with(first|(refine wpList_buildTo rfl 33 #[] rfl dM.toArray pw ?_)|(refine ak rfl 33 (.tmp 6) _ rfl g6 dM.toArray rfl rfl _ _ N.out kg rfl mB ?_));intro r t o;have H:=af t;have I:Hid (Fr ah w r):=D.out.au o (fun i P e=>by have ai:i=g6:=e;have:=y.out;omega);clear t o;go_wp2;exact bodyPost_ret (bh (fn:=Tryz.f15) (p:=6) (q:=7) (ty:=33) Tryz.results15 _ r _ 33 dM.toArray (0,0) _ rfl H.out Tryz.underlying33 rfl kg _ rfl) rfl (G.out _ I.out)
 have t4:decide ((m:Int)≤(k:Int))=false:=bZ (by omega);have ax:¬(m:Int)≤(k:Int):=by omega
 have a7:(k:Int)<(n1:Int):=by omega
 have a6:(0:Int)≤(k:Int):=by omega
 obtain⟨ag,u,a,rfl,X,V,Y,B⟩:=S.out k (by have:=F.out;omega);have U:=af X;have ar:=af V;have av:=af Y;have aq:=af B;have aW:Hid ((Tryz.prog.info? 46).map (·.size)=some u.length):=by rw[Hid,av.out];exact bM
 have z:Hid (k<m∧m≤n1):=⟨by omega,by omega⟩;clear X V Y B d S;go_wp2_with(refine aC rfl 46 (.tmp 41) rfl (ag.add (k*6)) rfl u _ ?zA Tryz.underlying46 rfl aW.out (aR.go ?zB));case zA=>exact fun j x a8=>D.out.aj (aq.out j x a8) (fun x=>x)
 unfold aR;go_wp2_with fail;refine(aG.out a u _ (List.mem_of_getElem? U.out) ar.out D.out).mono ?_;rintro e w2⟨rfl,f2⟩;have ae:=af (D.out.trans f2);have aE:=af (N.out.fr f2 (fun x=>x));clear f2 aG D N ay az;obtain⟨ay,az⟩:=aM.out _ ae.out;have bb:IntKind.i64.wrap ((k:Int)+1)=(k:Int)+1:=IntWalk.i64_in _ (by have:=F.out;omega);have bc:IntKind.i64.wrap ((m:Int)+1)=(m:Int)+1:=IntWalk.i64_in _ (by have:=F.out;have:=z.out;omega);have R:=af (aI.out k m _ ae.out z.out.1 (by have:=F.out;have:=z.out;omega));have aw:=af (l.out k m a);generalize Lt.cX (dk E (L.take m)) (k+1)=PL at*;generalize(⟨(dj a).toArray⟩:ByteArray)=ad at*;clear aI l;go_wp2_with fail;refine R.out.mono ?_;rintro e w3⟨v,rfl,ap⟩;obtain⟨M,n3,c3,rfl,_,_⟩:=aH ap.own;have aU:=af (ap.ahead ae.out);have aF:=af (aE.out.fr ap.ao (fun x=>x));clear ap R ae aE ay az;have ba:=af (Ik (k:Int) (m:Int) ad M n3 c3);have aL:Hid ((Tryz.prog.info? 33).map (·.size)=some [Value.int .i64 (k:Int), .int .i64 (m:Int), .string ad, .slice M n3 c3].toArray.size):=IK;have aX:Hid ([Value.int .i64 (k:Int), .int .i64 (m:Int), .string ad, .slice M n3 c3].toArray.all (·.oneCell')=true):=by simp[Hid,Value.oneCell']
 go_wp2_with(refine ak rfl 33 (.tmp 6) _ rfl g6 [Value.int .i64 (k:Int), .int .i64 (m:Int), .string ad, .slice M n3 c3].toArray rfl rfl _ _ aF.out aL.out rfl aX.out ?_);intro r t o;have H:=af t;have aV:Hid (bO 38 32 w (.slice none 0 0) r (.slice M n3 c3) PL.length (PL.flatMap Lt.aA)):=by
  have g:=aU.out;refine⟨aJ g.own o (fun i P e=>?_),(g.ao.au o (fun i P e=>by have ai:i=g6:=e;have:=y.out;omega)).bJ,g.eE⟩;obtain rfl:i=g6:=e;exact bK g.own aF.out (by decide) P
 have G:=af (aw.out _ r (by first|rfl|trivial) (by first|rfl|trivial) z.out.1 z.out.2 U.out aV.out);clear t o;go_wp2;exact bodyPost_ret (bh (fn:=Tryz.f15) (p:=6) (q:=7) (ty:=33) Tryz.results15 _ r _ 33 [Value.int .i64 (k:Int), .int .i64 (m:Int), .string ad, .slice M n3 c3].toArray (0,0) _ rfl H.out Tryz.underlying33 rfl aL.out _ rfl) rfl G.out
theorem wB:kS=nF.cells.toArray:=rfl
def mi:CV:=⟨nF,⟨#[53]⟩,false⟩
def clockA:ActV:=⟨⟨1,0,1,ByteArray.empty⟩,[],[mi]⟩
theorem Ci:Tryz.prog.built 43 [(0, .int .i64 1),(2, .int .i64 1)]=some clockA.key.cells.toArray:=by kernel_rfl
theorem Fv:Tryz.prog.built 119 [(0, .agg nF.cells.toArray),(1, .string ⟨#[53]⟩)]=some mi.cells.toArray:=by kernel_rfl
theorem Ch(A:Option Addr)(x y:Nat):Tryz.prog.built 46 [(0, .agg clockA.key.cells.toArray),(2, .slice A x y)]=some (clockA.key.cells++[Value.slice none 0 0, .slice A x y]).toArray:=by kernel_rfl
theorem Io{w:World}{g:Nat}{c:CV}(h:aq w g 119 c.cells.toArray):dU w (.slice (some ⟨g,0,none⟩) 1 1) [c]:=by
 exact⟨rfl, .inr ⟨g,1,c.cells.toArray,rfl,Nat.zero_le _,h,Nat.le_refl _,by decide,rfl,by rfl⟩⟩
theorem tH{P:Program}{ops:Array Oper}{rest:List Oper}{u:Oper}{a:Act}{w:World}{Q:Exit→Act→World→Prop}(j:u.guard=none)(ty:TypeId)(x y:Operand)(p:u.op= .store ty x y)
  (g f:Nat)(v:Value)(r:a.eval x= .pointer (some ⟨g,f,none⟩))(s:a.eval y=v)(m:v.oneCell'=true)(d:(P.info? ty).map (·.size)=some 1)
  (t:TypeId)(cs cs':Array Value)(e:aq w g t cs)(o:f<cs.size)(i:cs.setIfInBounds f v=cs')
  (h:∀w',aq w' g t cs'→Fr (fun k=>k=g) w w'→wpList P ops Q rest (a.put u.dst undef) w'):wpList P ops Q (u::rest) a w:=by
 subst i;obtain⟨b,l,q⟩:∃b,P.info? ty=some b∧b.size=1:=by
  cases he:P.info? ty with
  |none=>rw[he]at d;cases d
  |some b=>rw[he]at d;exact⟨b,rfl,by simpa using d⟩
 have c:=Lib.rl_storeVar_one (P:=P) ty b l q ⟨g,f,none⟩ v (cs[f]) m w (by rw[e.cell];simp[o]) (e.frozen _);refine wpList_plain j fun K n=>?_;unfold Oper.wp execOp;simp only[p,r,s,Instr.storeAt,Instr.sureAddr,Sem.run_bind,Sem.run_pure,Result.andThen_ok,c];exact n _ _ (h _ (e.jM f v) (Fr.setCell (T:=fun k=>k=g) (Fr.refl _ w) (fun _=>rfl) v))
theorem nJ:∀(xs:List CV)(k:Nat),(xs.flatMap CV.cells).take (k*7)=(xs.take k).flatMap CV.cells
 |[],k=>by simp
 |c::r,0=>by simp
 |c::r,k+1=>by
  rw[List.take_succ_cons,List.flatMap_cons,List.flatMap_cons,List.take_append,List.take_of_length_le (by rw[CV.eF];omega),CV.eF,show(k+1)*7-7=k*7 by omega,nJ r k]
theorem lM:∀(xs:List CV)(k:Nat),(xs.flatMap CV.cells).drop (k*7)=(xs.drop k).flatMap CV.cells
 |[],k=>by simp
 |c::r,0=>by simp
 |c::r,k+1=>by
  rw[List.drop_succ_cons,List.flatMap_cons,List.drop_append,List.drop_of_length_le (by rw[CV.eF];omega),List.nil_append,CV.eF,show(k+1)*7-7=k*7 by omega,lM r k]
theorem CL.take{w:World}{S:Nat→Prop}{A:Option Addr}{n k:Nat}{xs:List CV}(h:CL w S A n xs)(a:k≤n):CL w S A k (xs.take k):=
 ⟨by have:=h.rd.take a;rw[nJ]at this;exact this,by rw[List.length_take,h.len];omega⟩
theorem CL.cut{w:World}{S:Nat→Prop}{A:Option Addr}{n k cap:Nat}{xs:List CV}(h:CL w S A n xs)(b:k≤n)(a:n≤cap):CL w S (if cap=k then A else A.map (·.add (k*7))) (n-k) (xs.drop k):=
 ⟨by have:=h.rd.cut b a;rw[lM]at this;exact this,by rw[List.length_drop,h.len]⟩
def BQ(w:World)(a:ActV)(e:Ending)(w':World):Prop:=∃cs,e= .returned (.agg cs.toArray)∧cy w' cs a∧Fr ah w w'∧jN w.heap.size cs
theorem uG{B:Nat}{k:dH}{c d:Value}(e:∀i,c.ownBlock=some i→B≤i)(f:∀i,d.ownBlock=some i→B≤i):jN B (k.cells++[c,d]):=fun v b i a=>by
 simp only[dH.cells,List.cons_append,List.nil_append,List.mem_cons,List.not_mem_nil,or_false]at b;rcases b with rfl|rfl|rfl|rfl|rfl|rfl;·cases a
 ·cases a
 ·cases a
 ·cases a
 ·exact e i a
 ·exact f i a
theorem uC(w:World):Calls Tryz.prog 49 #[] w (BQ w clockA):=by
 obtain⟨h,C,D,d,U⟩:=info_parts mZ;have y:Hid (¬1*h.size>2^24):=by simp only[Hid];rw[d];omega
 have z:Hid (¬1*h.size=0):=by simp only[Hid];rw[d];omega
 have q:Hid (Instr.fill (fun i=>some (i*7,7)) ((Array.range (1*7)).map (bY.cells[· %bY.cells.size]!)) [(0, .agg mi.cells.toArray)]=some mi.cells.toArray):=ku _ _ rfl (by simp);have A:Hid (Instr.fill (fun i=>some (i*h.size,h.size)) ((Array.range (1*h.size)).map (bY.cells[· %bY.cells.size]!)) [(0, .agg mi.cells.toArray)]=some mi.cells.toArray):=by simp only[Hid];rw[d];exact q.out
 have O:=af Ci;have N:=af Fv;have M:=af Ch;have G:Hid (∀w,Calls Tryz.prog 54 #[] w (aK w (.agg nF.cells.toArray))):=fun w=>by rw[←wB];exact qQ w
 have n:Hid (∀j k:Value,(clockA.key.cells++[j,k]).toArray.size=6):=fun j k=>rfl;have u:Hid (∀j k:Value,j.oneCell'=true→k.oneCell'=true→(clockA.key.cells++[j,k]).toArray.all (·.oneCell')=true):=fun j k B T=>by simp only[dH.cells,List.cons_append,List.nil_append,List.all_toArray,List.all_cons,List.all_nil,B,T];rfl
 have b:Hid (∀(w':World)(g:Nat),aq w' g 119 mi.cells.toArray→Fr ah w w'→w.heap.size≤g→BQ w clockA (.returned (.agg (clockA.key.cells++[Value.slice none 0 0, .slice (some ⟨g,0,none⟩) 1 1]).toArray)) w'):=fun w' g B f n1=>⟨_,rfl,⟨_,_,rfl,dU.nil _,Io B⟩,f,uG (fun i s=>by cases s) (fun i s=>by simp only[Value.ownBlock,Option.some.injEq]at s;omega)⟩;generalize BQ w clockA=PP at*;generalize clockA.key.cells=o at*;generalize mi.cells=c at*;generalize nF.cells=V at*;clear q;go_enter Tryz.func49,Tryz.ntmps49;go_wp2_with(refine an rfl 46 rfl eC j8 #[.int .i64 0, .int .i64 0, .int .i64 0, .string ByteArray.empty, .slice none 0 0, .slice none 0 0] rfl ?_);intro w1 n1;have H:=af n1.fr;have E:=af n1.aD;clear n1;generalize r:w.heap.size=g0 at*;have l:=af r;clear r;go_wp2_with(refine dL rfl 43 _ rfl o.toArray _ (by simp only[List.map_toArray,List.map_cons,List.map_nil];rfl) O.out (aR.go ?zC));unfold aR;go_wp2_with fail;refine(G.out _).mono ?_;rintro e w2⟨rfl,f2⟩;have I:=af (H.out.trans f2);have F:=af (E.out.fr f2 (fun x=>x));clear f2 H E G;go_wp2_with(refine dL rfl 119 _ rfl c.toArray _ (by simp only[List.map_toArray,List.map_cons,List.map_nil];rfl) N.out (aR.go ?zB));unfold aR;refine wpList_buildSlice rfl 44 119 1 _ rfl c.toArray h bY Tryz.underlying44 C D y.out z.out (by simp only[List.map_toArray,List.map_cons,List.map_nil];exact A.out) ?_;have t:Hid (aq (w2.alloc (.cells c.toArray 119)) w2.heap.size 119 c.toArray):=aq.new _ _ _;have P:=af (I.out.trans ((Fr.refl ah w2).alloc (.cells c.toArray 119)));have L:=af (F.out.fr ((Fr.refl ah w2).alloc (.cells c.toArray 119)) (fun x=>x));have m:Hid (w.heap.size≤w2.heap.size∧g0<w2.heap.size):=⟨I.out.size,F.out.lt⟩;generalize(w2.alloc (.cells c.toArray 119))=w3 at*;generalize w2.heap.size=g3 at*;go_wp2_with(refine dL rfl 46 _ rfl (o++[Value.slice none 0 0, .slice (some ⟨g3,0,none⟩) 1 1]).toArray _ (by simp only[List.map_toArray,List.map_cons,List.map_nil];rfl) (M.out _ _ _) (aR.go ?zA));unfold aR;have a:Hid ((Tryz.prog.info? 46).map (·.size)=some (o++[Value.slice none 0 0, .slice (some ⟨g3,0,none⟩) 1 1]).toArray.size):=by rw[Hid,n.out];exact bM
 refine ak rfl 46 (.tmp 0) _ rfl g0 (o++[Value.slice none 0 0, .slice (some ⟨g3,0,none⟩) 1 1]).toArray rfl rfl _ _ L.out a.out (by rw[n.out];rfl) (u.out _ _ rfl rfl) ?_;intro K J v;have R:=af J;have Q:=af (b.out K g3 (t.out.fr v (fun e=>by have S:g3=g0:=e;have:=m.out;omega)) (P.out.au v (fun i s e=>by have S:i=g0:=e;have:=l.out;omega)) (by have:=m.out;have:=l.out;omega));clear J v;go_wp2;exact bodyPost_ret (results_cell_row (fn:=Tryz.f49) (p:=0) (ty:=46) Tryz.results49 _ K _ 46 (o++[Value.slice none 0 0, .slice (some ⟨g3,0,none⟩) 1 1]).toArray (0,0) _ rfl R.out Tryz.underlying46 rfl a.out) rfl Q.out
end Go.Proofs.YtphjagkehiklkaaGreatDoor
namespace Go.Proofs.YtphjagkehiklkaaGreatDoor
open Go.RowKit
def mM(late:Nat→Bool)(T:Nat→Prop)(w:World):Nat→List (Value→World→Prop)→Prop
 |_,[]=>True
 |i,p::r=>(∀v w' a,Fr T w w'→Fr (if late i=true then ah else T) w' a→p v w'→p v a)∧mM late T w (i+1) r
theorem mM.at_{late:Nat→Bool}{T:Nat→Prop}{w:World}:∀{b:List (Value→World→Prop)}{i:Nat},mM late T w i b→∀j v w' a,Fr T w w'→Fr (if late (i+j)=true then ah else T) w' a→cm b j v w'→cm b j v a
 |[],_,_,_,_,_,_,_,_,_=>trivial
 |p::r,i,h,0,v,w',a,c,d,e=>h.1 v w' a c d e
 |p::r,i,h,j+1,v,w',a,c,d,e=>mM.at_ h.2 j v w' a c (by rw[show i+1+j=i+(j+1)by omega];exact d) e
def Df(late:Nat→Bool)(ws:List (Nat×(World→Prop)))(B:Nat→Nat→Bool)(n:Nat):Bool:=(List.range n).all fun k=>!late k||(ws.map (·.1)).all fun p=>p==k||B p k
theorem Gt{late:Nat→Bool}{ws:List (Nat×(World→Prop))}{B:Nat→Nat→Bool}{n k i:Nat}(h:Df late ws B n=true)(d:k<n)(e:late k=true)(hw:ep ws i=true)(a:i≠k):B i k=true:=by
 have b:=List.all_eq_true.1 h k (List.mem_range.2 d);rw[e,Bool.not_true,Bool.false_or]at b;simp only[ep,List.any_eq_true,beq_iff_eq]at hw;obtain⟨p,f,rfl⟩:=hw;have c:=List.all_eq_true.1 b p f;simp only[Bool.or_eq_true,beq_iff_eq]at c;exact c.resolve_left a
theorem Lc{P:Program}{ops:Array Oper}{Q:Exit→Act→World→Prop}{T:Nat→Prop}{w:World}{a:Act}{ab:List (Value→World→Prop)}{ws:List (Nat×(World→Prop))}{C:World→Prop}{B:Nat→Nat→Bool}{n:Nat}(ok:qd ops n)(ac:fN ops n B=true)
  (J:(gK B (ws.map (·.1))&&(ws.map (·.1)).all (fun p=>decide (p<n)))=true)
  (late:Nat→Bool)(ao:Df late ws B n=true)(av:mM late T w 0 ab)(aw:iX T w ws)(au:∀w' l,Fr T w w'→Fr ah w' l→C w'→C l)
  (aC:ig P ops Q T w (fun u=>ar ((ops.toList.take n).map (·.dst)) 0 u a) (cm ab) ws C B n 0 (ops.toList.take n))
  (aF:∀u w',Fr T w w'→(∀j,j<n→cm ab j (u j) w')→lQ ws C w'→wpList P ops Q (ops.toList.drop n) (ar ((ops.toList.take n).map (·.dst)) 0 u a) w'):
  ∀(f:Nat)(listed:Array Bool)(u:Nat→Value)(w':World),HeadInv .any ops n listed→ct (fun j=>!listed.getD j false) n=f→Fr T w w'→dn ws C (fun j=>listed.getD j false) w'→
   (∀j,j<n→listed.getD j false=true→cm ab j (u j) w')→wpAny P .any ops Q (f+(ops.size-n)) listed (ar ((ops.toList.take n).map (·.dst)) 0 u a) w':=by
 rw[Bool.and_eq_true]at J;have X:∀x∈ws,x.1<n:=fun x I=>by simpa using List.all_eq_true.1 J.2 x.1 (List.mem_map.2 ⟨x,I,rfl⟩)
 intro f;induction f with
 |zero=>
  intro listed u w' inv az N R S;have s:∀j,j<n→listed.getD j false=true:=fun j F=>by simpa using kU _ n az j F
  have he:listed=Array.replicate n true++Array.replicate (ops.size-n) false:=by
   apply Array.ext;·rw[inv.size];have:=ok.le;simp;omega
   ·intro i ad aJ;rcases Nat.lt_or_ge i n with D|D;·have:=s i D;rw[Array.getElem_append_left (by simpa using D)];simpa[ad]using this
    ·have:=inv.tail i D (by rw[←inv.size];exact ad);rw[Array.getElem_append_right (by simpa using D)];simpa[ad]using this
  rw[oa ws C _ (fun x I=>s x.1 (X x I))]at R;subst he;have U:(ops.toList.drop n).length=ops.size-n:=by simp
  have:=wpAny_of_seq (P:=P) (md:= .any) (ops:=ops) (Q':=Q) (ops.toList.drop n) n _ (ar ((ops.toList.take n).map (·.dst)) 0 u a) w' (fun j=>by simp[List.getElem?_drop]) (by rw[U];exact ok.seq) (aF u w' N (fun j F=>S j F (s j F)) R);rw[U]at this;rwa[Nat.zero_add]
 |succ f aG=>
  intro listed u w' inv az N R S;obtain⟨j,F,ax,L⟩:=mj (fun j=>!listed.getD j false) n (by omega);have K:j<ops.size:=by have:=ok.le;omega
  have H:listed.getD j true=false:=getD_in (by rw[inv.size];exact K) (by simpa using ax);have W:j∈Region.ready .any ops listed:=by
   refine mem_ready.2 ⟨H,ops[j],Array.getElem?_eq_getElem K,fun e he c=>?_⟩;have:=ok.each j _ F (Array.getElem?_eq_getElem K) e he c;simpa using L e.on this
  rw[show f+1+(ops.size-n)=(f+(ops.size-n))+1 by omega];refine⟨fun aA=>(by rw[aA]at W;cases W),fun i D=>?_⟩;obtain⟨an,o,Y,aa⟩:=mem_ready.1 D;have am:i<ops.size:=(Array.getElem?_eq_some_iff.1 Y).1;have m:i<n:=by
   rcases ok.tail with h|⟨aE,aj⟩;·omega
   ·rcases Nat.lt_or_ge i n with h|h;·exact h
    ·exact absurd D (tail_waits aE aj (by omega) inv (n-j) j rfl F H i h)
  have E:listed.getD i false=false:=getD_both an;have Z:(ops.toList.take n)[i]? =some o:=by rw[List.getElem?_take,if_pos m];simpa using Y
  have b:∀k,Region.waitsFor .any ops i k=true→k<i∧listed.getD k false=true:=by
   intro k t;obtain⟨aH,ap,e,he,c,aq⟩:=Region.waitsFor_spec t;have:aH=o:=Option.some.inj (ap.symm.trans Y);subst this;subst aq;exact⟨ok.each i _ m Y e he c,aa e he c⟩
  have d:∀p,p<n→B p i=true→listed.getD p false=true:=by
   intro p A c;have h:=List.all_eq_true.1 (List.all_eq_true.1 ac i (List.mem_range.2 m)) p (List.mem_range.2 A);simp only[c,Bool.not_true,Bool.false_or,Bool.or_eq_true,List.any_eq_true,Bool.and_eq_true,List.mem_range]at h;rcases h with h|⟨k,t,hw,ag⟩;·exact(b p h).2
   ·exact iB ac inv k (by omega) (b k hw).2 p A ag
  have g:∀p,(p==i||B i p)=true→listed.getD p false=false:=by
   intro p A;simp only[Bool.or_eq_true,beq_iff_eq]at A;rcases A with rfl|c;·exact E
   ·rcases Nat.lt_or_ge p n with M|M
    ·cases O:listed.getD p false;·rfl
     ·have:=iB ac inv p M O i m c;rw[E]at this;cases this
    ·rcases Nat.lt_or_ge p ops.size with ay|ay;·exact getD_both (inv.tail p M ay)
     ·have:¬p<listed.size:=by rw[inv.size];omega
      simp[this]
  have hw:=aC.at_ i o Z u w' (fun j=>listed.getD j false) N (fun k t=>by
   rw[Nat.zero_add]at t;exact S k (by have:=(b k t).1;omega) (b k t).2) (fun p A c=>by rw[Nat.zero_add]at c;exact d p A c) (fun p A=>by rw[Nat.zero_add]at A;exact g p A) R;rw[Nat.zero_add]at hw;refine og Y (fK (fun aI l aB=>?_) hw);obtain⟨v,rfl,hf',af,ae⟩:=aB;have V:Fr T w' l:=by
   unfold gU at hf';split at hf';·exact hf'
   ·exact hf'.bJ
  rw[lT _ 0 i u a o.dst v ok.nodup (by rw[List.getElem?_map,Z];rfl),Nat.zero_add];have G:(listed.setIfInBounds i true).getD i false=true:=by
   have al:i<listed.size:=by rw[inv.size];exact am
   simp[al]
  refine aG (listed.setIfInBounds i true) (dN u i v) l (inv.set D m) ?_ (N.trans V) ?_ (fun k t O=>?_);·have:=kT (fun j=>!listed.getD j false) (fun j=>!(listed.setIfInBounds i true).getD j false) i (by simp only[E];rfl) (by simp only[G];rfl) (fun j F=>by simp only[getD_set_ne false (Ne.symm F)]) n m;omega
  ·cases r:ep ws i
   ·have ak:Fr ah w' l:=by simpa[gU,r]using hf'
    have ai:=kZ ws C (fun j=>(listed.setIfInBounds i true).getD j false) (fun j=>listed.getD j false) (fun x I=>by
     have:i≠x.1:=by
      rintro rfl;have:ep ws x.1=true:=by
       simp only[ep,List.any_eq_true,beq_iff_eq];exact⟨x.1,List.mem_map.2 ⟨x,I,rfl⟩,rfl⟩
      rw[r]at this;cases this
     simp only[getD_set_ne false this]);rw[ai];exact kj N ak ws C _ aw au R
   ·exact ld B i (fun j=>listed.getD j false) _ l G (fun q aD=>by simp only[getD_set_ne false (Ne.symm aD)]) ws C J.1 r (fun x I c=>d x.1 (X x I) c) (fun x I c=>g x.1 (by rw[c,Bool.or_true])) ae
  ·by_cases e:k=i;·subst e;simp only[dN,if_true];exact af
   ·simp only[dN];rw[if_neg e];rw[getD_set_ne false (fun h=>e h.symm)]at O;have z:=av.at_ k (u k) w' l N;rw[Nat.zero_add]at z;cases y:late k;·rw[y]at z;exact z V (S k t O)
    ·rw[y]at z;cases r:ep ws i;·exact z (by simpa[gU,r]using hf') (S k t O)
     ·have c:=Gt ao t y r (fun h=>e h.symm);have:=iB ac inv k t O i m c;rw[E]at this;cases this
theorem wT{P:Program}{id:Nat}{Q:Exit→Act→World→Prop}{a:Act}{w:World}{l:List Oper}(n:Nat)(T:Nat→Prop)(f:List (Value→World→Prop))(ws:List (Nat×(World→Prop)))(b:World→Prop)(B:Nat→Nat→Bool)(hm:P.follows .mixedOrders=true)(A:oU l.toArray n=true)
  (y:fN l.toArray n B=true)(g:(gK B (ws.map (·.1))&&(ws.map (·.1)).all (fun p=>decide (p<n)))=true)
  (late:Nat→Bool)(i:Df late ws B n=true)(o:mM late T w 0 f)(q:iX T w ws)(k:∀w' e,Fr T w w'→Fr ah w' e→b w'→b e)(v:b w.drew)
  (C:ig P l.toArray Q T w (fun u=>ar ((l.take n).map (·.dst)) 0 u a) (cm f) ws b B n 0 (l.take n))
  (r:∀u w',Fr T w w'→(∀j,j<n→cm f j (u j) w')→lQ ws b w'→wpList P l.toArray Q (l.drop n) (ar ((l.take n).map (·.dst)) 0 u a) w'):(Code.region id l.toArray true).wp P Q a w:=by
 have ok:=qd.of A;obtain⟨E,s⟩:=gH ((l.take n).map (·.dst)) 0 a;refine wp_region_any hm ?_;have d:HeadInv .any l.toArray n (Array.replicate l.toArray.size false):=
  ⟨by simp,fun j G _ c=>(by rw[getD_replicate_false]at c;cases c),fun t _ r=>getD_in (by simpa using r) (getD_replicate_false _ _)⟩;have z:ct (fun j=>!(Array.replicate l.toArray.size false).getD j false) n=n:=by
  have h:∀m,ct (fun j=>!(Array.replicate l.toArray.size false).getD j false) m=m:=by
   intro m;induction m with
   |zero=>rfl
   |succ m D=>rw[ct,D,getD_replicate_false];rfl
  exact h n
 have:=Lc (P:=P) (Q:=Q) (a:=a) ok y g late i o q k (by simpa using C) (by simpa using r) n _ E w.drew d z (az.drew) (by rw[kA ws b _ (fun x _=>getD_replicate_false _ _)];exact v) (fun j F c=>by rw[getD_replicate_false]at c;cases c);rw[show(l.toArray.toList.take n).map (·.dst)=(l.take n).map (·.dst)by simp,s,show n+(l.toArray.size-n)=l.toArray.size by have:=ok.le;omega]at this;exact this
end Go.Proofs.YtphjagkehiklkaaGreatDoor
namespace Go.Proofs.YtphjagkehiklkaaGreatDoor
open Go.RowKit Go.Shelf
def El(w:World)(E:List Ent)(e:Ending)(w':World):Prop:=∃h T,e= .returned (.tuple #[.pointer (some ⟨h,0,none⟩), .int .i64 0])∧eD w' h E [] T∧Fr ah w w'∧∀k,T k→w.heap.size≤k
theorem Ha{w:World}{p:Nat}(h:aq w p 180 #[.slice none 0 0, .map none]):Lt.ew w p none 0 0 none [] (Lt.aY 0):=
 ⟨h,⟨rfl, .inl ⟨rfl,rfl⟩⟩,rfl,(fun _ b=>by cases b), .inr ⟨rfl,fun l i a=>by
  have c:=a.2;have:1≤(i+1)*2^l:=Nat.mul_pos (by omega) (Nat.two_pow_pos l);omega⟩⟩
theorem rN(E:List Ent)(b:Nat)(w:World)(ad:ec w b E)(aW:ed w)(z:bU w)(aT:cI 24 E):
  Calls Tryz.prog 29 #[.pointer (some ⟨b,0,none⟩)] w (El w E):=by
 have aC:=af ad;have bd:=af z;have L:Hid (∀w',Fr ah w w'→Calls Tryz.prog 75 #[.pointer (some ⟨b,0,none⟩)] w' (aK w' (aU (eJ (fE E))))):=fun w' f=>Fk E b w' (ad.ao f) (aW.ao f) (z.ao f) aT;have a:=gP (fE E);have c:=af a;have CL:Hid (∀w',Fr ah w w'→Calls Tryz.prog 76 #[.string ({data:=#[0]}++⟨(eJ (fE E)).toArray⟩)] w' (aK w' (aU (nN E)))):=fun w' f=>by
  have aR:eN ({data:=#[0]}++⟨(eJ (fE E)).toArray⟩)=0::eJ (fE E):=by
   have h:aS ({data:=#[0]}++⟨(eJ (fE E)).toArray⟩)=aS ⟨#[0]⟩++aS ⟨(eJ (fE E)).toArray⟩:=xG _ _;have a8:aS ⟨(eJ (fE E)).toArray⟩=eJ (fE E):=sx _;rw[a8]at h;exact h
  have h:=Lt.wW ({data:=#[0]}++⟨(eJ (fE E)).toArray⟩) w' (z.ao f) (by
   have:=dP ({data:=#[0]}++⟨(eJ (fE E)).toArray⟩);rw[aR,List.length_cons,a]at this;omega);rw[aR]at h;exact h
 have a4:Hid (Lt.dB ((nN E).map bL).toArray):=Lt.dB.of (qu E);have l:Hid (Lt.dB ((eJ (fE E)).map bL).toArray):=Lt.dB.of a;have av:Hid (∀p w',w.heap.size≤p→Lt.ew w' p none 0 0 none [] (Lt.aY 0)→Fr ah w w'→Calls Tryz.prog 84 #[.pointer (some ⟨p,0,none⟩),aU (nN E)] w' (Lt.mK w' p none 0 0 none [] (nN E))):=fun p w' ag ai f=>
  Lt.sH p none 0 0 none [] (nN E) w' ai (qu E) (by omega) (z.ao f) (fun k B ai=>by
   have ba:k<w.heap.size:=by first|(rcases B with rfl|rfl;exact z.Dm;exact z.Dn)
   rcases ai with rfl|h|h;·omega
   ·cases h
   ·simp[Value.ownBlock]at h);have W:Hid (dk E []=[nN E]):=rfl;have aN:Hid (∀j v,((eJ (fE E)).map bv)[j]? =some v→(((eJ (fE E)).map bL).toArray)[j]? =some v):=fun j v h=>by rw[bQ];exact h
 obtain⟨dl,I⟩:∃dl,eJ (fE E)=dl:=⟨_,rfl⟩;rw[I]at L c CL l aN;obtain⟨xs,n⟩:∃x:ByteArray,x=⟨dl.toArray⟩:=⟨_,rfl⟩;have aa:=af n;rw[←n]at CL;have ab:Hid (xs.size=32):=by rw[Hid,n];simp only[ByteArray.size,List.size_toArray];exact c.out
 generalize nN E=bc at*;unfold aU at L CL;generalize G:(dl.map bL).toArray=a6 at*;have a5:=af G;generalize H:(bc.map bL).toArray=a7 at*;have Y:=af H;clear ad aW z aT I n a G H;go_enter Tryz.func29,Tryz.ntmps29;go_wp2_with fail;refine(Lt.qO _).mono ?_;rintro e w1⟨rfl,m⟩;have t:Hid (aq w1 w.heap.size 180 #[.slice none 0 0, .map none]):=by rw[m];exact aq.new _ _ _
 have ay:Hid (Fr ah w w1):=by rw[m];exact az.alloc _
 have s:Hid (w1.heap.size=w.heap.size+1):=by rw[m];simp[Hid]
 clear m;have X:Hid (w.heap.size≤w.heap.size):=Nat.le_refl _;generalize ag:w.heap.size=p at t s⊢;have N:=af ag;clear ag X;go_wp2_with(refine aB rfl 111 (.tmp 12) rfl #[.pointer (some ⟨b,0,none⟩), .slice none 0 0, .slice none 0 0, .pointer (some ⟨b,0,none⟩), .pointer (some ⟨p,0,none⟩)] rfl ?_);intro w2 a0;have O:=af a0;clear a0;generalize aX:w1.heap.size=h at*;have am:Hid (aq w2 h 111 #[.pointer (some ⟨b,0,none⟩), .slice none 0 0, .slice none 0 0, .pointer (some ⟨b,0,none⟩), .pointer (some ⟨p,0,none⟩)]):=by have q:=O.out.aD;rw[aX]at q;exact q
 have aG:Hid (p<h):=by have:=s.out;simp only[Hid];omega
 clear aX;have R:=af (ay.out.trans O.out.fr);have aI:=af (t.out.fr O.out.fr (fun x=>x));clear O ay t s;go_wp2_with fail;refine(L.out _ R.out).mono ?_;rintro e w3⟨rfl,f3⟩;have S:=af (R.out.trans f3);have P:=af (am.out.fr f3 (fun x=>x));have ac:=af (aI.out.fr f3 (fun x=>x));clear f3 L R am aI;go_wp2_with(refine an rfl 37 rfl aZ Kz aE rfl ?_);intro a1 n4;have F:=af n4;clear n4;generalize J:w3.heap.size=g5 at*;have aw:Hid (aq a1 g5 37 aE):=by have q:=F.out.aD;rw[J]at q;exact q
 have r:Hid (w.heap.size≤g5∧p<g5∧h<g5):=by have:=S.out.size;have:=P.out.lt;have:=ac.out.lt;simp only[Hid];omega
 clear J;go_wp2_with(refine ak rfl 37 (.tmp 5) _ rfl g5 a6 rfl rfl _ _ aw.out l.out.K6 l.out.zero l.out.one ?_);intro aj b5 f5;have ax:=af b5;have Q:=af ((P.out.fr F.out.fr (fun x=>x)).fr f5 (fun e=>by have aQ:h=g5:=e;have:=r.out;omega));have aJ:=af ((ac.out.fr F.out.fr (fun x=>x)).fr f5 (fun e=>by have aQ:p=g5:=e;have:=r.out;omega));have T:Hid (Fr ah w aj):=(S.out.trans F.out.fr).au f5 (fun i a9 e=>by have aQ:i=g5:=e;have:=r.out;omega);clear b5 f5 F aw S P ac;have aP:Hid (∀w',Fr ah aj w'→w'.cell? {block:=h,off:=4}=some (.pointer (some ⟨p,0,none⟩))):=fun w' f=>(Q.out.fr f (fun x=>x)).cell 4;have aH:Hid (∀w',Fr ah aj w'→Rd w' (fun _=>True) 1 (some ⟨g5,0,none⟩) 32 (dl.map bv)):=fun w' f=>⟨by rw[List.length_map,c.out],fun _=>⟨_,rfl,trivial,fun j v bb=>by
  rw[Addr.add_mid,Nat.zero_add,(ax.out.fr f (fun x=>x)).cell j];exact aN.out j v bb⟩⟩;go_upto_region 5 with fail;refine iW 8 [.pointer (some ⟨h,0,none⟩), .pointer (some ⟨h,0,none⟩), .pointer (some ⟨h,4,none⟩), .pointer (some ⟨p,0,none⟩), .slice (some ⟨g5,0,none⟩) 32 32, .string xs, .string ({data:=#[0]}++xs), .agg a7] ?zA ?_;case zA=>
  refine⟨?zH,?zB,?zC,?zD,?zI,?zE,?zF,?zG,trivial⟩;all_goals intro u w' o C
  all_goals simp only[z1,z2,z3,z4,ar,Act.put,z5,z6,z7,Nat.reduceAdd,Nat.zero_add]
  case' zB=>simp only[show u 0=_ from C 0]
  case' zC=>simp only[show u 1=_ from C 1]
  case zD=>
   simp only[show u 2=_ from C 2];refine aF ?_;have q:=aP.out _ o;go_simp;exact aL
  case zE=>
   simp only[show u 4=_ from C 4];refine aF ?_;have ae:=mU w' _ _ 32 32 _ (aH.out _ o);rw[←aa.out]at ae;go_simp;exact aL
  case zF=>
   simp only[show u 5=_ from C 5];refine aF ?_;have y:¬9223372036854775807<1+xs.size:=by have:=ab.out;omega
   go_simp;exact aL
  case zG=>
   simp only[show u 6=_ from C 6];refine aF ?_;go_simp;refine(CL.out _ (T.out.trans o)).mono ?_;rintro e a1⟨rfl,f4⟩;exact⟨rfl,f4⟩
  all_goals
   refine aF ?_;go_simp;exact aL
 intro w' o;simp only[z1,z2,z3,z4,ar,Act.put,z5,z6,z7,z8,z9,jn,jo,Nat.reduceAdd,Nat.zero_add];have M:=af (T.out.trans o);have ap:=af (Q.out.fr o (fun x=>x));have aM:=af (aJ.out.fr o (fun x=>x));have U:=af (aC.out.ao M.out);clear o T Q aJ aP aH CL ax;have g:=af (av.out p _ (by have:=N.out;omega) (Ha aM.out) M.out);unfold aU at g;rw[Y.out]at g;go_wp2_with fail;refine g.out.mono ?_;rintro e a2⟨rfl,al,aO,K,aV,A,d⟩;have aA:Hid (Fr ah w a2):=M.out.au A (fun i a9 e=>by
  have:=N.out;rcases e with e|e|e;·omega
  ·cases e
  ·simp[Value.ownBlock]at e);have a3:=af (ap.out.fr A (fun e=>by
  have:=aG.out;rcases e with e|e|e;·omega
  ·cases e
  ·simp[Value.ownBlock]at e));have Z:=af aV;have V:Hid (∀k,Lt.TB p al (0+1) aO K k→w.heap.size≤k):=fun k B=>by
  have:=N.out;rcases d k B with h|h
  ·rcases h with h|h|h;·omega
   ·cases h
   ·simp[Value.ownBlock]at h
  ·have:=M.out.size;omega
 have D:Hid (ec a2 b E):=aC.out.ao aA.out;clear aV A d g av ap aM U;go_wp2;go_ret2;refine⟨h,_,rfl,⟨b,b,p, .slice none 0 0, .slice none 0 0,[],al,aO,K,⟨a3.out,D.out,jr.nil _,⟨rfl, .inl ⟨rfl,rfl⟩⟩,rfl,(fun i k B=>by simp at B),D.out,?_⟩,rfl⟩,aA.out,fun k B=>?_⟩;·rw[W.out];exact Z.out
 ·rcases B with y|y|y|y;·have:=aG.out;have:=N.out;omega
  ·simp[Value.ownBlock]at y
  ·simp[Value.ownBlock]at y
  ·exact V.out k y
end Go.Proofs.YtphjagkehiklkaaGreatDoor
