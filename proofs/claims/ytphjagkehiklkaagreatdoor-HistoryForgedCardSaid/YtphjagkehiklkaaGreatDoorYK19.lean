/- Texts. -/
import Derived.Test.YtphjagkehiklkaaGreatDoorYK18
set_option linter.unusedVariables false
set_option linter.unusedSimpArgs false
set_option maxRecDepth 100000
set_option maxHeartbeats 4000000
namespace Go.Proofs.YtphjagkehiklkaaGreatDoor
open Go.RowKit Go.Shelf
def bQ(l:List UInt8):List UInt8:=Lt.rW (1::l)
def nH(E:List Ent):List UInt8:=Lt.rW (0::dt (fE E))
def dq(E:List Ent)(L:List ActV):List (List UInt8):=nH E::L.map (fun a=>bQ (db a))
theorem ew(l:List UInt8):(bQ l).length=32:=Lt.mE _
theorem qf(E:List Ent):(nH E).length=32:=Lt.mE _
theorem jS(E:List Ent)(L:List ActV):(dq E L).length=L.length+1:=by simp[dq]
theorem Cz(E:List Ent)(L:List ActV)(a:ActV):dq E (L++[a])=dq E L++[bQ (db a)]:=by simp[dq]
theorem uV(E:List Ent)(L:List ActV)(n:Nat):(dq E L).take (n+1)=dq E (L.take n):=by simp[dq,List.map_take]
theorem nI(E:List Ent)(L:List ActV):∀d∈dq E L,d.length=32:=fun d b=>by
 rcases List.mem_cons.1 b with rfl|b;·exact qf E
 ·obtain⟨a,_,rfl⟩:=List.mem_map.1 b;exact ew _
def HB(h:Nat)(va vk:Value)(g:Nat)(A:Option Addr)(n c:Nat)(mb:Option Nat)(k:Nat):Prop:=k=h∨va.ownBlock=some k∨vk.ownBlock=some k∨Lt.TB g A n c mb k
structure dW(w:World)(h b s g:Nat)(va vk:Value)(K:List Nat)(A:Option Addr)(c:Nat)(mb:Option Nat)(E:List Ent)(La Lk Ll Lg:List ActV):Prop where
 aF:ao w h 111 #[.pointer (some ⟨b,0,none⟩),va,vk, .pointer (some ⟨s,0,none⟩), .pointer (some ⟨g,0,none⟩)]
 base:fD w b E
 lZ:kx w va La
 kept:w.ownsRow 0 25 1 vk K.length (K.map fun k=>Value.pointer (some ⟨k,0,none⟩))
 mD:K.length=Lk.length/16
 rV:∀i k,K[i]? =some k→fD w k (fS (Lk.take (16*(i+1))) E)
 last:fD w s (fS Ll E)
 log:Lt.eL w g A (Lg.length+1) c mb (dq E Lg) (Lt.bC (Lg.length+1))
abbrev Ky(w:World)(h b s g:Nat)(va vk:Value)(K:List Nat)(A:Option Addr)(c:Nat)(mb:Option Nat)(E:List Ent)(L:List ActV):Prop:=dW w h b s g va vk K A c mb E L L L L
def fY(w:World)(h:Nat)(E:List Ent)(L:List ActV)(T:Nat→Prop):Prop:=
 ∃b s g va vk K A c mb,Ky w h b s g va vk K A c mb E L∧T=HB h va vk g A (L.length+1) c mb
theorem mm{w:World}{b:Nat}{ds:List (List UInt8)}{C:Nat→Nat→Prop}(h:Lt.dO w b ds C)(t:TypeId):¬Ty w b t:=by
 obtain⟨es,clock,c,_⟩:=h;rintro⟨cs,a⟩;rw[c]at a;cases a
theorem dW.cC{w:World}{h b s g:Nat}{va vk:Value}{K:List Nat}{A:Option Addr}{c:Nat}{mb:Option Nat}{E:List Ent}{La Lk Ll Lg:List ActV}(d:dW w h b s g va vk K A c mb E La Lk Ll Lg):fK w (HB h va vk g A (Lg.length+1) c mb):=by
 obtain⟨cs,e,_⟩:=d.lZ;intro k a;rcases a with rfl|a|a|rfl|a|a;·exact⟨fun x=>absurd (x.one d.aF.ty) (by decide),fun x=>absurd (x.one d.aF.ty) (by decide),fun x=>absurd (x.one d.aF.ty) (by decide)⟩
 ·have t:=ja e a;exact⟨fun x=>absurd (x.one t) (by decide),fun x=>absurd (x.one t) (by decide),fun x=>absurd (x.one t) (by decide)⟩
 ·have t:=ja d.kept a;exact⟨fun x=>absurd (x.one t) (by decide),fun x=>absurd (x.one t) (by decide),fun x=>absurd (x.one t) (by decide)⟩
 ·have t:=d.log.aF.ty;exact⟨fun x=>absurd (x.one t) (by decide),fun x=>absurd (x.one t) (by decide),fun x=>absurd (x.one t) (by decide)⟩
 ·rcases d.log.parts with⟨f,rfl,hm⟩|⟨rfl,_⟩;·cases a;exact⟨mm hm _,mm hm _,mm hm _⟩
  ·cases a
 ·have t:=ja d.log.row a;exact⟨fun x=>absurd (x.one t) (by decide),fun x=>absurd (x.one t) (by decide),fun x=>absurd (x.one t) (by decide)⟩
theorem dW.apart{w:World}{h b s g:Nat}{va vk:Value}{K:List Nat}{A:Option Addr}{c:Nat}{mb:Option Nat}{E:List Ent}{La Lk Ll Lg:List ActV}(a:dW w h b s g va vk K A c mb E La Lk Ll Lg):
  (va.ownBlock≠some h∧vk.ownBlock≠some h∧¬Lt.TB g A (Lg.length+1) c mb h)∧(∀k,va.ownBlock=some k→vk.ownBlock≠some k∧¬Lt.TB g A (Lg.length+1) c mb k)∧∀k,vk.ownBlock=some k→¬Lt.TB g A (Lg.length+1) c mb k:=by
 obtain⟨cs,i,_⟩:=a.lZ;have l:∀k t,Ty w k t→t≠180→t≠38→¬Lt.TB g A (Lg.length+1) c mb k:=fun k t j m n d=>by
  rcases d with rfl|d|d;·exact m (j.one a.log.aF.ty)
  ·rcases a.log.parts with⟨o,rfl,hm⟩|⟨rfl,_⟩;·cases d;exact mm hm _ j
   ·cases d
  ·exact n (j.one (ja a.log.row d))
 refine⟨⟨bE i a.aF (by decide),bE a.kept a.aF (by decide),l _ _ a.aF.ty (by decide) (by decide)⟩,fun k e=>⟨fun f=>?_,l _ _ (ja i e) (by decide) (by decide)⟩,fun k e=>l _ _ (ja a.kept e) (by decide) (by decide)⟩;exact absurd ((ja i e).one (ja a.kept f)) (by decide)
theorem jW{w w':World}{T:Nat→Prop}{p:Nat}{A:Option Addr}{n c:Nat}{mb:Option Nat}{ds:List (List UInt8)}{C:Nat→Nat→Prop}(h:Lt.eL w p A n c mb ds C)(d:Fr T w w')(a:∀k,Lt.TB p A n c mb k→¬T k):Lt.eL w' p A n c mb ds C:=
 ⟨h.aF.fr d (a p (.inl rfl)),aQ h.row d (fun k g=>a k (.inr (.inr g))),h.len,h.each,by
  rcases h.parts with⟨b,e,i⟩|f;·exact .inl ⟨b,e,i.fr d (a b (.inr (.inl e)))⟩
  ·exact .inr f⟩
theorem dW.kb{w w':World}{T:Nat→Prop}{h b s g:Nat}{va vk:Value}{K:List Nat}{A:Option Addr}{c:Nat}{mb:Option Nat}{E:List Ent}{La Lk Ll Lg:List ActV}(a:dW w h b s g va vk K A c mb E La Lk Ll Lg)(d:Fr T w w')(hF:fK w T)(f:∀k,HB h va vk g A (Lg.length+1) c mb k→¬T k):dW w' h b s g va vk K A c mb E La Lk Ll Lg:=
  ⟨a.aF.fr d (f h (.inl rfl)),a.base.cC d hF,a.lZ.cC d hF (fun k e=>f k (.inr (.inl e))),aQ a.kept d (fun k e=>f k (.inr (.inr (.inl e)))),a.mD,fun i k e=>(a.rV i k e).cC d hF,a.last.cC d hF,
   jW a.log d (fun k e=>f k (.inr (.inr (.inr e))))⟩
theorem dW.aq{w w':World}{h b s g:Nat}{va vk:Value}{K:List Nat}{A:Option Addr}{c:Nat}{mb:Option Nat}{E:List Ent}{La Lk Ll Lg:List ActV}(d:dW w h b s g va vk K A c mb E La Lk Ll Lg)(a:Fr ag w w'):dW w' h b s g va vk K A c mb E La Lk Ll Lg:=
 d.kb a (fK.nothing w) (fun _ _ x=>x)
theorem fY.aq{w w':World}{h:Nat}{E:List Ent}{L:List ActV}{T:Nat→Prop}(d:fY w h E L T)(a:Fr ag w w'):fY w' h E L T:=by
 obtain⟨b,s,g,va,vk,K,A,c,mb,f,e⟩:=d;exact⟨b,s,g,va,vk,K,A,c,mb,f.aq a,e⟩
theorem fY.kb{w w':World}{h:Nat}{E:List Ent}{L:List ActV}{T T':Nat→Prop}(e:fY w h E L T)(d:Fr T' w w')(hF:fK w T')(a:∀k,T k→¬T' k):fY w' h E L T:=by
 obtain⟨b,s,g,va,vk,K,A,c,mb,f,rfl⟩:=e;exact⟨b,s,g,va,vk,K,A,c,mb,f.kb d hF a,rfl⟩
theorem fY.cC{w:World}{h:Nat}{E:List Ent}{L:List ActV}{T:Nat→Prop}(a:fY w h E L T):fK w T:=by
 obtain⟨b,s,g,va,vk,K,A,c,mb,d,rfl⟩:=a;exact d.cC
theorem mn{w:World}{base n:Nat}{e:TypeId}{size:Nat}{v:Value}{xs:List Value}(h:w.ownsRow base e size v n xs){k:Nat}(b:v.ownBlock=some k):k<w.heap.size:=by
 obtain⟨cs,a⟩:=ja h b;exact(Array.getElem?_eq_some_iff.1 a).1
theorem fY.lt{w:World}{h:Nat}{E:List Ent}{L:List ActV}{T:Nat→Prop}(e:fY w h E L T):∀k,T k→k<w.heap.size:=by
 obtain⟨b,s,g,va,vk,K,A,c,mb,d,rfl⟩:=e;obtain⟨cs,f,_⟩:=d.lZ;intro k a;rcases a with rfl|a|a|rfl|a|a;·exact d.aF.lt
 ·exact mn f a
 ·exact mn d.kept a
 ·exact d.log.aF.lt
 ·rcases d.log.parts with⟨i,rfl,hm⟩|⟨rfl,_⟩;·cases a;exact hm.lt
  ·cases a
 ·exact mn d.log.row a
theorem mU(w:World)(h b:Nat)(a:w.cell? ⟨h,0,none⟩=some (.pointer (some ⟨b,0,none⟩))):
  Calls Tryz.prog 55 #[.pointer (some ⟨h,0,none⟩)] w (bG w (.bool false)):=by
 go_enter Tryz.func55,Tryz.ntmps55;go_wp2;go_ret;exact⟨rfl,rfl⟩
theorem so(a b:ByteArray):aJ (a++b)=aJ a++aJ b:=by simp[aJ]
theorem uR(s:ByteArray)(w:World)(j:bH w)(y:s.size<4294960000):Calls Tryz.prog 59 #[.string s] w (aK w (aP (bQ (aJ s)))):=by
 have CL:Hid (∀w',Fr ag w w'→Calls Tryz.prog 76 #[.string ({data:=#[1]}++s)] w' (aK w' (aP (bQ (aJ s))))):=fun w' f=>by
  have e:aJ ({data:=#[1]}++s)=1::aJ s:=so _ _;have h:=Lt.rJ ({data:=#[1]}++s) w' (j.aq f) (by have:=aL ({data:=#[1]}++s);rw[e,List.length_cons,aL]at this;omega);have t:dG ({data:=#[1]}++s)=1::aJ s:=e;rw[t]at h;exact h
 have a:=af (Lt.cX.of (ew (aJ s)));unfold aP at*;generalize((bQ (aJ s)).map aT).toArray=d at*;clear j;go_enter Tryz.func59,Tryz.ntmps59;go_wp2_with(refine ak rfl 38 rfl aR fV aD rfl ?_);intro w1 n1;have b:=af n1.fr;have c:=af n1.aF;clear n1;generalize k:w.heap.size=g at*;have o:=af k;clear k;go_wp2_with fail;refine(CL.out _ b.out).mono ?_;rintro e w2⟨rfl,f2⟩;have n:=af (b.out.trans f2);have m:=af (c.out.fr f2 (fun x=>x));clear f2 CL b c;go_wp2_with(refine ai rfl 38 (.tmp 2) _ rfl g d rfl rfl _ _ m.out a.out.info a.out.zero a.out.one ?_);intro l b5 f5;have q:=af b5;have r:Hid (Fr ag w l):=n.out.aw f5 (fun i v e=>by have u:i=g:=e;have:=o.out;omega);clear b5 f5;go_wp2;exact bodyPost_ret (results_cell_row (fn:=Tryz.f59) (p:=2) (ty:=38) Tryz.results59 _ l _ 38 d (0,0) _ rfl q.out Tryz.underlying38 rfl a.out.info) rfl ⟨rfl,r.out⟩
end Go.Proofs.YtphjagkehiklkaaGreatDoor
namespace Go.Proofs.YtphjagkehiklkaaGreatDoor.Lt
open Go.RowKit
def ox(w w':World)(p:Nat)(ds:List (List UInt8)):Prop:=∃A c mb,eL w' p A ds.length c mb ds (bC ds.length)∧Fr ag w w'∧∀k,TB p A ds.length c mb k→w.heap.size≤k
theorem ox.aq{w w' a:World}{p:Nat}{ds:List (List UInt8)}(h:ox w w' p ds)(b:Fr ag w' a):ox w a p ds:=by
 obtain⟨A,c,mb,d,e,f⟩:=h;exact⟨A,c,mb,d.aq b,e.trans b,f⟩
theorem _root_.Go.Proofs.YtphjagkehiklkaaGreatDoor.bH.low{w:World}(h:bH w):1<w.heap.size∧2<w.heap.size:=by
 have a:∃u,(fA dP)[0]? =some u:=⟨_,rfl⟩;obtain⟨u,hu⟩:=a;exact⟨World.block_lt_of_cell? w _ (h.init 0 u hu),World.block_lt_of_cell? w _ (h.kk 0 (by omega))⟩
theorem ox.append{w w' a:World}{p:Nat}{ds:List (List UInt8)}{d:List UInt8}{A:Option Addr}{c:Nat}{mb:Option Nat}(g:∀k,TB p A ds.length c mb k→w.heap.size≤k)(f:Fr ag w w'){e:Ending}(n:mK w' p A ds.length c mb ds d e a):ox w a p (ds++[d]):=by
 obtain⟨_,l,m,b,o,q,r⟩:=n;refine⟨l,m,b,by rw[aY,List.length_singleton];exact o,f.aw q (fun i s e=>by have:=g i e;omega),fun k j=>?_⟩;rw[aY,List.length_singleton]at j;rcases r k j with h|h;·exact g k h
 ·exact Nat.le_trans f.size h
end Go.Proofs.YtphjagkehiklkaaGreatDoor.Lt
namespace Go.Proofs.YtphjagkehiklkaaGreatDoor.Lt
open Go.RowKit
def cR(ds:List (List UInt8))(index:Nat):List (List UInt8):=
 if a:1≤aM ds.length∧aM ds.length<ds.length then
  (if index<aM ds.length then cR (ds.take (aM ds.length)) index++[cS (ds.drop (aM ds.length))]else cR (ds.drop (aM ds.length)) (index-aM ds.length)++[cS (ds.take (aM ds.length))])
 else[]
termination_by ds.length
decreasing_by
 ·simp only[List.length_take];omega
 ·simp only[List.length_drop];omega
theorem lM(ds:List (List UInt8))(index:Nat)(h:ds.length≤1):cR ds index=[]:=by
 rw[cR,dif_neg (by omega)]
theorem mq(ds:List (List UInt8))(index n:Nat)(b:ds.length=n)(d:2≤n)(e:n≤1099511627776):cR ds index=if index<aM n then cR (ds.take (aM n)) index++[cS (ds.drop (aM n))]else cR (ds.drop (aM n)) (index-aM n)++[cS (ds.take (aM n))]:=by
 obtain⟨a,_,c⟩:=dB n d e;rw[cR,dif_pos (by rw[b];exact⟨c,a⟩),b]
theorem Cx(n k:Nat)(c:2≤n)(d:n≤1099511627776)(h:n≤2^(k+1)):aM n≤2^k:=by
 obtain⟨a,_,_⟩:=dB n c d;have e:aM n=2^(Lib.bitLen (n-1)-1):=rfl;rw[e]at a⊢;refine Nat.pow_le_pow_right (by omega) ?_;rcases Nat.lt_or_ge k (Lib.bitLen (n-1)-1)with b|b;·have:2^(k+1)≤2^(Lib.bitLen (n-1)-1):=Nat.pow_le_pow_right (by omega) b;omega
 ·exact b
theorem jy:∀(k:Nat)(ds:List (List UInt8))(i:Nat),ds.length≤2^k→ds.length≤1048576→(cR ds i).length≤k
 |0,ds,i,h,_=>by rw[lM ds i (by simpa using h)];simp
 |k+1,ds,i,h,e=>by
  by_cases d:2≤ds.length
  ·obtain⟨a,b,c⟩:=dB ds.length d (by omega);have f:=Cx ds.length k d (by omega) h;rw[mq ds i _ rfl d (by omega)];split;·rw[aY,List.length_singleton];have:=jy k (ds.take (aM ds.length)) i (by rw[List.length_take];omega) (by rw[List.length_take];omega);omega
   ·rw[aY,List.length_singleton];have:=jy k (ds.drop (aM ds.length)) (i-aM ds.length) (by rw[List.length_drop];omega) (by rw[List.length_drop];omega);omega
  ·rw[lM ds i (by omega)];simp
theorem tc(n:Nat):∀(ds:List (List UInt8))(i:Nat),ds.length=n→n≤1048576→(∀d∈ds,d.length=32)→∀d∈cR ds i,d.length=32:=by
 induction n using Nat.strongRecOn with
 |_ n k=>
  intro ds i g m he d f;by_cases j:2≤n
  ·obtain⟨a,b,c⟩:=dB n j (by omega);rw[mq ds i n g j (by omega)]at f;have l:(cS (ds.drop (aM n))).length=32:=fX (n-aM n) _ (by rw[List.length_drop,g]) (by omega) (by omega) (fun x e=>he x (List.mem_of_mem_drop e));have j:(cS (ds.take (aM n))).length=32:=fX (aM n) _ (by rw[List.length_take,g];omega) (by omega) (by omega) (fun x e=>he x (List.mem_of_mem_take e));split at f
   ·rcases List.mem_append.1 f with h|h;·exact k (aM n) a _ i (by rw[List.length_take,g];omega) (by omega) (fun x e=>he x (List.mem_of_mem_take e)) d h
    ·rw[List.mem_singleton.1 h];exact l
   ·rcases List.mem_append.1 f with h|h;·exact k (n-aM n) (by omega) _ _ (by rw[List.length_drop,g]) (by omega) (fun x e=>he x (List.mem_of_mem_drop e)) d h
    ·rw[List.mem_singleton.1 h];exact j
  ·rw[lM ds i (by omega)]at f;cases f
theorem vF(leaf:List UInt8)(pre:List Bool)(P X:List (List UInt8))(h:P.length=pre.length):cg leaf pre (P++X)=cg leaf pre P:=by
 unfold cg;have:pre.zip (P++X)=pre.zip P:=by
  have a:=List.zip_append (l₁:=pre) (l₂:=P) (r₁:=[]) (r₂:=X) h.symm;simpa using a
 rw[this]
theorem GA(n:Nat):∀(ds:List (List UInt8))(i:Nat),ds.length=n→i<n→n≤1048576→(cR ds i).length=(bw i n).length∧(cg (ds.getD i []) (bw i n) (cR ds i)).1=cS ds:=by
 induction n using Nat.strongRecOn with
 |_ n l=>
  intro ds i j m o;by_cases h:2≤n
  ·obtain⟨a,b,c⟩:=dB n h (by omega);rw[mq ds i n j h (by omega),mw ds n j h (by omega)];by_cases f:i<aM n
   ·obtain⟨e,g⟩:=l (aM n) a (ds.take (aM n)) i (by rw[List.length_take,j];omega) f (by omega);have k:(ds.take (aM n)).getD i []=ds.getD i []:=by rw[List.getD_eq_getElem?_getD,List.getD_eq_getElem?_getD,List.getElem?_take_of_lt f]
    rw[k]at g;rw[if_pos f,rC h (by omega) f];refine⟨by rw[aY,aY,e];rfl,?_⟩;rw[jn _ _ _ true (cS (ds.drop (aM n))) (by rw[←e,List.getElem?_append_right (Nat.le_refl _),Nat.sub_self];rfl),vF _ _ _ _ e];simp only[mI,if_true,g]
   ·obtain⟨e,g⟩:=l (n-aM n) (by omega) (ds.drop (aM n)) (i-aM n) (by rw[List.length_drop,j]) (by omega) (by omega);have k:(ds.drop (aM n)).getD (i-aM n) []=ds.getD i []:=by rw[List.getD_eq_getElem?_getD,List.getD_eq_getElem?_getD,List.getElem?_drop,show aM n+(i-aM n)=i by omega]
    rw[k]at g;rw[if_neg f,pR h (by omega) f];refine⟨by rw[aY,aY,e];rfl,?_⟩;rw[jn _ _ _ false (cS (ds.take (aM n))) (by rw[←e,List.getElem?_append_right (Nat.le_refl _),Nat.sub_self];rfl),vF _ _ _ _ e];simp only[mI,Bool.false_eq_true,if_false,g]
  ·obtain rfl:n=1:=by omega
   obtain rfl:i=0:=by omega
   rw[lM ds 0 (by omega),ti];refine⟨rfl,?_⟩;match ds,j with
   |[d],_=>rw[qo];rfl
theorem Dm(n:Nat)(ds:List (List UInt8))(i:Nat)(d:ds.length=n)(c:i<n)(e:n≤1048576):(bj (ds.getD i []) i n (cR ds i)).1=cS ds∧(bj (ds.getD i []) i n (cR ds i)).2.2=0:=by
 obtain⟨a,b⟩:=GA n ds i d c e;unfold bj;rw[if_pos (by omega),Int.toNat_natCast,Int.toNat_natCast,if_pos a];exact⟨b,rfl⟩
def xQ(m:Nat):Prop:=∀(w:World)(p:Nat)(A:Option Addr)(n c:Nat)(mb:Option Nat)(ds:List (List UInt8))(C:Nat→Nat→Prop)(f k i:Nat),eL w p A n c mb ds C→Full C n→n≤1048576→bH w→i<m→f+m≤n→m≤2^k→2^k∣f→
 Calls Tryz.prog 109 #[.pointer (some ⟨p,0,none⟩), .int .i64 i, .int .i64 f, .int .i64 m] w (xV w (cR ((ds.drop f).take m) i).length (cR ((ds.drop f).take m) i))
theorem yv:xQ 1:=by
 intro w p A n c mb ds C f k i _ _ _ _ _ _ _ _;rw[lM _ _ (by rw[List.length_take];omega)];go_enter Tryz.func109,Tryz.ntmps109;go_wp2;go_ret;exact⟨_,rfl,bW.start ⟨rfl, .inl ⟨rfl,rfl⟩⟩⟩
theorem v7(m:Nat)(Y:∀j,j<m→xQ j)(R:2≤m):xQ m:=by
 intro w p A n c mb ds C f k i t hF X N ao S U I;obtain⟨i0,B,D,o,V⟩:=info_parts tM;obtain⟨a,b,Q⟩:=dB m R (by omega);obtain⟨lv,y⟩:∃lv,aM m=2^lv:=⟨_,rfl⟩;have ai:lv≤k:=oQ (by omega);have M:2^lv∣f:=oD ai I;have hlen:((ds.drop f).take m).length=m:=by rw[List.length_take,List.length_drop,t.len];omega
 have aa:=af (fun w=>mF m w R (by omega));obtain⟨P,W⟩:∃P,P=aM m:=⟨_,rfl⟩;rw[←W]at aa a b Q y;have e:=mq _ i m hlen R (by omega);rw[←W,pS _ (by omega),List.drop_take,List.drop_drop]at e;obtain⟨f2,x⟩:∃f2:Nat,f2=f+P:=⟨_,rfl⟩;obtain⟨m2,K⟩:∃m2:Nat,m2=m-P:=⟨_,rfl⟩;rw[←x,←K]at e;have s1:(f:Int)+(P:Int)=(f2:Int):=by omega
 have s2:(m:Int)-(P:Int)=(m2:Int):=by omega
 have f4:f≤1048576:=by omega
 have f24:f2≤1048576:=by omega
 have m4:m≤1048576:=by omega
 have m24:m2≤1048576:=by omega
 have an:P≤1048576:=by omega
 have i4:i≤1048576:=by omega
 have m1:((m:Int)==1)=false:=by rw[beq_eq_false_iff_ne];omega
 have g1:Hid (¬1*i0.size>2^24):=by simp only[Hid];rw[o];omega
 have g2:Hid (¬1*i0.size=0):=by simp only[Hid];rw[o];omega
 have E:∀(l:List (List UInt8))(j:Nat),l.length≤1048576→(cR l j).length≤20:=fun l j h=>jy 20 l j h h;by_cases J:i<P
 ·rw[if_pos J]at e;rw[e];have Z:Hid (∀w',Fr ag w w'→Calls Tryz.prog 109 #[.pointer (some ⟨p,0,none⟩), .int .i64 i, .int .i64 f, .int .i64 P] w' (xV w' (cR ((ds.drop f).take P) i).length (cR ((ds.drop f).take P) i))):=
   fun w' v=>Y P a w' p A n c mb ds C f lv i (t.aq v) hF X (N.aq v) J (by omega) (by omega) M;have F:Hid (∀w',Fr ag w w'→Calls Tryz.prog 110 #[.pointer (some ⟨p,0,none⟩), .int .i64 f2, .int .i64 m2] w' (aK w' (aP (cS ((ds.drop f2).take m2))))):=
   fun w' v=>vA m2 (by omega) w' p A n c mb ds C f2 lv (t.aq v) hF X (N.aq v) (by omega) (by omega) (by omega) (by rw[x,y];exact(Nat.dvd_add_right M).2 (Nat.dvd_refl _));have L:(cS ((ds.drop f2).take m2)).length=32:=fX m2 _ (by rw[List.length_take,List.length_drop,t.len];omega) (by omega) (by omega) (fun d ah=>t.each d (List.mem_of_mem_drop (List.mem_of_mem_take ah)));have am:=E ((ds.drop f).take P) i (by rw[List.length_take];omega);have al:(i:Int)<(P:Int):=by omega
  generalize cR ((ds.drop f).take P) i=PL at*;generalize cS ((ds.drop f2).take m2)=g at*;have ab:Hid (Instr.fill (fun i=>some (i*32,32)) ((Array.range (1*32)).map (aR.cells[· %aR.cells.size]!)) [(0, .agg (ar g).toArray)]=some (ar g).toArray):=rP _ _ (by simp[ar,L]) (by simp);have ac:Hid ((ar g).toArray.size=1*32):=by simp[Hid,ar,L]
  have ad:Hid (∀u∈(ar g).toArray.toList,u.oneCell'=true):=by
   intro u hu;exact jx _ u (by simpa[ar]using hu)
  have q:Hid ((PL++[g]).flatMap ar=PL.flatMap ar++ar g∧(PL++[g]).length=PL.length+1):=⟨by rw[List.flatMap_append,List.flatMap_singleton],by simp⟩;unfold aP at F;simp only[show∀l:List UInt8,l.map aT=ar l from fun _=>rfl]at F;generalize ar g=z at*;have g3:Hid (Instr.fill (fun i=>some (i*i0.size,i0.size)) ((Array.range (1*i0.size)).map (aR.cells[· %aR.cells.size]!)) [(0, .agg z.toArray)]=some z.toArray):=by simp only[Hid];rw[o];exact ab.out
  clear t hF N W x K S U I M ai hlen Y R a b Q y e L E;go_enter Tryz.func109,Tryz.ntmps109;go_wp2_with fail;refine(aa.out _).mono ?_;rintro e w'⟨rfl,rfl⟩;go_wp2_with fail;refine(Z.out _ aA).mono ?_;rintro e w1⟨v1,rfl,H⟩;have G:=af H;obtain⟨ak,n1,Q,rfl,H1,_⟩:=aW H.own;clear H;go_wp2_with fail;refine(F.out _ G.out.aq).mono ?_;rintro e w2⟨rfl,r⟩;have O:=af (G.out.behind r);clear r G;go_wp2_with(refine wpList_buildSlice rfl 31 38 1 #[(0, .tmp 29)] rfl z.toArray i0 aR Tryz.underlying31 B D g1.out g2.out (by simp only[List.map_toArray,List.map_cons,List.map_nil];exact g3.out) (bh.go ?hold));unfold bh;refine dE _ rfl _ _ 31 rfl 38 i0 aR 32 32 Tryz.underlying31 B D o V rfl (by omega) _ _ _ rfl O.out.own 1 z.toArray _ rfl rfl ac.out ad.out (by omega) (by omega) ?_;intro v3 aj s;have ae:Hid (bW 38 32 w (.slice none 0 0) aj v3 (PL++[g]).length ((PL++[g]).flatMap ar)):=by
   have h:=O.out.trans s;simp only[Hid];rw[q.out.1,q.out.2];exact h
  clear s;go_wp2;go_ret;exact⟨_,rfl,ae.out⟩
 ·rw[if_neg J]at e;rw[e];obtain⟨i2,T⟩:∃i2:Nat,i2=i-P:=⟨_,rfl⟩;rw[←T];have au:(i:Int)-(P:Int)=(i2:Int):=by omega
  have i24:i2≤1048576:=by omega
  have Z:Hid (∀w',Fr ag w w'→Calls Tryz.prog 109 #[.pointer (some ⟨p,0,none⟩), .int .i64 i2, .int .i64 f2, .int .i64 m2] w' (xV w' (cR ((ds.drop f2).take m2) i2).length (cR ((ds.drop f2).take m2) i2))):=
   fun w' v=>Y m2 (by omega) w' p A n c mb ds C f2 lv i2 (t.aq v) hF X (N.aq v) (by omega) (by omega) (by omega) (by rw[x,y];exact(Nat.dvd_add_right M).2 (Nat.dvd_refl _));have F:Hid (∀w',Fr ag w w'→Calls Tryz.prog 110 #[.pointer (some ⟨p,0,none⟩), .int .i64 f, .int .i64 P] w' (aK w' (aP (cS ((ds.drop f).take P))))):=
   fun w' v=>vA P (by omega) w' p A n c mb ds C f lv (t.aq v) hF X (N.aq v) (by omega) (by omega) (by omega) M;have L:(cS ((ds.drop f).take P)).length=32:=fX P _ (by rw[List.length_take,List.length_drop,t.len];omega) (by omega) (by omega) (fun d ah=>t.each d (List.mem_of_mem_drop (List.mem_of_mem_take ah)));have am:=E ((ds.drop f2).take m2) i2 (by rw[List.length_take];omega);have al:decide ((i:Int)<(P:Int))=false:=cN (by omega);have ap:¬i<P:=by omega
  generalize cR ((ds.drop f2).take m2) i2=PL at*;generalize cS ((ds.drop f).take P)=g at*;have ab:Hid (Instr.fill (fun i=>some (i*32,32)) ((Array.range (1*32)).map (aR.cells[· %aR.cells.size]!)) [(0, .agg (ar g).toArray)]=some (ar g).toArray):=rP _ _ (by simp[ar,L]) (by simp);have ac:Hid ((ar g).toArray.size=1*32):=by simp[Hid,ar,L]
  have ad:Hid (∀u∈(ar g).toArray.toList,u.oneCell'=true):=by
   intro u hu;exact jx _ u (by simpa[ar]using hu)
  have q:Hid ((PL++[g]).flatMap ar=PL.flatMap ar++ar g∧(PL++[g]).length=PL.length+1):=⟨by rw[List.flatMap_append,List.flatMap_singleton],by simp⟩;unfold aP at F;simp only[show∀l:List UInt8,l.map aT=ar l from fun _=>rfl]at F;generalize ar g=z at*;have g3:Hid (Instr.fill (fun i=>some (i*i0.size,i0.size)) ((Array.range (1*i0.size)).map (aR.cells[· %aR.cells.size]!)) [(0, .agg z.toArray)]=some z.toArray):=by simp only[Hid];rw[o];exact ab.out
  clear t hF N W x K T S U I M ai hlen Y R a b Q y e L E;go_enter Tryz.func109,Tryz.ntmps109;go_wp2_with fail;refine(aa.out _).mono ?_;rintro e w'⟨rfl,rfl⟩;go_wp2_with fail;refine(Z.out _ aA).mono ?_;rintro e w1⟨v1,rfl,H⟩;have G:=af H;obtain⟨ak,n1,Q,rfl,H1,_⟩:=aW H.own;clear H;go_wp2_with fail;refine(F.out _ G.out.aq).mono ?_;rintro e w2⟨rfl,r⟩;have O:=af (G.out.behind r);clear r G;go_wp2_with(refine wpList_buildSlice rfl 31 38 1 #[(0, .tmp 46)] rfl z.toArray i0 aR Tryz.underlying31 B D g1.out g2.out (by simp only[List.map_toArray,List.map_cons,List.map_nil];exact g3.out) (bh.go ?zA));unfold bh;refine dE _ rfl _ _ 31 rfl 38 i0 aR 32 32 Tryz.underlying31 B D o V rfl (by omega) _ _ _ rfl O.out.own 1 z.toArray _ rfl rfl ac.out ad.out (by omega) (by omega) ?_;intro v3 aj s;have ae:Hid (bW 38 32 w (.slice none 0 0) aj v3 (PL++[g]).length ((PL++[g]).flatMap ar)):=by
   have h:=O.out.trans s;simp only[Hid];rw[q.out.1,q.out.2];exact h
  clear s;go_wp2;go_ret;exact⟨_,rfl,ae.out⟩
theorem zR(m:Nat)(hm:1≤m):xQ m:=by
 induction m using Nat.strongRecOn with
 |_ m e=>
  by_cases b:2≤m
  ·refine v7 m (fun j d=>?_) b;rcases Nat.eq_zero_or_pos j with rfl|a;·intro w p A n c mb ds C f k i _ _ _ _ h;omega
   ·exact e j d a
  ·obtain rfl:m=1:=by omega
   exact yv
def rf(ds:List (List UInt8))(i k:Int):List (List UInt8)×Int:=if 1≤k∧k≤ds.length∧0≤i∧i<k then(cR (ds.take k.toNat) i.toNat,0)else([],2)
def rK(w:World)(V:List (List UInt8)×Int)(e:Ending)(w':World):Prop:=∃v,e= .returned (.tuple #[v, .int .i64 V.2])∧bW 38 32 w (.slice none 0 0) w' v V.1.length (V.1.flatMap ar)
theorem rK.none{w w':World}{k:Int}(h:Fr ag w w'):rK w ([],k) (.returned (.tuple #[.slice none 0 0, .int .i64 k])) w':=⟨_,rfl,⟨⟨rfl, .inl ⟨rfl,rfl⟩⟩,h.bI,fun _ a=> .inl a⟩⟩
theorem xR(E w:World)(p:Nat)(ds:List (List UInt8))(i k:Int)(B:ox E w p ds)(C:ds.length≤1048576)(o:bH w)(G:-9223372036854775808≤i∧i≤9223372036854775807)(H:-9223372036854775808≤k∧k≤9223372036854775807):
  Calls Tryz.prog 56 #[.pointer (some ⟨p,0,none⟩), .int .i64 i, .int .i64 k] w (rK w (rf ds i k)):=by
 obtain⟨A,c,mb,l,q,r⟩:=B;obtain⟨n,f⟩:∃n,n=ds.length:=⟨_,rfl⟩;have j:Hid (∀w',Calls Tryz.prog 89 #[.int .i64 k, .int .i64 1, .int .i64 n] w' (bG w' (.bool (decide (1≤k∧k≤n))))):=fun w'=>fp k 1 n w';have F:w.cell? ⟨p,0,none⟩=some (.slice A n c):=by rw[f];exact l.aF.cell 0
 by_cases a:1≤k∧k≤(n:Int)
 ·obtain⟨kn,rfl⟩:∃kn:Nat,k=kn:=⟨k.toNat,by omega⟩;obtain⟨g,x⟩:∃g:Nat,(kn:Int)-1=(g:Int):=⟨kn-1,by omega⟩;have m:Hid (∀w',Calls Tryz.prog 89 #[.int .i64 i, .int .i64 0, .int .i64 g] w' (bG w' (.bool (decide (0≤i∧i≤g))))):=fun w'=>fp i 0 g w';rw[decide_eq_true a]at j;by_cases d:0≤i∧i≤(g:Int)
  ·obtain⟨b,rfl⟩:∃b:Nat,i=b:=⟨i.toNat,by omega⟩;rw[decide_eq_true d]at m;have e:rf ds b kn=(cR (ds.take kn) b,0):=by
    unfold rf;rw[if_pos (by omega),Int.toNat_natCast,Int.toNat_natCast]
   rw[e];have y:Hid (∀w',Fr ag w w'→Calls Tryz.prog 109 #[.pointer (some ⟨p,0,none⟩), .int .i64 b, .int .i64 0, .int .i64 kn] w' (xV w' (cR (ds.take kn) b).length (cR (ds.take kn) b))):=fun w' u=>by
    have h:=zR kn (by omega) w' p A ds.length c mb ds (bC ds.length) 0 20 b (l.aq u) (s8 _) C (o.aq u) (by omega) (by omega) (by omega) (Nat.dvd_zero _);rw[List.drop_zero]at h;exact h
   generalize cR (ds.take kn) b=PL at*;have s:kn≤1048576:=by omega
   have D:b≤1048576:=by omega
   clear e l q r o a d f;go_enter Tryz.func56,Tryz.ntmps56;go_wp2_with fail;refine(j.out _).mono ?_;rintro e w'⟨rfl,rfl⟩;go_wp2_with fail;refine(m.out _).mono ?_;rintro e w'⟨rfl,rfl⟩;go_wp2_with fail;refine(y.out _ aA).mono ?_;rintro e w1⟨v,rfl,t⟩;have z:=af t;clear t;go_wp2;go_ret2;exact⟨v,rfl,z.out⟩
  ·rw[decide_eq_false d]at m;have e:rf ds i kn=([],2):=by
    unfold rf;rw[if_neg (by omega)]
   rw[e];have s:kn≤1048576:=by omega
   clear e l q r o a d f;go_enter Tryz.func56,Tryz.ntmps56;go_wp2_with fail;refine(j.out _).mono ?_;rintro e w'⟨rfl,rfl⟩;go_wp2_with fail;refine(m.out _).mono ?_;rintro e w'⟨rfl,rfl⟩;go_wp2;go_ret2;exact rK.none aA
 ·rw[decide_eq_false a]at j;have e:rf ds i k=([],2):=by
   unfold rf;rw[if_neg (by omega)]
  rw[e];clear e l q r o a f;go_enter Tryz.func56,Tryz.ntmps56;go_wp2_with fail;refine(j.out _).mono ?_;rintro e w'⟨rfl,rfl⟩;go_wp2;go_ret2;exact rK.none aA
theorem Hr(S w:World)(p:Nat)(ds:List (List UInt8))(a:Nat)(M:ox S w p ds)(P:ds.length≤1048576)(Q:a≤ds.length)(G:bH w):
  Calls Tryz.prog 57 #[.pointer (some ⟨p,0,none⟩), .int .i64 a] w (aK w (.tuple #[aP (fW (ds.take a)), .int .i64 0])):=by
 obtain⟨A,c,mb,s,K,L⟩:=M;obtain⟨n,j⟩:∃n,n=ds.length:=⟨_,rfl⟩;have r:w.cell? ⟨p,0,none⟩=some (.slice A n c):=by rw[j];exact s.aF.cell 0
 have n4:n≤1048576:=by omega
 have v:Hid (∀w',Calls Tryz.prog 89 #[.int .i64 a, .int .i64 0, .int .i64 n] w' (bG w' (.bool (decide (0≤(a:Int)∧(a:Int)≤n))))):=fun w'=>fp a 0 n w';rw[dJ (show 0≤(a:Int)∧(a:Int)≤n by omega)]at v;have H:(fW (ds.take a)).length=32:=j6 a _ (by rw[List.length_take];omega) (by omega) (fun d N=>s.each d (List.mem_of_mem_take N));have y:Hid (a=0→∀w',Fr ag w w'→Calls Tryz.prog 73 #[] w' (aK w' (aP (fW (ds.take a))))):=fun h w' t=>by
  rw[h,List.take_zero];exact Bj w' (G.aq t)
 have B:Hid (¬a=0→∀w',Fr ag w w'→Calls Tryz.prog 110 #[.pointer (some ⟨p,0,none⟩), .int .i64 0, .int .i64 a] w' (aK w' (aP (fW (ds.take a))))):=fun h w' t=>by
  have k:=vA a (by omega) w' p A ds.length c mb ds (bC ds.length) 0 20 (s.aq t) (s8 _) P (G.aq t) (by omega) (by omega) (by omega) (Nat.dvd_zero _);rw[List.drop_zero]at k;have e:fW (ds.take a)=cS (ds.take a):=by
   unfold fW;rw[if_neg (by intro g;have:=congrArg List.length g;rw[List.length_take,List.length_nil]at this;omega)]
  rw[e];exact k
 generalize fW (ds.take a)=rt at*;have DP:Hid (cX (ar rt).toArray):=cX.of H;have a4:a≤1048576:=by omega
 unfold aP at*;simp only[show∀l:List UInt8,l.map aT=ar l from fun _=>rfl]at*;generalize ar rt=o at*;clear s K L j Q H G;by_cases g:a=0
 ·have z:=af (y.out g);have t0:((a:Int)==0)=true:=by rw[g];rfl
  subst g;clear y B;go_enter Tryz.func57,Tryz.ntmps57;go_wp2_with(refine ak rfl 38 rfl aR fV aD rfl ?_);intro w1 b;have f:=af b;have I:w1.cell? ⟨p,0,none⟩=some (.slice A n c):=b.fr.an r (fun x=>x);clear b r;go_wp2_with fail;refine(v.out _).mono ?_;rintro e w'⟨rfl,rfl⟩;go_wp2_with fail;refine(z.out _ f.out.fr).mono ?_;rintro e w2⟨rfl,f2⟩;have D:=af (f.out.fr.trans f2);have u:=af (f.out.aF.fr f2 (fun x=>x));clear f2 f;go_wp2_with(refine ai rfl 38 (.tmp 4) _ rfl w.heap.size o.toArray rfl rfl _ _ u.out DP.out.info DP.out.zero DP.out.one ?_);intro m b5 f5;have E:=af b5;have F:Hid (Fr ag w m):=D.out.aw f5 (fun i O e=>by have J:i=w.heap.size:=e;omega);clear b5 f5;go_wp2;exact bodyPost_ret (dK (fn:=Tryz.f57) (p:=4) (q:=5) (ty:=38) Tryz.results57 _ m _ 38 o.toArray (0,0) _ rfl E.out Tryz.underlying38 rfl DP.out.info _ rfl) rfl ⟨rfl,F.out⟩
 ·have C:=af (B.out g);have t0:((a:Int)==0)=false:=by rw[beq_eq_false_iff_ne];omega
  have R:¬a=0:=g;clear y B;go_enter Tryz.func57,Tryz.ntmps57;go_wp2_with(refine ak rfl 38 rfl aR fV aD rfl ?_);intro w1 b;have f:=af b;have I:w1.cell? ⟨p,0,none⟩=some (.slice A n c):=b.fr.an r (fun x=>x);clear b r;go_wp2_with fail;refine(v.out _).mono ?_;rintro e w'⟨rfl,rfl⟩;go_wp2_with fail;refine(C.out _ f.out.fr).mono ?_;rintro e w2⟨rfl,f2⟩;have D:=af (f.out.fr.trans f2);have u:=af (f.out.aF.fr f2 (fun x=>x));clear f2 f;go_wp2_with(refine ai rfl 38 (.tmp 4) _ rfl w.heap.size o.toArray rfl rfl _ _ u.out DP.out.info DP.out.zero DP.out.one ?_);intro m b5 f5;have E:=af b5;have F:Hid (Fr ag w m):=D.out.aw f5 (fun i O e=>by have J:i=w.heap.size:=e;omega);clear b5 f5;go_wp2;exact bodyPost_ret (dK (fn:=Tryz.f57) (p:=4) (q:=5) (ty:=38) Tryz.results57 _ m _ 38 o.toArray (0,0) _ rfl E.out Tryz.underlying38 rfl DP.out.info _ rfl) rfl ⟨rfl,F.out⟩
end Go.Proofs.YtphjagkehiklkaaGreatDoor.Lt
namespace Go.Proofs.YtphjagkehiklkaaGreatDoor.Lt
open Go.RowKit
def By(w:World)(PL:List (List UInt8))(v:Value)(w':World):Prop:=∃v1,v=v1∧bW 37 32 w (.slice none 0 0) w' v1 PL.length (PL.flatMap ar)
theorem By.ah{w W:World}{PL:List (List UInt8)}:∀v w' a,Fr ag W w'→Fr ag w' a→By w PL v w'→By w PL v a:=fun _ _ _ _ c⟨v1,h,b⟩=>⟨v1,h,b.behind c⟩
end Go.Proofs.YtphjagkehiklkaaGreatDoor.Lt
namespace Go.Proofs.YtphjagkehiklkaaGreatDoor.Lt
open Go.RowKit Go.ChangeShapes Go.WideShapes Go.Deep
end Go.Proofs.YtphjagkehiklkaaGreatDoor.Lt
namespace Go.Proofs.YtphjagkehiklkaaGreatDoor
open Go.RowKit Go.Shelf
theorem xI{w:World}{p:Nat}{A:Option Addr}{n c:Nat}{mb:Option Nat}{ds:List (List UInt8)}(h:Lt.eL w p A n c mb ds (Lt.bC n)):Lt.ox {w with heap:=#[]} w p ds:=by
 have e:=h.len;subst e;exact⟨A,c,mb,h,⟨rfl,rfl,rfl,Nat.zero_le _,fun k a=>absurd a (by simp)⟩,fun k _=>Nat.zero_le _⟩
def qD(E:List Ent)(L:List ActV)(n:Int):Value:=if 0≤n∧n≤L.length then .tuple #[aP (Lt.fW (dq E (L.take n.toNat))), .int .i64 0]else .tuple #[.agg aD, .int .i64 2]
theorem EN(h:Nat)(E:List Ent)(L:List ActV)(T:Nat→Prop)(w:World)(m:fY w h E L T):Calls Tryz.prog 46 #[.pointer (some ⟨h,0,none⟩)] w (bG w (.int .i64 (L.length:Int))):=by
 obtain⟨b,s,g,va,vk,K,A,c,mb,d,rfl⟩:=m;obtain⟨l,a,f⟩:=d.lZ;obtain⟨n,n1,j,rfl,H1,_⟩:=aW a;have i:=d.aF.cell 0;have j:=d.aF.cell 1;simp only[bD,List.getElem?_cons_succ,List.getElem?_cons_zero]at i j;have k:=H1;clear d a f;go_enter Tryz.func46,Tryz.ntmps46;go_wp2_with fail;refine(mU w h b i).mono ?_;rintro e w'⟨rfl,rfl⟩;go_wp2;go_ret;exact⟨by rw[k.out];rfl,rfl⟩
def Hl(w:World)(E:List Ent)(L:List ActV)(e:Ending)(w':World):Prop:=∃s,e= .returned (.tuple #[.pointer (some ⟨s,0,none⟩), .int .i64 0])∧w=w'∧fD w' s (fS L E)
theorem xP(h:Nat)(E:List Ent)(L:List ActV)(T:Nat→Prop)(w:World)(m:fY w h E L T):Calls Tryz.prog 38 #[.pointer (some ⟨h,0,none⟩), .int .i64 (L.length:Int)] w (Hl w E L):=by
 obtain⟨b,s,g,va,vk,K,A,c,mb,d,rfl⟩:=m;obtain⟨l,a,f⟩:=d.lZ;obtain⟨n,n1,j,rfl,H1,_⟩:=aW a;have i:=d.aF.cell 0;have j:=d.aF.cell 1;have c3:=d.aF.cell 3;simp only[bD,List.getElem?_cons_succ,List.getElem?_cons_zero]at i j c3;have k:=af d.last;obtain rfl:n1=L.length:=H1.out;clear d a f H1;generalize L.length=n1 at*;have t1:decide ((n1:Int)<0)=false:=cN (by omega);have t2:decide ((n1:Int)<(n1:Int))=false:=cN (by omega);have t3:((n1:Int)==(n1:Int))=true:=by rw[beq_iff_eq]
 go_enter Tryz.func38,Tryz.ntmps38;go_wp2_with fail;refine(mU w h b i).mono ?_;rintro e w'⟨rfl,rfl⟩;go_wp2;go_ret2;exact⟨s,rfl,rfl,k.out⟩
theorem tZ(h:Nat)(E:List Ent)(L:List ActV)(T:Nat→Prop)(n:Int)(w:World)(ae:fY w h E L T)(S:bH w)(hL:L.length≤65536):Calls Tryz.prog 16 #[.pointer (some ⟨h,0,none⟩), .int .i64 n] w (aK w (qD E L n)):=by
 obtain⟨b,s,g,va,vk,K,A,c,mb,v,rfl⟩:=ae;obtain⟨ac,m,N⟩:=v.lZ;obtain⟨V,n1,aa,rfl,H1,_⟩:=aW m;have am:=af v;have Y:Hid (∀w',Fr ag w w'→Calls Tryz.prog 55 #[.pointer (some ⟨h,0,none⟩)] w' (bG w' (.bool false))):=fun w' f=>mU w' h b ((v.aF.fr f (fun x=>x)).cell 0);have O:Hid (∀(k:Nat)w',Fr ag w w'→k≤L.length→Calls Tryz.prog 57 #[.pointer (some ⟨g,0,none⟩), .int .i64 ((k:Int)+1)] w' (aK w' (.tuple #[aP (Lt.fW (dq E (L.take k))), .int .i64 0]))):=fun k w' f an=>by
  have h:=Lt.Hr _ w' g (dq E L) (k+1) (xI (v.aq f).log) (by rw[jS];omega) (by rw[jS];omega) (S.aq f);rw[uV]at h;exact h
 have J:Hid (∀k,(Lt.fW (dq E (L.take k))).length=32):=fun k=>Lt.j6 _ _ rfl (by rw[jS,List.length_take];omega) (nI _ _);have d:Hid (n1=L.length):=H1.out;have I:=af hL;obtain⟨R,M⟩:∃R,qD E L n=R:=⟨_,rfl⟩;have a:Hid (R=if 0≤n∧n≤L.length then .tuple #[aP (Lt.fW (dq E (L.take n.toNat))), .int .i64 0]else .tuple #[.agg aD, .int .i64 2]):=M.symm;rw[M];have ab:Hid (∀W,Fr ag w W→W.cell? {block:=h,off:=1}=some (.slice V n1 aa)∧W.cell? {block:=h,off:=4}=some (.pointer (some ⟨g,0,none⟩))):=fun W f=>⟨(v.aF.fr f (fun x=>x)).cell 1,(v.aF.fr f (fun x=>x)).cell 4⟩;clear v m N H1 S hL M;go_enter Tryz.func16,Tryz.ntmps16;go_wp2_with(refine ak rfl 38 rfl aR fV aD rfl ?_);intro w1 y;have t:=af y.fr;have F:=af y.aF;clear y;generalize D:w.heap.size=g4 at*;have u:Hid (w.heap.size≤g4):=by rw[Hid,D];exact Nat.le_refl _
 clear D;go_wp2_with fail;refine(Y.out _ t.out).mono ?_;rintro e w'⟨rfl,rfl⟩;obtain⟨aj,al⟩:=ab.out _ t.out;by_cases H:n<0
 ·have t1:decide (n<0)=true:=decide_eq_true H;have z:Hid (R= .tuple #[.agg aD, .int .i64 2]):=by rw[Hid,a.out,if_neg (by omega)]
  clear H;go_wp2_with(first|(refine wpList_buildTo rfl 38 #[] rfl aD Lt.qP ?_)|(refine ai rfl 38 (.tmp 4) _ rfl g4 aD rfl rfl _ _ F.out Lt.yA rfl Lt.xK ?_));intro o j l;have B:=af j;have C:Hid (Fr ag w o):=t.out.aw l (fun i U e=>by have Q:i=g4:=e;have:=u.out;omega);clear j l;go_wp2;rw[z.out];exact bodyPost_ret (dK (fn:=Tryz.f16) (p:=4) (q:=5) (ty:=38) Tryz.results16 _ o _ 38 aD (0,0) _ rfl B.out Tryz.underlying38 rfl Lt.yA _ rfl) rfl ⟨rfl,C.out⟩
 obtain⟨k,rfl⟩:∃k:Nat,n=k:=⟨n.toNat,by omega⟩;have t1:decide ((k:Int)<0)=false:=decide_eq_false H;clear H;by_cases ad:n1<k
 ·have t2:decide ((n1:Int)<(k:Int))=true:=dJ (by omega);have z:Hid (R= .tuple #[.agg aD, .int .i64 2]):=by rw[Hid,a.out,if_neg (by have:=d.out;omega)]
  clear a;go_wp2_with(first|(refine wpList_buildTo rfl 38 #[] rfl aD Lt.qP ?_)|(refine ai rfl 38 (.tmp 4) _ rfl g4 aD rfl rfl _ _ F.out Lt.yA rfl Lt.xK ?_));intro o j l;have B:=af j;have C:Hid (Fr ag w o):=t.out.aw l (fun i U e=>by have Q:i=g4:=e;have:=u.out;omega);clear j l;go_wp2;rw[z.out];exact bodyPost_ret (dK (fn:=Tryz.f16) (p:=4) (q:=5) (ty:=38) Tryz.results16 _ o _ 38 aD (0,0) _ rfl B.out Tryz.underlying38 rfl Lt.yA _ rfl) rfl ⟨rfl,C.out⟩
 have t2:decide ((n1:Int)<(k:Int))=false:=cN (by omega);have ah:¬(n1:Int)<(k:Int):=by omega
 have z:Hid (R= .tuple #[aP (Lt.fW (dq E (L.take k))), .int .i64 0]):=by rw[Hid,a.out,if_pos (by have:=d.out;omega),Int.toNat_natCast]
 have r:=af (O.out k _ t.out (by have:=d.out;omega));have G:Hid (Lt.cX ((Lt.fW (dq E (L.take k))).map aT).toArray):=Lt.cX.of (J.out k);unfold aP at z r;generalize((Lt.fW (dq E (L.take k))).map aT).toArray=P at*;have ao:k≤65536:=by have:=d.out;have:=I.out;omega
 have ap:IntKind.i64.wrap ((k:Int)+1)=(k:Int)+1:=IntWalk.i64_in _ (by omega);clear a O ad;go_wp2_with fail;refine r.out.mono ?_;rintro e w2⟨rfl,f2⟩;have Z:=af (t.out.trans f2);have X:=af (F.out.fr f2 (fun x=>x));clear f2 r t F aj al;go_wp2_with(refine ai rfl 38 (.tmp 4) _ rfl g4 P rfl rfl _ _ X.out G.out.info G.out.zero G.out.one ?_);intro o j l;have B:=af j;have C:Hid (Fr ag w o):=Z.out.aw l (fun i U e=>by have Q:i=g4:=e;have:=u.out;omega);clear j l;go_wp2;rw[z.out];exact bodyPost_ret (dK (fn:=Tryz.f16) (p:=4) (q:=5) (ty:=38) Tryz.results16 _ o _ 38 P (0,0) _ rfl B.out Tryz.underlying38 rfl G.out.info _ rfl) rfl ⟨rfl,C.out⟩
def df:List Value:=[.int .i64 0, .int .i64 0, .string ByteArray.empty, .slice none 0 0]
theorem pe:Tryz.prog.built 33 []=some df.toArray:=by kernel_rfl
theorem zq(i n:Int)(s:ByteArray)(A:Option Addr)(x y:Nat):Tryz.prog.built 33 [(0, .int .i64 i),(1, .int .i64 n),(2, .string s),(3, .slice A x y)]=some [Value.int .i64 i, .int .i64 n, .string s, .slice A x y].toArray:=by kernel_rfl
theorem EK(w:World):(zeroValue 33).run Tryz.prog w= .ok (.agg df.toArray) w:=by kernel_rfl
theorem iH:(Tryz.prog.info? 33).map (·.size)=some df.toArray.size:=by kernel_rfl
theorem IA:(Tryz.prog.info? 33).map (·.size)=some 4:=by kernel_rfl
theorem my:df.toArray.all (·.oneCell')=true:=by simp[df,Value.oneCell']
def qC(w:World)(E:List Ent)(L:List ActV)(i n:Int)(e:Ending)(w':World):Prop:=
 (¬(0≤n∧n≤L.length∧0≤i∧i<n)∧e= .returned (.tuple #[.agg df.toArray, .int .i64 2])∧Fr ag w w')∨
 ∃(k m:Nat)(a:ActV)(v:Value),i=(k:Int)∧n=(m:Int)∧k<m∧m≤L.length∧L[k]? =some a∧e= .returned (.tuple #[.agg [Value.int .i64 (k:Int), .int .i64 (m:Int), .string ⟨(db a).toArray⟩,v].toArray, .int .i64 0])∧bW 38 32 w (.slice none 0 0) w' v (Lt.cR (dq E (L.take m)) (k+1)).length ((Lt.cR (dq E (L.take m)) (k+1)).flatMap Lt.ar)
theorem tH{w:World}{A:Option Addr}{n c:Nat}{e:List (List Value)}{L:List ActV}(f:w.ownsRow 0 46 6 (.slice A n c) L.length e.flatten)(h:eo w e L)(p:n=L.length){k:Nat}(o:k<L.length):
  ∃g d a,A=some g∧L[k]? =some a∧cT w d a∧d.length=6∧∀j x,d[j]? =some x→w.cell? ((g.add (k*6)).add j)=some x:=by
 subst p;obtain⟨d,l,_,r,i,s⟩:=eo.at_ (k:=k) h o;obtain⟨g,m,_,b⟩:=(Rd.gO f).2 (by omega);refine⟨g,d,l,m,r,i,i.len,fun j x q=>?_⟩;rw[gD];exact b _ x (s j x q)
theorem sD(h:Nat)(E:List Ent)(L:List ActV)(T:Nat→Prop)(i n:Int)(w:World)(a3:fY w h E L T)(aN:eG w)(aM:bH w)(a4:L.length≤65536)(ab:∀a∈L,gA a=true)(ac:∀a∈L,Hu a):
  Calls Tryz.prog 15 #[.pointer (some ⟨h,0,none⟩), .int .i64 i, .int .i64 n] w (qC w E L i n):=by
 obtain⟨b,s,g,va,vk,K,A,c,mb,Q,rfl⟩:=a3;obtain⟨aZ,C,Z⟩:=Q.lZ;obtain⟨aC,n1,aY,rfl,H1,_⟩:=aW C;have aR:Hid (∀w',Fr ag w w'→Calls Tryz.prog 55 #[.pointer (some ⟨h,0,none⟩)] w' (bG w' (.bool false))):=fun w' f=>mU w' h b ((Q.aF.fr f (fun x=>x)).cell 0);have aH:Hid (∀(k m:Nat)w',Fr ag w w'→k<m→m≤L.length→Calls Tryz.prog 56 #[.pointer (some ⟨g,0,none⟩), .int .i64 ((k:Int)+1), .int .i64 ((m:Int)+1)] w' (Lt.rK w' (Lt.cR (dq E (L.take m)) (k+1),0))):=fun k m w' f aP hm=>by
  have h:=Lt.xR _ w' g (dq E L) ((k:Int)+1) ((m:Int)+1) (xI (Q.aq f).log) (by rw[jS];omega) (aM.aq f) (by omega) (by omega);have e:Lt.rf (dq E L) ((k:Int)+1) ((m:Int)+1)=(Lt.cR (dq E (L.take m)) (k+1),0):=by
   unfold Lt.rf;rw[if_pos (by rw[jS];omega),show((m:Int)+1).toNat=m+1 by omega,show((k:Int)+1).toNat=k+1 by omega,uV]
  rw[e]at h;exact h
 have S:Hid (∀k,k<L.length→∃ah u a,aC=some ah∧L[k]? =some a∧cT w u a∧u.length=6∧∀j x,u[j]? =some x→w.cell? ((ah.add (k*6)).add j)=some x):=fun k aP=>tH C Z H1.out aP;have aG:Hid (∀a u w',a∈L→cT w u a→Fr ag w w'→Calls Tryz.prog 18 #[.agg u.toArray] w' (aK w' (.tuple #[.string ⟨(db a).toArray⟩, .int .i64 0]))):=fun a u w' aO a5 f=>by
  have h:=rG a u w' (aN.aq f) (a5.aq f) (ac a aO);unfold kD at h;rw[if_pos (ab a aO)]at h;exact h
 have F:Hid (n1=L.length∧n1≤65536):=by have:=H1.out;exact⟨this,by omega⟩
 have aJ:Hid (∀W,Fr ag w W→W.cell? {block:=h,off:=1}=some (.slice aC n1 aY)∧W.cell? {block:=h,off:=4}=some (.pointer (some ⟨g,0,none⟩))):=fun W f=>⟨(Q.aF.fr f (fun x=>x)).cell 1,(Q.aF.fr f (fun x=>x)).cell 4⟩;have d:Hid (¬(0≤n∧n≤n1∧0≤i∧i<n)→∀w',Fr ag w w'→qC w E L i n (.returned (.tuple #[.agg df.toArray, .int .i64 2])) w'):=fun am w' f=> .inl ⟨by rw[←H1.out];exact am,rfl,f⟩;have l:Hid (∀(k m:Nat)(a:ActV)(v:Value)w',i=(k:Int)→n=(m:Int)→k<m→m≤n1→L[k]? =some a→bW 38 32 w (.slice none 0 0) w' v (Lt.cR (dq E (L.take m)) (k+1)).length ((Lt.cR (dq E (L.take m)) (k+1)).flatMap Lt.ar)→qC w E L i n (.returned (.tuple #[.agg [Value.int .i64 (k:Int), .int .i64 (m:Int), .string ⟨(db a).toArray⟩,v].toArray, .int .i64 0])) w'):=fun k m a v w' am O aL a0 a1 a2=> .inr ⟨k,m,a,v,am,O,aL,by rw[←H1.out];exact a0,a1,rfl,a2⟩;generalize qC w E L i n=PP at*;clear Q C Z H1 aM a4 aN ab ac;go_enter Tryz.func15,Tryz.ntmps15;go_wp2_with(refine ak rfl 33 rfl (.agg df.toArray) EK df.toArray rfl ?_);intro w1 J;have D:=af J.fr;have N:=af J.aF;clear J;generalize aa:w.heap.size=g6 at*;have y:Hid (w.heap.size≤g6):=by rw[Hid,aa];exact Nat.le_refl _
 clear aa;go_wp2_with fail;refine(aR.out _ D.out).mono ?_;rintro e w'⟨rfl,rfl⟩;obtain⟨az,aA⟩:=aJ.out _ D.out;by_cases al:n<0;·have t1:decide (n<0)=true:=decide_eq_true al;have G:=af (d.out (by omega));clear d l al;go_wp2_with(first|(refine wpList_buildTo rfl 33 #[] rfl df.toArray pe ?_)|(refine ai rfl 33 (.tmp 6) _ rfl g6 df.toArray rfl rfl _ _ N.out iH rfl my ?_));intro r t o;have H:=af t;have I:Hid (Fr ag w r):=D.out.aw o (fun i P e=>by have aj:i=g6:=e;have:=y.out;omega);clear t o;go_wp2;exact bodyPost_ret (aX (fn:=Tryz.f15) (p:=6) (q:=7) (ty:=33) Tryz.results15 _ r _ 33 df.toArray (0,0) _ rfl H.out Tryz.underlying33 rfl iH _ rfl) rfl (G.out _ I.out)
 obtain⟨m,rfl⟩:∃m:Nat,n=m:=⟨n.toNat,by omega⟩;have t1:decide ((m:Int)<0)=false:=decide_eq_false al;clear al;by_cases am:n1<m;·have t2:decide ((n1:Int)<(m:Int))=true:=dJ (by omega);have G:=af (d.out (by omega));clear d l;go_wp2_with(first|(refine wpList_buildTo rfl 33 #[] rfl df.toArray pe ?_)|(refine ai rfl 33 (.tmp 6) _ rfl g6 df.toArray rfl rfl _ _ N.out iH rfl my ?_));intro r t o;have H:=af t;have I:Hid (Fr ag w r):=D.out.aw o (fun i P e=>by have aj:i=g6:=e;have:=y.out;omega);clear t o;go_wp2;exact bodyPost_ret (aX (fn:=Tryz.f15) (p:=6) (q:=7) (ty:=33) Tryz.results15 _ r _ 33 df.toArray (0,0) _ rfl H.out Tryz.underlying33 rfl iH _ rfl) rfl (G.out _ I.out)
 have t2:decide ((n1:Int)<(m:Int))=false:=cN (by omega);have a9:¬(n1:Int)<(m:Int):=by omega
 by_cases O:i<0;·have t3:decide (i<0)=true:=decide_eq_true O;have G:=af (d.out (by omega));clear d l O;go_wp2_with(first|(refine wpList_buildTo rfl 33 #[] rfl df.toArray pe ?_)|(refine ai rfl 33 (.tmp 6) _ rfl g6 df.toArray rfl rfl _ _ N.out iH rfl my ?_));intro r t o;have H:=af t;have I:Hid (Fr ag w r):=D.out.aw o (fun i P e=>by have aj:i=g6:=e;have:=y.out;omega);clear t o;go_wp2;exact bodyPost_ret (aX (fn:=Tryz.f15) (p:=6) (q:=7) (ty:=33) Tryz.results15 _ r _ 33 df.toArray (0,0) _ rfl H.out Tryz.underlying33 rfl iH _ rfl) rfl (G.out _ I.out)
 obtain⟨k,rfl⟩:∃k:Nat,i=k:=⟨i.toNat,by omega⟩;have t3:decide ((k:Int)<0)=false:=decide_eq_false O;clear O;by_cases aL:m≤k
 ·have t4:decide ((m:Int)≤(k:Int))=true:=dJ (by omega);have ay:(m:Int)≤(k:Int):=by omega
  have G:=af (d.out (by omega));clear d l;go_wp2_with(first|(refine wpList_buildTo rfl 33 #[] rfl df.toArray pe ?_)|(refine ai rfl 33 (.tmp 6) _ rfl g6 df.toArray rfl rfl _ _ N.out iH rfl my ?_));intro r t o;have H:=af t;have I:Hid (Fr ag w r):=D.out.aw o (fun i P e=>by have aj:i=g6:=e;have:=y.out;omega);clear t o;go_wp2;exact bodyPost_ret (aX (fn:=Tryz.f15) (p:=6) (q:=7) (ty:=33) Tryz.results15 _ r _ 33 df.toArray (0,0) _ rfl H.out Tryz.underlying33 rfl iH _ rfl) rfl (G.out _ I.out)
 have t4:decide ((m:Int)≤(k:Int))=false:=cN (by omega);have ay:¬(m:Int)≤(k:Int):=by omega
 have a7:(k:Int)<(n1:Int):=by omega
 have a6:(0:Int)≤(k:Int):=by omega
 obtain⟨ah,u,a,rfl,X,V,Y,B⟩:=S.out k (by have:=F.out;omega);have U:=af X;have au:=af V;have av:=af Y;have ap:=af B;have aU:Hid ((Tryz.prog.info? 46).map (·.size)=some u.length):=by rw[Hid,av.out];exact bT
 have z:Hid (k<m∧m≤n1):=⟨by omega,by omega⟩;clear X V Y B d S;go_wp2_with(refine aB rfl 46 (.tmp 41) rfl (ah.add (k*6)) rfl u _ ?zA Tryz.underlying46 rfl aU.out (bh.go ?zB));case zA=>exact fun j x a8=>D.out.an (ap.out j x a8) (fun x=>x)
 unfold bh;go_wp2_with fail;refine(aG.out a u _ (List.mem_of_getElem? U.out) au.out D.out).mono ?_;rintro e w2⟨rfl,f2⟩;have ae:=af (D.out.trans f2);have aD:=af (N.out.fr f2 (fun x=>x));clear f2 aG D N az aA;obtain⟨az,aA⟩:=aJ.out _ ae.out;have bc:IntKind.i64.wrap ((k:Int)+1)=(k:Int)+1:=IntWalk.i64_in _ (by have:=F.out;omega);have bd:IntKind.i64.wrap ((m:Int)+1)=(m:Int)+1:=IntWalk.i64_in _ (by have:=F.out;have:=z.out;omega);have R:=af (aH.out k m _ ae.out z.out.1 (by have:=F.out;have:=z.out;omega));have ax:=af (l.out k m a);generalize Lt.cR (dq E (L.take m)) (k+1)=PL at*;generalize(⟨(db a).toArray⟩:ByteArray)=ad at*;clear aH l;go_wp2_with fail;refine R.out.mono ?_;rintro e bb⟨v,rfl,ao⟩;obtain⟨M,n3,c3,rfl,_,_⟩:=aW ao.own;have aS:=af (ao.ahead ae.out);have aE:=af (aD.out.fr ao.aq (fun x=>x));clear ao R ae aD az aA;have ba:=af (zq (k:Int) (m:Int) ad M n3 c3);have aI:Hid ((Tryz.prog.info? 33).map (·.size)=some [Value.int .i64 (k:Int), .int .i64 (m:Int), .string ad, .slice M n3 c3].toArray.size):=IA;have aV:Hid ([Value.int .i64 (k:Int), .int .i64 (m:Int), .string ad, .slice M n3 c3].toArray.all (·.oneCell')=true):=by simp[Hid,Value.oneCell']
 go_wp2_with(refine ai rfl 33 (.tmp 6) _ rfl g6 [Value.int .i64 (k:Int), .int .i64 (m:Int), .string ad, .slice M n3 c3].toArray rfl rfl _ _ aE.out aI.out rfl aV.out ?_);intro r t o;have H:=af t;have aT:Hid (bW 38 32 w (.slice none 0 0) r (.slice M n3 c3) PL.length (PL.flatMap Lt.ar)):=by
  have g:=aS.out;refine⟨aQ g.own o (fun i P e=>?_),(g.aq.aw o (fun i P e=>by have aj:i=g6:=e;have:=y.out;omega)).bI,g.ez⟩;obtain rfl:i=g6:=e;exact bE g.own aE.out (by decide) P
 have G:=af (ax.out _ r (by first|rfl|trivial) (by first|rfl|trivial) z.out.1 z.out.2 U.out aT.out);clear t o;go_wp2;exact bodyPost_ret (aX (fn:=Tryz.f15) (p:=6) (q:=7) (ty:=33) Tryz.results15 _ r _ 33 [Value.int .i64 (k:Int), .int .i64 (m:Int), .string ad, .slice M n3 c3].toArray (0,0) _ rfl H.out Tryz.underlying33 rfl aI.out _ rfl) rfl G.out
def Mod(w:World)(cs:List Value)(b:Nat)(E:List Ent)(L:List ActV):Prop:=∃(A:Option Addr)(n c:Nat),cs=[Value.pointer (some ⟨b,0,none⟩), .slice A n c]∧n=L.length∧n≤c∧fD w b E∧kx w (.slice A n c) L
theorem Mod.aq{w w':World}{cs:List Value}{b:Nat}{E:List Ent}{L:List ActV}(h:Mod w cs b E L)(a:Fr ag w w'):Mod w' cs b E L:=by
 obtain⟨A,n,c,d,e,f,g,i⟩:=h;exact⟨A,n,c,d,e,f,g.aq a,i.aq a⟩
def Ht(w:World)(X:List Ent)(e:Ending)(w':World):Prop:=∃s,e= .returned (.pointer (some ⟨s,0,none⟩))∧fD w' s X∧Fr ag w w'
theorem DH(cs:List Value)(b:Nat)(E:List Ent)(L:List ActV)(k:Nat)(w:World)(aj:Mod w cs b E L)(T:eG w)(S:cY 24 E)(K:gg L)(al:k≤L.length):
  Calls Tryz.prog 41 #[.agg cs.toArray, .int .i64 (k:Int)] w (Ht w (fS (L.take k) E)):=by
 obtain⟨A,n,c,rfl,N,ak,U,ai,h,B⟩:=aj;have I:Hid (∀j,j<L.length→∃r f a,A=some r∧L[j]? =some a∧cT w f a∧f.length=6∧∀i x,f[i]? =some x→w.cell? ((r.add (j*6)).add i)=some x):=fun j G=>tH h B N G;have u:Hid (k≤n∧n≤16∧n=L.length):=by have:=K.len;exact⟨by omega,by omega,N⟩
 have ac:=af T;have Z:=af S;have v:=af K;have HB:=af U;clear h B N ak T S K U al;go_enter Tryz.func41,Tryz.ntmps41;go_wp2_with(refine ay rfl 28 (.tmp 0) rfl _ rfl ?_);intro w1 n1;have t:=af n1.fr;have P:=af n1.aF;clear n1;generalize w.heap.size=g1 at*;have ar:w1.cell? ⟨g1,0,none⟩=some (.pointer (some ⟨b,0,none⟩)):=P.out.cell 0;have ae:=af (HB.out.aq t.out);go_wp2;go_loopw[5,6](fun s i wr=>∃(j F:Nat),j≤k∧s= .pointer (some ⟨F,0,none⟩)∧i= .int .i64 (j:Int)∧fD wr F (fS (L.take j) E)∧Fr ag w1 wr)(fun _ i _=>k-(intOf i).toNat);case atStart=>exact⟨0,b,Nat.zero_le _,rfl,rfl,by rw[List.take_zero];exact ae.out,aA⟩
 case round=>
  obtain⟨j,s,G,rfl,rfl,W,V⟩:=hrel;have aa:=af G;have R:=af W;have o:=af V;clear G W V;by_cases am:j<k
  ·have t0:decide ((j:Int)<(k:Int))=true:=dJ (by omega);obtain⟨r,f,a,rfl,l,y,z,d⟩:=I.out j (by have:=u.out;omega);have ao:wr.cell? ⟨g1,1,none⟩=some (.slice (some r) n c):=(P.out.fr o.out (fun x=>x)).cell 1;have i0:(j:Int)<(n:Int):=by have:=u.out;omega
   have i1:(0:Int)≤(j:Int):=by omega
   have ad:Hid ((Tryz.prog.info? 46).map (·.size)=some f.length):=by rw[Hid,z];exact bT
   have H:Hid (∀i x,f[i]? =some x→wr.cell? ((r.add (j*6)).add i)=some x):=fun i x O=>(t.out.trans o.out).an (d i x O) (fun x=>x);have Y:Hid (cY (24+6*j) (fS (L.take j) E)):=by
    have:=lR (L.take j) E 24 Z.out (fun a M=>v.out.ok a (List.mem_of_mem_take M)) (fun a M=>v.out.small a (List.mem_of_mem_take M));rw[List.length_take,Nat.min_eq_left (by have:=u.out;omega)]at this;exact this
   have g:=List.mem_of_getElem? l;have Q:Hid (Calls Tryz.prog 86 #[.agg f.toArray, .pointer (some ⟨s,0,none⟩)] wr (mL wr (fS (L.take j) E) a.writes)):=lX _ a f _ s wr (y.aq (t.out.trans o.out)) R.out (ac.out.aq (t.out.trans o.out)) Y.out (v.out.small a g).writes (by have:=(v.out.small a g).nw;have:=u.out;omega);have ab:=af (Dx l E);have J:=af (qh (v.out.ok a g));have au:IntKind.i64.wrap ((j:Int)+1)=(j:Int)+1:=IntWalk.i64_in _ (by have:=u.out;omega);clear d l y z g;go_wp2_with(refine aB rfl 46 (.tmp 18) rfl (r.add (j*6)) rfl f _ ?zA Tryz.underlying46 rfl ad.out (bh.go ?zB));case zA=>exact H.out
   unfold bh;go_wp2_with fail;refine Q.out.mono ?_;rintro e ap⟨p,q,rfl,f3,m⟩;rcases m with⟨_,rfl,F,rfl,C⟩|⟨⟨x,O,D⟩,_⟩
   ·have X:=af (o.out.trans f3);have ah:Hid (fD ap F (fS (L.take (j+1)) E)):=by rw[Hid,ab.out];exact C
    clear f3 C Q ao;go_wp2;go_roundw;case rel=>exact⟨j+1,F,by omega,rfl,by go_num,ah.out,X.out⟩
    case measure=>simp[intOf];omega
   ·rw[J.out x O]at D;cases D
  ·obtain rfl:j=k:=by have:=aa.out;omega
   have t0:decide ((j:Int)<(j:Int))=false:=cN (by omega);go_wp2;go_ret;exact⟨s,rfl,R.out,t.out.trans o.out⟩
end Go.Proofs.YtphjagkehiklkaaGreatDoor
namespace Go.Proofs.YtphjagkehiklkaaGreatDoor
open Go.RowKit
def mN(late:Nat→Bool)(T:Nat→Prop)(w:World):Nat→List (Value→World→Prop)→Prop
 |_,[]=>True
 |i,p::r=>(∀v w' a,Fr T w w'→Fr (if late i=true then ag else T) w' a→p v w'→p v a)∧mN late T w (i+1) r
theorem mN.at_{late:Nat→Bool}{T:Nat→Prop}{w:World}:∀{b:List (Value→World→Prop)}{i:Nat},mN late T w i b→∀j v w' a,Fr T w w'→Fr (if late (i+j)=true then ag else T) w' a→bZ b j v w'→bZ b j v a
 |[],_,_,_,_,_,_,_,_,_=>trivial
 |p::r,i,h,0,v,w',a,c,d,e=>h.1 v w' a c d e
 |p::r,i,h,j+1,v,w',a,c,d,e=>mN.at_ h.2 j v w' a c (by rw[show i+1+j=i+(j+1)by omega];exact d) e
def Cu(late:Nat→Bool)(ws:List (Nat×(World→Prop)))(B:Nat→Nat→Bool)(n:Nat):Bool:=(List.range n).all fun k=>!late k||(ws.map (·.1)).all fun p=>p==k||B p k
theorem Gq{late:Nat→Bool}{ws:List (Nat×(World→Prop))}{B:Nat→Nat→Bool}{n k i:Nat}(h:Cu late ws B n=true)(d:k<n)(e:late k=true)(hw:ej ws i=true)(a:i≠k):B i k=true:=by
 have b:=List.all_eq_true.1 h k (List.mem_range.2 d);rw[e,Bool.not_true,Bool.false_or]at b;simp only[ej,List.any_eq_true,beq_iff_eq]at hw;obtain⟨p,f,rfl⟩:=hw;have c:=List.all_eq_true.1 b p f;simp only[Bool.or_eq_true,beq_iff_eq]at c;exact c.resolve_left a
theorem K6{P:Program}{ops:Array Oper}{Q:Exit→Act→World→Prop}{T:Nat→Prop}{w:World}{a:Act}{ab:List (Value→World→Prop)}{ws:List (Nat×(World→Prop))}{C:World→Prop}{B:Nat→Nat→Bool}{n:Nat}(ok:pV ops n)(ac:fM ops n B=true)
  (J:(gK B (ws.map (·.1))&&(ws.map (·.1)).all (fun p=>decide (p<n)))=true)
  (late:Nat→Bool)(ao:Cu late ws B n=true)(av:mN late T w 0 ab)(aw:iV T w ws)(ar:∀w' l,Fr T w w'→Fr ag w' l→C w'→C l)
  (aC:ib P ops Q T w (fun u=>au ((ops.toList.take n).map (·.dst)) 0 u a) (bZ ab) ws C B n 0 (ops.toList.take n))
  (aF:∀u w',Fr T w w'→(∀j,j<n→bZ ab j (u j) w')→lH ws C w'→wpList P ops Q (ops.toList.drop n) (au ((ops.toList.take n).map (·.dst)) 0 u a) w'):
  ∀(f:Nat)(listed:Array Bool)(u:Nat→Value)(w':World),HeadInv .any ops n listed→ck (fun j=>!listed.getD j false) n=f→Fr T w w'→dn ws C (fun j=>listed.getD j false) w'→
   (∀j,j<n→listed.getD j false=true→bZ ab j (u j) w')→wpAny P .any ops Q (f+(ops.size-n)) listed (au ((ops.toList.take n).map (·.dst)) 0 u a) w':=by
 rw[Bool.and_eq_true]at J;have X:∀x∈ws,x.1<n:=fun x I=>by simpa using List.all_eq_true.1 J.2 x.1 (List.mem_map.2 ⟨x,I,rfl⟩)
 intro f;induction f with
 |zero=>
  intro listed u w' inv az N R S;have s:∀j,j<n→listed.getD j false=true:=fun j F=>by simpa using kQ _ n az j F
  have he:listed=Array.replicate n true++Array.replicate (ops.size-n) false:=by
   apply Array.ext;·rw[inv.size];have:=ok.le;simp;omega
   ·intro i ad aJ;rcases Nat.lt_or_ge i n with D|D;·have:=s i D;rw[Array.getElem_append_left (by simpa using D)];simpa[ad]using this
    ·have:=inv.tail i D (by rw[←inv.size];exact ad);rw[Array.getElem_append_right (by simpa using D)];simpa[ad]using this
  rw[nQ ws C _ (fun x I=>s x.1 (X x I))]at R;subst he;have U:(ops.toList.drop n).length=ops.size-n:=by simp
  have:=wpAny_of_seq (P:=P) (md:= .any) (ops:=ops) (Q':=Q) (ops.toList.drop n) n _ (au ((ops.toList.take n).map (·.dst)) 0 u a) w' (fun j=>by simp[List.getElem?_drop]) (by rw[U];exact ok.seq) (aF u w' N (fun j F=>S j F (s j F)) R);rw[U]at this;rwa[Nat.zero_add]
 |succ f aG=>
  intro listed u w' inv az N R S;obtain⟨j,F,ax,L⟩:=mf (fun j=>!listed.getD j false) n (by omega);have K:j<ops.size:=by have:=ok.le;omega
  have H:listed.getD j true=false:=getD_in (by rw[inv.size];exact K) (by simpa using ax);have W:j∈Region.ready .any ops listed:=by
   refine mem_ready.2 ⟨H,ops[j],Array.getElem?_eq_getElem K,fun e he c=>?_⟩;have:=ok.each j _ F (Array.getElem?_eq_getElem K) e he c;simpa using L e.on this
  rw[show f+1+(ops.size-n)=(f+(ops.size-n))+1 by omega];refine⟨fun aA=>(by rw[aA]at W;cases W),fun i D=>?_⟩;obtain⟨an,o,Y,aa⟩:=mem_ready.1 D;have am:i<ops.size:=(Array.getElem?_eq_some_iff.1 Y).1;have m:i<n:=by
   rcases ok.tail with h|⟨aE,aj⟩;·omega
   ·rcases Nat.lt_or_ge i n with h|h;·exact h
    ·exact absurd D (tail_waits aE aj (by omega) inv (n-j) j rfl F H i h)
  have E:listed.getD i false=false:=getD_both an;have Z:(ops.toList.take n)[i]? =some o:=by rw[List.getElem?_take,if_pos m];simpa using Y
  have b:∀k,Region.waitsFor .any ops i k=true→k<i∧listed.getD k false=true:=by
   intro k t;obtain⟨aH,ap,e,he,c,aq⟩:=Region.waitsFor_spec t;have:aH=o:=Option.some.inj (ap.symm.trans Y);subst this;subst aq;exact⟨ok.each i _ m Y e he c,aa e he c⟩
  have d:∀p,p<n→B p i=true→listed.getD p false=true:=by
   intro p A c;have h:=List.all_eq_true.1 (List.all_eq_true.1 ac i (List.mem_range.2 m)) p (List.mem_range.2 A);simp only[c,Bool.not_true,Bool.false_or,Bool.or_eq_true,List.any_eq_true,Bool.and_eq_true,List.mem_range]at h;rcases h with h|⟨k,t,hw,ah⟩;·exact(b p h).2
   ·exact iw ac inv k (by omega) (b k hw).2 p A ah
  have g:∀p,(p==i||B i p)=true→listed.getD p false=false:=by
   intro p A;simp only[Bool.or_eq_true,beq_iff_eq]at A;rcases A with rfl|c;·exact E
   ·rcases Nat.lt_or_ge p n with M|M
    ·cases O:listed.getD p false;·rfl
     ·have:=iw ac inv p M O i m c;rw[E]at this;cases this
    ·rcases Nat.lt_or_ge p ops.size with ay|ay;·exact getD_both (inv.tail p M ay)
     ·have:¬p<listed.size:=by rw[inv.size];omega
      simp[this]
  have hw:=aC.at_ i o Z u w' (fun j=>listed.getD j false) N (fun k t=>by
   rw[Nat.zero_add]at t;exact S k (by have:=(b k t).1;omega) (b k t).2) (fun p A c=>by rw[Nat.zero_add]at c;exact d p A c) (fun p A=>by rw[Nat.zero_add]at A;exact g p A) R;rw[Nat.zero_add]at hw;refine nU Y (fJ (fun aI l aB=>?_) hw);obtain⟨v,rfl,hf',af,ae⟩:=aB;have V:Fr T w' l:=by
   unfold gU at hf';split at hf';·exact hf'
   ·exact hf'.bI
  rw[lN _ 0 i u a o.dst v ok.nodup (by rw[List.getElem?_map,Z];rfl),Nat.zero_add];have G:(listed.setIfInBounds i true).getD i false=true:=by
   have al:i<listed.size:=by rw[inv.size];exact am
   simp[al]
  refine aG (listed.setIfInBounds i true) (dI u i v) l (inv.set D m) ?_ (N.trans V) ?_ (fun k t O=>?_);·have:=kP (fun j=>!listed.getD j false) (fun j=>!(listed.setIfInBounds i true).getD j false) i (by simp only[E];rfl) (by simp only[G];rfl) (fun j F=>by simp only[getD_set_ne false (Ne.symm F)]) n m;omega
  ·cases r:ej ws i
   ·have ak:Fr ag w' l:=by simpa[gU,r]using hf'
    have ai:=kT ws C (fun j=>(listed.setIfInBounds i true).getD j false) (fun j=>listed.getD j false) (fun x I=>by
     have:i≠x.1:=by
      rintro rfl;have:ej ws x.1=true:=by
       simp only[ej,List.any_eq_true,beq_iff_eq];exact⟨x.1,List.mem_map.2 ⟨x,I,rfl⟩,rfl⟩
      rw[r]at this;cases this
     simp only[getD_set_ne false this]);rw[ai];exact j7 N ak ws C _ aw ar R
   ·exact kU B i (fun j=>listed.getD j false) _ l G (fun q aD=>by simp only[getD_set_ne false (Ne.symm aD)]) ws C J.1 r (fun x I c=>d x.1 (X x I) c) (fun x I c=>g x.1 (by rw[c,Bool.or_true])) ae
  ·by_cases e:k=i;·subst e;simp only[dI,if_true];exact af
   ·simp only[dI];rw[if_neg e];rw[getD_set_ne false (fun h=>e h.symm)]at O;have z:=av.at_ k (u k) w' l N;rw[Nat.zero_add]at z;cases y:late k;·rw[y]at z;exact z V (S k t O)
    ·rw[y]at z;cases r:ej ws i;·exact z (by simpa[gU,r]using hf') (S k t O)
     ·have c:=Gq ao t y r (fun h=>e h.symm);have:=iw ac inv k t O i m c;rw[E]at this;cases this
theorem wU{P:Program}{id:Nat}{Q:Exit→Act→World→Prop}{a:Act}{w:World}{l:List Oper}(n:Nat)(T:Nat→Prop)(f:List (Value→World→Prop))(ws:List (Nat×(World→Prop)))(b:World→Prop)(B:Nat→Nat→Bool)(hm:P.follows .mixedOrders=true)(A:oI l.toArray n=true)
  (y:fM l.toArray n B=true)(g:(gK B (ws.map (·.1))&&(ws.map (·.1)).all (fun p=>decide (p<n)))=true)
  (late:Nat→Bool)(i:Cu late ws B n=true)(o:mN late T w 0 f)(q:iV T w ws)(k:∀w' e,Fr T w w'→Fr ag w' e→b w'→b e)(v:b w.drew)
  (C:ib P l.toArray Q T w (fun u=>au ((l.take n).map (·.dst)) 0 u a) (bZ f) ws b B n 0 (l.take n))
  (r:∀u w',Fr T w w'→(∀j,j<n→bZ f j (u j) w')→lH ws b w'→wpList P l.toArray Q (l.drop n) (au ((l.take n).map (·.dst)) 0 u a) w'):(Code.region id l.toArray true).wp P Q a w:=by
 have ok:=pV.of A;obtain⟨E,s⟩:=gF ((l.take n).map (·.dst)) 0 a;refine wp_region_any hm ?_;have d:HeadInv .any l.toArray n (Array.replicate l.toArray.size false):=
  ⟨by simp,fun j G _ c=>(by rw[getD_replicate_false]at c;cases c),fun t _ r=>getD_in (by simpa using r) (getD_replicate_false _ _)⟩;have z:ck (fun j=>!(Array.replicate l.toArray.size false).getD j false) n=n:=by
  have h:∀m,ck (fun j=>!(Array.replicate l.toArray.size false).getD j false) m=m:=by
   intro m;induction m with
   |zero=>rfl
   |succ m D=>rw[ck,D,getD_replicate_false];rfl
  exact h n
 have:=K6 (P:=P) (Q:=Q) (a:=a) ok y g late i o q k (by simpa using C) (by simpa using r) n _ E w.drew d z (aA.drew) (by rw[kj ws b _ (fun x _=>getD_replicate_false _ _)];exact v) (fun j F c=>by rw[getD_replicate_false]at c;cases c);rw[show(l.toArray.toList.take n).map (·.dst)=(l.take n).map (·.dst)by simp,s,show n+(l.toArray.size-n)=l.toArray.size by have:=ok.le;omega]at this;exact this
end Go.Proofs.YtphjagkehiklkaaGreatDoor
namespace Go.Proofs.YtphjagkehiklkaaGreatDoor
open Go.RowKit Go.Shelf
def Eb(w:World)(E:List Ent)(e:Ending)(w':World):Prop:=∃h T,e= .returned (.tuple #[.pointer (some ⟨h,0,none⟩), .int .i64 0])∧fY w' h E [] T∧Fr ag w w'∧∀k,T k→w.heap.size≤k
theorem GV{w:World}{p:Nat}(h:ao w p 180 #[.slice none 0 0, .map none]):Lt.eL w p none 0 0 none [] (Lt.bC 0):=
 ⟨h,⟨rfl, .inl ⟨rfl,rfl⟩⟩,rfl,(fun _ b=>by cases b), .inr ⟨rfl,fun l i a=>by
  have c:=a.2;have:1≤(i+1)*2^l:=Nat.mul_pos (by omega) (Nat.two_pow_pos l);omega⟩⟩
theorem wW(E:List Ent)(b:Nat)(w:World)(ad:fD w b E)(aY:eG w)(z:bH w)(aW:cY 24 E):
  Calls Tryz.prog 29 #[.pointer (some ⟨b,0,none⟩)] w (Eb w E):=by
 have aE:=af ad;have be:=af z;have L:Hid (∀w',Fr ag w w'→Calls Tryz.prog 75 #[.pointer (some ⟨b,0,none⟩)] w' (aK w' (aP (dt (fE E))))):=fun w' f=>EU E b w' (ad.aq f) (aY.aq f) (z.aq f) aW;have a:=eZ (fE E);have c:=af a;have CL:Hid (∀w',Fr ag w w'→Calls Tryz.prog 76 #[.string ({data:=#[0]}++⟨(dt (fE E)).toArray⟩)] w' (aK w' (aP (nH E)))):=fun w' f=>by
  have aV:dG ({data:=#[0]}++⟨(dt (fE E)).toArray⟩)=0::dt (fE E):=by
   have h:aJ ({data:=#[0]}++⟨(dt (fE E)).toArray⟩)=aJ ⟨#[0]⟩++aJ ⟨(dt (fE E)).toArray⟩:=so _ _;have a8:aJ ⟨(dt (fE E)).toArray⟩=dt (fE E):=sq _;rw[a8]at h;exact h
  have h:=Lt.rJ ({data:=#[0]}++⟨(dt (fE E)).toArray⟩) w' (z.aq f) (by
   have:=cW ({data:=#[0]}++⟨(dt (fE E)).toArray⟩);rw[aV,List.length_cons,a]at this;omega);rw[aV]at h;exact h
 have a4:Hid (Lt.cX ((nH E).map aT).toArray):=Lt.cX.of (qf E);have l:Hid (Lt.cX ((dt (fE E)).map aT).toArray):=Lt.cX.of a;have ar:Hid (∀p w',w.heap.size≤p→Lt.eL w' p none 0 0 none [] (Lt.bC 0)→Fr ag w w'→Calls Tryz.prog 84 #[.pointer (some ⟨p,0,none⟩),aP (nH E)] w' (Lt.mK w' p none 0 0 none [] (nH E))):=fun p w' ah aj f=>
  Lt.sB p none 0 0 none [] (nH E) w' aj (qf E) (by omega) (z.aq f) (fun k B aj=>by
   have ba:k<w.heap.size:=by first|(rcases B with rfl|rfl;exact z.Gr;exact z.Gs)
   rcases aj with rfl|h|h;·omega
   ·cases h
   ·simp[Value.ownBlock]at h);have W:Hid (dq E []=[nH E]):=rfl;have aO:Hid (∀j v,((dt (fE E)).map bv)[j]? =some v→(((dt (fE E)).map aT).toArray)[j]? =some v):=fun j v h=>by rw[bD];exact h
 obtain⟨dl,I⟩:∃dl,dt (fE E)=dl:=⟨_,rfl⟩;rw[I]at L c CL l aO;obtain⟨xs,n⟩:∃x:ByteArray,x=⟨dl.toArray⟩:=⟨_,rfl⟩;have aa:=af n;rw[←n]at CL;have ab:Hid (xs.size=32):=by rw[Hid,n];simp only[ByteArray.size,List.size_toArray];exact c.out
 generalize nH E=bc at*;unfold aP at L CL;generalize G:(dl.map aT).toArray=a6 at*;have a5:=af G;generalize H:(bc.map aT).toArray=a7 at*;have Y:=af H;clear ad aY z aW I n a G H;go_enter Tryz.func29,Tryz.ntmps29;go_wp2_with fail;refine(Lt.qG _).mono ?_;rintro e w1⟨rfl,m⟩;have t:Hid (ao w1 w.heap.size 180 #[.slice none 0 0, .map none]):=by rw[m];exact ao.new _ _ _
 have az:Hid (Fr ag w w1):=by rw[m];exact aA.alloc _
 have s:Hid (w1.heap.size=w.heap.size+1):=by rw[m];simp[Hid]
 clear m;have X:Hid (w.heap.size≤w.heap.size):=Nat.le_refl _;generalize ah:w.heap.size=p at t s⊢;have N:=af ah;clear ah X;go_wp2_with(refine ay rfl 111 (.tmp 12) rfl #[.pointer (some ⟨b,0,none⟩), .slice none 0 0, .slice none 0 0, .pointer (some ⟨b,0,none⟩), .pointer (some ⟨p,0,none⟩)] rfl ?_);intro w2 a0;have O:=af a0;clear a0;generalize aZ:w1.heap.size=h at*;have an:Hid (ao w2 h 111 #[.pointer (some ⟨b,0,none⟩), .slice none 0 0, .slice none 0 0, .pointer (some ⟨b,0,none⟩), .pointer (some ⟨p,0,none⟩)]):=by have q:=O.out.aF;rw[aZ]at q;exact q
 have aH:Hid (p<h):=by have:=s.out;simp only[Hid];omega
 clear aZ;have R:=af (az.out.trans O.out.fr);have aL:=af (t.out.fr O.out.fr (fun x=>x));clear O az t s;go_wp2_with fail;refine(L.out _ R.out).mono ?_;rintro e bd⟨rfl,f3⟩;have S:=af (R.out.trans f3);have P:=af (an.out.fr f3 (fun x=>x));have ac:=af (aL.out.fr f3 (fun x=>x));clear f3 L R an aL;go_wp2_with(refine ak rfl 37 rfl aR Kv aD rfl ?_);intro a1 n4;have F:=af n4;clear n4;generalize J:bd.heap.size=g5 at*;have av:Hid (ao a1 g5 37 aD):=by have q:=F.out.aF;rw[J]at q;exact q
 have r:Hid (w.heap.size≤g5∧p<g5∧h<g5):=by have:=S.out.size;have:=P.out.lt;have:=ac.out.lt;simp only[Hid];omega
 clear J;go_wp2_with(refine ai rfl 37 (.tmp 5) _ rfl g5 a6 rfl rfl _ _ av.out l.out.KW l.out.zero l.out.one ?_);intro al b5 f5;have ax:=af b5;have Q:=af ((P.out.fr F.out.fr (fun x=>x)).fr f5 (fun e=>by have aU:h=g5:=e;have:=r.out;omega));have aM:=af ((ac.out.fr F.out.fr (fun x=>x)).fr f5 (fun e=>by have aU:p=g5:=e;have:=r.out;omega));have T:Hid (Fr ag w al):=(S.out.trans F.out.fr).aw f5 (fun i a9 e=>by have aU:i=g5:=e;have:=r.out;omega);clear b5 f5 F av S P ac;have aS:Hid (∀w',Fr ag al w'→w'.cell? {block:=h,off:=4}=some (.pointer (some ⟨p,0,none⟩))):=fun w' f=>(Q.out.fr f (fun x=>x)).cell 4;have aI:Hid (∀w',Fr ag al w'→Rd w' (fun _=>True) 1 (some ⟨g5,0,none⟩) 32 (dl.map bv)):=fun w' f=>⟨by rw[List.length_map,c.out],fun _=>⟨_,rfl,trivial,fun j v bb=>by
  rw[Addr.add_mid,Nat.zero_add,(ax.out.fr f (fun x=>x)).cell j];exact aO.out j v bb⟩⟩;go_upto_region 5 with fail;refine iU 8 [.pointer (some ⟨h,0,none⟩), .pointer (some ⟨h,0,none⟩), .pointer (some ⟨h,4,none⟩), .pointer (some ⟨p,0,none⟩), .slice (some ⟨g5,0,none⟩) 32 32, .string xs, .string ({data:=#[0]}++xs), .agg a7] ?zA ?_;case zA=>
  refine⟨?zH,?zB,?zC,?zD,?zI,?zE,?zF,?zG,trivial⟩;all_goals intro u w' o C
  all_goals simp only[z1,z2,z3,z4,au,Act.put,z5,z6,z7,Nat.reduceAdd,Nat.zero_add]
  case' zB=>simp only[show u 0=_ from C 0]
  case' zC=>simp only[show u 1=_ from C 1]
  case zD=>
   simp only[show u 2=_ from C 2];refine aC ?_;have q:=aS.out _ o;go_simp;exact aG
  case zE=>
   simp only[show u 4=_ from C 4];refine aC ?_;have ae:=mW w' _ _ 32 32 _ (aI.out _ o);rw[←aa.out]at ae;go_simp;exact aG
  case zF=>
   simp only[show u 5=_ from C 5];refine aC ?_;have y:¬9223372036854775807<1+xs.size:=by have:=ab.out;omega
   go_simp;exact aG
  case zG=>
   simp only[show u 6=_ from C 6];refine aC ?_;go_simp;refine(CL.out _ (T.out.trans o)).mono ?_;rintro e a1⟨rfl,f4⟩;exact⟨rfl,f4⟩
  all_goals
   refine aC ?_;go_simp;exact aG
 intro w' o;simp only[z1,z2,z3,z4,au,Act.put,z5,z6,z7,z8,z9,iO,iP,Nat.reduceAdd,Nat.zero_add];have M:=af (T.out.trans o);have ap:=af (Q.out.fr o (fun x=>x));have aN:=af (aM.out.fr o (fun x=>x));have U:=af (aE.out.aq M.out);clear o T Q aM aS aI CL ax;have g:=af (ar.out p _ (by have:=N.out;omega) (GV aN.out) M.out);unfold aP at g;rw[Y.out]at g;go_wp2_with fail;refine g.out.mono ?_;rintro e a2⟨rfl,am,aQ,K,aX,A,d⟩;have aB:Hid (Fr ag w a2):=M.out.aw A (fun i a9 e=>by
  have:=N.out;rcases e with e|e|e;·omega
  ·cases e
  ·simp[Value.ownBlock]at e);have a3:=af (ap.out.fr A (fun e=>by
  have:=aH.out;rcases e with e|e|e;·omega
  ·cases e
  ·simp[Value.ownBlock]at e));have Z:=af aX;have V:Hid (∀k,Lt.TB p am (0+1) aQ K k→w.heap.size≤k):=fun k B=>by
  have:=N.out;rcases d k B with h|h
  ·rcases h with h|h|h;·omega
   ·cases h
   ·simp[Value.ownBlock]at h
  ·have:=M.out.size;omega
 have D:Hid (fD a2 b E):=aE.out.aq aB.out;clear aX A d g ar ap aN U;go_wp2;go_ret2;refine⟨h,_,rfl,⟨b,b,p, .slice none 0 0, .slice none 0 0,[],am,aQ,K,⟨a3.out,D.out,kx.nil _,⟨rfl, .inl ⟨rfl,rfl⟩⟩,rfl,(fun i k B=>by simp at B),D.out,?_⟩,rfl⟩,aB.out,fun k B=>?_⟩;·rw[W.out];exact Z.out
 ·rcases B with y|y|y|y;·have:=aH.out;have:=N.out;omega
  ·simp[Value.ownBlock]at y
  ·simp[Value.ownBlock]at y
  ·exact V.out k y
theorem qv{P:Program}{ops:Array Oper}{rest:List Oper}{b c:Oper}{a:Act}{w:World}{Q:Exit→Act→World→Prop}(j:b.guard=none)(k:c.guard=none)(t:TypeId)(d:Tmp)(l:b.op= .alloc t)(v:b.dst=some d)(y:Operand)(m:c.op= .store t (.tmp d) y)
  (z:Value)(s:∀w,(zeroValue t).run P w= .ok z w)(f:Array Value)(n:z.cells=f)(cells:Array Value)
  (q:∀g,(a.put b.dst (.pointer (some ⟨g,0,none⟩))).eval (.tmp d)= .pointer (some ⟨g,0,none⟩))(r:∀g,(a.put b.dst (.pointer (some ⟨g,0,none⟩))).eval y= .agg cells)
  (o:(P.info? t).map (·.size)=some cells.size)(hold:f.size=cells.size)(p:cells.all (·.oneCell')=true)
  (h:∀w' g,w.heap.size≤g→g<w'.heap.size→ao w' g t cells→Fr ag w w'→wpList P ops Q rest ((a.put b.dst (.pointer (some ⟨g,0,none⟩))).put c.dst undef) w'):wpList P ops Q (b::c::rest) a w:=by
 refine ak j t l z s f n fun w1 n1=>?_;refine ai k t (.tmp d) y m w.heap.size cells (q _) (r _) t f n1.aF o hold p fun w2 b2 f2=>?_;exact h w2 w.heap.size (Nat.le_refl _) b2.lt b2 (n1.fr.aw f2 (fun i o e=>by have u:i=w.heap.size:=e;omega))
theorem Ba{P:Program}{ops:Array Oper}{rest:List Oper}{b F c:Oper}{a:Act}{w:World}{Q:Exit→Act→World→Prop}(j:b.guard=none)(r:F.guard=none)(k:c.guard=none)(t:TypeId)(d:Tmp)(l:b.op= .alloc t)(E:b.dst=some d)(x:Operand)(s:F.op= .assign x)(y:Operand)(m:c.op= .store t (.tmp d) y)
  (z:Value)(C:∀w,(zeroValue t).run P w= .ok z w)(f:Array Value)(n:z.cells=f)(v:Value)(cells:Array Value)
  (u:∀g,(a.put b.dst (.pointer (some ⟨g,0,none⟩))).eval x=v)
  (A:∀g,((a.put b.dst (.pointer (some ⟨g,0,none⟩))).put F.dst v).eval (.tmp d)= .pointer (some ⟨g,0,none⟩))(B:∀g,((a.put b.dst (.pointer (some ⟨g,0,none⟩))).put F.dst v).eval y= .agg cells)
  (o:(P.info? t).map (·.size)=some cells.size)(hold:f.size=cells.size)(p:cells.all (·.oneCell')=true)
  (h:∀w' g,w.heap.size≤g→g<w'.heap.size→ao w' g t cells→Fr ag w w'→wpList P ops Q rest (((a.put b.dst (.pointer (some ⟨g,0,none⟩))).put F.dst v).put c.dst undef) w'):wpList P ops Q (b::F::c::rest) a w:=by
 refine ak j t l z C f n fun w1 n1=>?_;refine wpList_plain r fun K q=>?_;unfold Oper.wp execOp;simp only[s,Sem.run_pure,u];refine q _ _ ?_;refine ai k t (.tmp d) y m w.heap.size cells (A _) (B _) t f n1.aF o hold p fun w2 b2 f2=>?_;exact h w2 w.heap.size (Nat.le_refl _) b2.lt b2 (n1.fr.aw f2 (fun i o e=>by have D:i=w.heap.size:=e;omega))
structure Lv(w wr:World)(g n k:Nat)(L:List ActV):Prop where
 fr:Fr ag w wr
 lt:w.heap.size≤g
 row:∃(cs:List (List Value))(Z:List Value),ao wr g 46 (cs.flatten++Z).toArray∧cs.flatten.length=k*6∧Z.length=(n-k)*6∧eo wr cs (L.take k)
end Go.Proofs.YtphjagkehiklkaaGreatDoor
