/- Texts. -/
import Derived.Test.YtphjagkehiklkaaGreatDoorWK31
set_option linter.unusedVariables false
set_option linter.unusedSimpArgs false
set_option maxRecDepth 100000
set_option maxHeartbeats 2000000
namespace Go.Proofs.YtphjagkehiklkaaGreatDoor.Lt
open Go.RowKit
theorem aT{P:Program}{ops:Array Oper}{rest:List Oper}{u:Oper}{a:Act}{w:World}{Q:Exit→Act→World→Prop}(j:u.guard=none)(ty:TypeId)(x y:Operand)(p:u.op= .store ty x y)
  (g f:Nat)(v:Value)(r:a.eval x= .pointer (some ⟨g,f,none⟩))(s:a.eval y=v)(m:v.oneCell'=true)(d:(P.info? ty).map (·.size)=some 1)
  (t:TypeId)(cs cs':Array Value)(e:aq w g t cs)(o:f<cs.size)(i:cs.setIfInBounds f v=cs')
  (h:∀w',aq w' g t cs'→Fr (fun k=>k=g) w w'→wpList P ops Q rest (a.put u.dst undef) w'):wpList P ops Q (u::rest) a w:=by
 subst i;obtain⟨b,l,q⟩:∃b,P.info? ty=some b∧b.size=1:=by
  cases he:P.info? ty with
  |none=>rw[he]at d;cases d
  |some b=>rw[he]at d;exact⟨b,rfl,by simpa using d⟩
 have c:=Lib.rl_storeVar_one (P:=P) ty b l q ⟨g,f,none⟩ v (cs[f]) m w (by rw[e.cell];simp[o]) (e.frozen _);refine wpList_plain j fun K n=>?_;unfold Oper.wp execOp;simp only[p,r,s,Instr.storeAt,Instr.sureAddr,Sem.run_bind,Sem.run_pure,Result.andThen_ok,c];exact n _ _ (h _ (e.jC f v) (Fr.setCell (T:=fun k=>k=g) (Fr.refl _ w) (fun _=>rfl) v))
theorem th:(Tryz.prog.info? 31).map (·.size)=some 1:=by kernel_rfl
theorem IY:(Tryz.prog.info? 178).map (·.size)=some 1:=by kernel_rfl
theorem cm:(Tryz.prog.info? 212).map (·.size)=some 2:=by kernel_rfl
def TB(p:Nat)(A:Option Addr)(n c:Nat)(mb:Option Nat)(k:Nat):Prop:=k=p∨mb=some k∨(Value.slice A n c).ownBlock=some k
theorem eD.nL{w:World}{b g:Nat}{ds:List (List UInt8)}{C:Nat→Nat→Prop}{t:TypeId}{cs:Array Value}(h:eD w b ds C)(a:aq w g t cs):b≠g:=by
 rintro rfl;obtain⟨es,clock,c,_⟩:=h;unfold aq at a;rw[c]at a;cases a
theorem eD.yd{w:World}{b base n:Nat}{ds:List (List UInt8)}{C:Nat→Nat→Prop}{e:TypeId}{size:Nat}{v:Value}{xs:List Value}(h:eD w b ds C)(g:w.ownsRow base e size v n xs):v.ownBlock≠some b:=by
 intro f;obtain⟨es,clock,c,_⟩:=h;obtain⟨i,a,d⟩:=cX g f;rw[c]at a;cases a;cases d
structure mw(w W:World)(p b g5:Nat)(v:Value)(ds:List (List UInt8))(n:Nat)(C:Nat→Nat→Prop)(lv idx:Nat)(T:Nat→Prop):Prop where
 fr:Fr T w W
 aH:aq W p 180 #[v, .map (some b)]
 row:W.ownsRow 0 38 32 v n (ds.flatMap ao)
 map:eD W b ds C
 cI:aq W g5 212 #[.int .i64 lv, .int .i64 idx]
section
variable{w W W':World}{p b g5 n lv idx:Nat}{v:Value}{ds:List (List UInt8)}{C C':Nat→Nat→Prop}{T:Nat→Prop}
theorem mw.IK(h:mw w W p b g5 v ds n C lv idx T):Fr T w W:=h.fr
theorem mw.later(h:mw w W p b g5 v ds n C lv idx T)(a:Fr ag W W'):mw w W' p b g5 v ds n C lv idx T:=
 ⟨h.fr.trans a.bP,h.aH.fr a (fun x=>x),aQ h.row a (fun _ _ x=>x),h.map.fr a (fun x=>x),h.cI.fr a (fun x=>x)⟩
theorem mw.DI{d a:Nat}(h:mw w W p b g5 v ds n C lv idx T)(f:Fr (fun k=>k=g5) W W')(g:aq W' g5 212 #[.int .i64 d, .int .i64 a])(l:w.heap.size≤g5):mw w W' p b g5 v ds n C d a T:=
  ⟨h.fr.aw f (fun i m e=>by have c:i=g5:=e;omega),h.aH.fr f (fun e=>by have c:p=g5:=e;exact aq.qf h.aH h.cI (by decide) c),
   aQ h.row f (fun k j e=>by have c:k=g5:=e;exact bG h.row h.cI (by decide) (by rw[←c];exact j)),
   h.map.fr f (fun e=>by have c:b=g5:=e;exact h.map.nL h.cI c),g⟩
theorem mw.DJ(h:mw w W p b g5 v ds n C lv idx T)(c:Fr (fun k=>k=b) W W')(f:eD W' b ds C')(g:b<w.heap.size→T b):mw w W' p b g5 v ds n C' lv idx T:=
  ⟨h.fr.aw c (fun i d e=>by have a:i=b:=e;rw[a]at d⊢;exact g d),h.aH.fr c (fun e=>by have a:p=b:=e;exact h.map.nL h.aH a.symm),
   aQ h.row c (fun k j e=>by have a:k=b:=e;exact h.map.yd h.row (by rw[←a];exact j)),f,h.cI.fr c (fun e=>by have a:g5=b:=e;exact h.map.nL h.cI a.symm)⟩
theorem mw.tree{A:Option Addr}{m c:Nat}(h:mw w W p b g5 (.slice A m c) ds m C lv idx T)(a:ds.length=m∧∀d∈ds,d.length=32):ec W p A m c (some b) ds C:=
 ⟨h.aH,h.row,a.1,a.2, .inl ⟨b,rfl,h.map⟩⟩
end
theorem ec.congr{w:World}{p:Nat}{A:Option Addr}{n c:Nat}{mb:Option Nat}{ds:List (List UInt8)}{C C':Nat→Nat→Prop}(h:ec w p A n c mb ds C)(a:∀l i,C l i↔C' l i):ec w p A n c mb ds C':=
 ⟨h.aH,h.row,h.len,h.each,by
  rcases h.parts with⟨b,f,j⟩|⟨d,e⟩;·exact .inl ⟨b,f,j.congr a⟩
  ·exact .inr ⟨d,fun l i g=>e l i ((a l i).2 g)⟩⟩
def mE(w:World)(p:Nat)(A:Option Addr)(n c:Nat)(mb:Option Nat)(ds:List (List UInt8))(d:List UInt8)(e:Ending)(w':World):Prop:=
 e= .returned (.int .i64 0)∧∃b f a,ec w' p b (n+1) f a (ds++[d]) (bF (n+1))∧Fr (TB p A n c mb) w w'∧∀k,TB p b (n+1) f a k→TB p A n c mb k∨w.heap.size≤k
end Go.Proofs.YtphjagkehiklkaaGreatDoor.Lt
namespace Go.Proofs.YtphjagkehiklkaaGreatDoor
open Go.RowKit Go.Shelf
def dV(l:List UInt8):List UInt8:=Lt.rK (1::l)
def nI(E:List Ent):List UInt8:=Lt.rK (0::eF (fw E))
def cj(E:List Ent)(L:List ActV):List (List UInt8):=nI E::L.map (fun a=>dV (dk a))
theorem jL(l:List UInt8):(dV l).length=32:=Lt.mB _
theorem qe(E:List Ent):(nI E).length=32:=Lt.mB _
theorem gj(E:List Ent)(L:List ActV):(cj E L).length=L.length+1:=by simp[cj]
theorem BM(E:List Ent)(L:List ActV)(a:ActV):cj E (L++[a])=cj E L++[dV (dk a)]:=by simp[cj]
theorem nJ(E:List Ent)(L:List ActV)(n:Nat):(cj E L).take (n+1)=cj E (L.take n):=by simp[cj,List.map_take]
theorem jM(E:List Ent)(L:List ActV):∀d∈cj E L,d.length=32:=fun d b=>by
 rcases List.mem_cons.1 b with rfl|b;·exact qe E
 ·obtain⟨a,_,rfl⟩:=List.mem_map.1 b;exact jL _
def HB(h:Nat)(va vk:Value)(g:Nat)(A:Option Addr)(n c:Nat)(mb:Option Nat)(k:Nat):Prop:=k=h∨va.ownBlock=some k∨vk.ownBlock=some k∨Lt.TB g A n c mb k
structure dQ(w:World)(h b s g:Nat)(va vk:Value)(K:List Nat)(A:Option Addr)(c:Nat)(mb:Option Nat)(E:List Ent)(La Lk Ll Lg:List ActV):Prop where
 aH:aq w h 111 #[.pointer (some ⟨b,0,none⟩),va,vk, .pointer (some ⟨s,0,none⟩), .pointer (some ⟨g,0,none⟩)]
 base:ft w b E
 kW:ko w va La
 kept:w.ownsRow 0 25 1 vk K.length (K.map fun k=>Value.pointer (some ⟨k,0,none⟩))
 mA:K.length=Lk.length/16
 rJ:∀i k,K[i]? =some k→ft w k (fT (Lk.take (16*(i+1))) E)
 last:ft w s (fT Ll E)
 log:Lt.ec w g A (Lg.length+1) c mb (cj E Lg) (Lt.bF (Lg.length+1))
abbrev JE(w:World)(h b s g:Nat)(va vk:Value)(K:List Nat)(A:Option Addr)(c:Nat)(mb:Option Nat)(E:List Ent)(L:List ActV):Prop:=dQ w h b s g va vk K A c mb E L L L L
def fK(w:World)(h:Nat)(E:List Ent)(L:List ActV)(T:Nat→Prop):Prop:=
 ∃b s g va vk K A c mb,JE w h b s g va vk K A c mb E L∧T=HB h va vk g A (L.length+1) c mb
theorem mg{w:World}{b:Nat}{ds:List (List UInt8)}{C:Nat→Nat→Prop}(h:Lt.eD w b ds C)(t:TypeId):¬Ty w b t:=by
 obtain⟨es,clock,c,_⟩:=h;rintro⟨cs,a⟩;rw[c]at a;cases a
theorem dQ.cN{w:World}{h b s g:Nat}{va vk:Value}{K:List Nat}{A:Option Addr}{c:Nat}{mb:Option Nat}{E:List Ent}{La Lk Ll Lg:List ActV}(d:dQ w h b s g va vk K A c mb E La Lk Ll Lg):fJ w (HB h va vk g A (Lg.length+1) c mb):=by
 obtain⟨cs,e,_⟩:=d.kW;intro k a;rcases a with rfl|a|a|rfl|a|a;·exact⟨fun x=>absurd (x.one d.aH.ty) (by decide),fun x=>absurd (x.one d.aH.ty) (by decide),fun x=>absurd (x.one d.aH.ty) (by decide)⟩
 ·have t:=iZ e a;exact⟨fun x=>absurd (x.one t) (by decide),fun x=>absurd (x.one t) (by decide),fun x=>absurd (x.one t) (by decide)⟩
 ·have t:=iZ d.kept a;exact⟨fun x=>absurd (x.one t) (by decide),fun x=>absurd (x.one t) (by decide),fun x=>absurd (x.one t) (by decide)⟩
 ·have t:=d.log.aH.ty;exact⟨fun x=>absurd (x.one t) (by decide),fun x=>absurd (x.one t) (by decide),fun x=>absurd (x.one t) (by decide)⟩
 ·rcases d.log.parts with⟨f,rfl,hm⟩|⟨rfl,_⟩;·cases a;exact⟨mg hm _,mg hm _,mg hm _⟩
  ·cases a
 ·have t:=iZ d.log.row a;exact⟨fun x=>absurd (x.one t) (by decide),fun x=>absurd (x.one t) (by decide),fun x=>absurd (x.one t) (by decide)⟩
theorem dQ.apart{w:World}{h b s g:Nat}{va vk:Value}{K:List Nat}{A:Option Addr}{c:Nat}{mb:Option Nat}{E:List Ent}{La Lk Ll Lg:List ActV}(a:dQ w h b s g va vk K A c mb E La Lk Ll Lg):
  (va.ownBlock≠some h∧vk.ownBlock≠some h∧¬Lt.TB g A (Lg.length+1) c mb h)∧(∀k,va.ownBlock=some k→vk.ownBlock≠some k∧¬Lt.TB g A (Lg.length+1) c mb k)∧∀k,vk.ownBlock=some k→¬Lt.TB g A (Lg.length+1) c mb k:=by
 obtain⟨cs,i,_⟩:=a.kW;have l:∀k t,Ty w k t→t≠180→t≠38→¬Lt.TB g A (Lg.length+1) c mb k:=fun k t j m n d=>by
  rcases d with rfl|d|d;·exact m (j.one a.log.aH.ty)
  ·rcases a.log.parts with⟨o,rfl,hm⟩|⟨rfl,_⟩;·cases d;exact mg hm _ j
   ·cases d
  ·exact n (j.one (iZ a.log.row d))
 refine⟨⟨bG i a.aH (by decide),bG a.kept a.aH (by decide),l _ _ a.aH.ty (by decide) (by decide)⟩,fun k e=>⟨fun f=>?_,l _ _ (iZ i e) (by decide) (by decide)⟩,fun k e=>l _ _ (iZ a.kept e) (by decide) (by decide)⟩;exact absurd ((iZ i e).one (iZ a.kept f)) (by decide)
theorem jQ{w w':World}{T:Nat→Prop}{p:Nat}{A:Option Addr}{n c:Nat}{mb:Option Nat}{ds:List (List UInt8)}{C:Nat→Nat→Prop}(h:Lt.ec w p A n c mb ds C)(d:Fr T w w')(a:∀k,Lt.TB p A n c mb k→¬T k):Lt.ec w' p A n c mb ds C:=
 ⟨h.aH.fr d (a p (.inl rfl)),aQ h.row d (fun k g=>a k (.inr (.inr g))),h.len,h.each,by
  rcases h.parts with⟨b,e,i⟩|f;·exact .inl ⟨b,e,i.fr d (a b (.inr (.inl e)))⟩
  ·exact .inr f⟩
theorem dQ.jZ{w w':World}{T:Nat→Prop}{h b s g:Nat}{va vk:Value}{K:List Nat}{A:Option Addr}{c:Nat}{mb:Option Nat}{E:List Ent}{La Lk Ll Lg:List ActV}(a:dQ w h b s g va vk K A c mb E La Lk Ll Lg)(d:Fr T w w')(hF:fJ w T)(f:∀k,HB h va vk g A (Lg.length+1) c mb k→¬T k):dQ w' h b s g va vk K A c mb E La Lk Ll Lg:=
  ⟨a.aH.fr d (f h (.inl rfl)),a.base.cN d hF,a.kW.cN d hF (fun k e=>f k (.inr (.inl e))),aQ a.kept d (fun k e=>f k (.inr (.inr (.inl e)))),a.mA,fun i k e=>(a.rJ i k e).cN d hF,a.last.cN d hF,
   jQ a.log d (fun k e=>f k (.inr (.inr (.inr e))))⟩
theorem dQ.ar{w w':World}{h b s g:Nat}{va vk:Value}{K:List Nat}{A:Option Addr}{c:Nat}{mb:Option Nat}{E:List Ent}{La Lk Ll Lg:List ActV}(d:dQ w h b s g va vk K A c mb E La Lk Ll Lg)(a:Fr ag w w'):dQ w' h b s g va vk K A c mb E La Lk Ll Lg:=
 d.jZ a (fJ.nothing w) (fun _ _ x=>x)
theorem fK.ar{w w':World}{h:Nat}{E:List Ent}{L:List ActV}{T:Nat→Prop}(d:fK w h E L T)(a:Fr ag w w'):fK w' h E L T:=by
 obtain⟨b,s,g,va,vk,K,A,c,mb,f,e⟩:=d;exact⟨b,s,g,va,vk,K,A,c,mb,f.ar a,e⟩
theorem fK.jZ{w w':World}{h:Nat}{E:List Ent}{L:List ActV}{T T':Nat→Prop}(e:fK w h E L T)(d:Fr T' w w')(hF:fJ w T')(a:∀k,T k→¬T' k):fK w' h E L T:=by
 obtain⟨b,s,g,va,vk,K,A,c,mb,f,rfl⟩:=e;exact⟨b,s,g,va,vk,K,A,c,mb,f.jZ d hF a,rfl⟩
theorem fK.cN{w:World}{h:Nat}{E:List Ent}{L:List ActV}{T:Nat→Prop}(a:fK w h E L T):fJ w T:=by
 obtain⟨b,s,g,va,vk,K,A,c,mb,d,rfl⟩:=a;exact d.cN
theorem mh{w:World}{base n:Nat}{e:TypeId}{size:Nat}{v:Value}{xs:List Value}(h:w.ownsRow base e size v n xs){k:Nat}(b:v.ownBlock=some k):k<w.heap.size:=by
 obtain⟨cs,a⟩:=iZ h b;exact(Array.getElem?_eq_some_iff.1 a).1
theorem fK.lt{w:World}{h:Nat}{E:List Ent}{L:List ActV}{T:Nat→Prop}(e:fK w h E L T):∀k,T k→k<w.heap.size:=by
 obtain⟨b,s,g,va,vk,K,A,c,mb,d,rfl⟩:=e;obtain⟨cs,f,_⟩:=d.kW;intro k a;rcases a with rfl|a|a|rfl|a|a;·exact d.aH.lt
 ·exact mh f a
 ·exact mh d.kept a
 ·exact d.log.aH.lt
 ·rcases d.log.parts with⟨i,rfl,hm⟩|⟨rfl,_⟩;·cases a;exact hm.lt
  ·cases a
 ·exact mh d.log.row a
theorem kQ(w:World)(h b:Nat)(a:w.cell? ⟨h,0,none⟩=some (.pointer (some ⟨b,0,none⟩))):
  Calls Tryz.prog 55 #[.pointer (some ⟨h,0,none⟩)] w (aY w (.bool false)):=by
 go_enter Tryz.func55,Tryz.ntmps55;go_wp2;go_ret;exact⟨rfl,rfl⟩
theorem xe(a b:ByteArray):aR (a++b)=aR a++aR b:=by simp[aR]
theorem uz(s:ByteArray)(w:World)(j:bB w)(y:s.size<4294960000):Calls Tryz.prog 59 #[.string s] w (aJ w (aE (dV (aR s)))):=by
 have CL:Hid (∀w',Fr ag w w'→Calls Tryz.prog 76 #[.string ({data:=#[1]}++s)] w' (aJ w' (aE (dV (aR s))))):=fun w' f=>by
  have e:aR ({data:=#[1]}++s)=1::aR s:=xe _ _;have h:=Lt.vZ ({data:=#[1]}++s) w' (j.ar f) (by have:=aO ({data:=#[1]}++s);rw[e,List.length_cons,aO]at this;omega);have t:eH ({data:=#[1]}++s)=1::aR s:=e;rw[t]at h;exact h
 have a:=af (Lt.bT.of (jL (aR s)));unfold aE at*;generalize((dV (aR s)).map aS).toArray=d at*;clear j;go_enter Tryz.func59,Tryz.ntmps59;go_wp2_with(refine ak rfl 38 rfl aI dW aB rfl ?_);intro w1 n1;have b:=af n1.fr;have c:=af n1.aH;clear n1;generalize k:w.heap.size=g at*;have o:=af k;clear k;go_wp2_with fail;refine(CL.out _ b.out).mono ?_;rintro e w2⟨rfl,f2⟩;have n:=af (b.out.trans f2);have m:=af (c.out.fr f2 (fun x=>x));clear f2 CL b c;go_wp2_with(refine ai rfl 38 (.tmp 2) _ rfl g d rfl rfl _ _ m.out a.out.info a.out.zero a.out.one ?_);intro l b5 f5;have q:=af b5;have r:Hid (Fr ag w l):=n.out.aw f5 (fun i v e=>by have u:i=g:=e;have:=o.out;omega);clear b5 f5;go_wp2;exact bodyPost_ret (results_cell_row (fn:=Tryz.f59) (p:=2) (ty:=38) Tryz.results59 _ l _ 38 d (0,0) _ rfl q.out Tryz.underlying38 rfl a.out.info) rfl ⟨rfl,r.out⟩
end Go.Proofs.YtphjagkehiklkaaGreatDoor
namespace Go.Proofs.YtphjagkehiklkaaGreatDoor.Lt
open Go.RowKit
def nd(w w':World)(p:Nat)(ds:List (List UInt8)):Prop:=∃A c mb,ec w' p A ds.length c mb ds (bF ds.length)∧Fr ag w w'∧∀k,TB p A ds.length c mb k→w.heap.size≤k
theorem nd.ar{w w' a:World}{p:Nat}{ds:List (List UInt8)}(h:nd w w' p ds)(b:Fr ag w' a):nd w a p ds:=by
 obtain⟨A,c,mb,d,e,f⟩:=h;exact⟨A,c,mb,d.ar b,e.trans b,f⟩
theorem nd.append{w w' a:World}{p:Nat}{ds:List (List UInt8)}{d:List UInt8}{A:Option Addr}{c:Nat}{mb:Option Nat}(g:∀k,TB p A ds.length c mb k→w.heap.size≤k)(f:Fr ag w w'){e:Ending}(n:mE w' p A ds.length c mb ds d e a):nd w a p (ds++[d]):=by
 obtain⟨_,l,m,b,o,q,r⟩:=n;refine⟨l,m,b,by rw[bh,List.length_singleton];exact o,f.aw q (fun i s e=>by have:=g i e;omega),fun k j=>?_⟩;rw[bh,List.length_singleton]at j;rcases r k j with h|h;·exact g k h
 ·exact Nat.le_trans f.size h
end Go.Proofs.YtphjagkehiklkaaGreatDoor.Lt
namespace Go.Proofs.YtphjagkehiklkaaGreatDoor.Lt
open Go.RowKit
def cZ(ds:List (List UInt8))(index:Nat):List (List UInt8):=
 if a:1≤au ds.length∧au ds.length<ds.length then
  (if index<au ds.length then cZ (ds.take (au ds.length)) index++[bQ (ds.drop (au ds.length))]else cZ (ds.drop (au ds.length)) (index-au ds.length)++[bQ (ds.take (au ds.length))])
 else[]
termination_by ds.length
decreasing_by
 ·simp only[List.length_take];omega
 ·simp only[List.length_drop];omega
theorem lD(ds:List (List UInt8))(index:Nat)(h:ds.length≤1):cZ ds index=[]:=by
 rw[cZ,dif_neg (by omega)]
theorem mi(ds:List (List UInt8))(index n:Nat)(b:ds.length=n)(d:2≤n)(e:n≤1099511627776):cZ ds index=if index<au n then cZ (ds.take (au n)) index++[bQ (ds.drop (au n))]else cZ (ds.drop (au n)) (index-au n)++[bQ (ds.take (au n))]:=by
 obtain⟨a,_,c⟩:=aX n d e;rw[cZ,dif_pos (by rw[b];exact⟨c,a⟩),b]
theorem uE(n k:Nat)(c:2≤n)(d:n≤1099511627776)(h:n≤2^(k+1)):au n≤2^k:=by
 obtain⟨a,_,_⟩:=aX n c d;have e:au n=2^(Lib.bitLen (n-1)-1):=rfl;rw[e]at a⊢;refine Nat.pow_le_pow_right (by omega) ?_;rcases Nat.lt_or_ge k (Lib.bitLen (n-1)-1)with b|b;·have:2^(k+1)≤2^(Lib.bitLen (n-1)-1):=Nat.pow_le_pow_right (by omega) b;omega
 ·exact b
theorem kH:∀(k:Nat)(ds:List (List UInt8))(i:Nat),ds.length≤2^k→ds.length≤1048576→(cZ ds i).length≤k
 |0,ds,i,h,_=>by rw[lD ds i (by simpa using h)];simp
 |k+1,ds,i,h,e=>by
  by_cases d:2≤ds.length
  ·obtain⟨a,b,c⟩:=aX ds.length d (by omega);have f:=uE ds.length k d (by omega) h;rw[mi ds i _ rfl d (by omega)];split;·rw[bh,List.length_singleton];have:=kH k (ds.take (au ds.length)) i (by rw[List.length_take];omega) (by rw[List.length_take];omega);omega
   ·rw[bh,List.length_singleton];have:=kH k (ds.drop (au ds.length)) (i-au ds.length) (by rw[List.length_drop];omega) (by rw[List.length_drop];omega);omega
  ·rw[lD ds i (by omega)];simp
theorem zQ(n:Nat):∀(ds:List (List UInt8))(i:Nat),ds.length=n→n≤1048576→(∀d∈ds,d.length=32)→∀d∈cZ ds i,d.length=32:=by
 induction n using Nat.strongRecOn with
 |_ n k=>
  intro ds i g m he d f;by_cases j:2≤n
  ·obtain⟨a,b,c⟩:=aX n j (by omega);rw[mi ds i n g j (by omega)]at f;have l:(bQ (ds.drop (au n))).length=32:=de (n-au n) _ (by rw[List.length_drop,g]) (by omega) (by omega) (fun x e=>he x (List.mem_of_mem_drop e));have j:(bQ (ds.take (au n))).length=32:=de (au n) _ (by rw[List.length_take,g];omega) (by omega) (by omega) (fun x e=>he x (List.mem_of_mem_take e));split at f
   ·rcases List.mem_append.1 f with h|h;·exact k (au n) a _ i (by rw[List.length_take,g];omega) (by omega) (fun x e=>he x (List.mem_of_mem_take e)) d h
    ·rw[List.mem_singleton.1 h];exact l
   ·rcases List.mem_append.1 f with h|h;·exact k (n-au n) (by omega) _ _ (by rw[List.length_drop,g]) (by omega) (fun x e=>he x (List.mem_of_mem_drop e)) d h
    ·rw[List.mem_singleton.1 h];exact j
  ·rw[lD ds i (by omega)]at f;cases f
theorem uV(leaf:List UInt8)(pre:List Bool)(P X:List (List UInt8))(h:P.length=pre.length):dB leaf pre (P++X)=dB leaf pre P:=by
 unfold dB;have:pre.zip (P++X)=pre.zip P:=by
  have a:=List.zip_append (l₁:=pre) (l₂:=P) (r₁:=[]) (r₂:=X) h.symm;simpa using a
 rw[this]
theorem Fp(n:Nat):∀(ds:List (List UInt8))(i:Nat),ds.length=n→i<n→n≤1048576→(cZ ds i).length=(bS i n).length∧(dB (ds.getD i []) (bS i n) (cZ ds i)).1=bQ ds:=by
 induction n using Nat.strongRecOn with
 |_ n l=>
  intro ds i j m o;by_cases h:2≤n
  ·obtain⟨a,b,c⟩:=aX n h (by omega);rw[mi ds i n j h (by omega),iC ds n j h (by omega)];by_cases f:i<au n
   ·obtain⟨e,g⟩:=l (au n) a (ds.take (au n)) i (by rw[List.length_take,j];omega) f (by omega);have k:(ds.take (au n)).getD i []=ds.getD i []:=by rw[List.getD_eq_getElem?_getD,List.getD_eq_getElem?_getD,List.getElem?_take_of_lt f]
    rw[k]at g;rw[if_pos f,rj h (by omega) f];refine⟨by rw[bh,bh,e];rfl,?_⟩;rw[lJ _ _ _ true (bQ (ds.drop (au n))) (by rw[←e,List.getElem?_append_right (Nat.le_refl _),Nat.sub_self];rfl),uV _ _ _ _ e];simp only[nU,if_true,g]
   ·obtain⟨e,g⟩:=l (n-au n) (by omega) (ds.drop (au n)) (i-au n) (by rw[List.length_drop,j]) (by omega) (by omega);have k:(ds.drop (au n)).getD (i-au n) []=ds.getD i []:=by rw[List.getD_eq_getElem?_getD,List.getD_eq_getElem?_getD,List.getElem?_drop,show au n+(i-au n)=i by omega]
    rw[k]at g;rw[if_neg f,pP h (by omega) f];refine⟨by rw[bh,bh,e];rfl,?_⟩;rw[lJ _ _ _ false (bQ (ds.take (au n))) (by rw[←e,List.getElem?_append_right (Nat.le_refl _),Nat.sub_self];rfl),uV _ _ _ _ e];simp only[nU,Bool.false_eq_true,if_false,g]
  ·obtain rfl:n=1:=by omega
   obtain rfl:i=0:=by omega
   rw[lD ds 0 (by omega),sO];refine⟨rfl,?_⟩;match ds,j with
   |[d],_=>rw[qo];rfl
theorem Ck(n:Nat)(ds:List (List UInt8))(i:Nat)(d:ds.length=n)(c:i<n)(e:n≤1048576):(dn (ds.getD i []) i n (cZ ds i)).1=bQ ds∧(dn (ds.getD i []) i n (cZ ds i)).2.2=0:=by
 obtain⟨a,b⟩:=Fp n ds i d c e;unfold dn;rw[if_pos (by omega),Int.toNat_natCast,Int.toNat_natCast,if_pos a];exact⟨b,rfl⟩
def xp(m:Nat):Prop:=∀(w:World)(p:Nat)(A:Option Addr)(n c:Nat)(mb:Option Nat)(ds:List (List UInt8))(C:Nat→Nat→Prop)(f k i:Nat),ec w p A n c mb ds C→Full C n→n≤1048576→bB w→i<m→f+m≤n→m≤2^k→2^k∣f→
 Calls Tryz.prog 109 #[.pointer (some ⟨p,0,none⟩), .int .i64 i, .int .i64 f, .int .i64 m] w (kV w (cZ ((ds.drop f).take m) i).length (cZ ((ds.drop f).take m) i))
theorem xU:xp 1:=by
 intro w p A n c mb ds C f k i _ _ _ _ _ _ _ _;rw[lD _ _ (by rw[List.length_take];omega)];go_enter Tryz.func109,Tryz.ntmps109;go_wp2;go_ret;exact⟨_,rfl,bW.start ⟨rfl, .inl ⟨rfl,rfl⟩⟩⟩
theorem vL(m:Nat)(Y:∀j,j<m→xp j)(R:2≤m):xp m:=by
 intro w p A n c mb ds C f k i t hF X N an S U I;obtain⟨i0,B,D,o,V⟩:=info_parts pz;obtain⟨a,b,Q⟩:=aX m R (by omega);obtain⟨lv,y⟩:∃lv,au m=2^lv:=⟨_,rfl⟩;have ai:lv≤k:=mj (by omega);have M:2^lv∣f:=lY ai I;have hlen:((ds.drop f).take m).length=m:=by rw[List.length_take,List.length_drop,t.len];omega
 have aa:=af (fun w=>fV m w R (by omega));obtain⟨P,W⟩:∃P,P=au m:=⟨_,rfl⟩;rw[←W]at aa a b Q y;have e:=mi _ i m hlen R (by omega);rw[←W,mD _ (by omega),List.drop_take,List.drop_drop]at e;obtain⟨f2,x⟩:∃f2:Nat,f2=f+P:=⟨_,rfl⟩;obtain⟨m2,K⟩:∃m2:Nat,m2=m-P:=⟨_,rfl⟩;rw[←x,←K]at e;have s1:(f:Int)+(P:Int)=(f2:Int):=by omega
 have s2:(m:Int)-(P:Int)=(m2:Int):=by omega
 have f4:f≤1048576:=by omega
 have f24:f2≤1048576:=by omega
 have m4:m≤1048576:=by omega
 have m24:m2≤1048576:=by omega
 have am:P≤1048576:=by omega
 have i4:i≤1048576:=by omega
 have m1:((m:Int)==1)=false:=by rw[beq_eq_false_iff_ne];omega
 have g1:Hid (¬1*i0.size>2^24):=by simp only[Hid];rw[o];omega
 have g2:Hid (¬1*i0.size=0):=by simp only[Hid];rw[o];omega
 have E:∀(l:List (List UInt8))(j:Nat),l.length≤1048576→(cZ l j).length≤20:=fun l j h=>kH 20 l j h h;by_cases J:i<P
 ·rw[if_pos J]at e;rw[e];have Z:Hid (∀w',Fr ag w w'→Calls Tryz.prog 109 #[.pointer (some ⟨p,0,none⟩), .int .i64 i, .int .i64 f, .int .i64 P] w' (kV w' (cZ ((ds.drop f).take P) i).length (cZ ((ds.drop f).take P) i))):=
   fun w' v=>Y P a w' p A n c mb ds C f lv i (t.ar v) hF X (N.ar v) J (by omega) (by omega) M;have F:Hid (∀w',Fr ag w w'→Calls Tryz.prog 110 #[.pointer (some ⟨p,0,none⟩), .int .i64 f2, .int .i64 m2] w' (aJ w' (aE (bQ ((ds.drop f2).take m2))))):=
   fun w' v=>mQ m2 (by omega) w' p A n c mb ds C f2 lv (t.ar v) hF X (N.ar v) (by omega) (by omega) (by omega) (by rw[x,y];exact(Nat.dvd_add_right M).2 (Nat.dvd_refl _));have L:(bQ ((ds.drop f2).take m2)).length=32:=de m2 _ (by rw[List.length_take,List.length_drop,t.len];omega) (by omega) (by omega) (fun d ah=>t.each d (List.mem_of_mem_drop (List.mem_of_mem_take ah)));have al:=E ((ds.drop f).take P) i (by rw[List.length_take];omega);have ak:(i:Int)<(P:Int):=by omega
  generalize cZ ((ds.drop f).take P) i=PL at*;generalize bQ ((ds.drop f2).take m2)=g at*;have ab:Hid (Instr.fill (fun i=>some (i*32,32)) ((Array.range (1*32)).map (aI.cells[· %aI.cells.size]!)) [(0, .agg (ao g).toArray)]=some (ao g).toArray):=kO _ _ (by simp[ao,L]) (by simp);have ac:Hid ((ao g).toArray.size=1*32):=by simp[Hid,ao,L]
  have ad:Hid (∀u∈(ao g).toArray.toList,u.oneCell'=true):=by
   intro u hu;exact gH _ u (by simpa[ao]using hu)
  have q:Hid ((PL++[g]).flatMap ao=PL.flatMap ao++ao g∧(PL++[g]).length=PL.length+1):=⟨by rw[List.flatMap_append,List.flatMap_singleton],by simp⟩;unfold aE at F;simp only[show∀l:List UInt8,l.map aS=ao l from fun _=>rfl]at F;generalize ao g=z at*;have g3:Hid (Instr.fill (fun i=>some (i*i0.size,i0.size)) ((Array.range (1*i0.size)).map (aI.cells[· %aI.cells.size]!)) [(0, .agg z.toArray)]=some z.toArray):=by simp only[Hid];rw[o];exact ab.out
  clear t hF N W x K S U I M ai hlen Y R a b Q y e L E;go_enter Tryz.func109,Tryz.ntmps109;go_wp2_with fail;refine(aa.out _).mono ?_;rintro e w'⟨rfl,rfl⟩;go_wp2_with fail;refine(Z.out _ aD).mono ?_;rintro e w1⟨v1,rfl,H⟩;have G:=af H;obtain⟨aj,n1,Q,rfl,H1,_⟩:=aU H.own;clear H;go_wp2_with fail;refine(F.out _ G.out.ar).mono ?_;rintro e w2⟨rfl,r⟩;have O:=af (G.out.behind r);clear r G;go_wp2_with(refine wpList_buildSlice rfl 31 38 1 #[(0, .tmp 29)] rfl z.toArray i0 aI Tryz.underlying31 B D g1.out g2.out (by simp only[List.map_toArray,List.map_cons,List.map_nil];exact g3.out) (bj.go ?hold));unfold bj;refine da _ rfl _ _ 31 rfl 38 i0 aI 32 32 Tryz.underlying31 B D o V rfl (by omega) _ _ _ rfl O.out.own 1 z.toArray _ rfl rfl ac.out ad.out (by omega) (by omega) ?_;intro v3 w3 s;have ae:Hid (bW 38 32 w (.slice none 0 0) w3 v3 (PL++[g]).length ((PL++[g]).flatMap ao)):=by
   have h:=O.out.trans s;simp only[Hid];rw[q.out.1,q.out.2];exact h
  clear s;go_wp2;go_ret;exact⟨_,rfl,ae.out⟩
 ·rw[if_neg J]at e;rw[e];obtain⟨i2,T⟩:∃i2:Nat,i2=i-P:=⟨_,rfl⟩;rw[←T];have aq:(i:Int)-(P:Int)=(i2:Int):=by omega
  have i24:i2≤1048576:=by omega
  have Z:Hid (∀w',Fr ag w w'→Calls Tryz.prog 109 #[.pointer (some ⟨p,0,none⟩), .int .i64 i2, .int .i64 f2, .int .i64 m2] w' (kV w' (cZ ((ds.drop f2).take m2) i2).length (cZ ((ds.drop f2).take m2) i2))):=
   fun w' v=>Y m2 (by omega) w' p A n c mb ds C f2 lv i2 (t.ar v) hF X (N.ar v) (by omega) (by omega) (by omega) (by rw[x,y];exact(Nat.dvd_add_right M).2 (Nat.dvd_refl _));have F:Hid (∀w',Fr ag w w'→Calls Tryz.prog 110 #[.pointer (some ⟨p,0,none⟩), .int .i64 f, .int .i64 P] w' (aJ w' (aE (bQ ((ds.drop f).take P))))):=
   fun w' v=>mQ P (by omega) w' p A n c mb ds C f lv (t.ar v) hF X (N.ar v) (by omega) (by omega) (by omega) M;have L:(bQ ((ds.drop f).take P)).length=32:=de P _ (by rw[List.length_take,List.length_drop,t.len];omega) (by omega) (by omega) (fun d ah=>t.each d (List.mem_of_mem_drop (List.mem_of_mem_take ah)));have al:=E ((ds.drop f2).take m2) i2 (by rw[List.length_take];omega);have ak:decide ((i:Int)<(P:Int))=false:=ct (by omega);have ap:¬i<P:=by omega
  generalize cZ ((ds.drop f2).take m2) i2=PL at*;generalize bQ ((ds.drop f).take P)=g at*;have ab:Hid (Instr.fill (fun i=>some (i*32,32)) ((Array.range (1*32)).map (aI.cells[· %aI.cells.size]!)) [(0, .agg (ao g).toArray)]=some (ao g).toArray):=kO _ _ (by simp[ao,L]) (by simp);have ac:Hid ((ao g).toArray.size=1*32):=by simp[Hid,ao,L]
  have ad:Hid (∀u∈(ao g).toArray.toList,u.oneCell'=true):=by
   intro u hu;exact gH _ u (by simpa[ao]using hu)
  have q:Hid ((PL++[g]).flatMap ao=PL.flatMap ao++ao g∧(PL++[g]).length=PL.length+1):=⟨by rw[List.flatMap_append,List.flatMap_singleton],by simp⟩;unfold aE at F;simp only[show∀l:List UInt8,l.map aS=ao l from fun _=>rfl]at F;generalize ao g=z at*;have g3:Hid (Instr.fill (fun i=>some (i*i0.size,i0.size)) ((Array.range (1*i0.size)).map (aI.cells[· %aI.cells.size]!)) [(0, .agg z.toArray)]=some z.toArray):=by simp only[Hid];rw[o];exact ab.out
  clear t hF N W x K T S U I M ai hlen Y R a b Q y e L E;go_enter Tryz.func109,Tryz.ntmps109;go_wp2_with fail;refine(aa.out _).mono ?_;rintro e w'⟨rfl,rfl⟩;go_wp2_with fail;refine(Z.out _ aD).mono ?_;rintro e w1⟨v1,rfl,H⟩;have G:=af H;obtain⟨aj,n1,Q,rfl,H1,_⟩:=aU H.own;clear H;go_wp2_with fail;refine(F.out _ G.out.ar).mono ?_;rintro e w2⟨rfl,r⟩;have O:=af (G.out.behind r);clear r G;go_wp2_with(refine wpList_buildSlice rfl 31 38 1 #[(0, .tmp 46)] rfl z.toArray i0 aI Tryz.underlying31 B D g1.out g2.out (by simp only[List.map_toArray,List.map_cons,List.map_nil];exact g3.out) (bj.go ?zA));unfold bj;refine da _ rfl _ _ 31 rfl 38 i0 aI 32 32 Tryz.underlying31 B D o V rfl (by omega) _ _ _ rfl O.out.own 1 z.toArray _ rfl rfl ac.out ad.out (by omega) (by omega) ?_;intro v3 w3 s;have ae:Hid (bW 38 32 w (.slice none 0 0) w3 v3 (PL++[g]).length ((PL++[g]).flatMap ao)):=by
   have h:=O.out.trans s;simp only[Hid];rw[q.out.1,q.out.2];exact h
  clear s;go_wp2;go_ret;exact⟨_,rfl,ae.out⟩
theorem zp(m:Nat)(hm:1≤m):xp m:=by
 induction m using Nat.strongRecOn with
 |_ m e=>
  by_cases b:2≤m
  ·refine vL m (fun j d=>?_) b;rcases Nat.eq_zero_or_pos j with rfl|a;·intro w p A n c mb ds C f k i _ _ _ _ h;omega
   ·exact e j d a
  ·obtain rfl:m=1:=by omega
   exact xU
def qS(ds:List (List UInt8))(i k:Int):List (List UInt8)×Int:=if 1≤k∧k≤ds.length∧0≤i∧i<k then(cZ (ds.take k.toNat) i.toNat,0)else([],2)
def im(w:World)(V:List (List UInt8)×Int)(e:Ending)(w':World):Prop:=∃v,e= .returned (.tuple #[v, .int .i64 V.2])∧bW 38 32 w (.slice none 0 0) w' v V.1.length (V.1.flatMap ao)
theorem im.none{w w':World}{k:Int}(h:Fr ag w w'):im w ([],k) (.returned (.tuple #[.slice none 0 0, .int .i64 k])) w':=⟨_,rfl,⟨⟨rfl, .inl ⟨rfl,rfl⟩⟩,h.bP,fun _ a=> .inl a⟩⟩
theorem xq(E w:World)(p:Nat)(ds:List (List UInt8))(i k:Int)(B:nd E w p ds)(C:ds.length≤1048576)(o:bB w)(G:-9223372036854775808≤i∧i≤9223372036854775807)(H:-9223372036854775808≤k∧k≤9223372036854775807):
  Calls Tryz.prog 56 #[.pointer (some ⟨p,0,none⟩), .int .i64 i, .int .i64 k] w (im w (qS ds i k)):=by
 obtain⟨A,c,mb,l,q,r⟩:=B;obtain⟨n,f⟩:∃n,n=ds.length:=⟨_,rfl⟩;have j:Hid (∀w',Calls Tryz.prog 89 #[.int .i64 k, .int .i64 1, .int .i64 n] w' (aY w' (.bool (decide (1≤k∧k≤n))))):=fun w'=>cy k 1 n w';have F:w.cell? ⟨p,0,none⟩=some (.slice A n c):=by rw[f];exact l.aH.cell 0
 by_cases a:1≤k∧k≤(n:Int)
 ·obtain⟨kn,rfl⟩:∃kn:Nat,k=kn:=⟨k.toNat,by omega⟩;obtain⟨g,x⟩:∃g:Nat,(kn:Int)-1=(g:Int):=⟨kn-1,by omega⟩;have m:Hid (∀w',Calls Tryz.prog 89 #[.int .i64 i, .int .i64 0, .int .i64 g] w' (aY w' (.bool (decide (0≤i∧i≤g))))):=fun w'=>cy i 0 g w';rw[decide_eq_true a]at j;by_cases d:0≤i∧i≤(g:Int)
  ·obtain⟨b,rfl⟩:∃b:Nat,i=b:=⟨i.toNat,by omega⟩;rw[decide_eq_true d]at m;have e:qS ds b kn=(cZ (ds.take kn) b,0):=by
    unfold qS;rw[if_pos (by omega),Int.toNat_natCast,Int.toNat_natCast]
   rw[e];have y:Hid (∀w',Fr ag w w'→Calls Tryz.prog 109 #[.pointer (some ⟨p,0,none⟩), .int .i64 b, .int .i64 0, .int .i64 kn] w' (kV w' (cZ (ds.take kn) b).length (cZ (ds.take kn) b))):=fun w' u=>by
    have h:=zp kn (by omega) w' p A ds.length c mb ds (bF ds.length) 0 20 b (l.ar u) (oQ _) C (o.ar u) (by omega) (by omega) (by omega) (Nat.dvd_zero _);rw[List.drop_zero]at h;exact h
   generalize cZ (ds.take kn) b=PL at*;have s:kn≤1048576:=by omega
   have D:b≤1048576:=by omega
   clear e l q r o a d f;go_enter Tryz.func56,Tryz.ntmps56;go_wp2_with fail;refine(j.out _).mono ?_;rintro e w'⟨rfl,rfl⟩;go_wp2_with fail;refine(m.out _).mono ?_;rintro e w'⟨rfl,rfl⟩;go_wp2_with fail;refine(y.out _ aD).mono ?_;rintro e w1⟨v,rfl,t⟩;have z:=af t;clear t;go_wp2;go_ret2;exact⟨v,rfl,z.out⟩
  ·rw[decide_eq_false d]at m;have e:qS ds i kn=([],2):=by
    unfold qS;rw[if_neg (by omega)]
   rw[e];have s:kn≤1048576:=by omega
   clear e l q r o a d f;go_enter Tryz.func56,Tryz.ntmps56;go_wp2_with fail;refine(j.out _).mono ?_;rintro e w'⟨rfl,rfl⟩;go_wp2_with fail;refine(m.out _).mono ?_;rintro e w'⟨rfl,rfl⟩;go_wp2;go_ret2;exact im.none aD
 ·rw[decide_eq_false a]at j;have e:qS ds i k=([],2):=by
   unfold qS;rw[if_neg (by omega)]
  rw[e];clear e l q r o a f;go_enter Tryz.func56,Tryz.ntmps56;go_wp2_with fail;refine(j.out _).mono ?_;rintro e w'⟨rfl,rfl⟩;go_wp2;go_ret2;exact im.none aD
theorem Gs(T w:World)(p:Nat)(ds:List (List UInt8))(a:Nat)(N:nd T w p ds)(Q:ds.length≤1048576)(R:a≤ds.length)(H:bB w):
  Calls Tryz.prog 57 #[.pointer (some ⟨p,0,none⟩), .int .i64 a] w (aJ w (.tuple #[aE (dC (ds.take a)), .int .i64 0])):=by
 obtain⟨A,c,mb,t,L,M⟩:=N;obtain⟨n,m⟩:∃n,n=ds.length:=⟨_,rfl⟩;have s:w.cell? ⟨p,0,none⟩=some (.slice A n c):=by rw[m];exact t.aH.cell 0
 have n4:n≤1048576:=by omega
 have y:Hid (∀w',Calls Tryz.prog 89 #[.int .i64 a, .int .i64 0, .int .i64 n] w' (aY w' (.bool (decide (0≤(a:Int)∧(a:Int)≤n))))):=fun w'=>cy a 0 n w';rw[dh (show 0≤(a:Int)∧(a:Int)≤n by omega)]at y;have I:(dC (ds.take a)).length=32:=iW a _ (by rw[List.length_take];omega) (by omega) (fun d O=>t.each d (List.mem_of_mem_take O));have z:Hid (a=0→∀w',Fr ag w w'→Calls Tryz.prog 73 #[] w' (aJ w' (aE (dC (ds.take a))))):=fun h w' u=>by
  rw[h,List.take_zero];exact As w' (H.ar u)
 have C:Hid (¬a=0→∀w',Fr ag w w'→Calls Tryz.prog 110 #[.pointer (some ⟨p,0,none⟩), .int .i64 0, .int .i64 a] w' (aJ w' (aE (dC (ds.take a))))):=fun h w' u=>by
  have k:=mQ a (by omega) w' p A ds.length c mb ds (bF ds.length) 0 20 (t.ar u) (oQ _) Q (H.ar u) (by omega) (by omega) (by omega) (Nat.dvd_zero _);rw[List.drop_zero]at k;have e:dC (ds.take a)=bQ (ds.take a):=by
   unfold dC;rw[if_neg (by intro j;have:=congrArg List.length j;rw[List.length_take,List.length_nil]at this;omega)]
  rw[e];exact k
 generalize dC (ds.take a)=rt at*;have g:Hid (bT (ao rt).toArray):=bT.of I;have a4:a≤1048576:=by omega
 unfold aE at*;simp only[show∀l:List UInt8,l.map aS=ao l from fun _=>rfl]at*;generalize ao rt=r at*;clear t L M m R I H;by_cases j:a=0
 ·have B:=af (z.out j);have t0:((a:Int)==0)=true:=by rw[j];rfl
  subst j;clear z C;go_enter Tryz.func57,Tryz.ntmps57;go_wp2_with(refine ak rfl 38 rfl aI dW aB rfl ?_);intro w1 b;have f:=af b;have J:w1.cell? ⟨p,0,none⟩=some (.slice A n c):=b.fr.an s (fun x=>x);clear b s;go_wp2_with fail;refine(y.out _).mono ?_;rintro e w'⟨rfl,rfl⟩;go_wp2_with fail;refine(B.out _ f.out.fr).mono ?_;rintro e w2⟨rfl,f2⟩;have E:=af (f.out.fr.trans f2);have v:=af (f.out.aH.fr f2 (fun x=>x));clear f2 f;go_wp2_with(refine ai rfl 38 (.tmp 4) _ rfl w.heap.size r.toArray rfl rfl _ _ v.out g.out.info g.out.zero g.out.one ?_);intro o b5 f5;have F:=af b5;have G:Hid (Fr ag w o):=E.out.aw f5 (fun i P e=>by have K:i=w.heap.size:=e;omega);clear b5 f5;go_wp2;exact bodyPost_ret (dK (fn:=Tryz.f57) (p:=4) (q:=5) (ty:=38) Tryz.results57 _ o _ 38 r.toArray (0,0) _ rfl F.out Tryz.underlying38 rfl g.out.info _ rfl) rfl ⟨rfl,G.out⟩
 ·have D:=af (C.out j);have t0:((a:Int)==0)=false:=by rw[beq_eq_false_iff_ne];omega
  have S:¬a=0:=j;clear z C;go_enter Tryz.func57,Tryz.ntmps57;go_wp2_with(refine ak rfl 38 rfl aI dW aB rfl ?_);intro w1 b;have f:=af b;have J:w1.cell? ⟨p,0,none⟩=some (.slice A n c):=b.fr.an s (fun x=>x);clear b s;go_wp2_with fail;refine(y.out _).mono ?_;rintro e w'⟨rfl,rfl⟩;go_wp2_with fail;refine(D.out _ f.out.fr).mono ?_;rintro e w2⟨rfl,f2⟩;have E:=af (f.out.fr.trans f2);have v:=af (f.out.aH.fr f2 (fun x=>x));clear f2 f;go_wp2_with(refine ai rfl 38 (.tmp 4) _ rfl w.heap.size r.toArray rfl rfl _ _ v.out g.out.info g.out.zero g.out.one ?_);intro o b5 f5;have F:=af b5;have G:Hid (Fr ag w o):=E.out.aw f5 (fun i P e=>by have K:i=w.heap.size:=e;omega);clear b5 f5;go_wp2;exact bodyPost_ret (dK (fn:=Tryz.f57) (p:=4) (q:=5) (ty:=38) Tryz.results57 _ o _ 38 r.toArray (0,0) _ rfl F.out Tryz.underlying38 rfl g.out.info _ rfl) rfl ⟨rfl,G.out⟩
end Go.Proofs.YtphjagkehiklkaaGreatDoor.Lt
namespace Go.Proofs.YtphjagkehiklkaaGreatDoor.Lt
open Go.RowKit
def AI(w:World)(PL:List (List UInt8))(v:Value)(w':World):Prop:=∃v1,v=v1∧bW 37 32 w (.slice none 0 0) w' v1 PL.length (PL.flatMap ao)
theorem AI.ah{w W:World}{PL:List (List UInt8)}:∀v w' a,Fr ag W w'→Fr ag w' a→AI w PL v w'→AI w PL v a:=fun _ _ _ _ c⟨v1,h,b⟩=>⟨v1,h,b.behind c⟩
end Go.Proofs.YtphjagkehiklkaaGreatDoor.Lt
namespace Go.Proofs.YtphjagkehiklkaaGreatDoor.Lt
open Go.RowKit Go.ChangeShapes Go.WideShapes Go.Deep
end Go.Proofs.YtphjagkehiklkaaGreatDoor.Lt
