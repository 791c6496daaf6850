/- Texts. -/
import Derived.Shelf.SlMaps.Clone
import Derived.Test.YtphjagkehiklkaaGreatDoorZK17
set_option linter.unusedVariables false
set_option linter.unusedSimpArgs false
set_option maxRecDepth 100000
set_option maxHeartbeats 8000000
namespace Go.Proofs.YtphjagkehiklkaaGreatDoor
open Go.RowKit Go.Shelf
def ef(l:List UInt8):List UInt8:=Lt.sX (1::l)
def oF(E:List Ent):List UInt8:=Lt.sX (0::eT (dO E))
def db(E:List Ent)(L:List ActV):List (List UInt8):=oF E::L.map (fun a=>ef (cC a))
theorem kl(l:List UInt8):(ef l).length=32:=Lt.np _
theorem rf(E:List Ent):(oF E).length=32:=Lt.np _
theorem km(E:List Ent)(L:List ActV):(db E L).length=L.length+1:=by simp[db]
theorem EE(E:List Ent)(L:List ActV)(a:ActV):db E (L++[a])=db E L++[ef (cC a)]:=by simp[db]
theorem wU(E:List Ent)(L:List ActV)(n:Nat):(db E L).take (n+1)=db E (L.take n):=by simp[db,List.map_take]
theorem rh(E:List Ent)(L:List ActV):∀d∈db E L,d.length=32:=fun d b=>by
 rcases List.mem_cons.1 b with rfl|b;·exact rf E
 ·obtain⟨a,_,rfl⟩:=List.mem_map.1 b;exact kl _
def HB(h:Nat)(va vk:Value)(g:Nat)(A:Option Addr)(n c:Nat)(mb:Option Nat)(k:Nat):Prop:=k=h∨va.ownBlock=some k∨vk.ownBlock=some k∨Lt.TB g A n c mb k
structure dY(w:World)(h b s g:Nat)(va vk:Value)(K:List Nat)(A:Option Addr)(c:Nat)(mb:Option Nat)(E:List Ent)(La Lk Ll Lg:List ActV):Prop where
 aE:aq w h 111 #[.pointer (some ⟨b,0,none⟩),va,vk, .pointer (some ⟨s,0,none⟩), .pointer (some ⟨g,0,none⟩)]
 base:eJ w b E
 jq:jZ w va La
 kept:w.ownsRow 0 25 1 vk K.length (K.map fun k=>Value.pointer (some ⟨k,0,none⟩))
 mq:K.length=Lk.length/16
 q9:∀i k,K[i]? =some k→eJ w k (fj (Lk.take (16*(i+1))) E)
 last:eJ w s (fj Ll E)
 log:Lt.dZ w g A (Lg.length+1) c mb (db E Lg) (Lt.bp (Lg.length+1))
abbrev Na(w:World)(h b s g:Nat)(va vk:Value)(K:List Nat)(A:Option Addr)(c:Nat)(mb:Option Nat)(E:List Ent)(L:List ActV):Prop:=dY w h b s g va vk K A c mb E L L L L
def ez(w:World)(h:Nat)(E:List Ent)(L:List ActV)(T:Nat→Prop):Prop:=
 ∃b s g va vk K A c mb,Na w h b s g va vk K A c mb E L∧T=HB h va vk g A (L.length+1) c mb
theorem mS{w:World}{b:Nat}{ds:List (List UInt8)}{C:Nat→Nat→Prop}(h:Lt.dH w b ds C)(t:TypeId):¬Ty w b t:=by
 obtain⟨es,clock,c,_⟩:=h;rintro⟨cs,a⟩;rw[c]at a;cases a
theorem dY.cN{w:World}{h b s g:Nat}{va vk:Value}{K:List Nat}{A:Option Addr}{c:Nat}{mb:Option Nat}{E:List Ent}{La Lk Ll Lg:List ActV}(d:dY w h b s g va vk K A c mb E La Lk Ll Lg):fM w (HB h va vk g A (Lg.length+1) c mb):=by
 obtain⟨cs,e,_⟩:=d.jq;intro k a;rcases a with rfl|a|a|rfl|a|a;·exact⟨fun x=>absurd (x.one d.aE.ty) (by decide),fun x=>absurd (x.one d.aE.ty) (by decide),fun x=>absurd (x.one d.aE.ty) (by decide)⟩
 ·have t:=jw e a;exact⟨fun x=>absurd (x.one t) (by decide),fun x=>absurd (x.one t) (by decide),fun x=>absurd (x.one t) (by decide)⟩
 ·have t:=jw d.kept a;exact⟨fun x=>absurd (x.one t) (by decide),fun x=>absurd (x.one t) (by decide),fun x=>absurd (x.one t) (by decide)⟩
 ·have t:=d.log.aE.ty;exact⟨fun x=>absurd (x.one t) (by decide),fun x=>absurd (x.one t) (by decide),fun x=>absurd (x.one t) (by decide)⟩
 ·rcases d.log.parts with⟨f,rfl,hm⟩|⟨rfl,_⟩;·cases a;exact⟨mS hm _,mS hm _,mS hm _⟩
  ·cases a
 ·have t:=jw d.log.row a;exact⟨fun x=>absurd (x.one t) (by decide),fun x=>absurd (x.one t) (by decide),fun x=>absurd (x.one t) (by decide)⟩
theorem dY.apart{w:World}{h b s g:Nat}{va vk:Value}{K:List Nat}{A:Option Addr}{c:Nat}{mb:Option Nat}{E:List Ent}{La Lk Ll Lg:List ActV}(a:dY w h b s g va vk K A c mb E La Lk Ll Lg):
  (va.ownBlock≠some h∧vk.ownBlock≠some h∧¬Lt.TB g A (Lg.length+1) c mb h)∧(∀k,va.ownBlock=some k→vk.ownBlock≠some k∧¬Lt.TB g A (Lg.length+1) c mb k)∧∀k,vk.ownBlock=some k→¬Lt.TB g A (Lg.length+1) c mb k:=by
 obtain⟨cs,i,_⟩:=a.jq;have l:∀k t,Ty w k t→t≠180→t≠38→¬Lt.TB g A (Lg.length+1) c mb k:=fun k t j m n d=>by
  rcases d with rfl|d|d;·exact m (j.one a.log.aE.ty)
  ·rcases a.log.parts with⟨o,rfl,hm⟩|⟨rfl,_⟩;·cases d;exact mS hm _ j
   ·cases d
  ·exact n (j.one (jw a.log.row d))
 refine⟨⟨bM i a.aE (by decide),bM a.kept a.aE (by decide),l _ _ a.aE.ty (by decide) (by decide)⟩,fun k e=>⟨fun f=>?_,l _ _ (jw i e) (by decide) (by decide)⟩,fun k e=>l _ _ (jw a.kept e) (by decide) (by decide)⟩;exact absurd ((jw i e).one (jw a.kept f)) (by decide)
theorem kA{w w':World}{T:Nat→Prop}{p:Nat}{A:Option Addr}{n c:Nat}{mb:Option Nat}{ds:List (List UInt8)}{C:Nat→Nat→Prop}(h:Lt.dZ w p A n c mb ds C)(d:Fr T w w')(a:∀k,Lt.TB p A n c mb k→¬T k):Lt.dZ w' p A n c mb ds C:=
 ⟨h.aE.fr d (a p (.inl rfl)),aL h.row d (fun k g=>a k (.inr (.inr g))),h.len,h.each,by
  rcases h.parts with⟨b,e,i⟩|f;·exact .inl ⟨b,e,i.fr d (a b (.inr (.inl e)))⟩
  ·exact .inr f⟩
theorem dY.kL{w w':World}{T:Nat→Prop}{h b s g:Nat}{va vk:Value}{K:List Nat}{A:Option Addr}{c:Nat}{mb:Option Nat}{E:List Ent}{La Lk Ll Lg:List ActV}(a:dY w h b s g va vk K A c mb E La Lk Ll Lg)(d:Fr T w w')(hF:fM w T)(f:∀k,HB h va vk g A (Lg.length+1) c mb k→¬T k):dY w' h b s g va vk K A c mb E La Lk Ll Lg:=
  ⟨a.aE.fr d (f h (.inl rfl)),a.base.cN d hF,a.jq.cN d hF (fun k e=>f k (.inr (.inl e))),aL a.kept d (fun k e=>f k (.inr (.inr (.inl e)))),a.mq,fun i k e=>(a.q9 i k e).cN d hF,a.last.cN d hF,
   kA a.log d (fun k e=>f k (.inr (.inr (.inr e))))⟩
theorem dY.ao{w w':World}{h b s g:Nat}{va vk:Value}{K:List Nat}{A:Option Addr}{c:Nat}{mb:Option Nat}{E:List Ent}{La Lk Ll Lg:List ActV}(d:dY w h b s g va vk K A c mb E La Lk Ll Lg)(a:Fr ag w w'):dY w' h b s g va vk K A c mb E La Lk Ll Lg:=
 d.kL a (fM.nothing w) (fun _ _ x=>x)
theorem ez.ao{w w':World}{h:Nat}{E:List Ent}{L:List ActV}{T:Nat→Prop}(d:ez w h E L T)(a:Fr ag w w'):ez w' h E L T:=by
 obtain⟨b,s,g,va,vk,K,A,c,mb,f,e⟩:=d;exact⟨b,s,g,va,vk,K,A,c,mb,f.ao a,e⟩
theorem ez.kL{w w':World}{h:Nat}{E:List Ent}{L:List ActV}{T T':Nat→Prop}(e:ez w h E L T)(d:Fr T' w w')(hF:fM w T')(a:∀k,T k→¬T' k):ez w' h E L T:=by
 obtain⟨b,s,g,va,vk,K,A,c,mb,f,rfl⟩:=e;exact⟨b,s,g,va,vk,K,A,c,mb,f.kL d hF a,rfl⟩
theorem ez.cN{w:World}{h:Nat}{E:List Ent}{L:List ActV}{T:Nat→Prop}(a:ez w h E L T):fM w T:=by
 obtain⟨b,s,g,va,vk,K,A,c,mb,d,rfl⟩:=a;exact d.cN
theorem mU{w:World}{base n:Nat}{e:TypeId}{size:Nat}{v:Value}{xs:List Value}(h:w.ownsRow base e size v n xs){k:Nat}(b:v.ownBlock=some k):k<w.heap.size:=by
 obtain⟨cs,a⟩:=jw h b;exact(Array.getElem?_eq_some_iff.1 a).1
theorem ez.lt{w:World}{h:Nat}{E:List Ent}{L:List ActV}{T:Nat→Prop}(e:ez w h E L T):∀k,T k→k<w.heap.size:=by
 obtain⟨b,s,g,va,vk,K,A,c,mb,d,rfl⟩:=e;obtain⟨cs,f,_⟩:=d.jq;intro k a;rcases a with rfl|a|a|rfl|a|a;·exact d.aE.lt
 ·exact mU f a
 ·exact mU d.kept a
 ·exact d.log.aE.lt
 ·rcases d.log.parts with⟨i,rfl,hm⟩|⟨rfl,_⟩;·cases a;exact hm.lt
  ·cases a
 ·exact mU d.log.row a
theorem jf(w:World)(h b:Nat)(a:w.cell? ⟨h,0,none⟩=some (.pointer (some ⟨b,0,none⟩))):
  Calls Tryz.prog 55 #[.pointer (some ⟨h,0,none⟩)] w (bm w (.bool false)):=by
 go_enter Tryz.func55,Tryz.ntmps55;go_wp2;go_ret;exact⟨rfl,rfl⟩
theorem jK(w:World):Calls Tryz.prog 55 #[.pointer none] w (bm w (.bool true)):=by
 go_enter Tryz.func55,Tryz.ntmps55;go_wp2;go_ret;exact⟨rfl,rfl⟩
theorem yV(a b:ByteArray):aQ (a++b)=aQ a++aQ b:=by simp[aQ]
theorem vZ(s:ByteArray)(w:World)(j:bT w)(y:s.size<4294960000):Calls Tryz.prog 59 #[.string s] w (aH w (aY (ef (aQ s)))):=by
 have CL:Hid (∀w',Fr ag w w'→Calls Tryz.prog 76 #[.string ({data:=#[1]}++s)] w' (aH w' (aY (ef (aQ s))))):=fun w' f=>by
  have e:aQ ({data:=#[1]}++s)=1::aQ s:=yV _ _;have h:=Lt.yj ({data:=#[1]}++s) w' (j.ao f) (by have:=aK ({data:=#[1]}++s);rw[e,List.length_cons,aK]at this;omega);have t:eV ({data:=#[1]}++s)=1::aQ s:=e;rw[t]at h;exact h
 have a:=af (Lt.dI.of (kl (aQ s)));unfold aY at*;generalize((ef (aQ s)).map bN).toArray=d at*;clear j;go_enter Tryz.func59,Tryz.ntmps59;go_wp2_with(refine an rfl 38 rfl aZ iR aD rfl ?_);intro w1 n1;have b:=af n1.fr;have c:=af n1.aE;clear n1;generalize k:w.heap.size=g at*;have o:=af k;clear k;go_wp2_with fail;refine(CL.out _ b.out).mono ?_;rintro e w2⟨rfl,f2⟩;have n:=af (b.out.trans f2);have m:=af (c.out.fr f2 (fun x=>x));clear f2 CL b c;go_wp2_with(refine ai rfl 38 (.tmp 2) _ rfl g d rfl rfl _ _ m.out a.out.info a.out.zero a.out.one ?_);intro l b5 f5;have q:=af b5;have r:Hid (Fr ag w l):=n.out.aw f5 (fun i v e=>by have u:i=g:=e;have:=o.out;omega);clear b5 f5;go_wp2;exact bodyPost_ret (results_cell_row (fn:=Tryz.f59) (p:=2) (ty:=38) Tryz.results59 _ l _ 38 d (0,0) _ rfl q.out Tryz.underlying38 rfl a.out.info) rfl ⟨rfl,r.out⟩
section
variable{w w1 w2:World}{h b s g:Nat}{va vk:Value}{K:List Nat}{A:Option Addr}{c:Nat}{mb:Option Nat}{E:List Ent}{La Lk Ll Lg:List ActV}
theorem pI{w:World}{k:Nat}{t:TypeId}{cs:Array Value}(a:aq w k t cs)(b:t≠177)(c:t≠174)(d:t≠119):fM w (fun i=>i=k):=fun i e=>by
 obtain rfl:i=k:=e;exact⟨fun x=>b (a.ty.one x),fun x=>c (a.ty.one x),fun x=>d (a.ty.one x)⟩
theorem vV{w:World}{base n:Nat}{e:TypeId}{size:Nat}{v:Value}{xs:List Value}(f:w.ownsRow base e size v n xs)(a:e≠177)(b:e≠174)(c:e≠119):fM w (fun i=>v.ownBlock=some i):=fun i d=>by
 have t:=jw f d;exact⟨fun x=>a (t.one x),fun x=>b (t.one x),fun x=>c (t.one x)⟩
theorem dY.Lm(d:dY w h b s g va vk K A c mb E La Lk Ll Lg)(f:Fr (Lt.TB g A (Lg.length+1) c mb) w w1){l:Option Addr}{m:Nat}{j:Option Nat}{a:List ActV}(n:Lt.dZ w1 g l (a.length+1) m j (db E a) (Lt.bp (a.length+1))):
  dY w1 h b s g va vk K l m j E La Lk Ll a:=by
 have ap:=d.apart;have cN:fM w (Lt.TB g A (Lg.length+1) c mb):=fun k e=>d.cN k (.inr (.inr (.inr e)));exact⟨d.aE.fr f ap.1.2.2,d.base.cN f cN,d.jq.cN f cN (fun k e=>(ap.2.1 k e).2),aL d.kept f (fun k e=>ap.2.2 k e),d.mq,fun i k e=>(d.q9 i k e).cN f cN,d.last.cN f cN,n⟩
theorem dY.Lh(j:dY w h b s g va vk K A c mb E La Lk Ll Lg)(f1:Fr (fun k=>va.ownBlock=some k) w w1){l:Value}{m:List ActV}(u:jZ w1 l m)(r:∀k,l.ownBlock=some k→va.ownBlock=some k∨w.heap.size≤k)(f2:Fr (fun k=>k=h) w1 w2)
  (q:aq w2 h 111 #[.pointer (some ⟨b,0,none⟩),l,vk, .pointer (some ⟨s,0,none⟩), .pointer (some ⟨g,0,none⟩)]):dY w2 h b s g l vk K A c mb E m Lk Ll Lg:=by
 have ap:=j.apart;obtain⟨cs,o,_⟩:=j.jq;have d:fM w (fun i=>va.ownBlock=some i):=vV o (by decide) (by decide) (by decide);have n:=j.aE.fr f1 ap.1.1;have a:fM w1 (fun i=>i=h):=pI n (by decide) (by decide) (by decide);have t:=j.aE.lt;refine⟨q,(j.base.cN f1 d).cN f2 a,u.cN f2 a (fun k f e=>?_),aL (aL j.kept f1 (fun k f e=>(ap.2.1 k e).1 f)) f2 (fun k f e=>?_),j.mq,fun i k f=>((j.q9 i k f).cN f1 d).cN f2 a,(j.last.cN f1 d).cN f2 a,
  kA (kA j.log f1 (fun k f e=>(ap.2.1 k e).2 f)) f2 (fun k f e=>?_)⟩
 ·obtain rfl:k=h:=e;rcases r k f with p|p;·exact ap.1.1 p
  ·omega
 ·obtain rfl:k=h:=e;exact ap.1.2.1 f
 ·obtain rfl:k=h:=e;exact ap.1.2.2 f
theorem dY.Lj(d:dY w h b s g va vk K A c mb E La Lk Ll Lg)(f2:Fr (fun k=>k=h) w w2){l:Nat}{j:List ActV}(n:eJ w l (fj j E))
  (m:aq w2 h 111 #[.pointer (some ⟨b,0,none⟩),va,vk, .pointer (some ⟨l,0,none⟩), .pointer (some ⟨g,0,none⟩)]):dY w2 h b l g va vk K A c mb E La Lk j Lg:=by
 have ap:=d.apart;have a:fM w (fun i=>i=h):=pI d.aE (by decide) (by decide) (by decide);refine⟨m,d.base.cN f2 a,d.jq.cN f2 a (fun k f e=>?_),aL d.kept f2 (fun k f e=>?_),d.mq,fun i k f=>(d.q9 i k f).cN f2 a,n.cN f2 a,kA d.log f2 (fun k f e=>?_)⟩;·obtain rfl:k=h:=e;exact ap.1.1 f
 ·obtain rfl:k=h:=e;exact ap.1.2.1 f
 ·obtain rfl:k=h:=e;exact ap.1.2.2 f
theorem dY.Li(l:dY w h b s g va vk K A c mb E La Lk Ll Lg)(f1:Fr (fun k=>vk.ownBlock=some k) w w1){j:Value}{n:List Nat}{m:List ActV}(x:w1.ownsRow 0 25 1 j n.length (n.map fun k=>Value.pointer (some ⟨k,0,none⟩)))(t:∀k,j.ownBlock=some k→vk.ownBlock=some k∨w.heap.size≤k)
  (v:n.length=m.length/16)(p:∀i k,n[i]? =some k→eJ w k (fj (m.take (16*(i+1))) E))(f2:Fr (fun k=>k=h) w1 w2)
  (r:aq w2 h 111 #[.pointer (some ⟨b,0,none⟩),va,j, .pointer (some ⟨s,0,none⟩), .pointer (some ⟨g,0,none⟩)]):dY w2 h b s g va j n A c mb E La m Ll Lg:=by
 have ap:=l.apart;have a:fM w (fun i=>vk.ownBlock=some i):=vV l.kept (by decide) (by decide) (by decide);have o:=l.aE.fr f1 ap.1.2.1;have d:fM w1 (fun i=>i=h):=pI o (by decide) (by decide) (by decide);have u:=l.aE.lt;refine⟨r,(l.base.cN f1 a).cN f2 d,(l.jq.cN f1 a (fun k f e=>(ap.2.1 k f).1 e)).cN f2 d (fun k f e=>?_),aL x f2 (fun k f e=>?_),v,fun i k f=>((p i k f).cN f1 a).cN f2 d,(l.last.cN f1 a).cN f2 d,
  kA (kA l.log f1 (fun k f e=>ap.2.2 k e f)) f2 (fun k f e=>?_)⟩;·obtain rfl:k=h:=e;exact ap.1.1 f
 ·obtain rfl:k=h:=e;rcases t k f with q|q;·exact ap.1.2.1 q
  ·omega
 ·obtain rfl:k=h:=e;exact ap.1.2.2 f
end
def AE(w:World)(h:Nat)(E:List Ent)(L:List ActV)(T:Nat→Prop)(a:ActV)(e:Ending)(w':World):Prop:=∃T',e= .returned (.int .i64 (eS L a).1)∧ez w' h E (eS L a).2 T'∧Fr T w w'∧∀k,T' k→T k∨w.heap.size≤k
theorem qv:(Tryz.prog.info? 46).map (fun i=>(i.zero,i.size,i.bytes))=some (some ep,6,88):=by kernel_rfl
theorem yZ:(Tryz.prog.info? 25).map (fun i=>(i.zero,i.size,i.bytes))=some (some (.pointer none),1,8):=by kernel_rfl
theorem IB:(Tryz.prog.info? 26).map (·.size)=some 1:=by kernel_rfl
theorem IE:(Tryz.prog.info? 108).map (·.size)=some 1:=by kernel_rfl
theorem Kt:(Tryz.prog.info? 25).map (·.size)=some 1:=by kernel_rfl
theorem yo{L:List ActV}{a:ActV}(h:fY a=false):eS L a=(3,L):=by unfold eS;rw[if_pos h]
theorem AQ{L:List ActV}{a:ActV}(h:fY a=true)(B:Bool)(q:Nat)(d:ActV)(i:0<L.length→q=L.length-1∧L[q]? =some d)(e:B=(decide (0<L.length)&&decide (ew a.key d.key≤0))):eS L a=if B=true then(32,L)else(0,L++[a]):=by
 unfold eS;rw[if_neg (by rw[h];decide)];by_cases b:0<L.length
 ·obtain⟨g,f⟩:=i b;rw[g]at f;rw[List.getLast?_eq_getElem?,f];simp only;have j:=jA.lY a.key d.key;subst e;by_cases c:ew a.key d.key≤0;·rw[decide_eq_true b,decide_eq_true c];rw[if_pos c];rfl
  ·rw[decide_eq_true b,decide_eq_false c];rw[if_neg c];rfl
 ·obtain rfl:L=[]:=List.eq_nil_of_length_eq_zero (by omega);rw[decide_eq_false b,Bool.false_and]at e;subst e;rfl
theorem nY(h:Nat)(E:List Ent)(L:List ActV)(T:Nat→Prop)(a:ActV)(cs:List Value)(w:World)(ec:ez w h E L T)(cv:cF w cs a)(dV:eh w)(dg:bT w)(bQ:Hk a)(cH:∀b∈L,b.key.fV.size≤1099511627776)(cQ:L.length<65536)(cE:fY a=true→(cC a).length<4294960000)
  (bB:∀k,k=1∨k=2→¬T k)
  (cw:fY a=true→∀w' s,Fr ag w w'→eJ w' s (fj L E)→Calls Tryz.prog 86 #[.agg cs.toArray, .pointer (some ⟨s,0,none⟩)] w' (nE w' (fj L E) a.writes)):
  Calls Tryz.prog 32 #[.pointer (some ⟨h,0,none⟩), .agg cs.toArray] w (AE w h E L T a):=by
 obtain⟨b,s,g,va,vk,K,A,c,mb,bb,rfl⟩:=ec;obtain⟨am,V,bM⟩:=bb.jq;obtain⟨y,n1,C,rfl,H1,_⟩:=aG V;obtain⟨I,N,J,rfl,ex,_⟩:=aG bb.kept;have bl:=af bb;have cZ:=af cv;have c0:=af bM;have c3:=af V;have b6:=af cw;have cz:=cv.len;have c2:=af cz;have d4:=af bB;have ch:Hid (a.reads.length≤60000∧a.writes.length≤60000):=⟨bQ.nr,bQ.nw⟩;have ae:Hid (∀k,HB h (.slice y n1 C) (.slice I N J) g A (L.length+1) c mb k→k<w.heap.size):=ez.lt ⟨b,s,g,_,_,K,A,c,mb,bb,rfl⟩;have d1:Hid (∀w',Fr ag w w'→Calls Tryz.prog 55 #[.pointer (some ⟨h,0,none⟩)] w' (bm w' (.bool false))):=fun w' f=>jf w' h b ((bb.aE.fr f (fun x=>x)).cell 0);have dz:Hid (∀w',Fr ag w w'→Calls Tryz.prog 18 #[.agg cs.toArray] w' (aH w' (j4 a))):=fun w' f=>p9 a cs w' (dV.ao f) (cv.ao f) bQ;have d0:Hid (∀w',Fr ag w w'→Calls Tryz.prog 87 #[.agg cs.toArray] w' (rD w' a)):=fun w' f=>pD a cs w' (cv.ao f) (by have:=bQ.nr;omega) (by have:=bQ.nw;omega);have Z:Hid (L.length<65536∧n1=L.length):=⟨cQ,H1.out⟩;have bZ:Hid (∀w',Fr ag w w'→fY a=true→Calls Tryz.prog 59 #[.string ⟨(cC a).toArray⟩] w' (aH w' (aY (ef (cC a))))):=fun w' f cA=>by
  have e:aQ ⟨(cC a).toArray⟩=cC a:=tp _;have h:=vZ ⟨(cC a).toArray⟩ w' (dg.ao f) (by
   have H:=cE cA;have bz:=aK ⟨(cC a).toArray⟩;rw[e]at bz;omega);rw[e]at h;exact h
 have b0:Hid (∀w',Fr ag w w'→Calls Tryz.prog 84 #[.pointer (some ⟨g,0,none⟩),aY (ef (cC a))] w' (Lt.nC w' g A (L.length+1) c mb (db E L) (ef (cC a)))):=fun w' f=>
  Lt.tD g A (L.length+1) c mb (db E L) (ef (cC a)) w' (bb.ao f).log (kl _) (by omega) (dg.ao f) (fun k p ei=>bB k p (.inr (.inr (.inr ei))));obtain⟨q,cR⟩:∃q:Nat,L.length-1=q:=⟨_,rfl⟩;obtain⟨aA,d,ai⟩:∃(aA:Addr)(d:ActV),Hid (0<L.length→y=some aA∧L[q]? =some d∧∀j x,d.key.cells[j]? =some x→w.cell? ((aA.add (q*6)).add j)=some x):=by
  by_cases d7:0<L.length;·obtain⟨ey,d5,bS,el,em,en⟩:=dG.at_ (k:=q) bM (by omega);obtain⟨aA,de,_,bK⟩:=(Rd.gR (H1.out▸V)).2 (by omega);refine⟨aA,d5,fun _=>⟨de,el,fun j x ap=>?_⟩⟩;rw[iT];refine bK _ x (en j x ?_);obtain⟨eo,ev,rfl,_⟩:=em;rw[List.getElem?_append_left (List.getElem?_eq_some_iff.1 ap).1];exact ap
  ·exact⟨⟨0,0,none⟩,a,fun h=>absurd h d7⟩
 have dJ:Hid (0<L.length→(n1:Int)-1=(q:Int)):=fun h=>by have:=H1.out;omega
 have bq:Hid (0<L.length→q<n1):=fun h=>by have:=H1.out;omega
 have dA:Hid (0<L.length→∀w',Calls Tryz.prog 85 #[.agg a.key.cells.toArray, .agg d.key.cells.toArray] w' (aH w' (.int .i64 (ew a.key d.key)))):=fun h w'=>oW _ _ w' (by have:=bQ.fV;omega) (cH d (List.mem_of_getElem? (ai.out h).2.1));have b5:Hid (fY a=true→∀B:Bool,B=(decide (0<L.length)&&decide (ew a.key d.key≤0))→eS L a=if B=true then(32,L)else(0,L++[a])):=fun cA B cM=>AQ cA B q d (fun h=>⟨cR.symm,(ai.out h).2.1⟩) cM;have S:Hid (∀w' c9,eS L a=(c9,L)→Fr ag w w'→AE w h E L (HB h (.slice y n1 C) (.slice I N J) g A (L.length+1) c mb) a (.returned (.int .i64 c9)) w'):=fun w' c9 e f=>⟨_,by rw[e],by rw[e];exact⟨b,s,g,_,_,K,A,c,mb,bb.ao f,rfl⟩,f.bO,fun k p=> .inl p⟩;clear cv dV dg bQ cH cQ bB cw bM V cR cz cE bb;go_enter Tryz.func32,Tryz.ntmps32;go_wp2_with(refine aB rfl 46 (.tmp 1) rfl cs.toArray rfl ?_);intro w1 bU;have b1:=af bU.fr;have cJ:=af bU.aE;clear bU;have c1:Hid (w.heap.size≤w.heap.size):=Nat.le_refl _;generalize cx:w.heap.size=ab at cJ⊢;have ca:Hid (w.heap.size≤ab):=by rw[Hid,cx];exact Nat.le_refl _
 clear cx c1;go_wp2_with fail;refine(d1.out _ b1.out).mono ?_;rintro e w'⟨rfl,rfl⟩;have bu:=(bl.out.aE.fr b1.out (fun x=>x)).cell 1;simp only[bP,List.getElem?_cons_succ,List.getElem?_cons_zero]at bu;have t1:decide ((65536:Int)≤(n1:Int))=false:=cD (by have:=Z.out;omega);have eq:¬(65536:Int)≤(n1:Int):=by have:=Z.out;omega
 have c4:Hid ((Tryz.prog.info? 46).map (·.size)=some cs.length):=by rw[Hid,c2.out];exact bL
 have aO:Hid (∀W,aq W ab 46 cs.toArray→∀j x,cs[j]? =some x→W.cell? ((⟨ab,0,none⟩:Addr).add j)=some x):=fun W dh j x ap=>by
  rw[Addr.add_mid,Nat.zero_add,dh.cell j,bP];exact ap
 go_wp2_with(refine aC rfl 46 (.tmp 3) rfl ⟨ab,0,none⟩ rfl cs _ ?zP Tryz.underlying46 rfl c4.out (aR.go ?zQ));case zP=>exact aO.out _ cJ.out
 unfold aR;go_wp2_with fail;refine(dz.out _ b1.out).mono ?_;rintro e w2⟨rfl,f2⟩;have bW:=af (b1.out.trans f2);have cX:=af (cJ.out.fr f2 (fun x=>x));clear f2 dz b1 cJ bu;cases ac:fY a
 ·have b8:Hid (j4 a= .tuple #[.string ByteArray.empty, .int .i64 3]):=by rw[Hid,j4,ac];rfl
  have br:=af (S.out w2 3 (yo ac) bW.out);rw[b8.out];clear ac b8;go_wp2;go_ret;exact br.out
 have b8:Hid (j4 a= .tuple #[.string ⟨(cC a).toArray⟩, .int .i64 0]):=by rw[Hid,j4,ac];rfl
 have aT:=af ac;rw[b8.out];clear ac b8;have bu:=(bl.out.aE.fr bW.out (fun x=>x)).cell 1;simp only[bP,List.getElem?_cons_succ,List.getElem?_cons_zero]at bu;have c6:Hid (∀W,Fr ag w W→W.cell? {block:=h,off:=1}=some (.slice y n1 C)∧W.cell? {block:=h,off:=3}=some (.pointer (some ⟨s,0,none⟩))∧W.cell? {block:=h,off:=4}=some (.pointer (some ⟨g,0,none⟩))):=fun W f=>⟨(bl.out.aE.fr f (fun x=>x)).cell 1,(bl.out.aE.fr f (fun x=>x)).cell 3,(bl.out.aE.fr f (fun x=>x)).cell 4⟩;have cU:Hid (∀W,aq W ab 46 cs.toArray→∀j x,a.key.cells[j]? =some x→W.cell? ((⟨ab,0,none⟩:Addr).add j)=some x):=fun W dh j x ap=>by
  obtain⟨eo,ev,e,_⟩:=cZ.out;refine aO.out W dh j x ?_;rw[e,List.getElem?_append_left (List.getElem?_eq_some_iff.1 ap).1];exact ap
 obtain⟨P,dS⟩:∃z:Bool,decide (0<L.length)=z:=⟨_,rfl⟩;obtain⟨Q,dT⟩:∃z:Bool,decide (ew a.key d.key≤0)=z:=⟨_,rfl⟩;have be:=af dS;have EQ:=af dT;have cj:Hid (decide (0<n1)=P):=by
  rw[Hid,←be.out];exact decide_eq_decide.2 (by have:=Z.out;omega)
 have cT:Hid (∀W,Fr ag w W→Calls Tryz.prog 86 #[.agg cs.toArray, .pointer (some ⟨s,0,none⟩)] W (fun e W'=>∃R,e= .returned (.tuple #[.pointer (some ⟨R,0,none⟩), .int .i64 0])∧eJ W' R (fj (L++[a]) E)∧Fr ag W W')):=fun W f=>by
  refine(b6.out aT.out W s f (bl.out.ao f).last).mono ?_;rintro e et⟨eC,eA,rfl,f5,bJ⟩;rcases bJ with⟨_,rfl,R,rfl,d9⟩|⟨⟨x,ap,cA⟩,_⟩;·exact⟨R,rfl,by rw[xr];exact d9,f5⟩
  ·have H:=aT.out;simp only[fY,Bool.and_eq_true]at H;have bz:=kV H.2 x ap;simp only[jM,cA,Bool.false_and]at bz;cases bz
 have bs:Hid (0<L.length→y=some aA):=fun p=>(ai.out p).1;clear dS dT;obtain⟨B,cM⟩:∃z:Bool,(bif P then Q else false)=z:=⟨_,rfl⟩;have HB:=af cM;clear cM;go_upto_region 9 with fail;refine jn 17 [.int .i64 (n1:Int), .bool P, .bool P,bif P then .pointer (some ⟨ab,0,none⟩)else undef,bif P then .agg a.key.cells.toArray else undef,bif P then .pointer (some ⟨h,0,none⟩)else undef,bif P then .pointer (some ⟨h,0,none⟩)else undef,bif P then .pointer (some ⟨h,1,none⟩)else undef,bif P then .slice y n1 C else undef,bif P then .int .i64 (n1:Int)else undef,bif P then .int .i64 (q:Int)else undef,bif P then .pointer (some (aA.add (q*6)))else undef,bif P then .pointer (some (aA.add (q*6)))else undef,bif P then .agg d.key.cells.toArray else undef,bif P then .int .i64 (ew a.key d.key)else undef,bif P then .bool Q else undef, .bool B] ?zR ?_;case zR=>
  refine⟨?yS,?zU,?zV,?zW,?zX,?zY,?zZ,?yA,?yB,?yC,?zH,?zI,?zJ,?zK,?zL,?zM,?zN,trivial⟩;all_goals intro u w' r o
  all_goals simp only[z1,z2,z3,z4,ar,Act.put,z5,z6,z7,Nat.reduceAdd,Nat.zero_add]
  case zU=>
   simp only[show u 0=_ from o 0];refine aF ?_;have t:=cj.out;go_simp;exact aM
  case' zV=>simp only[show u 1=_ from o 1]
  case' zW=>
   simp only[show u 2=_ from o 2];cases P;case false=>exact bV
  case zX=>
   simp only[show u 3=_ from o 3,show u 2=_ from o 2];cases P;case false=>exact bV
   refine aF ?_;exact au _ _ rfl ⟨ab,0,none⟩ rfl a.key.cells _ (cU.out _ (cX.out.fr r (fun x=>x))) Tryz.underlying43 rfl gH aM
  case' zY=>
   simp only[show u 2=_ from o 2];cases P;case false=>exact bV
  case' zZ=>
   simp only[show u 5=_ from o 5,show u 2=_ from o 2];cases P;case false=>exact bV
  case' yA=>
   simp only[show u 6=_ from o 6,show u 2=_ from o 2];cases P;case false=>exact bV
  case yB=>
   simp only[show u 7=_ from o 7,show u 2=_ from o 2];cases P;case false=>exact bV
   refine aF ?_;have q:=(c6.out _ (bW.out.trans r)).1;go_simp;exact aM
  case' yC=>
   simp only[show u 2=_ from o 2];cases P;case false=>exact bV
  case zH=>
   simp only[show u 9=_ from o 9,show u 2=_ from o 2];cases P;case false=>exact bV
   refine aF ?_;have p:=of_decide_eq_true be.out;have cK:(n1:Int)-1=(q:Int):=dJ.out p;have bx:IntKind.i64.wrap (q:Int)=(q:Int):=IntWalk.i64_in _ (by have:=Z.out;have:=bq.out p;omega);go_simp;exact aM
  case zI=>
   simp only[show u 8=_ from o 8,show u 10=_ from o 10,show u 2=_ from o 2];cases P;case false=>exact bV
   refine aF ?_;have p:=of_decide_eq_true be.out;have cK:y=some aA:=bs.out p;have bx:(q:Int)<(n1:Int):=by have:=bq.out p;omega
   have cL:(0:Int)≤(q:Int):=by omega
   clear bs;subst cK;go_simp;exact aM
  case' zJ=>
   simp only[show u 11=_ from o 11,show u 2=_ from o 2];cases P;case false=>exact bV
  case zK=>
   simp only[show u 12=_ from o 12,show u 2=_ from o 2];cases P;case false=>exact bV
   refine aF ?_;have p:=of_decide_eq_true be.out;exact au _ _ rfl (aA.add (q*6)) rfl d.key.cells _ (fun ek v ej=>(bW.out.trans r).ak ((ai.out p).2.2 ek v ej) (fun x=>x)) Tryz.underlying43 rfl gH aM
  case zL=>
   simp only[show u 4=_ from o 4,show u 13=_ from o 13,show u 2=_ from o 2];cases P;case false=>exact bV
   refine aF ?_;have p:=of_decide_eq_true be.out;go_simp;refine(dA.out p _).mono ?_;rintro e dx⟨rfl,f4⟩;exact⟨rfl,f4⟩
  case zM=>
   simp only[show u 14=_ from o 14,show u 2=_ from o 2];cases P;case false=>exact bV
   refine aF ?_;have t:=EQ.out;go_simp;exact aM
  case zN=>
   simp only[show u 2=_ from o 2,show u 15=_ from o 15];cases P<;>exact aF (by go_simp;exact⟨by rw[←HB.out];rfl,az⟩)
  all_goals
   try simp only[cond]
   refine aF ?_;go_simp;exact aM
 intro w' r;simp only[z1,z2,z3,z4,ar,Act.put,z5,z6,z7,z8,z9,jX,jY,Nat.reduceAdd,Nat.zero_add];have b2:=af (bW.out.trans r);have cY:=af (cX.out.fr r (fun x=>x));clear r bW cX bu;have aP:Hid (eS L a=if B=true then(32,L)else(0,L++[a])):=b5.out aT.out B (by
  rw[be.out,EQ.out,←HB.out];cases P<;>rfl);clear HB be EQ cj dA ai b5 bs dJ bq;cases a1:B;case true=>
  have br:=af (S.out w' 32 (by rw[aP.out,a1];rfl) b2.out);clear a1 aP;go_wp2;go_ret;exact br.out
 have bi:Hid (eS L a=(0,L++[a])):=by rw[Hid,aP.out,a1];rfl
 clear a1 aP S;generalize w'=w3 at*;go_upto_region 11 with fail;refine xJ 11 [iS (.agg cs.toArray),iS (.pointer (some ⟨h,0,none⟩)),iS (.pointer (some ⟨h,0,none⟩)),iS (.pointer (some ⟨h,3,none⟩)),iS (.pointer (some ⟨s,0,none⟩)),⟨fun v X=>∃i:Nat,v= .tuple #[.pointer (some ⟨i,0,none⟩), .int .i64 0]∧eJ X i (fj (L++[a]) E),fun _ _ _ f h=>(by obtain⟨i,e,h⟩:=h;exact⟨i,e,h.ao f⟩)⟩,⟨fun v X=>∃i:Nat,v= .tuple #[.pointer (some ⟨i,0,none⟩), .int .i64 0]∧eJ X i (fj (L++[a]) E),fun _ _ _ f h=>(by obtain⟨i,e,h⟩:=h;exact⟨i,e,h.ao f⟩)⟩,⟨fun v X=>∃i:Nat,v= .pointer (some ⟨i,0,none⟩)∧eJ X i (fj (L++[a]) E),fun _ _ _ f h=>(by obtain⟨i,e,h⟩:=h;exact⟨i,e,h.ao f⟩)⟩,iS (.int .i64 0),⟨fun v X=>∃i:Nat,v= .pointer (some ⟨i,0,none⟩)∧eJ X i (fj (L++[a]) E),fun _ _ _ f h=>(by obtain⟨i,e,h⟩:=h;exact⟨i,e,h.ao f⟩)⟩,iS (.int .i64 0)] ?zS ?_;case zS=>
  refine⟨?yD,?yT,?yE,?yF,?yG,?yH,?yI,?yJ,?yK,?yL,?zO,trivial⟩;all_goals intro u w' r o
  all_goals simp only[z1,z2,z3,z4,ar,Act.put,z5,z6,z7,Nat.reduceAdd,Nat.zero_add]
  case yD=>
   refine aF ?_;exact au _ _ rfl ⟨ab,0,none⟩ rfl cs _ (aO.out _ (cY.out.fr r (fun x=>x))) Tryz.underlying46 rfl c4.out ⟨_,rfl,az,rfl⟩
  case' yE=>simp only[show u 1=_ from o 1]
  case' yF=>simp only[show u 2=_ from o 2]
  case yG=>
   simp only[show u 3=_ from o 3];refine aF ?_;have q:=(c6.out _ (b2.out.trans r)).2.1;go_simp;exact⟨_,rfl,az,rfl⟩
  case yH=>
   simp only[show u 0=_ from o 0,show u 4=_ from o 4];refine aF ?_;go_simp;refine(cT.out _ (b2.out.trans r)).mono ?_;rintro e dx⟨i,rfl,cO,f4⟩;exact⟨_,rfl,f4,⟨i,rfl,cO⟩⟩
  case yI=>
   obtain⟨i5,cK,ea⟩:=o 5;simp only[cK];refine aF ?_;go_simp;exact⟨_,rfl,az,⟨i5,rfl,ea⟩⟩
  case yJ=>
   obtain⟨i6,bx,cr⟩:=o 6;simp only[bx];refine aF ?_;go_simp;exact⟨_,rfl,az,⟨i6,rfl,cr⟩⟩
  case yK=>
   obtain⟨i6,bx,cr⟩:=o 6;simp only[bx];refine aF ?_;go_simp;exact⟨_,rfl,az,rfl⟩
  case yL=>
   obtain⟨i7,cL,ct⟩:=o 7;simp only[cL];refine aF ?_;go_simp;exact⟨_,rfl,az,⟨i7,rfl,ct⟩⟩
  case' zO=>simp only[show u 8=_ from o 8]
  all_goals
   refine aF ?_;go_simp;exact⟨_,rfl,az,rfl⟩
 intro u w' r o;have eb:=o 9 (by omega);simp only[z1,z2,z3,z4,ar,Act.put,z5,z6,z7,z8,z9,Nat.reduceAdd,Nat.zero_add,show u 10=_ from o 10 (by omega)];clear o;obtain⟨R,dR,cB⟩:=eb;simp only[dR];have b3:=af (b2.out.trans r);have dC:=af (cY.out.fr r (fun x=>x));have dL:=af cB;clear r cB dR b2 cY b6;have dH:Hid (Fr ag w w'):=b3.out;generalize w'=et at*;have d3:Hid (∀W,Fr ag w W→cF W cs a):=fun W f=>cZ.out.ao f;obtain⟨cp,bI⟩:∃cp,(ef (cC a)).map bN=cp:=⟨_,rfl⟩;have a7:Hid (∀w',Fr ag w w'→Calls Tryz.prog 59 #[.string ⟨(cC a).toArray⟩] w' (aH w' (.agg cp.toArray))):=fun w' f=>by rw[←bI];exact bZ.out w' f aT.out
 have a8:Hid (∀w',Fr ag w w'→Calls Tryz.prog 84 #[.pointer (some ⟨g,0,none⟩), .agg cp.toArray] w' (Lt.nC w' g A (L.length+1) c mb (db E L) (ef (cC a)))):=fun w' f=>by rw[←bI];exact b0.out w' f
 clear bI bZ b0;generalize(⟨(cC a).toArray⟩:ByteArray)=er at*;go_upto_region 14 with fail;refine jn 6 [.pointer (some ⟨h,0,none⟩), .pointer (some ⟨h,0,none⟩), .pointer (some ⟨h,4,none⟩), .pointer (some ⟨g,0,none⟩), .string er, .agg cp.toArray] ?zT ?_;case zT=>
  refine⟨?yU,?yM,?yN,?yO,?yV,?yP,trivial⟩;all_goals intro u w' r o
  all_goals simp only[z1,z2,z3,z4,ar,Act.put,z5,z6,z7,Nat.reduceAdd,Nat.zero_add]
  case' yM=>simp only[show u 0=_ from o 0]
  case' yN=>simp only[show u 1=_ from o 1]
  case yO=>
   simp only[show u 2=_ from o 2];refine aF ?_;have q:=(c6.out _ (b3.out.trans r)).2.2;go_simp;exact aM
  case yP=>
   simp only[show u 4=_ from o 4];refine aF ?_;go_simp;refine(a7.out _ (b3.out.trans r)).mono ?_;rintro e dx⟨rfl,f4⟩;exact⟨rfl,f4⟩
  all_goals
   refine aF ?_;go_simp;exact aM
 intro w' r;simp only[z1,z2,z3,z4,ar,Act.put,z5,z6,z7,z8,z9,jX,jY,Nat.reduceAdd,Nat.zero_add];have bg:=af (b3.out.trans r);have dD:=af (dC.out.fr r (fun x=>x));have dM:=af (dL.out.ao r);clear r b3 dC dL;generalize w'=eu at*;go_wp2_with fail;refine(a8.out _ bg.out).mono ?_;rintro e ax⟨rfl,ay,aD,F,dU,M,an⟩;have bn:=af (bl.out.ao bg.out);have cm:Lt.dZ ax g ay ((L++[a]).length+1) aD F (db E (L++[a])) (Lt.bp ((L++[a]).length+1)):=by
  rw[EE,aS];exact dU
 have bo:Hid (dY ax h b s g (.slice y n1 C) (.slice I N J) K ay aD F E L L L (L++[a])):=bn.out.Lm M cm;have U:fM eu (Lt.TB g A (L.length+1) c mb):=fun k p=>bn.out.cN k (.inr (.inr (.inr p)));have ck:Hid (∀k,Lt.TB g A (L.length+1) c mb k→k<w.heap.size):=fun k p=>ae.out k (.inr (.inr (.inr p)));have cf:Hid (∀k,Lt.TB g ay ((L++[a]).length+1) aD F k→Lt.TB g A (L.length+1) c mb k∨w.heap.size≤k):=fun k p=>by
  rw[aS]at p;exact(an k p).imp id (fun h=>Nat.le_trans bg.out.size h)
 have cW:Hid (Fr (HB h (.slice y n1 C) (.slice I N J) g A (L.length+1) c mb) w ax):=bg.out.bO.trans (M.mono (fun i _ p=> .inr (.inr (.inr p))));have dE:=af (dD.out.fr M (fun e=>by have:=ck.out ab e;have:=ca.out;omega));have dN:=af (dM.out.cN M U);have b4:=af ((cZ.out.ao bg.out).cN M U);have a9:=af ((c0.out.cN bg.out (fM.nothing w)).cN M U);have bt:=bn.out.apart;have aV:Hid (ax.ownsRow 0 46 6 (.slice y n1 C) L.length am.flatten):=aL (aL c3.out bg.out (fun _ _ x=>x)) M (fun k p=>(bt.2.1 k p).2);have bj:=af bo.out.aE;have cn:Hid (¬(Value.slice y n1 C).ownBlock=some h):=bt.1.1;have c5:Hid (¬(Value.slice y n1 C).ownBlock=some ab):=fun e=>by have:=ae.out ab (.inr (.inl e));have:=ca.out;omega
 have aU:Hid (∀k,(Value.slice y n1 C).ownBlock=some k→k<ax.heap.size):=fun k p=>mU aV.out p;have bk:Hid (fM ax (fun k=>(Value.slice y n1 C).ownBlock=some k)):=vV aV.out (by decide) (by decide) (by decide);have bY:Hid (∀W,Fr (fun k=>(Value.slice y n1 C).ownBlock=some k) ax W→Calls Tryz.prog 87 #[.agg cs.toArray] W (rD W a)):=fun W f=>pD a cs W (b4.out.cN f bk.out) (by have:=ch.out;omega) (by have:=ch.out;omega);obtain⟨i0,cy,cG,a4,dt⟩:=info_parts qv;have da:Hid (¬1*i0.size>2^24):=by simp only[Hid];rw[a4];omega
 have dc:Hid (¬1*i0.size=0):=by simp only[Hid];rw[a4];omega
 have dd:Hid (∀ds:List Value,ds.length=6→Instr.fill (fun i=>some (i*i0.size,i0.size)) ((Array.range (1*i0.size)).map (ep.cells[· %ep.cells.size]!)) [(0, .agg ds.toArray)]=some ds.toArray):=fun ds di=>by rw[a4];exact Lt.ql _ _ 6 (by simpa using di) (by simp[ep,Value.cells])
 clear dU M an cm U bt a8 a7 dD dM d0;go_upto_region 17 with fail;refine yh 9 (fun k=>(Value.slice y n1 C).ownBlock=some k) [Is (.pointer (some ⟨h,0,none⟩)),Is (.pointer (some ⟨h,0,none⟩)),Is (.pointer (some ⟨h,0,none⟩)),Is (.pointer (some ⟨h,1,none⟩)),Is (.slice y n1 C),Is (.agg cs.toArray),fun x X=>∃ds:List Value,x= .agg ds.toArray∧cF X ds a∧j8 ax.heap.size ds,fun x X=>∃(i:Nat)(ds:List Value),x= .slice (some ⟨i,0,none⟩) 1 1∧aq X i 46 ds.toArray∧ax.heap.size≤i∧cF X ds a∧j8 ax.heap.size ds,fun x X=>∃ds:List Value,cF X ds a∧X.ownsRow 0 46 6 x (L.length+1) (am.flatten++ds)∧∀k,x.ownBlock=some k→(Value.slice y n1 C).ownBlock=some k∨ax.heap.size≤k] [(8,fun _=>True)] (fun X=>X.ownsRow 0 46 6 (.slice y n1 C) L.length am.flatten) (fun _ _=>false) (by kernel_rfl) (by kernel_rfl) (by kernel_rfl) (by kernel_rfl) (fun i=>i==8) (by rfl) ⟨Is.ah _,Is.ah _,Is.ah _,Is.ah _,Is.ah _,Is.ah _,fun _ _ _ _ r⟨ds,h,k,n⟩=>⟨ds,h,k.zp n (show Fr (fun k=>(Value.slice y n1 C).ownBlock=some k) _ _ from r) aU.out,n⟩,fun _ _ _ _ r⟨i,ds,h,b,l,k,n⟩=>⟨i,ds,h,b.fr (show Fr (fun k=>(Value.slice y n1 C).ownBlock=some k) _ _ from r) (fun t=>by have:=aU.out i t;omega),l,k.zp n (show Fr (fun k=>(Value.slice y n1 C).ownBlock=some k) _ _ from r) aU.out,n⟩,fun _ _ _ _ r⟨ds,H,bz,d8⟩=>⟨ds,H.ao (show Fr ag _ _ from r),aL bz (show Fr ag _ _ from r) (fun _ _ x=>x),d8⟩,trivial⟩ ⟨fun _ _ _ _ _=>trivial,trivial⟩ (fun _ _ _ h df=>aL df h (fun _ _ x=>x)) (aL aV.out (Fr.refl ag _).drew (fun _ _ x=>x)) ?_ ?_
 ·refine⟨?yQ,?yR,?zA,?zB,?zC,?zD,?zE,?zF,?zG,trivial⟩;all_goals intro u w' d r o bS aI aJ
  all_goals simp only[bw,bC,bD,bE,ar,Act.put,bF,bG,bH,Nat.reduceAdd,Nat.zero_add]
  case' zA=>simp only[show u 1=_ from o 1]
  case' zB=>simp only[show u 2=_ from o 2]
  case zC=>
   simp only[show u 3=_ from o 3];clear o bS aI aJ;refine aj ?_;have q:=(bj.out.fr r cn.out).cell 1;simp only[bP,List.getElem?_cons_succ,List.getElem?_cons_zero]at q;go_simp;exact⟨_,rfl,al⟩
  case zD=>
   clear o bS aI aJ;refine aj ?_;exact au _ _ rfl ⟨ab,0,none⟩ rfl cs _ (aO.out _ (dE.out.fr r c5.out)) Tryz.underlying46 rfl c4.out ⟨_,rfl,al⟩
  case zE=>
   simp only[show u 5=_ from o 5];clear o bS aI aJ;refine aj ?_;go_simp;refine(bY.out _ r).mono ?_;rintro e dx⟨ds,rfl,di,f4,cQ⟩;exact⟨_,rfl,f4,⟨ds,rfl,di,cQ.mono r.size⟩,trivial⟩
  case zF=>
   obtain⟨aZ,bx,cr,n6⟩:=o 6;simp only[bx];clear o bS aI aJ;refine aj ?_;have dl:aZ.length=6:=cr.len;refine wp_buildSlice 26 46 1 #[(0, .tmp 76)] rfl aZ.toArray i0 ep Tryz.underlying26 cy cG da.out dc.out ?_ ?_;·simp only[List.map_toArray,List.map_cons,List.map_nil];exact dd.out aZ dl
   ·exact⟨_,rfl,az.alloc _,⟨w'.heap.size,aZ,rfl,aq.new _ _ _,r.size,cr.ao (az.alloc _),n6⟩,trivial⟩
  case zG=>
   obtain⟨i7,bv,cL,b7,eB,ct,n7⟩:=o 7;simp only[show u 4=_ from o 4,cL];clear o;refine aj ?_;have df:w'.ownsRow 0 46 6 (.slice y n1 C) L.length am.flatten:=by rw[dq,if_neg (by rw[aI 8 (by kernel_rfl)];exact Bool.false_ne_true)]at aJ;exact aJ
   clear bS aI aJ;have ed:bv.length=6:=ct.len;refine uP _ (.tmp 74) (.tmp 77) 26 rfl 46 i0 ep 6 88 Tryz.underlying26 cy cG a4 dt rfl (by decide) _ _ _ rfl df (fun _=>True) (some ⟨i7,0,none⟩) 1 1 bv rfl ⟨by omega,fun _=>⟨_,rfl,trivial,fun j x ap=>by rw[Addr.add_mid,Nat.zero_add,b7.cell,bP];exact ap⟩⟩ (fun u hu=>by have h:=ActV.one ct;rw[Array.all_eq_true_iff_forall_mem]at h;exact h u (by simpa using hu)) (by have:=Z.out;omega) (by decide) ?_;intro eD eE a3;exact⟨_,rfl,a3.fr,⟨bv,ct.zp n7 a3.fr aU.out,a3.own,fun k p=>(a3.eG k p).imp id (fun h=>Nat.le_trans r.size h)⟩,trivial⟩
  all_goals
   clear o bS aI aJ;refine aj ?_;go_simp;exact⟨_,rfl,al⟩
 intro u w' r o aJ;obtain⟨c7,cu,a0,bA⟩:=o 8 (by omega);have aI:u 0=_:=o 0 (by omega);obtain⟨Y,O,aa,c8,dF,_⟩:=aG a0;rw[c8]at a0 bA;simp only[bw,bC,bD,bE,ar,Act.put,bF,bG,bH,dj,dk,Nat.reduceAdd,Nat.zero_add,aI,c8];have bX:Hid (jZ w' (.slice Y O aa) (L++[a])):=⟨am++[c7],by rw[List.flatten_append,List.flatten_cons,List.flatten_nil,List.append_nil,aS];exact a0,(a9.out.cN r bk.out).snoc cu⟩;have ad:=af r;have bh:=af bA;have dO:=af (dN.out.cN r bk.out);have bd:=af (bj.out.fr r cn.out);have cg:Hid (O=L.length+1):=dF.out;clear r o aJ aI c8 cu a0 bA dN a9 b4 bY aV bj dE dF;go_wp2_with(refine aW rfl 26 (.tmp 80) (.tmp 78) rfl h 1 (.slice Y O aa) rfl rfl rfl IB _ _ #[.pointer (some ⟨b,0,none⟩), .slice Y O aa, .slice I N J, .pointer (some ⟨s,0,none⟩), .pointer (some ⟨g,0,none⟩)] bd.out (show 1<5 by decide) rfl ?_);intro dX b9 f9;have ci:Hid (dY dX h b s g (.slice Y O aa) (.slice I N J) K ay aD F E (L++[a]) L L (L++[a])):=bo.out.Lh ad.out bX.out bh.out f9 b9;have dP:=af (dO.out.cN f9 (pI bd.out (by decide) (by decide) (by decide)));have ce:Hid (∀k,(Value.slice Y O aa).ownBlock=some k→(Value.slice y n1 C).ownBlock=some k∨w.heap.size≤k):=fun k p=>(bh.out k p).imp id (fun h=>Nat.le_trans cW.out.size h);have dB:Hid (Fr (HB h (.slice y n1 C) (.slice I N J) g A (L.length+1) c mb) w dX):=(cW.out.trans (ad.out.mono (fun i _ p=> .inr (.inl p)))).trans (f9.mono (fun i _ p=> .inl p));have dy:=af b9;clear b9 f9 bo ad bX bh dO bd cW;go_wp2_with(refine aW rfl 25 (.tmp 84) (.tmp 82) rfl h 3 (.pointer (some ⟨R,0,none⟩)) rfl rfl rfl Kt _ _ #[.pointer (some ⟨b,0,none⟩), .slice Y O aa, .slice I N J, .pointer (some ⟨R,0,none⟩), .pointer (some ⟨g,0,none⟩)] dy.out (show 3<5 by decide) rfl ?_);intro av iU f10;have D:Hid (dY av h b R g (.slice Y O aa) (.slice I N J) K ay aD F E (L++[a]) L (L++[a]) (L++[a])):=ci.out.Lj f10 dP.out iU;have bf:Hid (Fr (HB h (.slice y n1 C) (.slice I N J) g A (L.length+1) c mb) w av):=dB.out.trans (f10.mono (fun i _ p=> .inl p));have bc:=af iU;clear iU f10 ci dB dy dP;have bu:av.cell? {block:=h,off:=1}=some (.slice Y O aa):=bc.out.cell 1;have cl:Hid (∀(a6:Value)(dK:List Nat)w',dY w' h b R g (.slice Y O aa) a6 dK ay aD F E (L++[a]) (L++[a]) (L++[a]) (L++[a])→Fr (HB h (.slice y n1 C) (.slice I N J) g A (L.length+1) c mb) w w'→(∀k,a6.ownBlock=some k→(Value.slice I N J).ownBlock=some k∨w.heap.size≤k)→AE w h E L (HB h (.slice y n1 C) (.slice I N J) g A (L.length+1) c mb) a (.returned (.int .i64 0)) w'):=fun a6 dK w' cR r p=>by
  refine⟨HB h (.slice Y O aa) a6 g ay ((L++[a]).length+1) aD F,by rw[bi.out],by rw[bi.out];exact⟨b,R,g,_,_,_,ay,aD,F,cR,rfl⟩,r,fun k dp=>?_⟩;rcases dp with H|H|H|H;·exact .inl (.inl H)
  ·exact(ce.out k H).imp (fun h=> .inr (.inl h)) id
  ·exact(p k H).imp (fun h=> .inr (.inr (.inl h))) id
  ·exact(cf.out k H).imp (fun h=> .inr (.inr (.inr h))) id
 clear bi ce cf ae ck;by_cases hm:(L.length+1)%16=0;case neg=>
  have dQ:(O:Int).tmod 16=(((L.length+1)%16:Nat):Int):=by rw[Int.tmod_eq_emod_of_nonneg (by omega),cg.out];omega
  have a2:((((L.length+1)%16:Nat):Int)==0)=false:=by rw[beq_eq_false_iff_ne];omega
  have ba:Hid (K.length=(L++[a]).length/16):=by
   rw[Hid,D.out.mq,aS,List.length_singleton];omega
  generalize dr:(L.length+1)%16=m at dQ a2;have br:Hid (dY av h b R g (.slice Y O aa) (.slice I N J) K ay aD F E (L++[a]) (L++[a]) (L++[a]) (L++[a])):=by
   have q:=D.out;refine⟨q.aE,q.base,q.jq,q.kept,ba.out,fun i k p=>?_,q.last,q.log⟩;have cO:=(List.getElem?_eq_some_iff.1 p).1;have dW:=q.mq;have H:=q.q9 i k p;rw[List.take_append_of_le_length (by omega)];exact H
  clear hm dr ba;go_wp2;go_ret;exact cl.out _ _ _ br.out bf.out (fun k p=> .inl p)
 case pos=>
  have dQ:(O:Int).tmod 16=0:=by rw[Int.tmod_eq_emod_of_nonneg (by omega),cg.out];omega
  have dI:=af hm;have d6:av.cell? {block:=h,off:=2}=some (.slice I N J):=bc.out.cell 2;obtain⟨du,dn,dv,bR,dw⟩:=info_parts yZ;have ee:Hid (¬1*du.size>2^24):=by simp only[Hid];rw[bR];omega
  have eg:Hid (¬1*du.size=0):=by simp only[Hid];rw[bR];omega
  have co:=af D.out.kept;have cb:Hid (K.length≤65536):=by have:=D.out.mq;have:=Z.out;simp only[Hid];omega
  clear hm;go_wp2_with(refine cP _ rfl _ _ 108 rfl 25 du (.pointer none) 1 8 Tryz.underlying108 dn dv bR dw rfl (by decide) _ _ _ rfl co.out 1 #[.pointer (some ⟨R,0,none⟩)] _ rfl rfl rfl (fun u hu=>by simp at hu;subst hu;rfl) (by have:=cb.out;omega) (by decide) ?_);intro v11 es a3;obtain⟨aN,a5,aX,rfl,d2,_⟩:=aG a3.own;have G:=af a3;have cS:=af (bc.out.fr a3.fr (D.out.apart.1.2.1));clear a3 bu d6;go_wp2_with(refine aW rfl 108 (.tmp 101) (.tmp 99) rfl h 2 (.slice aN a5 aX) rfl rfl rfl IE _ _ #[.pointer (some ⟨b,0,none⟩), .slice Y O aa, .slice aN a5 aX, .pointer (some ⟨R,0,none⟩), .pointer (some ⟨g,0,none⟩)] cS.out (show 2<5 by decide) rfl ?_);intro cI cq f12;have cc:(K++[R]).length=(L++[a]).length/16:=by
   have H:=D.out.mq;have bz:=dI.out;rw[aS,aS,List.length_singleton,List.length_singleton,H];omega
  have br:Hid (dY cI h b R g (.slice Y O aa) (.slice aN a5 aX) (K++[R]) ay aD F E (L++[a]) (L++[a]) (L++[a]) (L++[a])):=by
   have q:=D.out;refine q.Li G.out.fr (by rw[List.map_append,aS];exact G.out.own) G.out.eG cc (fun i k p=>?_) f12 cq;by_cases cO:i<K.length;·rw[List.getElem?_append_left cO]at p;have H:=q.q9 i k p;have dW:=q.mq;rw[List.take_append_of_le_length (by omega)];exact H
   ·have dm:i=K.length:=by
     have:=(List.getElem?_eq_some_iff.1 p).1;rw[aS,List.length_singleton]at this;omega
    rw[dm,List.getElem?_append_right (Nat.le_refl _),Nat.sub_self]at p;cases p;have dW:=q.mq;have hm:=dI.out;rw[List.take_of_length_le (by rw[aS,List.length_singleton];omega)];exact q.last
  have cV:Hid (Fr (HB h (.slice y n1 C) (.slice I N J) g A (L.length+1) c mb) w cI):=(bf.out.aw G.out.fr (fun i _ p=> .inr (.inr (.inl p)))).trans (f12.mono (fun i _ p=> .inl p));have cd:Hid (∀k,(Value.slice aN a5 aX).ownBlock=some k→(Value.slice I N J).ownBlock=some k∨w.heap.size≤k):=fun k p=>(G.out.eG k p).imp id (fun h=>Nat.le_trans bf.out.size h);clear cq f12 cc G;go_wp2;go_ret;exact cl.out _ _ _ br.out cV.out cd.out
end Go.Proofs.YtphjagkehiklkaaGreatDoor
namespace Go.Proofs.YtphjagkehiklkaaGreatDoor.Lt
open Go.RowKit
def og(w w':World)(p:Nat)(ds:List (List UInt8)):Prop:=∃A c mb,dZ w' p A ds.length c mb ds (bp ds.length)∧Fr ag w w'∧∀k,TB p A ds.length c mb k→w.heap.size≤k
theorem og.ao{w w' a:World}{p:Nat}{ds:List (List UInt8)}(h:og w w' p ds)(b:Fr ag w' a):og w a p ds:=by
 obtain⟨A,c,mb,d,e,f⟩:=h;exact⟨A,c,mb,d.ao b,e.trans b,f⟩
theorem og.append{w w' a:World}{p:Nat}{ds:List (List UInt8)}{d:List UInt8}{A:Option Addr}{c:Nat}{mb:Option Nat}(g:∀k,TB p A ds.length c mb k→w.heap.size≤k)(f:Fr ag w w'){e:Ending}(n:nC w' p A ds.length c mb ds d e a):og w a p (ds++[d]):=by
 obtain⟨_,l,m,b,o,q,r⟩:=n;refine⟨l,m,b,by rw[aS,List.length_singleton];exact o,f.aw q (fun i s e=>by have:=g i e;omega),fun k j=>?_⟩;rw[aS,List.length_singleton]at j;rcases r k j with h|h;·exact g k h
 ·exact Nat.le_trans f.size h
end Go.Proofs.YtphjagkehiklkaaGreatDoor.Lt
namespace Go.Proofs.YtphjagkehiklkaaGreatDoor.Lt
open Go.RowKit
def da(ds:List (List UInt8))(index:Nat):List (List UInt8):=
 if a:1≤aN ds.length∧aN ds.length<ds.length then
  (if index<aN ds.length then da (ds.take (aN ds.length)) index++[cW (ds.drop (aN ds.length))]else da (ds.drop (aN ds.length)) (index-aN ds.length)++[cW (ds.take (aN ds.length))])
 else[]
termination_by ds.length
decreasing_by
 ·simp only[List.length_take];omega
 ·simp only[List.length_drop];omega
theorem mw(ds:List (List UInt8))(index:Nat)(h:ds.length≤1):da ds index=[]:=by
 rw[da,dif_neg (by omega)]
theorem mV(ds:List (List UInt8))(index n:Nat)(b:ds.length=n)(d:2≤n)(e:n≤1099511627776):da ds index=if index<aN n then da (ds.take (aN n)) index++[cW (ds.drop (aN n))]else da (ds.drop (aN n)) (index-aN n)++[cW (ds.take (aN n))]:=by
 obtain⟨a,_,c⟩:=dD n d e;rw[da,dif_pos (by rw[b];exact⟨c,a⟩),b]
theorem EC(n k:Nat)(c:2≤n)(d:n≤1099511627776)(h:n≤2^(k+1)):aN n≤2^k:=by
 obtain⟨a,_,_⟩:=dD n c d;have e:aN n=2^(Lib.bitLen (n-1)-1):=rfl;rw[e]at a⊢;refine Nat.pow_le_pow_right (by omega) ?_;rcases Nat.lt_or_ge k (Lib.bitLen (n-1)-1)with b|b;·have:2^(k+1)≤2^(Lib.bitLen (n-1)-1):=Nat.pow_le_pow_right (by omega) b;omega
 ·exact b
theorem lL:∀(k:Nat)(ds:List (List UInt8))(i:Nat),ds.length≤2^k→ds.length≤1048576→(da ds i).length≤k
 |0,ds,i,h,_=>by rw[mw ds i (by simpa using h)];simp
 |k+1,ds,i,h,e=>by
  by_cases d:2≤ds.length
  ·obtain⟨a,b,c⟩:=dD ds.length d (by omega);have f:=EC ds.length k d (by omega) h;rw[mV ds i _ rfl d (by omega)];split;·rw[aS,List.length_singleton];have:=lL k (ds.take (aN ds.length)) i (by rw[List.length_take];omega) (by rw[List.length_take];omega);omega
   ·rw[aS,List.length_singleton];have:=lL k (ds.drop (aN ds.length)) (i-aN ds.length) (by rw[List.length_drop];omega) (by rw[List.length_drop];omega);omega
  ·rw[mw ds i (by omega)];simp
theorem Ct(n:Nat):∀(ds:List (List UInt8))(i:Nat),ds.length=n→n≤1048576→(∀d∈ds,d.length=32)→∀d∈da ds i,d.length=32:=by
 induction n using Nat.strongRecOn with
 |_ n k=>
  intro ds i g m he d f;by_cases j:2≤n
  ·obtain⟨a,b,c⟩:=dD n j (by omega);rw[mV ds i n g j (by omega)]at f;have l:(cW (ds.drop (aN n))).length=32:=gM (n-aN n) _ (by rw[List.length_drop,g]) (by omega) (by omega) (fun x e=>he x (List.mem_of_mem_drop e));have j:(cW (ds.take (aN n))).length=32:=gM (aN n) _ (by rw[List.length_take,g];omega) (by omega) (by omega) (fun x e=>he x (List.mem_of_mem_take e));split at f
   ·rcases List.mem_append.1 f with h|h;·exact k (aN n) a _ i (by rw[List.length_take,g];omega) (by omega) (fun x e=>he x (List.mem_of_mem_take e)) d h
    ·rw[List.mem_singleton.1 h];exact l
   ·rcases List.mem_append.1 f with h|h;·exact k (n-aN n) (by omega) _ _ (by rw[List.length_drop,g]) (by omega) (fun x e=>he x (List.mem_of_mem_drop e)) d h
    ·rw[List.mem_singleton.1 h];exact j
  ·rw[mw ds i (by omega)]at f;cases f
theorem xu(leaf:List UInt8)(pre:List Bool)(P X:List (List UInt8))(h:P.length=pre.length):dF leaf pre (P++X)=dF leaf pre P:=by
 unfold dF;have:pre.zip (P++X)=pre.zip P:=by
  have a:=List.zip_append (l₁:=pre) (l₂:=P) (r₁:=[]) (r₂:=X) h.symm;simpa using a
 rw[this]
theorem I2(n:Nat):∀(ds:List (List UInt8))(i:Nat),ds.length=n→i<n→n≤1048576→(da ds i).length=(bR i n).length∧(dF (ds.getD i []) (bR i n) (da ds i)).1=cW ds:=by
 induction n using Nat.strongRecOn with
 |_ n l=>
  intro ds i j m o;by_cases h:2≤n
  ·obtain⟨a,b,c⟩:=dD n h (by omega);rw[mV ds i n j h (by omega),mY ds n j h (by omega)];by_cases f:i<aN n
   ·obtain⟨e,g⟩:=l (aN n) a (ds.take (aN n)) i (by rw[List.length_take,j];omega) f (by omega);have k:(ds.take (aN n)).getD i []=ds.getD i []:=by rw[List.getD_eq_getElem?_getD,List.getD_eq_getElem?_getD,List.getElem?_take_of_lt f]
    rw[k]at g;rw[if_pos f,sw h (by omega) f];refine⟨by rw[aS,aS,e];rfl,?_⟩;rw[mB _ _ _ true (cW (ds.drop (aN n))) (by rw[←e,List.getElem?_append_right (Nat.le_refl _),Nat.sub_self];rfl),xu _ _ _ _ e];simp only[oQ,if_true,g]
   ·obtain⟨e,g⟩:=l (n-aN n) (by omega) (ds.drop (aN n)) (i-aN n) (by rw[List.length_drop,j]) (by omega) (by omega);have k:(ds.drop (aN n)).getD (i-aN n) []=ds.getD i []:=by rw[List.getD_eq_getElem?_getD,List.getD_eq_getElem?_getD,List.getElem?_drop,show aN n+(i-aN n)=i by omega]
    rw[k]at g;rw[if_neg f,qI h (by omega) f];refine⟨by rw[aS,aS,e];rfl,?_⟩;rw[mB _ _ _ false (cW (ds.take (aN n))) (by rw[←e,List.getElem?_append_right (Nat.le_refl _),Nat.sub_self];rfl),xu _ _ _ _ e];simp only[oQ,Bool.false_eq_true,if_false,g]
  ·obtain rfl:n=1:=by omega
   obtain rfl:i=0:=by omega
   rw[mw ds 0 (by omega),uu];refine⟨rfl,?_⟩;match ds,j with
   |[d],_=>rw[rp];rfl
theorem Fg(n:Nat)(ds:List (List UInt8))(i:Nat)(d:ds.length=n)(c:i<n)(e:n≤1048576):(dp (ds.getD i []) i n (da ds i)).1=cW ds∧(dp (ds.getD i []) i n (da ds i)).2.2=0:=by
 obtain⟨a,b⟩:=I2 n ds i d c e;unfold dp;rw[if_pos (by omega),Int.toNat_natCast,Int.toNat_natCast,if_pos a];exact⟨b,rfl⟩
def zf(m:Nat):Prop:=∀(w:World)(p:Nat)(A:Option Addr)(n c:Nat)(mb:Option Nat)(ds:List (List UInt8))(C:Nat→Nat→Prop)(f k i:Nat),dZ w p A n c mb ds C→Full C n→n≤1048576→bT w→i<m→f+m≤n→m≤2^k→2^k∣f→
 Calls Tryz.prog 109 #[.pointer (some ⟨p,0,none⟩), .int .i64 i, .int .i64 f, .int .i64 m] w (po w (da ((ds.drop f).take m) i).length (da ((ds.drop f).take m) i))
theorem zK:zf 1:=by
 intro w p A n c mb ds C f k i _ _ _ _ _ _ _ _;rw[mw _ _ (by rw[List.length_take];omega)];go_enter Tryz.func109,Tryz.ntmps109;go_wp2;go_ret;exact⟨_,rfl,bK.start ⟨rfl, .inl ⟨rfl,rfl⟩⟩⟩
theorem xT(m:Nat)(Y:∀j,j<m→zf j)(R:2≤m):zf m:=by
 intro w p A n c mb ds C f k i t hF X N an S U I;obtain⟨i0,B,D,o,V⟩:=info_parts sd;obtain⟨a,b,Q⟩:=dD m R (by omega);obtain⟨lv,y⟩:∃lv,aN m=2^lv:=⟨_,rfl⟩;have ai:lv≤k:=pS (by omega);have M:2^lv∣f:=pF ai I;have hlen:((ds.drop f).take m).length=m:=by rw[List.length_take,List.length_drop,t.len];omega
 have aa:=af (fun w=>nt m w R (by omega));obtain⟨P,W⟩:∃P,P=aN m:=⟨_,rfl⟩;rw[←W]at aa a b Q y;have e:=mV _ i m hlen R (by omega);rw[←W,qJ _ (by omega),List.drop_take,List.drop_drop]at e;obtain⟨f2,x⟩:∃f2:Nat,f2=f+P:=⟨_,rfl⟩;obtain⟨m2,K⟩:∃m2:Nat,m2=m-P:=⟨_,rfl⟩;rw[←x,←K]at e;have s1:(f:Int)+(P:Int)=(f2:Int):=by omega
 have s2:(m:Int)-(P:Int)=(m2:Int):=by omega
 have f4:f≤1048576:=by omega
 have f24:f2≤1048576:=by omega
 have m4:m≤1048576:=by omega
 have m24:m2≤1048576:=by omega
 have am:P≤1048576:=by omega
 have i4:i≤1048576:=by omega
 have m1:((m:Int)==1)=false:=by rw[beq_eq_false_iff_ne];omega
 have g1:Hid (¬1*i0.size>2^24):=by simp only[Hid];rw[o];omega
 have g2:Hid (¬1*i0.size=0):=by simp only[Hid];rw[o];omega
 have E:∀(l:List (List UInt8))(j:Nat),l.length≤1048576→(da l j).length≤20:=fun l j h=>lL 20 l j h h;by_cases J:i<P
 ·rw[if_pos J]at e;rw[e];have Z:Hid (∀w',Fr ag w w'→Calls Tryz.prog 109 #[.pointer (some ⟨p,0,none⟩), .int .i64 i, .int .i64 f, .int .i64 P] w' (po w' (da ((ds.drop f).take P) i).length (da ((ds.drop f).take P) i))):=
   fun w' v=>Y P a w' p A n c mb ds C f lv i (t.ao v) hF X (N.ao v) J (by omega) (by omega) M;have F:Hid (∀w',Fr ag w w'→Calls Tryz.prog 110 #[.pointer (some ⟨p,0,none⟩), .int .i64 f2, .int .i64 m2] w' (aH w' (aY (cW ((ds.drop f2).take m2))))):=
   fun w' v=>xp m2 (by omega) w' p A n c mb ds C f2 lv (t.ao v) hF X (N.ao v) (by omega) (by omega) (by omega) (by rw[x,y];exact(Nat.dvd_add_right M).2 (Nat.dvd_refl _));have L:(cW ((ds.drop f2).take m2)).length=32:=gM m2 _ (by rw[List.length_take,List.length_drop,t.len];omega) (by omega) (by omega) (fun d ah=>t.each d (List.mem_of_mem_drop (List.mem_of_mem_take ah)));have al:=E ((ds.drop f).take P) i (by rw[List.length_take];omega);have ak:(i:Int)<(P:Int):=by omega
  generalize da ((ds.drop f).take P) i=PL at*;generalize cW ((ds.drop f2).take m2)=g at*;have ab:Hid (Instr.fill (fun i=>some (i*32,32)) ((Array.range (1*32)).map (aZ.cells[· %aZ.cells.size]!)) [(0, .agg (aA g).toArray)]=some (aA g).toArray):=sR _ _ (by simp[aA,L]) (by simp);have ac:Hid ((aA g).toArray.size=1*32):=by simp[Hid,aA,L]
  have ad:Hid (∀u∈(aA g).toArray.toList,u.oneCell'=true):=by
   intro u hu;exact jg _ u (by simpa[aA]using hu)
  have q:Hid ((PL++[g]).flatMap aA=PL.flatMap aA++aA g∧(PL++[g]).length=PL.length+1):=⟨by rw[List.flatMap_append,List.flatMap_singleton],by simp⟩;unfold aY at F;simp only[show∀l:List UInt8,l.map bN=aA l from fun _=>rfl]at F;generalize aA g=z at*;have g3:Hid (Instr.fill (fun i=>some (i*i0.size,i0.size)) ((Array.range (1*i0.size)).map (aZ.cells[· %aZ.cells.size]!)) [(0, .agg z.toArray)]=some z.toArray):=by simp only[Hid];rw[o];exact ab.out
  clear t hF N W x K S U I M ai hlen Y R a b Q y e L E;go_enter Tryz.func109,Tryz.ntmps109;go_wp2_with fail;refine(aa.out _).mono ?_;rintro e w'⟨rfl,rfl⟩;go_wp2_with fail;refine(Z.out _ az).mono ?_;rintro e w1⟨v1,rfl,H⟩;have G:=af H;obtain⟨aj,n1,Q,rfl,H1,_⟩:=aG H.own;clear H;go_wp2_with fail;refine(F.out _ G.out.ao).mono ?_;rintro e w2⟨rfl,r⟩;have O:=af (G.out.behind r);clear r G;go_wp2_with(refine wpList_buildSlice rfl 31 38 1 #[(0, .tmp 29)] rfl z.toArray i0 aZ Tryz.underlying31 B D g1.out g2.out (by simp only[List.map_toArray,List.map_cons,List.map_nil];exact g3.out) (aR.go ?hold));unfold aR;refine cP _ rfl _ _ 31 rfl 38 i0 aZ 32 32 Tryz.underlying31 B D o V rfl (by omega) _ _ _ rfl O.out.own 1 z.toArray _ rfl rfl ac.out ad.out (by omega) (by omega) ?_;intro v3 w3 s;have ae:Hid (bK 38 32 w (.slice none 0 0) w3 v3 (PL++[g]).length ((PL++[g]).flatMap aA)):=by
   have h:=O.out.trans s;simp only[Hid];rw[q.out.1,q.out.2];exact h
  clear s;go_wp2;go_ret;exact⟨_,rfl,ae.out⟩
 ·rw[if_neg J]at e;rw[e];obtain⟨i2,T⟩:∃i2:Nat,i2=i-P:=⟨_,rfl⟩;rw[←T];have aq:(i:Int)-(P:Int)=(i2:Int):=by omega
  have i24:i2≤1048576:=by omega
  have Z:Hid (∀w',Fr ag w w'→Calls Tryz.prog 109 #[.pointer (some ⟨p,0,none⟩), .int .i64 i2, .int .i64 f2, .int .i64 m2] w' (po w' (da ((ds.drop f2).take m2) i2).length (da ((ds.drop f2).take m2) i2))):=
   fun w' v=>Y m2 (by omega) w' p A n c mb ds C f2 lv i2 (t.ao v) hF X (N.ao v) (by omega) (by omega) (by omega) (by rw[x,y];exact(Nat.dvd_add_right M).2 (Nat.dvd_refl _));have F:Hid (∀w',Fr ag w w'→Calls Tryz.prog 110 #[.pointer (some ⟨p,0,none⟩), .int .i64 f, .int .i64 P] w' (aH w' (aY (cW ((ds.drop f).take P))))):=
   fun w' v=>xp P (by omega) w' p A n c mb ds C f lv (t.ao v) hF X (N.ao v) (by omega) (by omega) (by omega) M;have L:(cW ((ds.drop f).take P)).length=32:=gM P _ (by rw[List.length_take,List.length_drop,t.len];omega) (by omega) (by omega) (fun d ah=>t.each d (List.mem_of_mem_drop (List.mem_of_mem_take ah)));have al:=E ((ds.drop f2).take m2) i2 (by rw[List.length_take];omega);have ak:decide ((i:Int)<(P:Int))=false:=cD (by omega);have ap:¬i<P:=by omega
  generalize da ((ds.drop f2).take m2) i2=PL at*;generalize cW ((ds.drop f).take P)=g at*;have ab:Hid (Instr.fill (fun i=>some (i*32,32)) ((Array.range (1*32)).map (aZ.cells[· %aZ.cells.size]!)) [(0, .agg (aA g).toArray)]=some (aA g).toArray):=sR _ _ (by simp[aA,L]) (by simp);have ac:Hid ((aA g).toArray.size=1*32):=by simp[Hid,aA,L]
  have ad:Hid (∀u∈(aA g).toArray.toList,u.oneCell'=true):=by
   intro u hu;exact jg _ u (by simpa[aA]using hu)
  have q:Hid ((PL++[g]).flatMap aA=PL.flatMap aA++aA g∧(PL++[g]).length=PL.length+1):=⟨by rw[List.flatMap_append,List.flatMap_singleton],by simp⟩;unfold aY at F;simp only[show∀l:List UInt8,l.map bN=aA l from fun _=>rfl]at F;generalize aA g=z at*;have g3:Hid (Instr.fill (fun i=>some (i*i0.size,i0.size)) ((Array.range (1*i0.size)).map (aZ.cells[· %aZ.cells.size]!)) [(0, .agg z.toArray)]=some z.toArray):=by simp only[Hid];rw[o];exact ab.out
  clear t hF N W x K T S U I M ai hlen Y R a b Q y e L E;go_enter Tryz.func109,Tryz.ntmps109;go_wp2_with fail;refine(aa.out _).mono ?_;rintro e w'⟨rfl,rfl⟩;go_wp2_with fail;refine(Z.out _ az).mono ?_;rintro e w1⟨v1,rfl,H⟩;have G:=af H;obtain⟨aj,n1,Q,rfl,H1,_⟩:=aG H.own;clear H;go_wp2_with fail;refine(F.out _ G.out.ao).mono ?_;rintro e w2⟨rfl,r⟩;have O:=af (G.out.behind r);clear r G;go_wp2_with(refine wpList_buildSlice rfl 31 38 1 #[(0, .tmp 46)] rfl z.toArray i0 aZ Tryz.underlying31 B D g1.out g2.out (by simp only[List.map_toArray,List.map_cons,List.map_nil];exact g3.out) (aR.go ?zA));unfold aR;refine cP _ rfl _ _ 31 rfl 38 i0 aZ 32 32 Tryz.underlying31 B D o V rfl (by omega) _ _ _ rfl O.out.own 1 z.toArray _ rfl rfl ac.out ad.out (by omega) (by omega) ?_;intro v3 w3 s;have ae:Hid (bK 38 32 w (.slice none 0 0) w3 v3 (PL++[g]).length ((PL++[g]).flatMap aA)):=by
   have h:=O.out.trans s;simp only[Hid];rw[q.out.1,q.out.2];exact h
  clear s;go_wp2;go_ret;exact⟨_,rfl,ae.out⟩
theorem BE(m:Nat)(hm:1≤m):zf m:=by
 induction m using Nat.strongRecOn with
 |_ m e=>
  by_cases b:2≤m
  ·refine xT m (fun j d=>?_) b;rcases Nat.eq_zero_or_pos j with rfl|a;·intro w p A n c mb ds C f k i _ _ _ _ h;omega
   ·exact e j d a
  ·obtain rfl:m=1:=by omega
   exact zK
def sc(ds:List (List UInt8))(i k:Int):List (List UInt8)×Int:=if 1≤k∧k≤ds.length∧0≤i∧i<k then(da (ds.take k.toNat) i.toNat,0)else([],2)
def sJ(w:World)(V:List (List UInt8)×Int)(e:Ending)(w':World):Prop:=∃v,e= .returned (.tuple #[v, .int .i64 V.2])∧bK 38 32 w (.slice none 0 0) w' v V.1.length (V.1.flatMap aA)
theorem sJ.none{w w':World}{k:Int}(h:Fr ag w w'):sJ w ([],k) (.returned (.tuple #[.slice none 0 0, .int .i64 k])) w':=⟨_,rfl,⟨⟨rfl, .inl ⟨rfl,rfl⟩⟩,h.bO,fun _ a=> .inl a⟩⟩
theorem zh(E w:World)(p:Nat)(ds:List (List UInt8))(i k:Int)(B:og E w p ds)(C:ds.length≤1048576)(o:bT w)(G:-9223372036854775808≤i∧i≤9223372036854775807)(H:-9223372036854775808≤k∧k≤9223372036854775807):
  Calls Tryz.prog 56 #[.pointer (some ⟨p,0,none⟩), .int .i64 i, .int .i64 k] w (sJ w (sc ds i k)):=by
 obtain⟨A,c,mb,l,q,r⟩:=B;obtain⟨n,f⟩:∃n,n=ds.length:=⟨_,rfl⟩;have j:Hid (∀w',Calls Tryz.prog 89 #[.int .i64 k, .int .i64 1, .int .i64 n] w' (bm w' (.bool (decide (1≤k∧k≤n))))):=fun w'=>fI k 1 n w';have F:w.cell? ⟨p,0,none⟩=some (.slice A n c):=by rw[f];exact l.aE.cell 0
 by_cases a:1≤k∧k≤(n:Int)
 ·obtain⟨kn,rfl⟩:∃kn:Nat,k=kn:=⟨k.toNat,by omega⟩;obtain⟨g,x⟩:∃g:Nat,(kn:Int)-1=(g:Int):=⟨kn-1,by omega⟩;have m:Hid (∀w',Calls Tryz.prog 89 #[.int .i64 i, .int .i64 0, .int .i64 g] w' (bm w' (.bool (decide (0≤i∧i≤g))))):=fun w'=>fI i 0 g w';rw[decide_eq_true a]at j;by_cases d:0≤i∧i≤(g:Int)
  ·obtain⟨b,rfl⟩:∃b:Nat,i=b:=⟨i.toNat,by omega⟩;rw[decide_eq_true d]at m;have e:sc ds b kn=(da (ds.take kn) b,0):=by
    unfold sc;rw[if_pos (by omega),Int.toNat_natCast,Int.toNat_natCast]
   rw[e];have y:Hid (∀w',Fr ag w w'→Calls Tryz.prog 109 #[.pointer (some ⟨p,0,none⟩), .int .i64 b, .int .i64 0, .int .i64 kn] w' (po w' (da (ds.take kn) b).length (da (ds.take kn) b))):=fun w' u=>by
    have h:=BE kn (by omega) w' p A ds.length c mb ds (bp ds.length) 0 20 b (l.ao u) (ue _) C (o.ao u) (by omega) (by omega) (by omega) (Nat.dvd_zero _);rw[List.drop_zero]at h;exact h
   generalize da (ds.take kn) b=PL at*;have s:kn≤1048576:=by omega
   have D:b≤1048576:=by omega
   clear e l q r o a d f;go_enter Tryz.func56,Tryz.ntmps56;go_wp2_with fail;refine(j.out _).mono ?_;rintro e w'⟨rfl,rfl⟩;go_wp2_with fail;refine(m.out _).mono ?_;rintro e w'⟨rfl,rfl⟩;go_wp2_with fail;refine(y.out _ az).mono ?_;rintro e w1⟨v,rfl,t⟩;have z:=af t;clear t;go_wp2;go_ret2;exact⟨v,rfl,z.out⟩
  ·rw[decide_eq_false d]at m;have e:sc ds i kn=([],2):=by
    unfold sc;rw[if_neg (by omega)]
   rw[e];have s:kn≤1048576:=by omega
   clear e l q r o a d f;go_enter Tryz.func56,Tryz.ntmps56;go_wp2_with fail;refine(j.out _).mono ?_;rintro e w'⟨rfl,rfl⟩;go_wp2_with fail;refine(m.out _).mono ?_;rintro e w'⟨rfl,rfl⟩;go_wp2;go_ret2;exact sJ.none az
 ·rw[decide_eq_false a]at j;have e:sc ds i k=([],2):=by
   unfold sc;rw[if_neg (by omega)]
  rw[e];clear e l q r o a f;go_enter Tryz.func56,Tryz.ntmps56;go_wp2_with fail;refine(j.out _).mono ?_;rintro e w'⟨rfl,rfl⟩;go_wp2;go_ret2;exact sJ.none az
theorem kt{P:Program}(w:World)(t e:TypeId)(c:TypeInfo)(hu:P.underlying t=some (.slice e))(a:P.info? e=some c):
  (Instr.buildSlice t 0 #[]).run P w= .ok (.slice (some ⟨w.heap.size,0,none⟩) 0 0) (w.alloc (.cells #[] e)):=by
 have b:∀cs:Array Value,(newRow e cs).run P w= .ok ⟨w.heap.size,0,none⟩ (w.alloc (.cells cs e)):=fun cs=>rfl;simp[Instr.buildSlice,run_underlying hu,sizeOf,typeInfo,a,Result.andThen,Instr.fill,b];rw[show(Array.range 0).map (fun _=>(default:Value))=#[]from Array.eq_empty_of_size_eq_zero (by simp)]
theorem jW{P:Program}{f:Oper}{a:Act}{w:World}{K:Act→World→Prop}{Q:Exit→Act→World→Prop}(t e:TypeId)(d:f.op= .buildSlice t 0 #[])(c:TypeInfo)
  (hu:P.underlying t=some (.slice e))(b:P.info? e=some c)(h:∀w',dm w w' e #[]→K (a.put f.dst (.slice (some ⟨w.heap.size,0,none⟩) 0 0)) w'):f.wp P a w K Q:=by
 unfold Oper.wp;simp[execOp,d,kt w t e c hu b,Result.andThen];exact h _ (dm.alloc w e #[])
theorem gY{P:Program}{ops:Array Oper}{rest:List Oper}{j:Oper}{a:Act}{w:World}{Q:Exit→Act→World→Prop}(f:j.guard=none)(t e:TypeId)(i:j.op= .buildSlice t 0 #[])(c:TypeInfo)
  (hu:P.underlying t=some (.slice e))(b:P.info? e=some c)(h:∀w',dm w w' e #[]→wpList P ops Q rest (a.put j.dst (.slice (some ⟨w.heap.size,0,none⟩) 0 0)) w'):wpList P ops Q (j::rest) a w:=
 wpList_plain f fun _ d=>jW t e i c hu b fun w' g=>d _ _ (h w' g)
theorem _root_.Go.Proofs.YtphjagkehiklkaaGreatDoor.dm.Np{w w':World}{e:TypeId}{size:Nat}(h:dm w w' e #[]):w'.ownsRow 0 e size (.slice (some ⟨w.heap.size,0,none⟩) 0 0) 0 []:=
 ⟨by simp, .inr ⟨w.heap.size,0,#[],rfl,Nat.zero_le _,h.aE,Nat.le_refl _,Nat.zero_le _,by simp,by simp⟩⟩
theorem Ki(w:World)(a:Option Addr)(l c:Nat):(binOp .eql 31 (.slice a l c) (.slice none 0 0)).run Tryz.prog w= .ok (.bool a.isNone) w:=by
 simp only[binOp];simp[run_equal_slice_nil w 31 38 a l c Tryz.underlying31]
theorem Am(c:Nat)(w:World):Calls Tryz.prog 140 #[.slice none 0 c] w (po w 0 []):=by
 have a:∀w:World,(binOp .eql 31 (.slice none 0 c) (.slice none 0 0)).run Tryz.prog w= .ok (.bool true) w:=fun w=>Ki w none 0 c;go_enter Tryz.func140,Tryz.ntmps140;go_wp2;go_ret;exact⟨_,rfl,bK.start ⟨rfl, .inl ⟨rfl,rfl⟩⟩⟩
theorem ye(n:Nat)(ds:List (List UInt8))(b:Addr)(c:Nat)(S:Nat→Prop)(w:World)(m:gv w S (some b) n ds)(y:n≤1048576):
  Calls Tryz.prog 140 #[.slice (some b) n c] w (po w n ds):=by
 obtain⟨i0,f,i,j,l⟩:=info_parts sd;have z:∀w:World,(binOp .eql 31 (.slice (some b) n c) (.slice none 0 0)).run Tryz.prog w= .ok (.bool false) w:=fun w=>Ki w (some b) n c;have q:=af m;have r:Hid (∀u∈ds.flatMap aA,u.oneCell'=true):=by
  intro u hu;obtain⟨d,_,v⟩:=List.mem_flatMap.1 hu;exact jg d u v
 clear m;go_enter Tryz.func140,Tryz.ntmps140;go_wp2_with(refine gY rfl 31 38 rfl i0 Tryz.underlying31 f ?_);intro w1 p;have g:=af p;clear p;generalize e:w.heap.size=g1 at*;have a:=af e;clear e;have t:Hid (w1.ownsRow 0 38 32 (.slice (some ⟨g1,0,none⟩) 0 0) 0 []):=by rw[←a.out];exact g.out.Np
 go_wp2_with(refine dR _ rfl _ _ 31 rfl 38 i0 aZ 32 32 Tryz.underlying31 f i j l rfl (by decide) _ _ _ rfl t.out S (some b) n c (ds.flatMap aA) rfl (q.out.ao g.out.fr).rd r.out (by omega) (by decide) ?_);intro v2 w2 o;have s:Hid (bK 38 32 w (.slice none 0 0) w2 v2 n (ds.flatMap aA)):=by
  have h:=bK.fresh g.out.fr (fun k x=>by simp only[Value.ownBlock,Option.some.injEq]at x;have:=a.out;omega) o;exact h
 clear o;go_wp2;go_ret;exact⟨_,rfl,s.out⟩
theorem Al(n:Nat)(ds:List (List UInt8))(A:Option Addr)(c:Nat)(S:Nat→Prop)(w:World)(a:gv w S A n ds)(d:n≤1048576):Calls Tryz.prog 140 #[.slice A n c] w (po w n ds):=by
 cases A with
 |some b=>exact ye n ds b c S w a d
 |none=>
  rcases Nat.eq_zero_or_pos n with rfl|h;·have:ds=[]:=List.eq_nil_of_length_eq_zero a.len;rw[this];exact Am c w
  ·obtain⟨b,h,_⟩:=a.rd.2 h;cases h
end Go.Proofs.YtphjagkehiklkaaGreatDoor.Lt
namespace Go.Proofs.YtphjagkehiklkaaGreatDoor.Lt
open Go.RowKit Go.ChangeMaps
def rR(w:World)(b r n:Nat)(ds:List (List UInt8))(C X:Nat→Nat→Prop):Prop:=
 ∃es clock seen,w.heap[b]? =some (.map es clock)∧w.heap[r]? =some (.mapIter (some b) clock seen clock)∧(∀e∈es.toList,rE ds C e)∧
  (∀l i,C l i→(i+1)*2^l≤n→∃e∈es.toList,e.key=ia l i)∧pv es clock∧(∀e∈es.toList,seen.contains e.born=true→∃l i,e.key=ia l i∧((i+1)*2^l≤n∨X l i))
theorem rR.fr{w w':World}{T:Nat→Prop}{b r n:Nat}{ds:List (List UInt8)}{C X:Nat→Nat→Prop}(h:rR w b r n ds C X)(d:Fr T w w')(j:¬T b)(k:¬T r):rR w' b r n ds C X:=by
 obtain⟨es,clock,seen,a,c,e,f,g,i⟩:=h;exact⟨es,clock,seen,(d.block b (Array.getElem?_eq_some_iff.1 a).1 j).trans a,(d.block r (Array.getElem?_eq_some_iff.1 c).1 k).trans c,e,f,g,i⟩
theorem rR.lt{w:World}{b r n:Nat}{ds:List (List UInt8)}{C X:Nat→Nat→Prop}(h:rR w b r n ds C X):b<w.heap.size∧r<w.heap.size:=by
 obtain⟨es,clock,seen,a,c,_⟩:=h;exact⟨(Array.getElem?_eq_some_iff.1 a).1,(Array.getElem?_eq_some_iff.1 c).1⟩
theorem pR(ds:List (List UInt8))(n:Nat):∀l i,(i+1)*2^l≤n→aI (ds.take n) l i=aI ds l i
 |0,i,h=>by
  have b:i<n:=by omega
  simp only[aI];rw[List.getD_eq_getElem?_getD,List.getD_eq_getElem?_getD,List.getElem?_take_of_lt b]
 |l+1,i,h=>by
  have c:2^(l+1)=2*2^l:=by rw[Nat.pow_succ];omega
  have a:(i+1)*2^(l+1)=(2*i+1+1)*2^l:=by rw[c,←Nat.mul_assoc];congr 1;omega
  have d:(2*i+1+1)*2^l=(2*i+1)*2^l+2^l:=by rw[Nat.add_mul,Nat.one_mul]
  rw[a]at h;rw[aI,aI,pR ds n l (2*i) (by omega),pR ds n l (2*i+1) h]
theorem dH.take{w:World}{b n m:Nat}{ds:List (List UInt8)}(h:dH w b ds (fun l i=>bp m l i∧(i+1)*2^l≤n))(c:n≤m):dH w b (ds.take n) (bp n):=by
 obtain⟨es,clock,f,g,j,k⟩:=h;refine⟨es,clock,f,fun e he=>?_,fun l i a=>?_,k⟩;·obtain⟨l,i,o,p,q,d⟩:=g e he;exact⟨l,i,o,by rw[p,pR ds n l i d],q.1,d⟩
 ·exact j l i ⟨⟨a.1,Nat.le_trans a.2 c⟩,a.2⟩
end Go.Proofs.YtphjagkehiklkaaGreatDoor.Lt
namespace Go.Proofs.YtphjagkehiklkaaGreatDoor.Lt
open Go.RowKit
theorem uz(b:Nat)(ds:List (List UInt8))(C:Nat→Nat→Prop)(w:World)(g:dH w b ds C):
  Calls Tryz.prog 143 #[.map (some b)] w (fun e w'=>e= .returned (.map (some w.heap.size))∧dH w' w.heap.size ds C∧Fr ag w w'):=by
 obtain⟨es,clock,a,c,d,f⟩:=g;have h:=fun w=>run_eql_map_nil_sl (P:=Tryz.prog) w 178 _ _ (some b) pW;go_enter Tryz.func143,Tryz.ntmps143;go_wp2;rw[run_callFunc_extern Tryz.func168 (by kernel_rfl) (by kernel_rfl) (by kernel_rfl) (e:=Extern.MapsClone.clone) (by kernel_rfl),run_maps_clone_sl w 178 a];simp only[Result.andThen];rw[Oper.upon_value];go_wp2;rw[run_typeAssert_map_sl _ 178 _ _ _ _ pW];simp only[Result.andThen];rw[Oper.upon_value];go_wp2;go_ret;exact⟨rfl,⟨es,clock,heap_alloc_new w _,c,d,f⟩,az.alloc _⟩
theorem wW(w:World):Calls Tryz.prog 143 #[.map none] w (fun e w'=>e= .returned (.map none)∧w'=w):=by
 have a:=fun w=>run_eql_map_nil_sl (P:=Tryz.prog) w 178 _ _ none pW;go_enter Tryz.func143,Tryz.ntmps143;go_wp2;go_ret;exact⟨rfl,rfl⟩
def sI(w:World)(n:Nat)(PL:List (List UInt8))(v:Value)(w':World):Prop:=∃v1,v=v1∧bK 38 32 w (.slice none 0 0) w' v1 n (PL.flatMap aA)
theorem sI.ah{w W:World}{n:Nat}{PL:List (List UInt8)}:∀v w' a,Fr ag W w'→Fr ag w' a→sI w n PL v w'→sI w n PL v a:=fun _ _ _ _ c⟨v1,h,b⟩=>⟨v1,h,b.behind c⟩
def sH(w:World)(ds:List (List UInt8))(C:Nat→Nat→Prop)(mb:Option Nat)(W:World):Prop:=(∃b,mb=some b∧dH W b ds C∧w.heap.size≤b)∨(mb=none∧∀l i,¬C l i)
theorem sH.fr{w W W':World}{ds:List (List UInt8)}{C:Nat→Nat→Prop}{mb:Option Nat}(h:sH w ds C mb W)(e:Fr ag W W'):sH w ds C mb W':=by
 rcases h with⟨b,a,c,d⟩|h;·exact .inl ⟨b,a,c.fr e (fun x=>x),d⟩
 ·exact .inr h
def yk(w:World)(ds:List (List UInt8))(C:Nat→Nat→Prop)(v:Value)(W:World):Prop:=∃mb,v= .map mb∧sH w ds C mb W
theorem yk.ah{w W:World}{ds:List (List UInt8)}{C:Nat→Nat→Prop}:∀v w' a,Fr ag W w'→Fr ag w' a→yk w ds C v w'→yk w ds C v a:=fun _ _ _ _ c⟨mb,h,b⟩=>⟨mb,h,b.fr c⟩
theorem wV(c:World)(mb:Option Nat)(ds:List (List UInt8))(C:Nat→Nat→Prop)(w:World)(h:(∃b,mb=some b∧dH w b ds C)∨(mb=none∧∀l i,¬C l i))(hw:c.heap.size≤w.heap.size):
  Calls Tryz.prog 143 #[.map mb] w (fun e w'=>∃a,e= .returned (.map a)∧sH c ds C a w'∧Fr ag w w'):=by
 rcases h with⟨b,rfl,f⟩|⟨rfl,d⟩;·refine(uz b ds C w f).mono ?_;rintro e w'⟨rfl,g,j⟩;exact⟨_,rfl, .inl ⟨_,rfl,g,hw⟩,j⟩
 ·refine(wW w).mono ?_;rintro e w'⟨rfl,rfl⟩;exact⟨_,rfl, .inr ⟨rfl,d⟩,az⟩
theorem dZ.Ny{w w':World}{p:Nat}{A:Option Addr}{n c:Nat}{mb:Option Nat}{ds:List (List UInt8)}{C:Nat→Nat→Prop}(h:dZ w p A n c mb ds C)(a:Fr ag w w'):(∃b,mb=some b∧dH w' b ds C)∨(mb=none∧∀l i,¬C l i):=(h.ao a).parts
theorem Hb(w:World)(p:Nat)(A:Option Addr)(n c:Nat)(mb:Option Nat)(ds:List (List UInt8))(s:dZ w p A n c mb ds (bp n))(ab:n≤1048576):
  Calls Tryz.prog 101 #[.pointer (some ⟨p,0,none⟩)] w (fun e w'=>∃g,e= .returned (.pointer (some ⟨g,0,none⟩))∧og w w' g ds):=by
 have P:Hid (∀w',Fr ag w w'→Calls Tryz.prog 140 #[.slice A n c] w' (po w' n ds)):=fun w' f=>Al n ds A c _ w' (s.Nx.ao f) ab;have O:Hid (∀w',Fr ag w w'→Calls Tryz.prog 143 #[.map mb] w' (fun e B=>∃i,e= .returned (.map i)∧sH w ds (bp n) i B∧Fr ag w' B)):=fun w' f=>wV w mb ds (bp n) w' (s.Ny f) f.size;have S:Hid (w.cell? ⟨p,0,none⟩=some (.slice A n c)):=s.aE.cell 0;have T:Hid (w.cell? ⟨p,1,none⟩=some (.map mb)):=s.aE.cell 1;have R:=af s.len;have Q:=af s.each;clear s;go_enter Tryz.func101,Tryz.ntmps101;go_upto_region 3 with fail;refine ay 10 ag [Is (.pointer (some ⟨p,0,none⟩)),Is (.pointer (some ⟨p,0,none⟩)),Is (.pointer (some ⟨p,0,none⟩)),Is (.slice A n c),sI w n ds,Is (.pointer (some ⟨p,0,none⟩)),Is (.pointer (some ⟨p,0,none⟩)),Is (.pointer (some ⟨p,1,none⟩)),Is (.map mb),yk w ds (bp n)] [] (fun _=>True) (fun _ _=>false) (by kernel_rfl) (by kernel_rfl) (by kernel_rfl) (by kernel_rfl) ⟨Is.ah _,Is.ah _,Is.ah _,Is.ah _,sI.ah,Is.ah _,Is.ah _,Is.ah _,Is.ah _,yk.ah,trivial⟩ trivial (fun _ _ _ _ h=>h) trivial ?_ ?_
 ·refine⟨?_,?_,?_,?_,?_,?_,?_,?_,?_,?_,trivial⟩;all_goals intro u w' d f a m l j
  all_goals simp only[bw,bC,bD,bE,ar,Act.put,bF,bG,bH,Nat.reduceAdd,Nat.zero_add]
  ·clear a m l j;refine aj ?_;go_simp;exact⟨_,rfl,al⟩
  ·have U:u 0=_:=a 0;clear a m l j;simp only[U];refine aj ?_;go_simp;exact⟨_,rfl,al⟩
  ·have o:u 1=_:=a 1;clear a m l j;simp only[o];refine aj ?_;go_simp;exact⟨_,rfl,al⟩
  ·have D:u 2=_:=a 2;clear a m l j;simp only[D];refine aj ?_;have aa:w'.cell? ⟨p,0,none⟩=some (.slice A n c):=f.ak S.out (fun x=>x);go_simp;exact⟨_,rfl,al⟩
  ·have E:u 3=_:=a 3;clear a m l j;simp only[E];refine aj ?_;go_simp;refine(P.out _ f).mono ?_;rintro e ac⟨v,rfl,M⟩;exact⟨_,rfl,M.ao.bO,⟨_,rfl,bK.ahead f M⟩,trivial⟩
  ·clear a m l j;refine aj ?_;go_simp;exact⟨_,rfl,al⟩
  ·have V:u 5=_:=a 5;clear a m l j;simp only[V];refine aj ?_;go_simp;exact⟨_,rfl,al⟩
  ·have W:u 6=_:=a 6;clear a m l j;simp only[W];refine aj ?_;go_simp;exact⟨_,rfl,al⟩
  ·have X:u 7=_:=a 7;clear a m l j;simp only[X];refine aj ?_;have aa:w'.cell? ⟨p,1,none⟩=some (.map mb):=f.ak T.out (fun x=>x);go_simp;exact⟨_,rfl,al⟩
  ·have Y:u 8=_:=a 8;clear a m l j;simp only[Y];refine aj ?_;go_simp;refine(O.out _ f).mono ?_;rintro e ac⟨i,rfl,Z,f4⟩;exact⟨_,rfl,f4.bO,⟨_,rfl,Z⟩,trivial⟩
 ·intro u w' f a j;obtain⟨v1,H,r⟩:sI w n ds (u 4) w':=a 4 (by omega);obtain⟨i,z,y⟩:yk w ds (bp n) (u 9) w':=a 9 (by omega);clear a j;have K:=af r;have M2:=af y;have J:=af f;obtain⟨I,n1,L,rfl,H1,_⟩:=aG r.own;clear r y f;simp only[bw,bC,bD,bE,ar,Act.put,bF,bG,bH,dj,dk,Nat.reduceAdd,Nat.zero_add,H,z];go_wp2_with(refine aB rfl 180 (.tmp 15) rfl #[.slice I n1 L, .map i] rfl ?_);intro w3 n3;have C:=af n3;clear n3;generalize N:w'.heap.size=g at*;have t:=af N;clear N;go_wp2;go_ret;have F:n1=n:=H1.out;subst F;have G:ds.length=n1:=R.out;subst G;refine⟨_,rfl,I,L,i,⟨by have h:=C.out.aE;rw[t.out]at h;exact h,aL K.out.own C.out.fr (fun _ _ x=>x),rfl,Q.out,?_⟩,J.out.trans C.out.fr,fun k q=>?_⟩
  ·rcases M2.out.fr C.out.fr with⟨b,o,D,_⟩|h;·exact .inl ⟨b,o,D⟩
   ·exact .inr h
  ·rcases q with rfl|q|q;·have o:=t.out;have D:=J.out.size;omega
   ·rcases M2.out with⟨b,o,_,E⟩|⟨o,_⟩;·rw[o]at q;cases q;exact E
    ·rw[o]at q;cases q
   ·exact K.out.new k q
end Go.Proofs.YtphjagkehiklkaaGreatDoor.Lt
namespace Go.Proofs.YtphjagkehiklkaaGreatDoor
open Go.RowKit Go.Shelf
structure RE(w W:World)(a:Nat)(nm:Array Value)(v:Value)(l:List UInt8):Prop where
 Ob:iH w (.slice none 0 0) W v l
 nb:aq W a 245 nm
end Go.Proofs.YtphjagkehiklkaaGreatDoor
