/- Texts. -/
import Derived.Shelf.SlMaps.Clone
import Derived.Test.YtphjagkehiklkaaGreatDoorEK16
set_option linter.unusedVariables false
set_option linter.unusedSimpArgs false
set_option maxRecDepth 100000
set_option maxHeartbeats 8000000
namespace Go.Proofs.YtphjagkehiklkaaGreatDoor
open Proofs.Tryz Go.RowKit Go.Shelf
def eD(l:List UInt8):List UInt8:=Lt.sW (1::l)
def oz(E:List Ent):List UInt8:=Lt.sW (0::eW (cq E))
def dD(E:List Ent)(L:List ActV):List (List UInt8):=oz E::L.map (λa=>eD (bY a))
theorem kE(l:List UInt8):(eD l).length=32:=Lt.nt _
theorem qU(E:List Ent):(oz E).length=32:=Lt.nt _
theorem me(E:List Ent)(L:List ActV):(dD E L).length=L.length+1:=by simp[dD]
theorem EC(E:List Ent)(L:List ActV)(a:ActV):dD E (L++[a])=dD E L++[eD (bY a)]:=by simp[dD]
theorem vZ(E:List Ent)(L:List ActV)(n:Nat):(dD E L).take (n+1)=dD E (L.take n):=by simp[dD,List.map_take]
theorem qV(E:List Ent)(L:List ActV):∀d∈dD E L,d.length=32:=λd b=>by
 rcases List.mem_cons.1 b with rfl|b;·exact qU E
 ·obtain⟨a,_,rfl⟩:=List.mem_map.1 b;exact kE _
def HB(h:Nat)(va vk:Value)(g:Nat)(A:Option Addr)(n c:Nat)(mb:Option Nat)(k:Nat):Prop:=k=h\/va.ownBlock=some k\/vk.ownBlock=some k\/Lt.TB g A n c mb k
structure eh(w:World)(h b s g:Nat)(va vk:Value)(K:List Nat)(A:Option Addr)(c:Nat)(mb:Option Nat)(E:List Ent)(La Lk Ll Lg:List ActV):Prop where
 aF:aq w h 111 #[.pointer (some ⟨b,0,none⟩),va,vk, .pointer (some ⟨s,0,none⟩), .pointer (some ⟨g,0,none⟩)]
 base:dQ w b E
 iJ:ki w va La
 kept:w.ownsRow 0 25 1 vk K.length (K.map λk=>Value.pointer (some ⟨k,0,none⟩))
 np:K.length=Lk.length/16
 sV:∀i k,K[i]? =some k->dQ w k (eY (Lk.take (16*(i+1))) E)
 last:dQ w s (eY Ll E)
 log:Lt.eU w g A (Lg.length+1) c mb (dD E Lg) (Lt.bN (Lg.length+1))
abbrev MJ(w:World)(h b s g:Nat)(va vk:Value)(K:List Nat)(A:Option Addr)(c:Nat)(mb:Option Nat)(E:List Ent)(L:List ActV):Prop:=eh w h b s g va vk K A c mb E L L L L
def dR(w:World)(h:Nat)(E:List Ent)(L:List ActV)(T:Nat->Prop):Prop:=
 ∃b s g va vk K A c mb,MJ w h b s g va vk K A c mb E L/\T=HB h va vk g A (L.length+1) c mb
theorem mW{w:World}{b:Nat}{ds:List (List UInt8)}{C:Nat->Nat->Prop}(h:Lt.dY w b ds C)(t:TypeId):¬Ty w b t:=by
 obtain⟨es,clock,c,_⟩:=h;rintro⟨cs,a⟩;rw[c]at a;cases a
theorem eh.cJ{w:World}{h b s g:Nat}{va vk:Value}{K:List Nat}{A:Option Addr}{c:Nat}{mb:Option Nat}{E:List Ent}{La Lk Ll Lg:List ActV}(d:eh w h b s g va vk K A c mb E La Lk Ll Lg):fN w (HB h va vk g A (Lg.length+1) c mb):=by
 obtain⟨cs,e,_⟩:=d.iJ;intro k a;rcases a with rfl|a|a|rfl|a|a;·exact⟨λx=>absurd (x.one d.aF.ty) (by decide),λx=>absurd (x.one d.aF.ty) (by decide),λx=>absurd (x.one d.aF.ty) (by decide)⟩
 ·have t:=jC e a;exact⟨λx=>absurd (x.one t) (by decide),λx=>absurd (x.one t) (by decide),λx=>absurd (x.one t) (by decide)⟩
 ·have t:=jC d.kept a;exact⟨λx=>absurd (x.one t) (by decide),λx=>absurd (x.one t) (by decide),λx=>absurd (x.one t) (by decide)⟩
 ·have t:=d.log.aF.ty;exact⟨λx=>absurd (x.one t) (by decide),λx=>absurd (x.one t) (by decide),λx=>absurd (x.one t) (by decide)⟩
 ·rcases d.log.parts with⟨f,rfl,hm⟩|⟨rfl,_⟩;·cases a;exact⟨mW hm _,mW hm _,mW hm _⟩
  ·cases a
 ·have t:=jC d.log.row a;exact⟨λx=>absurd (x.one t) (by decide),λx=>absurd (x.one t) (by decide),λx=>absurd (x.one t) (by decide)⟩
theorem eh.apart{w:World}{h b s g:Nat}{va vk:Value}{K:List Nat}{A:Option Addr}{c:Nat}{mb:Option Nat}{E:List Ent}{La Lk Ll Lg:List ActV}(a:eh w h b s g va vk K A c mb E La Lk Ll Lg):
  (va.ownBlock≠some h/\vk.ownBlock≠some h/\¬Lt.TB g A (Lg.length+1) c mb h)/\(∀k,va.ownBlock=some k->vk.ownBlock≠some k/\¬Lt.TB g A (Lg.length+1) c mb k)/\∀k,vk.ownBlock=some k->¬Lt.TB g A (Lg.length+1) c mb k:=by
 obtain⟨cs,i,_⟩:=a.iJ;have l:∀k t,Ty w k t->t≠180->t≠38->¬Lt.TB g A (Lg.length+1) c mb k:=λk t j m n d=>by
  rcases d with rfl|d|d;·exact m (j.one a.log.aF.ty)
  ·rcases a.log.parts with⟨o,rfl,hm⟩|⟨rfl,_⟩;·cases d;exact mW hm _ j
   ·cases d
  ·exact n (j.one (jC a.log.row d))
 refine⟨⟨bO i a.aF (by decide),bO a.kept a.aF (by decide),l _ _ a.aF.ty (by decide) (by decide)⟩,λk e=>⟨λf=>?_,l _ _ (jC i e) (by decide) (by decide)⟩,λk e=>l _ _ (jC a.kept e) (by decide) (by decide)⟩;exact absurd ((jC i e).one (jC a.kept f)) (by decide)
theorem kO{w w':World}{T:Nat->Prop}{p:Nat}{A:Option Addr}{n c:Nat}{mb:Option Nat}{ds:List (List UInt8)}{C:Nat->Nat->Prop}(h:Lt.eU w p A n c mb ds C)(a:Fr T w w')(hT:∀k,Lt.TB p A n c mb k->¬T k):Lt.eU w' p A n c mb ds C:=
 ⟨h.aF.fr a (hT p (.inl rfl)),aP h.row a (λk f=>hT k (.inr (.inr f))),h.len,h.each,by
  rcases h.parts with⟨b,d,g⟩|e;·exact .inl ⟨b,d,g.fr a (hT b (.inr (.inl d)))⟩
  ·exact .inr e⟩
theorem eh.kj{w w':World}{T:Nat->Prop}{h b s g:Nat}{va vk:Value}{K:List Nat}{A:Option Addr}{c:Nat}{mb:Option Nat}{E:List Ent}{La Lk Ll Lg:List ActV}(a:eh w h b s g va vk K A c mb E La Lk Ll Lg)(d:Fr T w w')(hF:fN w T)(hT:∀k,HB h va vk g A (Lg.length+1) c mb k->¬T k):eh w' h b s g va vk K A c mb E La Lk Ll Lg:=
  ⟨a.aF.fr d (hT h (.inl rfl)),a.base.cJ d hF,a.iJ.cJ d hF (λk e=>hT k (.inr (.inl e))),aP a.kept d (λk e=>hT k (.inr (.inr (.inl e)))),a.np,λi k e=>(a.sV i k e).cJ d hF,a.last.cJ d hF,
   kO a.log d (λk e=>hT k (.inr (.inr (.inr e))))⟩
theorem eh.ao{w w':World}{h b s g:Nat}{va vk:Value}{K:List Nat}{A:Option Addr}{c:Nat}{mb:Option Nat}{E:List Ent}{La Lk Ll Lg:List ActV}(d:eh w h b s g va vk K A c mb E La Lk Ll Lg)(a:Fr Nothing w w'):eh w' h b s g va vk K A c mb E La Lk Ll Lg:=
 d.kj a (fN.nothing w) (λ_ _ x=>x)
theorem dR.ao{w w':World}{h:Nat}{E:List Ent}{L:List ActV}{T:Nat->Prop}(d:dR w h E L T)(a:Fr Nothing w w'):dR w' h E L T:=by
 obtain⟨b,s,g,va,vk,K,A,c,mb,f,e⟩:=d;exact⟨b,s,g,va,vk,K,A,c,mb,f.ao a,e⟩
theorem dR.kj{w w':World}{h:Nat}{E:List Ent}{L:List ActV}{T T':Nat->Prop}(d:dR w h E L T)(a:Fr T' w w')(hF:fN w T')(hT:∀k,T k->¬T' k):dR w' h E L T:=by
 obtain⟨b,s,g,va,vk,K,A,c,mb,e,rfl⟩:=d;exact⟨b,s,g,va,vk,K,A,c,mb,e.kj a hF hT,rfl⟩
theorem dR.cJ{w:World}{h:Nat}{E:List Ent}{L:List ActV}{T:Nat->Prop}(a:dR w h E L T):fN w T:=by
 obtain⟨b,s,g,va,vk,K,A,c,mb,d,rfl⟩:=a;exact d.cJ
theorem mX{w:World}{base n:Nat}{e:TypeId}{size:Nat}{v:Value}{xs:List Value}(h:w.ownsRow base e size v n xs){k:Nat}(b:v.ownBlock=some k):k<w.heap.size:=by
 obtain⟨cs,a⟩:=jC h b;exact(Array.getElem?_eq_some_iff.1 a).1
theorem dR.lt{w:World}{h:Nat}{E:List Ent}{L:List ActV}{T:Nat->Prop}(e:dR w h E L T):∀k,T k->k<w.heap.size:=by
 obtain⟨b,s,g,va,vk,K,A,c,mb,d,rfl⟩:=e;obtain⟨cs,f,_⟩:=d.iJ;intro k a;rcases a with rfl|a|a|rfl|a|a;·exact d.aF.lt
 ·exact mX f a
 ·exact mX d.kept a
 ·exact d.log.aF.lt
 ·rcases d.log.parts with⟨i,rfl,hm⟩|⟨rfl,_⟩;·cases a;exact hm.lt
  ·cases a
 ·exact mX d.log.row a
theorem jQ(w:World)(h b:Nat)(a:w.cell? ⟨h,0,none⟩=some (.pointer (some ⟨b,0,none⟩))):
  Calls prog 55 #[.pointer (some ⟨h,0,none⟩)] w (bJ w (.bool false)):=by
 go_enter func55,ntmps55;go_wp2;go_ret;exact⟨rfl,rfl⟩
theorem yF(a b:ByteArray):aQ (a++b)=aQ a++aQ b:=by simp[aQ]
theorem vV(s:ByteArray)(w:World)(hT:bU w)(v:s.size<4294960000):Calls prog 59 #[.string s] w (aM w (bj (eD (aQ s)))):=by
 have CL:Hid (∀w',Fr Nothing w w'->Calls prog 76 #[.string ({data:=#[1]}++s)] w' (aM w' (bj (eD (aQ s))))):=λw' f=>by
  have e:aQ ({data:=#[1]}++s)=1::aQ s:=yF _ _;have h:=Lt.xN ({data:=#[1]}++s) w' (hT.ao f) (by have:=aL ({data:=#[1]}++s);rw[e,List.length_cons,aL]at this;omega);have r:ee ({data:=#[1]}++s)=1::aQ s:=e;rw[r]at h;exact h
 have a:=af (Lt.dL.of (kE (aQ s)));unfold bj at*;generalize((eD (aQ s)).map bK).toArray=d at*;clear hT;go_enter func59,ntmps59;go_wp2_with(refine an rfl 38 rfl bp jn aH rfl ?_);intro w1 n1;have b:=af n1.fr;have c:=af n1.aF;clear n1;generalize j:w.heap.size=g at*;have n:=af j;clear j;go_wp2_with fail;refine(CL.out _ b.out).mono ?_;rintro e w2⟨rfl,f2⟩;have m:=af (b.out.trans f2);have l:=af (c.out.fr f2 id);clear f2 CL b c;go_wp2_with(refine ai rfl 38 (.tmp 2) _ rfl g d rfl rfl _ _ l.out a.out.info a.out.zero a.out.one ?_);intro k b5 f5;have o:=af b5;have q:Hid (Fr Nothing w k):=m.out.aw f5 (λi u e=>by have t:i=g:=e;have:=n.out;omega);clear b5 f5;go_wp2;exact bodyPost_ret (results_cell_row (fn:=Tryz.f59) (p:=2) (ty:=38) results59 _ k _ 38 d (0,0) _ rfl o.out underlying38 rfl a.out.info) rfl ⟨rfl,q.out⟩
section
variable{w w1 w2:World}{h b s g:Nat}{va vk:Value}{K:List Nat}{A:Option Addr}{c:Nat}{mb:Option Nat}{E:List Ent}{La Lk Ll Lg:List ActV}
theorem pz{w:World}{k:Nat}{t:TypeId}{cs:Array Value}(a:aq w k t cs)(b:t≠177)(c:t≠174)(d:t≠119):fN w (λi=>i=k):=λi e=>by
 obtain rfl:i=k:=e;exact⟨λx=>b (a.ty.one x),λx=>c (a.ty.one x),λx=>d (a.ty.one x)⟩
theorem vS{w:World}{base n:Nat}{e:TypeId}{size:Nat}{v:Value}{xs:List Value}(f:w.ownsRow base e size v n xs)(a:e≠177)(b:e≠174)(c:e≠119):fN w (λi=>v.ownBlock=some i):=λi d=>by
 have t:=jC f d;exact⟨λx=>a (t.one x),λx=>b (t.one x),λx=>c (t.one x)⟩
theorem eh.Kz(d:eh w h b s g va vk K A c mb E La Lk Ll Lg)(f:Fr (Lt.TB g A (Lg.length+1) c mb) w w1){l:Option Addr}{m:Nat}{j:Option Nat}{a:List ActV}(n:Lt.eU w1 g l (a.length+1) m j (dD E a) (Lt.bN (a.length+1))):
  eh w1 h b s g va vk K l m j E La Lk Ll a:=by
 have ap:=d.apart;have cJ:fN w (Lt.TB g A (Lg.length+1) c mb):=λk e=>d.cJ k (.inr (.inr (.inr e)));exact⟨d.aF.fr f ap.1.2.2,d.base.cJ f cJ,d.iJ.cJ f cJ (λk e=>(ap.2.1 k e).2),aP d.kept f (λk e=>ap.2.2 k e),d.np,λi k e=>(d.sV i k e).cJ f cJ,d.last.cJ f cJ,n⟩
theorem eh.Kw(j:eh w h b s g va vk K A c mb E La Lk Ll Lg)(f1:Fr (λk=>va.ownBlock=some k) w w1){l:Value}{m:List ActV}(u:ki w1 l m)(r:∀k,l.ownBlock=some k->va.ownBlock=some k\/w.heap.size<=k)(f2:Fr (λk=>k=h) w1 w2)
  (q:aq w2 h 111 #[.pointer (some ⟨b,0,none⟩),l,vk, .pointer (some ⟨s,0,none⟩), .pointer (some ⟨g,0,none⟩)]):eh w2 h b s g l vk K A c mb E m Lk Ll Lg:=by
 have ap:=j.apart;obtain⟨cs,o,_⟩:=j.iJ;have d:fN w (λi=>va.ownBlock=some i):=vS o (by decide) (by decide) (by decide);have n:=j.aF.fr f1 ap.1.1;have a:fN w1 (λi=>i=h):=pz n (by decide) (by decide) (by decide);have t:=j.aF.lt;refine⟨q,(j.base.cJ f1 d).cJ f2 a,u.cJ f2 a (λk f e=>?_),aP (aP j.kept f1 (λk f e=>(ap.2.1 k e).1 f)) f2 (λk f e=>?_),j.np,λi k f=>((j.sV i k f).cJ f1 d).cJ f2 a,(j.last.cJ f1 d).cJ f2 a,
  kO (kO j.log f1 (λk f e=>(ap.2.1 k e).2 f)) f2 (λk f e=>?_)⟩
 ·obtain rfl:k=h:=e;rcases r k f with p|p;·exact ap.1.1 p
  ·omega
 ·obtain rfl:k=h:=e;exact ap.1.2.1 f
 ·obtain rfl:k=h:=e;exact ap.1.2.2 f
theorem eh.Ky(d:eh w h b s g va vk K A c mb E La Lk Ll Lg)(f2:Fr (λk=>k=h) w w2){l:Nat}{j:List ActV}(n:dQ w l (eY j E))
  (m:aq w2 h 111 #[.pointer (some ⟨b,0,none⟩),va,vk, .pointer (some ⟨l,0,none⟩), .pointer (some ⟨g,0,none⟩)]):eh w2 h b l g va vk K A c mb E La Lk j Lg:=by
 have ap:=d.apart;have a:fN w (λi=>i=h):=pz d.aF (by decide) (by decide) (by decide);refine⟨m,d.base.cJ f2 a,d.iJ.cJ f2 a (λk f e=>?_),aP d.kept f2 (λk f e=>?_),d.np,λi k f=>(d.sV i k f).cJ f2 a,n.cJ f2 a,kO d.log f2 (λk f e=>?_)⟩;·obtain rfl:k=h:=e;exact ap.1.1 f
 ·obtain rfl:k=h:=e;exact ap.1.2.1 f
 ·obtain rfl:k=h:=e;exact ap.1.2.2 f
theorem eh.Kx(l:eh w h b s g va vk K A c mb E La Lk Ll Lg)(f1:Fr (λk=>vk.ownBlock=some k) w w1){j:Value}{n:List Nat}{m:List ActV}(x:w1.ownsRow 0 25 1 j n.length (n.map λk=>Value.pointer (some ⟨k,0,none⟩)))(t:∀k,j.ownBlock=some k->vk.ownBlock=some k\/w.heap.size<=k)
  (v:n.length=m.length/16)(p:∀i k,n[i]? =some k->dQ w k (eY (m.take (16*(i+1))) E))(f2:Fr (λk=>k=h) w1 w2)
  (r:aq w2 h 111 #[.pointer (some ⟨b,0,none⟩),va,j, .pointer (some ⟨s,0,none⟩), .pointer (some ⟨g,0,none⟩)]):eh w2 h b s g va j n A c mb E La m Ll Lg:=by
 have ap:=l.apart;have a:fN w (λi=>vk.ownBlock=some i):=vS l.kept (by decide) (by decide) (by decide);have o:=l.aF.fr f1 ap.1.2.1;have d:fN w1 (λi=>i=h):=pz o (by decide) (by decide) (by decide);have u:=l.aF.lt;refine⟨r,(l.base.cJ f1 a).cJ f2 d,(l.iJ.cJ f1 a (λk f e=>(ap.2.1 k f).1 e)).cJ f2 d (λk f e=>?_),aP x f2 (λk f e=>?_),v,λi k f=>((p i k f).cJ f1 a).cJ f2 d,(l.last.cJ f1 a).cJ f2 d,
  kO (kO l.log f1 (λk f e=>ap.2.2 k e f)) f2 (λk f e=>?_)⟩;·obtain rfl:k=h:=e;exact ap.1.1 f
 ·obtain rfl:k=h:=e;rcases t k f with q|q;·exact ap.1.2.1 q
  ·omega
 ·obtain rfl:k=h:=e;exact ap.1.2.2 f
end
def Al(w:World)(h:Nat)(E:List Ent)(L:List ActV)(T:Nat->Prop)(a:ActV)(e:Ending)(w':World):Prop:=∃T',e= .returned (.int .i64 (dP L a).1)/\dR w' h E (dP L a).2 T'/\Fr T w w'/\∀k,T' k->T k\/w.heap.size<=k
theorem tC:(prog.info? 46).map (λi=>(i.zero,i.size,i.bytes))=some (some eF,6,88):=by kernel_rfl
theorem I8:(prog.info? 25).map (λi=>(i.zero,i.size,i.bytes))=some (some (.pointer none),1,8):=by kernel_rfl
theorem Ii:(prog.info? 26).map (·.size)=some 1:=by kernel_rfl
theorem Ik:(prog.info? 108).map (·.size)=some 1:=by kernel_rfl
theorem J1:(prog.info? 25).map (·.size)=some 1:=by kernel_rfl
theorem xR{L:List ActV}{a:ActV}(h:fR a=false):dP L a=(3,L):=by unfold dP;rw[if_pos h]
theorem Az{L:List ActV}{a:ActV}(h:fR a=true)(B:Bool)(q:Nat)(d:ActV)(i:0<L.length->q=L.length-1/\L[q]? =some d)(e:B=(decide (0<L.length)&&decide (ew a.key d.key<=0))):dP L a=if B=true then(32,L)else(0,L++[a]):=by
 unfold dP;rw[if_neg (by rw[h];decide)];by_cases b:0<L.length
 ·obtain⟨g,f⟩:=i b;rw[g]at f;rw[List.getLast?_eq_getElem?,f];simp only;have j:=iU.lG a.key d.key;subst e;by_cases c:ew a.key d.key<=0;·rw[decide_eq_true b,decide_eq_true c];rw[if_pos c];rfl
  ·rw[decide_eq_true b,decide_eq_false c];rw[if_neg c];rfl
 ·obtain rfl:L=[]:=List.eq_nil_of_length_eq_zero (by omega);rw[decide_eq_false b,Bool.false_and]at e;subst e;rfl
theorem nY(h:Nat)(E:List Ent)(L:List ActV)(T:Nat->Prop)(a:ActV)(cs:List Value)(w:World)(ed:dR w h E L T)(cx:cL w cs a)(dY:dO w)(df:bU w)(bM:Dy a)(cG:∀b∈L,b.key.fD.size<=1099511627776)(cP:L.length<65536)(cE:fR a=true->(bY a).length<4294960000)
  (bx:∀k,k=1\/k=2->¬T k)
  (cy:fR a=true->∀w' s,Fr Nothing w w'->dQ w' s (eY L E)->Calls prog 86 #[.agg cs.toArray, .pointer (some ⟨s,0,none⟩)] w' (kW w' (eY L E) a.writes)):
  Calls prog 32 #[.pointer (some ⟨h,0,none⟩), .agg cs.toArray] w (Al w h E L T a):=by
 obtain⟨b,s,g,va,vk,K,A,c,mb,ba,rfl⟩:=ed;obtain⟨am,V,bL⟩:=ba.iJ;obtain⟨y,n1,C,rfl,H1,_⟩:=aK V;obtain⟨I,N,J,rfl,ev,_⟩:=aK ba.kept;have bl:=af ba;have cZ:=af cx;have c0:=af bL;have c3:=af V;have b8:=af cy;have cB:=cx.len;have c2:=af cB;have d5:=af bx;have ci:Hid (a.reads.length<=60000/\a.writes.length<=60000):=⟨bM.nr,bM.nw⟩;have ae:Hid (∀k,HB h (.slice y n1 C) (.slice I N J) g A (L.length+1) c mb k->k<w.heap.size):=dR.lt ⟨b,s,g,_,_,K,A,c,mb,ba,rfl⟩;have d2:Hid (∀w',Fr Nothing w w'->Calls prog 55 #[.pointer (some ⟨h,0,none⟩)] w' (bJ w' (.bool false))):=λw' f=>jQ w' h b ((ba.aF.fr f (λx=>x)).cell 0);have dy:Hid (∀w',Fr Nothing w w'->Calls prog 18 #[.agg cs.toArray] w' (aM w' (jO a))):=λw' f=>nG a cs w' (dY.ao f) (cx.ao f) bM;have d1:Hid (∀w',Fr Nothing w w'->Calls prog 87 #[.agg cs.toArray] w' (rp w' a)):=λw' f=>ph a cs w' (cx.ao f) (by have:=bM.nr;omega) (by have:=bM.nw;omega);have Z:Hid (L.length<65536/\n1=L.length):=⟨cP,H1.out⟩;have b0:Hid (∀w',Fr Nothing w w'->fR a=true->Calls prog 59 #[.string ⟨(bY a).toArray⟩] w' (aM w' (bj (eD (bY a))))):=λw' f cC=>by
  have e:aQ ⟨(bY a).toArray⟩=bY a:=nS _;have h:=vV ⟨(bY a).toArray⟩ w' (df.ao f) (by
   have H:=cE cC;have bv:=aL ⟨(bY a).toArray⟩;rw[e]at bv;omega);rw[e]at h;exact h
 have b1:Hid (∀w',Fr Nothing w w'->Calls prog 84 #[.pointer (some ⟨g,0,none⟩),bj (eD (bY a))] w' (Lt.nH w' g A (L.length+1) c mb (dD E L) (eD (bY a)))):=λw' f=>
  Lt.tE g A (L.length+1) c mb (dD E L) (eD (bY a)) w' (ba.ao f).log (kE _) (by omega) (df.ao f) (λk p ei=>bx k p (.inr (.inr (.inr ei))));obtain⟨q,cR⟩:∃q:Nat,L.length-1=q:=⟨_,rfl⟩;obtain⟨az,d,ai⟩:∃(az:Addr)(d:ActV),Hid (0<L.length->y=some az/\L[q]? =some d/\∀j x,d.key.cells[j]? =some x->w.cell? ((az.add (q*6)).add j)=some x):=by
  by_cases d8:0<L.length;·obtain⟨ex,d6,bT,el,em,en⟩:=dJ.at_ (k:=q) bL (by omega);obtain⟨az,dd,_,bB⟩:=(Rd.ia (H1.out▸V)).2 (by omega);refine⟨az,d6,λ_=>⟨dd,el,λj x ap=>?_⟩⟩;rw[iQ];refine bB _ x (en j x ?_);obtain⟨eo,eu,rfl,_⟩:=em;rw[List.getElem?_append_left (List.getElem?_eq_some_iff.1 ap).1];exact ap
  ·exact⟨⟨0,0,none⟩,a,λh=>absurd h d8⟩
 have dI:Hid (0<L.length->(n1:Int)-1=(q:Int)):=λh=>by have:=H1.out;omega
 have bo:Hid (0<L.length->q<n1):=λh=>by have:=H1.out;omega
 have dz:Hid (0<L.length->∀w',Calls prog 85 #[.agg a.key.cells.toArray, .agg d.key.cells.toArray] w' (aM w' (.int .i64 (ew a.key d.key)))):=λh w'=>oO _ _ w' (by have:=bM.fD;omega) (cG d (List.mem_of_getElem? (ai.out h).2.1));have b6:Hid (fR a=true->∀B:Bool,B=(decide (0<L.length)&&decide (ew a.key d.key<=0))->dP L a=if B=true then(32,L)else(0,L++[a])):=λcC B cN=>Az cC B q d (λh=>⟨cR.symm,(ai.out h).2.1⟩) cN;have S:Hid (∀w' c9,dP L a=(c9,L)->Fr Nothing w w'->Al w h E L (HB h (.slice y n1 C) (.slice I N J) g A (L.length+1) c mb) a (.returned (.int .i64 c9)) w'):=λw' c9 e f=>⟨_,by rw[e],by rw[e];exact⟨b,s,g,_,_,K,A,c,mb,ba.ao f,rfl⟩,f.bR,λk p=> .inl p⟩;clear cx dY df bM cG cP bx cy bL V cR cB cE ba;go_enter func32,ntmps32;go_wp2_with(refine aD rfl 46 (.tmp 1) rfl cs.toArray rfl ?_);intro w1 bV;have b2:=af bV.fr;have cI:=af bV.aF;clear bV;have c1:Hid (w.heap.size<=w.heap.size):=Nat.le_refl _;generalize cz:w.heap.size=ab at cI⊢;have cb:Hid (w.heap.size<=ab):=by rw[Hid,cz];exact Nat.le_refl _
 clear cz c1;go_wp2_with fail;refine(d2.out _ b2.out).mono ?_;rintro e w'⟨rfl,rfl⟩;have bs:=(bl.out.aF.fr b2.out (λx=>x)).cell 1;simp only[bP,List.getElem?_cons_succ,List.getElem?_cons_zero]at bs;have t1:decide ((65536:Int)<=(n1:Int))=false:=ct (by have:=Z.out;omega);have ep:¬(65536:Int)<=(n1:Int):=by have:=Z.out;omega
 have c4:Hid ((prog.info? 46).map (·.size)=some cs.length):=by rw[Hid,c2.out];exact bQ
 have aJ:Hid (∀W,aq W ab 46 cs.toArray->∀j x,cs[j]? =some x->W.cell? ((⟨ab,0,none⟩:Addr).add j)=some x):=λW dg j x ap=>by
  rw[Addr.add_mid,Nat.zero_add,dg.cell j,bP];exact ap
 go_wp2_with(refine aB rfl 46 (.tmp 3) rfl ⟨ab,0,none⟩ rfl cs _ ?zP underlying46 rfl c4.out (aX.go ?zQ));case zP=>exact aJ.out _ cI.out
 unfold aX;go_wp2_with fail;refine(dy.out _ b2.out).mono ?_;rintro e w2⟨rfl,f2⟩;have bW:=af (b2.out.trans f2);have cX:=af (cI.out.fr f2 (λx=>x));clear f2 dy b2 cI bs;cases ac:fR a
 ·have ca:Hid (jO a= .tuple #[.string ByteArray.empty, .int .i64 3]):=by rw[Hid,jO,ac];rfl
  have bp:=af (S.out w2 3 (xR ac) bW.out);rw[ca.out];clear ac ca;go_wp2;go_ret;exact bp.out
 have ca:Hid (jO a= .tuple #[.string ⟨(bY a).toArray⟩, .int .i64 0]):=by rw[Hid,jO,ac];rfl
 have aO:=af ac;rw[ca.out];clear ac ca;have bs:=(bl.out.aF.fr bW.out (λx=>x)).cell 1;simp only[bP,List.getElem?_cons_succ,List.getElem?_cons_zero]at bs;have c6:Hid (∀W,Fr Nothing w W->W.cell? {block:=h,off:=1}=some (.slice y n1 C)/\W.cell? {block:=h,off:=3}=some (.pointer (some ⟨s,0,none⟩))/\W.cell? {block:=h,off:=4}=some (.pointer (some ⟨g,0,none⟩))):=λW f=>⟨(bl.out.aF.fr f (λx=>x)).cell 1,(bl.out.aF.fr f (λx=>x)).cell 3,(bl.out.aF.fr f (λx=>x)).cell 4⟩;have cU:Hid (∀W,aq W ab 46 cs.toArray->∀j x,a.key.cells[j]? =some x->W.cell? ((⟨ab,0,none⟩:Addr).add j)=some x):=λW dg j x ap=>by
  obtain⟨eo,eu,e,_⟩:=cZ.out;refine aJ.out W dg j x ?_;rw[e,List.getElem?_append_left (List.getElem?_eq_some_iff.1 ap).1];exact ap
 obtain⟨P,dW⟩:∃z:Bool,decide (0<L.length)=z:=⟨_,rfl⟩;obtain⟨Q,dX⟩:∃z:Bool,decide (ew a.key d.key<=0)=z:=⟨_,rfl⟩;have bd:=af dW;have EQ:=af dX;have ck:Hid (decide (0<n1)=P):=by
  rw[Hid,<-bd.out];exact decide_eq_decide.2 (by have:=Z.out;omega)
 have cT:Hid (∀W,Fr Nothing w W->Calls prog 86 #[.agg cs.toArray, .pointer (some ⟨s,0,none⟩)] W (λe W'=>∃R,e= .returned (.tuple #[.pointer (some ⟨R,0,none⟩), .int .i64 0])/\dQ W' R (eY (L++[a]) E)/\Fr Nothing W W')):=λW f=>by
  refine(b8.out aO.out W s f (bl.out.ao f).last).mono ?_;rintro e es⟨eA,ey,rfl,f5,bA⟩;rcases bA with⟨_,rfl,R,rfl,ea⟩|⟨⟨x,ap,cC⟩,_⟩;·exact⟨R,rfl,by rw[re];exact ea,f5⟩
  ·have H:=aO.out;simp only[fR,Bool.and_eq_true]at H;have bv:=j7 H.2 x ap;simp only[jw,cC,Bool.false_and]at bv;cases bv
 have bq:Hid (0<L.length->y=some az):=λp=>(ai.out p).1;clear dW dX;obtain⟨B,cN⟩:∃z:Bool,(bif P then Q else false)=z:=⟨_,rfl⟩;have HB:=af cN;clear cN;go_upto_region 9 with fail;refine iH 17 [.int .i64 (n1:Int), .bool P, .bool P,bif P then .pointer (some ⟨ab,0,none⟩)else undef,bif P then .agg a.key.cells.toArray else undef,bif P then .pointer (some ⟨h,0,none⟩)else undef,bif P then .pointer (some ⟨h,0,none⟩)else undef,bif P then .pointer (some ⟨h,1,none⟩)else undef,bif P then .slice y n1 C else undef,bif P then .int .i64 (n1:Int)else undef,bif P then .int .i64 (q:Int)else undef,bif P then .pointer (some (az.add (q*6)))else undef,bif P then .pointer (some (az.add (q*6)))else undef,bif P then .agg d.key.cells.toArray else undef,bif P then .int .i64 (ew a.key d.key)else undef,bif P then .bool Q else undef, .bool B] ?zR ?_;case zR=>
  refine⟨?yS,?zU,?zV,?zW,?zX,?zY,?zZ,?yA,?yB,?yC,?zH,?zI,?zJ,?zK,?zL,?zM,?zN,trivial⟩;all_goals intro u w' r o
  all_goals simp only[z1,z2,z3,z4,ar,Act.put,z5,z6,z7,Nat.reduceAdd,Nat.zero_add]
  case zU=>
   simp only[ah (o 0)];refine aI ?_;have t:=ck.out;go_simp;exact aR
  case' zV=>simp only[ah (o 1)]
  case' zW=>
   simp only[ah (o 2)];cases P;case false=>exact bS
  case zX=>
   simp only[ah (o 3),ah (o 2)];cases P;case false=>exact bS
   refine aI ?_;exact au _ _ rfl ⟨ab,0,none⟩ rfl a.key.cells _ (cU.out _ (cX.out.fr r (λx=>x))) underlying43 rfl gj aR
  case' zY=>
   simp only[ah (o 2)];cases P;case false=>exact bS
  case' zZ=>
   simp only[ah (o 5),ah (o 2)];cases P;case false=>exact bS
  case' yA=>
   simp only[ah (o 6),ah (o 2)];cases P;case false=>exact bS
  case yB=>
   simp only[ah (o 7),ah (o 2)];cases P;case false=>exact bS
   refine aI ?_;have q:=(c6.out _ (bW.out.trans r)).1;go_simp;exact aR
  case' yC=>
   simp only[ah (o 2)];cases P;case false=>exact bS
  case zH=>
   simp only[ah (o 9),ah (o 2)];cases P;case false=>exact bS
   refine aI ?_;have p:=of_decide_eq_true bd.out;have cK:(n1:Int)-1=(q:Int):=dI.out p;have bu:IntKind.i64.wrap (q:Int)=(q:Int):=IntWalk.i64_in _ (by have:=Z.out;have:=bo.out p;omega);go_simp;exact aR
  case zI=>
   simp only[ah (o 8),ah (o 10),ah (o 2)];cases P;case false=>exact bS
   refine aI ?_;have p:=of_decide_eq_true bd.out;have cK:y=some az:=bq.out p;have bu:(q:Int)<(n1:Int):=by have:=bo.out p;omega
   have cM:(0:Int)<=(q:Int):=by omega
   clear bq;subst cK;go_simp;exact aR
  case' zJ=>
   simp only[ah (o 11),ah (o 2)];cases P;case false=>exact bS
  case zK=>
   simp only[ah (o 12),ah (o 2)];cases P;case false=>exact bS
   refine aI ?_;have p:=of_decide_eq_true bd.out;exact au _ _ rfl (az.add (q*6)) rfl d.key.cells _ (λek v ej=>(bW.out.trans r).ak ((ai.out p).2.2 ek v ej) (λx=>x)) underlying43 rfl gj aR
  case zL=>
   simp only[ah (o 4),ah (o 13),ah (o 2)];cases P;case false=>exact bS
   refine aI ?_;have p:=of_decide_eq_true bd.out;go_simp;refine(dz.out p _).mono ?_;rintro e dv⟨rfl,f4⟩;exact⟨rfl,f4⟩
  case zM=>
   simp only[ah (o 14),ah (o 2)];cases P;case false=>exact bS
   refine aI ?_;have t:=EQ.out;go_simp;exact aR
  case zN=>
   simp only[ah (o 2),ah (o 15)];cases P<;>exact aI (by go_simp;exact⟨by rw[<-HB.out];rfl,aA⟩)
  all_goals
   try simp only[cond]
   refine aI ?_;go_simp;exact aR
 intro w' r;simp only[z1,z2,z3,z4,ar,Act.put,z5,z6,z7,z8,z9,jS,jT,Nat.reduceAdd,Nat.zero_add];have b3:=af (bW.out.trans r);have cY:=af (cX.out.fr r (λx=>x));clear r bW cX bs;have aN:Hid (dP L a=if B=true then(32,L)else(0,L++[a])):=b6.out aO.out B (by
  rw[bd.out,EQ.out,<-HB.out];cases P<;>rfl);clear HB bd EQ ck dz ai b6 bq dI bo;cases a0:B;case true=>
  have bp:=af (S.out w' 32 (by rw[aN.out,a0];rfl) b3.out);clear a0 aN;go_wp2;go_ret;exact bp.out
 have bh:Hid (dP L a=(0,L++[a])):=by rw[Hid,aN.out,a0];rfl
 clear a0 aN S;generalize w'=w3 at*;go_upto_region 11 with fail;refine Ae 11 [iS (.agg cs.toArray),iS (.pointer (some ⟨h,0,none⟩)),iS (.pointer (some ⟨h,0,none⟩)),iS (.pointer (some ⟨h,3,none⟩)),iS (.pointer (some ⟨s,0,none⟩)),⟨λv X=>∃i:Nat,v= .tuple #[.pointer (some ⟨i,0,none⟩), .int .i64 0]/\dQ X i (eY (L++[a]) E),λ_ _ _ f h=>(by obtain⟨i,e,h⟩:=h;exact⟨i,e,h.ao f⟩)⟩,⟨λv X=>∃i:Nat,v= .tuple #[.pointer (some ⟨i,0,none⟩), .int .i64 0]/\dQ X i (eY (L++[a]) E),λ_ _ _ f h=>(by obtain⟨i,e,h⟩:=h;exact⟨i,e,h.ao f⟩)⟩,⟨λv X=>∃i:Nat,v= .pointer (some ⟨i,0,none⟩)/\dQ X i (eY (L++[a]) E),λ_ _ _ f h=>(by obtain⟨i,e,h⟩:=h;exact⟨i,e,h.ao f⟩)⟩,iS (.int .i64 0),⟨λv X=>∃i:Nat,v= .pointer (some ⟨i,0,none⟩)/\dQ X i (eY (L++[a]) E),λ_ _ _ f h=>(by obtain⟨i,e,h⟩:=h;exact⟨i,e,h.ao f⟩)⟩,iS (.int .i64 0)] ?zS ?_;case zS=>
  refine⟨?yD,?yT,?yE,?yF,?yG,?yH,?yI,?yJ,?yK,?yL,?zO,trivial⟩;all_goals intro u w' r o
  all_goals simp only[z1,z2,z3,z4,ar,Act.put,z5,z6,z7,Nat.reduceAdd,Nat.zero_add]
  case yD=>
   refine aI ?_;exact au _ _ rfl ⟨ab,0,none⟩ rfl cs _ (aJ.out _ (cY.out.fr r (λx=>x))) underlying46 rfl c4.out ⟨_,rfl,aA,rfl⟩
  case' yE=>simp only[ah (o 1)]
  case' yF=>simp only[ah (o 2)]
  case yG=>
   simp only[ah (o 3)];refine aI ?_;have q:=(c6.out _ (b3.out.trans r)).2.1;go_simp;exact⟨_,rfl,aA,rfl⟩
  case yH=>
   simp only[ah (o 0),ah (o 4)];refine aI ?_;go_simp;refine(cT.out _ (b3.out.trans r)).mono ?_;rintro e dv⟨i,rfl,cO,f4⟩;exact⟨_,rfl,f4,⟨i,rfl,cO⟩⟩
  case yI=>
   obtain⟨i5,cK,eb⟩:=o 5;simp only[cK];refine aI ?_;go_simp;exact⟨_,rfl,aA,⟨i5,rfl,eb⟩⟩
  case yJ=>
   obtain⟨i6,bu,cu⟩:=o 6;simp only[bu];refine aI ?_;go_simp;exact⟨_,rfl,aA,⟨i6,rfl,cu⟩⟩
  case yK=>
   obtain⟨i6,bu,cu⟩:=o 6;simp only[bu];refine aI ?_;go_simp;exact⟨_,rfl,aA,rfl⟩
  case yL=>
   obtain⟨i7,cM,cv⟩:=o 7;simp only[cM];refine aI ?_;go_simp;exact⟨_,rfl,aA,⟨i7,rfl,cv⟩⟩
  case' zO=>simp only[ah (o 8)]
  all_goals
   refine aI ?_;go_simp;exact⟨_,rfl,aA,rfl⟩
 intro u w' r o;have ec:=o 9 (by omega);simp only[z1,z2,z3,z4,ar,Act.put,z5,z6,z7,z8,z9,Nat.reduceAdd,Nat.zero_add,ah (o 10 (by omega))];clear o;obtain⟨R,dV,cD⟩:=ec;simp only[dV];have b4:=af (b3.out.trans r);have dB:=af (cY.out.fr r (λx=>x));have dL:=af cD;clear r cD dV b3 cY b8;have dG:Hid (Fr Nothing w w'):=b4.out;generalize w'=es at*;have d4:Hid (∀W,Fr Nothing w W->cL W cs a):=λW f=>cZ.out.ao f;obtain⟨cq,bz⟩:∃cq,(eD (bY a)).map bK=cq:=⟨_,rfl⟩;have a6:Hid (∀w',Fr Nothing w w'->Calls prog 59 #[.string ⟨(bY a).toArray⟩] w' (aM w' (.agg cq.toArray))):=λw' f=>by rw[<-bz];exact b0.out w' f aO.out
 have a7:Hid (∀w',Fr Nothing w w'->Calls prog 84 #[.pointer (some ⟨g,0,none⟩), .agg cq.toArray] w' (Lt.nH w' g A (L.length+1) c mb (dD E L) (eD (bY a)))):=λw' f=>by rw[<-bz];exact b1.out w' f
 clear bz b0 b1;generalize(⟨(bY a).toArray⟩:ByteArray)=eq at*;go_upto_region 14 with fail;refine iH 6 [.pointer (some ⟨h,0,none⟩), .pointer (some ⟨h,0,none⟩), .pointer (some ⟨h,4,none⟩), .pointer (some ⟨g,0,none⟩), .string eq, .agg cq.toArray] ?zT ?_;case zT=>
  refine⟨?yU,?yM,?yN,?yO,?yV,?yP,trivial⟩;all_goals intro u w' r o
  all_goals simp only[z1,z2,z3,z4,ar,Act.put,z5,z6,z7,Nat.reduceAdd,Nat.zero_add]
  case' yM=>simp only[ah (o 0)]
  case' yN=>simp only[ah (o 1)]
  case yO=>
   simp only[ah (o 2)];refine aI ?_;have q:=(c6.out _ (b4.out.trans r)).2.2;go_simp;exact aR
  case yP=>
   simp only[ah (o 4)];refine aI ?_;go_simp;refine(a6.out _ (b4.out.trans r)).mono ?_;rintro e dv⟨rfl,f4⟩;exact⟨rfl,f4⟩
  all_goals
   refine aI ?_;go_simp;exact aR
 intro w' r;simp only[z1,z2,z3,z4,ar,Act.put,z5,z6,z7,z8,z9,jS,jT,Nat.reduceAdd,Nat.zero_add];have bf:=af (b4.out.trans r);have dC:=af (dB.out.fr r (λx=>x));have dM:=af (dL.out.ao r);clear r b4 dB dL;generalize w'=et at*;go_wp2_with fail;refine(a7.out _ bf.out).mono ?_;rintro e ax⟨rfl,ay,aC,F,hT,M,an⟩;have bm:=af (bl.out.ao bf.out);have cn:Lt.eU ax g ay ((L++[a]).length+1) aC F (dD E (L++[a])) (Lt.bN ((L++[a]).length+1)):=by
  rw[EC,aT];exact hT
 have bn:Hid (eh ax h b s g (.slice y n1 C) (.slice I N J) K ay aC F E L L L (L++[a])):=bm.out.Kz M cn;have U:fN et (Lt.TB g A (L.length+1) c mb):=λk p=>bm.out.cJ k (.inr (.inr (.inr p)));have cl:Hid (∀k,Lt.TB g A (L.length+1) c mb k->k<w.heap.size):=λk p=>ae.out k (.inr (.inr (.inr p)));have cg:Hid (∀k,Lt.TB g ay ((L++[a]).length+1) aC F k->Lt.TB g A (L.length+1) c mb k\/w.heap.size<=k):=λk p=>by
  rw[aT]at p;exact(an k p).imp id (λh=>Nat.le_trans bf.out.size h)
 have cW:Hid (Fr (HB h (.slice y n1 C) (.slice I N J) g A (L.length+1) c mb) w ax):=bf.out.bR.trans (M.mono (λi _ p=> .inr (.inr (.inr p))));have dE:=af (dC.out.fr M (λe=>by have:=cl.out ab e;have:=cb.out;omega));have dN:=af (dM.out.cJ M U);have b5:=af ((cZ.out.ao bf.out).cJ M U);have a8:=af ((c0.out.cJ bf.out (fN.nothing w)).cJ M U);have br:=bm.out.apart;have aU:Hid (ax.ownsRow 0 46 6 (.slice y n1 C) L.length am.flatten):=aP (aP c3.out bf.out (λ_ _ x=>x)) M (λk p=>(br.2.1 k p).2);have bi:=af bn.out.aF;have co:Hid (¬(Value.slice y n1 C).ownBlock=some h):=br.1.1;have c5:Hid (¬(Value.slice y n1 C).ownBlock=some ab):=λe=>by have:=ae.out ab (.inr (.inl e));have:=cb.out;omega
 have aS:Hid (∀k,(Value.slice y n1 C).ownBlock=some k->k<ax.heap.size):=λk p=>mX aU.out p;have bk:Hid (fN ax (λk=>(Value.slice y n1 C).ownBlock=some k)):=vS aU.out (by decide) (by decide) (by decide);have bZ:Hid (∀W,Fr (λk=>(Value.slice y n1 C).ownBlock=some k) ax W->Calls prog 87 #[.agg cs.toArray] W (rp W a)):=λW f=>ph a cs W (b5.out.cJ f bk.out) (by have:=ci.out;omega) (by have:=ci.out;omega);obtain⟨i0,cA,cF,a3,dn⟩:=info_parts tC;have da:Hid (¬1*i0.size>2^24):=by simp only[Hid];rw[a3];omega
 have db:Hid (¬1*i0.size=0):=by simp only[Hid];rw[a3];omega
 have dc:Hid (∀ds:List Value,ds.length=6->Instr.fill (λi=>some (i*i0.size,i0.size)) ((Array.range (1*i0.size)).map (eF.cells[· %eF.cells.size]!)) [(0, .agg ds.toArray)]=some ds.toArray):=λds dh=>by rw[a3];exact Lt.qh _ _ 6 (by simpa using dh) (by simp[eF,Value.cells])
 clear hT M an cn U br a7 a6 dC dM d1;go_upto_region 17 with fail;refine xH 9 (λk=>(Value.slice y n1 C).ownBlock=some k) [Is (.pointer (some ⟨h,0,none⟩)),Is (.pointer (some ⟨h,0,none⟩)),Is (.pointer (some ⟨h,0,none⟩)),Is (.pointer (some ⟨h,1,none⟩)),Is (.slice y n1 C),Is (.agg cs.toArray),λx X=>∃ds:List Value,x= .agg ds.toArray/\cL X ds a/\kr ax.heap.size ds,λx X=>∃(i:Nat)(ds:List Value),x= .slice (some ⟨i,0,none⟩) 1 1/\aq X i 46 ds.toArray/\ax.heap.size<=i/\cL X ds a/\kr ax.heap.size ds,λx X=>∃ds:List Value,cL X ds a/\X.ownsRow 0 46 6 x (L.length+1) (am.flatten++ds)/\∀k,x.ownBlock=some k->(Value.slice y n1 C).ownBlock=some k\/ax.heap.size<=k] [(8,λ_=>True)] (λX=>X.ownsRow 0 46 6 (.slice y n1 C) L.length am.flatten) (λ_ _=>false) (by kernel_rfl) (by kernel_rfl) (by kernel_rfl) (by kernel_rfl) (λi=>i==8) (by rfl) ⟨Is.ag _,Is.ag _,Is.ag _,Is.ag _,Is.ag _,Is.ag _,λ_ _ _ _ r⟨ds,h,k,n⟩=>⟨ds,h,k.ze n (show Fr (λk=>(Value.slice y n1 C).ownBlock=some k) _ _ from r) aS.out,n⟩,λ_ _ _ _ r⟨i,ds,h,b,l,k,n⟩=>⟨i,ds,h,b.fr (show Fr (λk=>(Value.slice y n1 C).ownBlock=some k) _ _ from r) (λt=>by have:=aS.out i t;omega),l,k.ze n (show Fr (λk=>(Value.slice y n1 C).ownBlock=some k) _ _ from r) aS.out,n⟩,λ_ _ _ _ r⟨ds,H,bv,d9⟩=>⟨ds,H.ao (show Fr Nothing _ _ from r),aP bv (show Fr Nothing _ _ from r) (λ_ _ x=>x),d9⟩,trivial⟩ ⟨λ_ _ _ _ _=>trivial,trivial⟩ (λ_ _ _ h de=>aP de h (λ_ _ x=>x)) (aP aU.out (Fr.refl Nothing _).drew (λ_ _ x=>x)) ?_ ?_
 ·refine⟨?yQ,?yR,?zA,?zB,?zC,?zD,?zE,?zF,?zG,trivial⟩;all_goals intro u w' d r o bT aE aG
  all_goals simp only[bC,bD,bE,bF,ar,Act.put,bG,bH,bI,Nat.reduceAdd,Nat.zero_add]
  case' zA=>simp only[ah (o 1)]
  case' zB=>simp only[ah (o 2)]
  case zC=>
   simp only[ah (o 3)];clear o bT aE aG;refine aj ?_;have q:=(bi.out.fr r co.out).cell 1;simp only[bP,List.getElem?_cons_succ,List.getElem?_cons_zero]at q;go_simp;exact⟨_,rfl,al⟩
  case zD=>
   clear o bT aE aG;refine aj ?_;exact au _ _ rfl ⟨ab,0,none⟩ rfl cs _ (aJ.out _ (dE.out.fr r c5.out)) underlying46 rfl c4.out ⟨_,rfl,al⟩
  case zE=>
   simp only[ah (o 5)];clear o bT aE aG;refine aj ?_;go_simp;refine(bZ.out _ r).mono ?_;rintro e dv⟨ds,rfl,dh,f4,cP⟩;exact⟨_,rfl,f4,⟨ds,rfl,dh,cP.mono r.size⟩,trivial⟩
  case zF=>
   obtain⟨aW,bu,cu,n6⟩:=o 6;simp only[bu];clear o bT aE aG;refine aj ?_;have di:aW.length=6:=cu.len;refine wp_buildSlice 26 46 1 #[(0, .tmp 76)] rfl aW.toArray i0 eF underlying26 cA cF da.out db.out ?_ ?_;·simp only[List.map_toArray,List.map_cons,List.map_nil];exact dc.out aW di
   ·exact⟨_,rfl,aA.alloc _,⟨w'.heap.size,aW,rfl,aq.new _ _ _,r.size,cu.ao (aA.alloc _),n6⟩,trivial⟩
  case zG=>
   obtain⟨i7,bt,cM,b7,ez,cv,n7⟩:=o 7;simp only[ah (o 4),cM];clear o;refine aj ?_;have de:w'.ownsRow 0 46 6 (.slice y n1 C) L.length am.flatten:=by rw[dx,if_neg (by rw[aE 8 (by kernel_rfl)];exact Bool.false_ne_true)]at aG;exact aG
   clear bT aE aG;have ee:bt.length=6:=cv.len;refine uM _ (.tmp 74) (.tmp 77) 26 rfl 46 i0 eF 6 88 underlying26 cA cF a3 dn rfl (by decide) _ _ _ rfl de (λ_=>True) (some ⟨i7,0,none⟩) 1 1 bt rfl ⟨by omega,λ_=>⟨_,rfl,trivial,λj x ap=>by rw[Addr.add_mid,Nat.zero_add,b7.cell,bP];exact ap⟩⟩ (λu hu=>by have h:=ActV.one cv;rw[Array.all_eq_true_iff_forall_mem]at h;exact h u (by simpa using hu)) (by have:=Z.out;omega) (by decide) ?_;intro eB eC a1;exact⟨_,rfl,a1.fr,⟨bt,cv.ze n7 a1.fr aS.out,a1.own,λk p=>(a1.eL k p).imp id (λh=>Nat.le_trans r.size h)⟩,trivial⟩
  all_goals
   clear o bT aE aG;refine aj ?_;go_simp;exact⟨_,rfl,al⟩
 intro u w' r o aG;obtain⟨c7,cw,aY,bw⟩:=o 8 (by omega);have aE:u 0=_:=o 0 (by omega);obtain⟨Y,O,aa,c8,dF,_⟩:=aK aY;rw[c8]at aY bw;simp only[bC,bD,bE,bF,ar,Act.put,bG,bH,bI,dt,du,Nat.reduceAdd,Nat.zero_add,aE,c8];have bX:Hid (ki w' (.slice Y O aa) (L++[a])):=⟨am++[c7],by rw[List.flatten_append,List.flatten_cons,List.flatten_nil,List.append_nil,aT];exact aY,(a8.out.cJ r bk.out).snoc cw⟩;have ad:=af r;have bg:=af bw;have dS:=af (dN.out.cJ r bk.out);have bc:=af (bi.out.fr r co.out);have ch:Hid (O=L.length+1):=dF.out;clear r o aG aE c8 cw aY bw dN a8 b5 bZ aU bi dE dF;go_wp2_with(refine aZ rfl 26 (.tmp 80) (.tmp 78) rfl h 1 (.slice Y O aa) rfl rfl rfl Ii _ _ #[.pointer (some ⟨b,0,none⟩), .slice Y O aa, .slice I N J, .pointer (some ⟨s,0,none⟩), .pointer (some ⟨g,0,none⟩)] bc.out (show 1<5 by decide) rfl ?_);intro d0 b9 f9;have cj:Hid (eh d0 h b s g (.slice Y O aa) (.slice I N J) K ay aC F E (L++[a]) L L (L++[a])):=bn.out.Kw ad.out bX.out bg.out f9 b9;have dT:=af (dS.out.cJ f9 (pz bc.out (by decide) (by decide) (by decide)));have cf:Hid (∀k,(Value.slice Y O aa).ownBlock=some k->(Value.slice y n1 C).ownBlock=some k\/w.heap.size<=k):=λk p=>(bg.out k p).imp id (λh=>Nat.le_trans cW.out.size h);have dA:Hid (Fr (HB h (.slice y n1 C) (.slice I N J) g A (L.length+1) c mb) w d0):=(cW.out.trans (ad.out.mono (λi _ p=> .inr (.inl p)))).trans (f9.mono (λi _ p=> .inl p));have dw:=af b9;clear b9 f9 bn ad bX bg dS bc cW;go_wp2_with(refine aZ rfl 25 (.tmp 84) (.tmp 82) rfl h 3 (.pointer (some ⟨R,0,none⟩)) rfl rfl rfl J1 _ _ #[.pointer (some ⟨b,0,none⟩), .slice Y O aa, .slice I N J, .pointer (some ⟨R,0,none⟩), .pointer (some ⟨g,0,none⟩)] dw.out (show 3<5 by decide) rfl ?_);intro av iR f10;have D:Hid (eh av h b R g (.slice Y O aa) (.slice I N J) K ay aC F E (L++[a]) L (L++[a]) (L++[a])):=cj.out.Ky f10 dT.out iR;have be:Hid (Fr (HB h (.slice y n1 C) (.slice I N J) g A (L.length+1) c mb) w av):=dA.out.trans (f10.mono (λi _ p=> .inl p));have bb:=af iR;clear iR f10 cj dA dw dT;have bs:av.cell? {block:=h,off:=1}=some (.slice Y O aa):=bb.out.cell 1;have cm:Hid (∀(a5:Value)(dK:List Nat)w',eh w' h b R g (.slice Y O aa) a5 dK ay aC F E (L++[a]) (L++[a]) (L++[a]) (L++[a])->Fr (HB h (.slice y n1 C) (.slice I N J) g A (L.length+1) c mb) w w'->(∀k,a5.ownBlock=some k->(Value.slice I N J).ownBlock=some k\/w.heap.size<=k)->Al w h E L (HB h (.slice y n1 C) (.slice I N J) g A (L.length+1) c mb) a (.returned (.int .i64 0)) w'):=λa5 dK w' cR r p=>by
  refine⟨HB h (.slice Y O aa) a5 g ay ((L++[a]).length+1) aC F,by rw[bh.out],by rw[bh.out];exact⟨b,R,g,_,_,_,ay,aC,F,cR,rfl⟩,r,λk dl=>?_⟩;rcases dl with H|H|H|H;·exact .inl (.inl H)
  ·exact(cf.out k H).imp (λh=> .inr (.inl h)) id
  ·exact(p k H).imp (λh=> .inr (.inr (.inl h))) id
  ·exact(cg.out k H).imp (λh=> .inr (.inr (.inr h))) id
 clear bh cf cg ae cl;by_cases hm:(L.length+1)%16=0;case neg=>
  have dU:(O:Int).tmod 16=(((L.length+1)%16:Nat):Int):=by rw[Int.tmod_eq_emod_of_nonneg (by omega),ch.out];omega
  have a2:((((L.length+1)%16:Nat):Int)==0)=false:=by rw[beq_eq_false_iff_ne];omega
  have a9:Hid (K.length=(L++[a]).length/16):=by
   rw[Hid,D.out.np,aT,List.length_singleton];omega
  generalize dm:(L.length+1)%16=m at dU a2;have bp:Hid (eh av h b R g (.slice Y O aa) (.slice I N J) K ay aC F E (L++[a]) (L++[a]) (L++[a]) (L++[a])):=by
   have q:=D.out;refine⟨q.aF,q.base,q.iJ,q.kept,a9.out,λi k p=>?_,q.last,q.log⟩;have cO:=(List.getElem?_eq_some_iff.1 p).1;have dZ:=q.np;have H:=q.sV i k p;rw[List.take_append_of_le_length (by omega)];exact H
  clear hm dm a9;go_wp2;go_ret;exact cm.out _ _ _ bp.out be.out (λk p=> .inl p)
 case pos=>
  have dU:(O:Int).tmod 16=0:=by rw[Int.tmod_eq_emod_of_nonneg (by omega),ch.out];omega
  have dH:=af hm;have d7:av.cell? {block:=h,off:=2}=some (.slice I N J):=bb.out.cell 2;obtain⟨dp,dk,dq,bO,dr⟩:=info_parts I8;have ef:Hid (¬1*dp.size>2^24):=by simp only[Hid];rw[bO];omega
  have eg:Hid (¬1*dp.size=0):=by simp only[Hid];rw[bO];omega
  have cp:=af D.out.kept;have cc:Hid (K.length<=65536):=by have:=D.out.np;have:=Z.out;simp only[Hid];omega
  clear hm;go_wp2_with(refine cQ _ rfl _ _ 108 rfl 25 dp (.pointer none) 1 8 underlying108 dk dq bO dr rfl (by decide) _ _ _ rfl cp.out 1 #[.pointer (some ⟨R,0,none⟩)] _ rfl rfl rfl (λu hu=>by simp at hu;subst hu;rfl) (by have:=cc.out;omega) (by decide) ?_);intro v11 er a1;obtain⟨aH,a4,aV,rfl,d3,_⟩:=aK a1.own;have G:=af a1;have cS:=af (bb.out.fr a1.fr (D.out.apart.1.2.1));clear a1 bs d7;go_wp2_with(refine aZ rfl 108 (.tmp 101) (.tmp 99) rfl h 2 (.slice aH a4 aV) rfl rfl rfl Ik _ _ #[.pointer (some ⟨b,0,none⟩), .slice Y O aa, .slice aH a4 aV, .pointer (some ⟨R,0,none⟩), .pointer (some ⟨g,0,none⟩)] cS.out (show 2<5 by decide) rfl ?_);intro cH cr f12;have cd:(K++[R]).length=(L++[a]).length/16:=by
   have H:=D.out.np;have bv:=dH.out;rw[aT,aT,List.length_singleton,List.length_singleton,H];omega
  have bp:Hid (eh cH h b R g (.slice Y O aa) (.slice aH a4 aV) (K++[R]) ay aC F E (L++[a]) (L++[a]) (L++[a]) (L++[a])):=by
   have q:=D.out;refine q.Kx G.out.fr (by rw[List.map_append,aT];exact G.out.own) G.out.eL cd (λi k p=>?_) f12 cr;by_cases cO:i<K.length;·rw[List.getElem?_append_left cO]at p;have H:=q.sV i k p;have dZ:=q.np;rw[List.take_append_of_le_length (by omega)];exact H
   ·have dj:i=K.length:=by
     have:=(List.getElem?_eq_some_iff.1 p).1;rw[aT,List.length_singleton]at this;omega
    rw[dj,List.getElem?_append_right (Nat.le_refl _),Nat.sub_self]at p;cases p;have dZ:=q.np;have hm:=dH.out;rw[List.take_of_length_le (by rw[aT,List.length_singleton];omega)];exact q.last
  have cV:Hid (Fr (HB h (.slice y n1 C) (.slice I N J) g A (L.length+1) c mb) w cH):=(be.out.aw G.out.fr (λi _ p=> .inr (.inr (.inl p)))).trans (f12.mono (λi _ p=> .inl p));have ce:Hid (∀k,(Value.slice aH a4 aV).ownBlock=some k->(Value.slice I N J).ownBlock=some k\/w.heap.size<=k):=λk p=>(G.out.eL k p).imp id (λh=>Nat.le_trans be.out.size h);clear cr f12 cd G;go_wp2;go_ret;exact cm.out _ _ _ bp.out cV.out ce.out
end Go.Proofs.YtphjagkehiklkaaGreatDoor
namespace Go.Proofs.YtphjagkehiklkaaGreatDoor.Lt
open Proofs.Tryz Go.RowKit
def pd(w w':World)(p:Nat)(ds:List (List UInt8)):Prop:=∃A c mb,eU w' p A ds.length c mb ds (bN ds.length)/\Fr Nothing w w'/\∀k,TB p A ds.length c mb k->w.heap.size<=k
theorem pd.ao{w w' a:World}{p:Nat}{ds:List (List UInt8)}(h:pd w w' p ds)(b:Fr Nothing w' a):pd w a p ds:=by
 obtain⟨A,c,mb,d,e,f⟩:=h;exact⟨A,c,mb,d.ao b,e.trans b,f⟩
theorem pd.append{w w' a:World}{p:Nat}{ds:List (List UInt8)}{d:List UInt8}{A:Option Addr}{c:Nat}{mb:Option Nat}(g:∀k,TB p A ds.length c mb k->w.heap.size<=k)(f:Fr Nothing w w'){e:Ending}(n:nH w' p A ds.length c mb ds d e a):pd w a p (ds++[d]):=by
 obtain⟨_,l,m,b,o,q,r⟩:=n;refine⟨l,m,b,by rw[aT,List.length_singleton];exact o,f.aw q (λi s e=>by have:=g i e;omega),λk j=>?_⟩;rw[aT,List.length_singleton]at j;rcases r k j with h|h;·exact g k h
 ·exact Nat.le_trans f.size h
end Go.Proofs.YtphjagkehiklkaaGreatDoor.Lt
namespace Go.Proofs.YtphjagkehiklkaaGreatDoor.Lt
open Proofs.Tryz Go.RowKit
def df(ds:List (List UInt8))(index:Nat):List (List UInt8):=
 if a:1<=aU ds.length/\aU ds.length<ds.length then
  (if index<aU ds.length then df (ds.take (aU ds.length)) index++[cY (ds.drop (aU ds.length))]else df (ds.drop (aU ds.length)) (index-aU ds.length)++[cY (ds.take (aU ds.length))])
 else[]
termination_by ds.length
decreasing_by
 ·simp only[List.length_take];omega
 ·simp only[List.length_drop];omega
theorem mD(ds:List (List UInt8))(index:Nat)(h:ds.length<=1):df ds index=[]:=by
 rw[df,dif_neg (by omega)]
theorem mY(ds:List (List UInt8))(index n:Nat)(b:ds.length=n)(d:2<=n)(e:n<=1099511627776):df ds index=if index<aU n then df (ds.take (aU n)) index++[cY (ds.drop (aU n))]else df (ds.drop (aU n)) (index-aU n)++[cY (ds.take (aU n))]:=by
 obtain⟨a,_,c⟩:=dG n d e;rw[df,dif_pos (by rw[b];exact⟨c,a⟩),b]
theorem EA(n k:Nat)(c:2<=n)(d:n<=1099511627776)(h:n<=2^(k+1)):aU n<=2^k:=by
 obtain⟨a,_,_⟩:=dG n c d;have e:aU n=2^(Lib.bitLen (n-1)-1):=rfl;rw[e]at a⊢;refine Nat.pow_le_pow_right (by omega) ?_;rcases Nat.lt_or_ge k (Lib.bitLen (n-1)-1)with b|b;·have:2^(k+1)<=2^(Lib.bitLen (n-1)-1):=Nat.pow_le_pow_right (by omega) b;omega
 ·exact b
theorem lS:∀(k:Nat)(ds:List (List UInt8))(i:Nat),ds.length<=2^k->ds.length<=1048576->(df ds i).length<=k
 |0,ds,i,h,_=>by rw[mD ds i (by simpa using h)];simp
 |k+1,ds,i,h,e=>by
  by_cases d:2<=ds.length
  ·obtain⟨a,b,c⟩:=dG ds.length d (by omega);have f:=EA ds.length k d (by omega) h;rw[mY ds i _ rfl d (by omega)];split;·rw[aT,List.length_singleton];have:=lS k (ds.take (aU ds.length)) i (by rw[List.length_take];omega) (by rw[List.length_take];omega);omega
   ·rw[aT,List.length_singleton];have:=lS k (ds.drop (aU ds.length)) (i-aU ds.length) (by rw[List.length_drop];omega) (by rw[List.length_drop];omega);omega
  ·rw[mD ds i (by omega)];simp
theorem Cd(n:Nat):∀(ds:List (List UInt8))(i:Nat),ds.length=n->n<=1048576->(∀d∈ds,d.length=32)->∀d∈df ds i,d.length=32:=by
 induction n using Nat.strongRecOn with
 |_ n k=>
  intro ds i g m he d f;by_cases j:2<=n
  ·obtain⟨a,b,c⟩:=dG n j (by omega);rw[mY ds i n g j (by omega)]at f;have l:(cY (ds.drop (aU n))).length=32:=gH (n-aU n) _ (by rw[List.length_drop,g]) (by omega) (by omega) (λx e=>he x (List.mem_of_mem_drop e));have j:(cY (ds.take (aU n))).length=32:=gH (aU n) _ (by rw[List.length_take,g];omega) (by omega) (by omega) (λx e=>he x (List.mem_of_mem_take e));split at f
   ·rcases List.mem_append.1 f with h|h;·exact k (aU n) a _ i (by rw[List.length_take,g];omega) (by omega) (λx e=>he x (List.mem_of_mem_take e)) d h
    ·rw[List.mem_singleton.1 h];exact l
   ·rcases List.mem_append.1 f with h|h;·exact k (n-aU n) (by omega) _ _ (by rw[List.length_drop,g]) (by omega) (λx e=>he x (List.mem_of_mem_drop e)) d h
    ·rw[List.mem_singleton.1 h];exact j
  ·rw[mD ds i (by omega)]at f;cases f
theorem wU(leaf:List UInt8)(pre:List Bool)(P X:List (List UInt8))(h:P.length=pre.length):dI leaf pre (P++X)=dI leaf pre P:=by
 unfold dI;have:pre.zip (P++X)=pre.zip P:=by
  have a:=List.zip_append (l₁:=pre) (l₂:=P) (r₁:=[]) (r₂:=X) h.symm;simpa using a
 rw[this]
theorem IE(n:Nat):∀(ds:List (List UInt8))(i:Nat),ds.length=n->i<n->n<=1048576->(df ds i).length=(bV i n).length/\(dI (ds.getD i []) (bV i n) (df ds i)).1=cY ds:=by
 induction n using Nat.strongRecOn with
 |_ n l=>
  intro ds i j m o;by_cases h:2<=n
  ·obtain⟨a,b,c⟩:=dG n h (by omega);rw[mY ds i n j h (by omega),nd ds n j h (by omega)];by_cases f:i<aU n
   ·obtain⟨e,g⟩:=l (aU n) a (ds.take (aU n)) i (by rw[List.length_take,j];omega) f (by omega);have k:(ds.take (aU n)).getD i []=ds.getD i []:=by rw[List.getD_eq_getElem?_getD,List.getD_eq_getElem?_getD,List.getElem?_take_of_lt f]
    rw[k]at g;rw[if_pos f,sf h (by omega) f];refine⟨by rw[aT,aT,e];rfl,?_⟩;rw[mF _ _ _ true (cY (ds.drop (aU n))) (by rw[<-e,List.getElem?_append_right (Nat.le_refl _),Nat.sub_self];rfl),wU _ _ _ _ e];simp only[oJ,if_true,g]
   ·obtain⟨e,g⟩:=l (n-aU n) (by omega) (ds.drop (aU n)) (i-aU n) (by rw[List.length_drop,j]) (by omega) (by omega);have k:(ds.drop (aU n)).getD (i-aU n) []=ds.getD i []:=by rw[List.getD_eq_getElem?_getD,List.getD_eq_getElem?_getD,List.getElem?_drop,show aU n+(i-aU n)=i by omega]
    rw[k]at g;rw[if_neg f,qD h (by omega) f];refine⟨by rw[aT,aT,e];rfl,?_⟩;rw[mF _ _ _ false (cY (ds.take (aU n))) (by rw[<-e,List.getElem?_append_right (Nat.le_refl _),Nat.sub_self];rfl),wU _ _ _ _ e];simp only[oJ,Bool.false_eq_true,if_false,g]
  ·obtain rfl:n=1:=by omega
   obtain rfl:i=0:=by omega
   rw[mD ds 0 (by omega),uo];refine⟨rfl,?_⟩;match ds,j with
   |[d],_=>rw[q9];rfl
theorem EX(n:Nat)(ds:List (List UInt8))(i:Nat)(d:ds.length=n)(c:i<n)(e:n<=1048576):(dq (ds.getD i []) i n (df ds i)).1=cY ds/\(dq (ds.getD i []) i n (df ds i)).2.2=0:=by
 obtain⟨a,b⟩:=IE n ds i d c e;unfold dq;rw[if_pos (by omega),Int.toNat_natCast,Int.toNat_natCast,if_pos a];exact⟨b,rfl⟩
def yR(m:Nat):Prop:=∀(w:World)(p:Nat)(A:Option Addr)(n c:Nat)(mb:Option Nat)(ds:List (List UInt8))(C:Nat->Nat->Prop)(f k i:Nat),eU w p A n c mb ds C->Full C n->n<=1048576->bU w->i<m->f+m<=n->m<=2^k->2^k∣f->
 Calls prog 109 #[.pointer (some ⟨p,0,none⟩), .int .i64 i, .int .i64 f, .int .i64 m] w (yY w (df ((ds.drop f).take m) i).length (df ((ds.drop f).take m) i))
theorem zy:yR 1:=by
 intro w p A n c mb ds C f k i _ _ _ _ _ _ _ _;rw[mD _ _ (by rw[List.length_take];omega)];go_enter func109,ntmps109;go_wp2;go_ret;exact⟨_,rfl,bT.start ⟨rfl, .inl ⟨rfl,rfl⟩⟩⟩
theorem xt(m:Nat)(X:∀j,j<m->yR j)(Q:2<=m):yR m:=by
 intro w p A n c mb ds C f k i hT hF W M al R T H;obtain⟨i0,z,B,o,U⟩:=info_parts uJ;obtain⟨a,b,O⟩:=dG m Q (by omega);obtain⟨lv,x⟩:∃lv,aU m=2^lv:=⟨_,rfl⟩;have ag:lv<=k:=pO (by omega);have L:2^lv∣f:=pq ag H;have hlen:((ds.drop f).take m).length=m:=by rw[List.length_take,List.length_drop,hT.len];omega
 have Z:=af (λw=>ny m w Q (by omega));obtain⟨P,V⟩:∃P,P=aU m:=⟨_,rfl⟩;rw[<-V]at Z a b O x;have e:=mY _ i m hlen Q (by omega);rw[<-V,qE _ (by omega),List.drop_take,List.drop_drop]at e;obtain⟨f2,v⟩:∃f2:Nat,f2=f+P:=⟨_,rfl⟩;obtain⟨m2,J⟩:∃m2:Nat,m2=m-P:=⟨_,rfl⟩;rw[<-v,<-J]at e;have s1:(f:Int)+(P:Int)=(f2:Int):=by omega
 have s2:(m:Int)-(P:Int)=(m2:Int):=by omega
 have f4:f<=1048576:=by omega
 have f24:f2<=1048576:=by omega
 have m4:m<=1048576:=by omega
 have m24:m2<=1048576:=by omega
 have ak:P<=1048576:=by omega
 have i4:i<=1048576:=by omega
 have m1:((m:Int)==1)=false:=by rw[beq_eq_false_iff_ne];omega
 have g1:Hid (¬1*i0.size>2^24):=by simp only[Hid];rw[o];omega
 have g2:Hid (¬1*i0.size=0):=by simp only[Hid];rw[o];omega
 have D:∀(l:List (List UInt8))(j:Nat),l.length<=1048576->(df l j).length<=20:=λl j h=>lS 20 l j h h;by_cases I:i<P
 ·rw[if_pos I]at e;rw[e];have Y:Hid (∀w',Fr Nothing w w'->Calls prog 109 #[.pointer (some ⟨p,0,none⟩), .int .i64 i, .int .i64 f, .int .i64 P] w' (yY w' (df ((ds.drop f).take P) i).length (df ((ds.drop f).take P) i))):=
   λw' t=>X P a w' p A n c mb ds C f lv i (hT.ao t) hF W (M.ao t) I (by omega) (by omega) L;have E:Hid (∀w',Fr Nothing w w'->Calls prog 110 #[.pointer (some ⟨p,0,none⟩), .int .i64 f2, .int .i64 m2] w' (aM w' (bj (cY ((ds.drop f2).take m2))))):=
   λw' t=>wQ m2 (by omega) w' p A n c mb ds C f2 lv (hT.ao t) hF W (M.ao t) (by omega) (by omega) (by omega) (by rw[v,x];exact(Nat.dvd_add_right L).2 (Nat.dvd_refl _));have K:(cY ((ds.drop f2).take m2)).length=32:=gH m2 _ (by rw[List.length_take,List.length_drop,hT.len];omega) (by omega) (by omega) (λd ae=>hT.each d (List.mem_of_mem_drop (List.mem_of_mem_take ae)));have aj:=D ((ds.drop f).take P) i (by rw[List.length_take];omega);have ai:(i:Int)<(P:Int):=by omega
  generalize df ((ds.drop f).take P) i=PL at*;generalize cY ((ds.drop f2).take m2)=g at*;have aa:Hid (Instr.fill (λi=>some (i*32,32)) ((Array.range (1*32)).map (bp.cells[· %bp.cells.size]!)) [(0, .agg (aC g).toArray)]=some (aC g).toArray):=sN _ _ (by simp[aC,K]) (by simp);have ab:Hid ((aC g).toArray.size=1*32):=by simp[Hid,aC,K]
  have ac:Hid (∀u∈(aC g).toArray.toList,u.oneCell'=true):=by
   intro u hu;exact j6 _ u (by simpa[aC]using hu)
  have q:Hid ((PL++[g]).flatMap aC=PL.flatMap aC++aC g/\(PL++[g]).length=PL.length+1):=⟨by rw[List.flatMap_append,List.flatMap_singleton],by simp⟩;unfold bj at E;simp only[show∀l:List UInt8,l.map bK=aC l fromλ_=>rfl]at E;generalize aC g=y at*;have g3:Hid (Instr.fill (λi=>some (i*i0.size,i0.size)) ((Array.range (1*i0.size)).map (bp.cells[· %bp.cells.size]!)) [(0, .agg y.toArray)]=some y.toArray):=by simp only[Hid];rw[o];exact aa.out
  clear hT hF M V v J R T H L ag hlen X Q a b O x e K D;go_enter func109,ntmps109;go_wp2_with fail;refine(Z.out _).mono ?_;rintro e w'⟨rfl,rfl⟩;go_wp2_with fail;refine(Y.out _ aA).mono ?_;rintro e w1⟨v1,rfl,G⟩;have F:=af G;obtain⟨ah,n1,O,rfl,H1,_⟩:=aK G.own;clear G;go_wp2_with fail;refine(E.out _ F.out.ao).mono ?_;rintro e w2⟨rfl,r⟩;have N:=af (F.out.behind r);clear r F;go_wp2_with(refine wpList_buildSlice rfl 31 38 1 #[(0, .tmp 29)] rfl y.toArray i0 bp underlying31 z B g1.out g2.out (by simp only[List.map_toArray,List.map_cons,List.map_nil];exact g3.out) (aX.go ?hold));unfold aX;refine cQ _ rfl _ _ 31 rfl 38 i0 bp 32 32 underlying31 z B o U rfl (by omega) _ _ _ rfl N.out.own 1 y.toArray _ rfl rfl ab.out ac.out (by omega) (by omega) ?_;intro v3 w3 s;have ad:Hid (bT 38 32 w (.slice none 0 0) w3 v3 (PL++[g]).length ((PL++[g]).flatMap aC)):=by
   have h:=N.out.trans s;simp only[Hid];rw[q.out.1,q.out.2];exact h
  clear s;go_wp2;go_ret;exact⟨_,rfl,ad.out⟩
 ·rw[if_neg I]at e;rw[e];obtain⟨i2,S⟩:∃i2:Nat,i2=i-P:=⟨_,rfl⟩;rw[<-S];have an:(i:Int)-(P:Int)=(i2:Int):=by omega
  have i24:i2<=1048576:=by omega
  have Y:Hid (∀w',Fr Nothing w w'->Calls prog 109 #[.pointer (some ⟨p,0,none⟩), .int .i64 i2, .int .i64 f2, .int .i64 m2] w' (yY w' (df ((ds.drop f2).take m2) i2).length (df ((ds.drop f2).take m2) i2))):=
   λw' t=>X m2 (by omega) w' p A n c mb ds C f2 lv i2 (hT.ao t) hF W (M.ao t) (by omega) (by omega) (by omega) (by rw[v,x];exact(Nat.dvd_add_right L).2 (Nat.dvd_refl _));have E:Hid (∀w',Fr Nothing w w'->Calls prog 110 #[.pointer (some ⟨p,0,none⟩), .int .i64 f, .int .i64 P] w' (aM w' (bj (cY ((ds.drop f).take P))))):=
   λw' t=>wQ P (by omega) w' p A n c mb ds C f lv (hT.ao t) hF W (M.ao t) (by omega) (by omega) (by omega) L;have K:(cY ((ds.drop f).take P)).length=32:=gH P _ (by rw[List.length_take,List.length_drop,hT.len];omega) (by omega) (by omega) (λd ae=>hT.each d (List.mem_of_mem_drop (List.mem_of_mem_take ae)));have aj:=D ((ds.drop f2).take m2) i2 (by rw[List.length_take];omega);have ai:decide ((i:Int)<(P:Int))=false:=ct (by omega);have am:¬i<P:=by omega
  generalize df ((ds.drop f2).take m2) i2=PL at*;generalize cY ((ds.drop f).take P)=g at*;have aa:Hid (Instr.fill (λi=>some (i*32,32)) ((Array.range (1*32)).map (bp.cells[· %bp.cells.size]!)) [(0, .agg (aC g).toArray)]=some (aC g).toArray):=sN _ _ (by simp[aC,K]) (by simp);have ab:Hid ((aC g).toArray.size=1*32):=by simp[Hid,aC,K]
  have ac:Hid (∀u∈(aC g).toArray.toList,u.oneCell'=true):=by
   intro u hu;exact j6 _ u (by simpa[aC]using hu)
  have q:Hid ((PL++[g]).flatMap aC=PL.flatMap aC++aC g/\(PL++[g]).length=PL.length+1):=⟨by rw[List.flatMap_append,List.flatMap_singleton],by simp⟩;unfold bj at E;simp only[show∀l:List UInt8,l.map bK=aC l fromλ_=>rfl]at E;generalize aC g=y at*;have g3:Hid (Instr.fill (λi=>some (i*i0.size,i0.size)) ((Array.range (1*i0.size)).map (bp.cells[· %bp.cells.size]!)) [(0, .agg y.toArray)]=some y.toArray):=by simp only[Hid];rw[o];exact aa.out
  clear hT hF M V v J S R T H L ag hlen X Q a b O x e K D;go_enter func109,ntmps109;go_wp2_with fail;refine(Z.out _).mono ?_;rintro e w'⟨rfl,rfl⟩;go_wp2_with fail;refine(Y.out _ aA).mono ?_;rintro e w1⟨v1,rfl,G⟩;have F:=af G;obtain⟨ah,n1,O,rfl,H1,_⟩:=aK G.own;clear G;go_wp2_with fail;refine(E.out _ F.out.ao).mono ?_;rintro e w2⟨rfl,r⟩;have N:=af (F.out.behind r);clear r F;go_wp2_with(refine wpList_buildSlice rfl 31 38 1 #[(0, .tmp 46)] rfl y.toArray i0 bp underlying31 z B g1.out g2.out (by simp only[List.map_toArray,List.map_cons,List.map_nil];exact g3.out) (aX.go ?zA));unfold aX;refine cQ _ rfl _ _ 31 rfl 38 i0 bp 32 32 underlying31 z B o U rfl (by omega) _ _ _ rfl N.out.own 1 y.toArray _ rfl rfl ab.out ac.out (by omega) (by omega) ?_;intro v3 w3 s;have ad:Hid (bT 38 32 w (.slice none 0 0) w3 v3 (PL++[g]).length ((PL++[g]).flatMap aC)):=by
   have h:=N.out.trans s;simp only[Hid];rw[q.out.1,q.out.2];exact h
  clear s;go_wp2;go_ret;exact⟨_,rfl,ad.out⟩
theorem Bj(m:Nat)(hm:1<=m):yR m:=by
 induction m using Nat.strongRecOn with
 |_ m e=>
  by_cases b:2<=m
  ·refine xt m (λj d=>?_) b;rcases Nat.eq_zero_or_pos j with rfl|a;·intro w p A n c mb ds C f k i _ _ _ _ h;omega
   ·exact e j d a
  ·obtain rfl:m=1:=by omega
   exact zy
def rU(ds:List (List UInt8))(i k:Int):List (List UInt8)×Int:=if 1<=k/\k<=ds.length/\0<=i/\i<k then(df (ds.take k.toNat) i.toNat,0)else([],2)
def sy(w:World)(V:List (List UInt8)×Int)(e:Ending)(w':World):Prop:=∃v,e= .returned (.tuple #[v, .int .i64 V.2])/\bT 38 32 w (.slice none 0 0) w' v V.1.length (V.1.flatMap aC)
theorem sy.none{w w':World}{k:Int}(h:Fr Nothing w w'):sy w ([],k) (.returned (.tuple #[.slice none 0 0, .int .i64 k])) w':=⟨_,rfl,⟨⟨rfl, .inl ⟨rfl,rfl⟩⟩,h.bR,λ_ a=> .inl a⟩⟩
theorem yS(D w:World)(p:Nat)(ds:List (List UInt8))(i k:Int)(hT:pd D w p ds)(B:ds.length<=1048576)(o:bU w)(F:-9223372036854775808<=i/\i<=9223372036854775807)(G:-9223372036854775808<=k/\k<=9223372036854775807):
  Calls prog 56 #[.pointer (some ⟨p,0,none⟩), .int .i64 i, .int .i64 k] w (sy w (rU ds i k)):=by
 obtain⟨A,c,mb,l,q,r⟩:=hT;obtain⟨n,f⟩:∃n,n=ds.length:=⟨_,rfl⟩;have j:Hid (∀w',Calls prog 89 #[.int .i64 k, .int .i64 1, .int .i64 n] w' (bJ w' (.bool (decide (1<=k/\k<=n))))):=λw'=>fI k 1 n w';have E:w.cell? ⟨p,0,none⟩=some (.slice A n c):=by rw[f];exact l.aF.cell 0
 by_cases a:1<=k/\k<=(n:Int)
 ·obtain⟨kn,rfl⟩:∃kn:Nat,k=kn:=⟨k.toNat,by omega⟩;obtain⟨g,x⟩:∃g:Nat,(kn:Int)-1=(g:Int):=⟨kn-1,by omega⟩;have m:Hid (∀w',Calls prog 89 #[.int .i64 i, .int .i64 0, .int .i64 g] w' (bJ w' (.bool (decide (0<=i/\i<=g))))):=λw'=>fI i 0 g w';rw[decide_eq_true a]at j;by_cases d:0<=i/\i<=(g:Int)
  ·obtain⟨b,rfl⟩:∃b:Nat,i=b:=⟨i.toNat,by omega⟩;rw[decide_eq_true d]at m;have e:rU ds b kn=(df (ds.take kn) b,0):=by
    unfold rU;rw[if_pos (by omega),Int.toNat_natCast,Int.toNat_natCast]
   rw[e];have y:Hid (∀w',Fr Nothing w w'->Calls prog 109 #[.pointer (some ⟨p,0,none⟩), .int .i64 b, .int .i64 0, .int .i64 kn] w' (yY w' (df (ds.take kn) b).length (df (ds.take kn) b))):=λw' u=>by
    have h:=Bj kn (by omega) w' p A ds.length c mb ds (bN ds.length) 0 20 b (l.ao u) (ue _) B (o.ao u) (by omega) (by omega) (by omega) (Nat.dvd_zero _);rw[List.drop_zero]at h;exact h
   generalize df (ds.take kn) b=PL at*;have s:kn<=1048576:=by omega
   have C:b<=1048576:=by omega
   clear e l q r o a d f;go_enter func56,ntmps56;go_wp2_with fail;refine(j.out _).mono ?_;rintro e w'⟨rfl,rfl⟩;go_wp2_with fail;refine(m.out _).mono ?_;rintro e w'⟨rfl,rfl⟩;go_wp2_with fail;refine(y.out _ aA).mono ?_;rintro e w1⟨v,rfl,t⟩;have z:=af t;clear t;go_wp2;go_ret2;exact⟨v,rfl,z.out⟩
  ·rw[decide_eq_false d]at m;have e:rU ds i kn=([],2):=by
    unfold rU;rw[if_neg (by omega)]
   rw[e];have s:kn<=1048576:=by omega
   clear e l q r o a d f;go_enter func56,ntmps56;go_wp2_with fail;refine(j.out _).mono ?_;rintro e w'⟨rfl,rfl⟩;go_wp2_with fail;refine(m.out _).mono ?_;rintro e w'⟨rfl,rfl⟩;go_wp2;go_ret2;exact sy.none aA
 ·rw[decide_eq_false a]at j;have e:rU ds i k=([],2):=by
   unfold rU;rw[if_neg (by omega)]
  rw[e];clear e l q r o a f;go_enter func56,ntmps56;go_wp2_with fail;refine(j.out _).mono ?_;rintro e w'⟨rfl,rfl⟩;go_wp2;go_ret2;exact sy.none aA
theorem kJ{P:Program}(w:World)(t e:TypeId)(c:TypeInfo)(hu:P.underlying t=some (.slice e))(a:P.info? e=some c):
  (Instr.buildSlice t 0 #[]).run P w= .ok (.slice (some ⟨w.heap.size,0,none⟩) 0 0) (w.alloc (.cells #[] e)):=by
 have b:∀cs:Array Value,(newRow e cs).run P w= .ok ⟨w.heap.size,0,none⟩ (w.alloc (.cells cs e)):=λcs=>rfl;simp[Instr.buildSlice,run_underlying hu,sizeOf,typeInfo,a,Result.andThen,Instr.fill,b];rw[show(Array.range 0).map (λ_=>(default:Value))=#[]from Array.eq_empty_of_size_eq_zero (by simp)]
theorem lX{P:Program}{f:Oper}{a:Act}{w:World}{K:Act->World->Prop}{Q:Exit->Act->World->Prop}(t e:TypeId)(d:f.op= .buildSlice t 0 #[])(c:TypeInfo)
  (hu:P.underlying t=some (.slice e))(b:P.info? e=some c)(h:∀w',dN w w' e #[]->K (a.put f.dst (.slice (some ⟨w.heap.size,0,none⟩) 0 0)) w'):f.wp P a w K Q:=by
 unfold Oper.wp;simp[execOp,d,kJ w t e c hu b,Result.andThen];exact h _ (dN.alloc w e #[])
end Go.Proofs.YtphjagkehiklkaaGreatDoor.Lt
namespace Go.Proofs.YtphjagkehiklkaaGreatDoor.Lt
open Proofs.Tryz Go.RowKit Go.ChangeMaps
def rI(w:World)(b r n:Nat)(ds:List (List UInt8))(C X:Nat->Nat->Prop):Prop:=
 ∃es clock seen,w.heap[b]? =some (.map es clock)/\w.heap[r]? =some (.mapIter (some b) clock seen clock)/\(∀e∈es.toList,rq ds C e)/\
  (∀l i,C l i->(i+1)*2^l<=n->∃e∈es.toList,e.key=gS l i)/\pb es clock/\(∀e∈es.toList,seen.contains e.born=true->∃l i,e.key=gS l i/\((i+1)*2^l<=n\/X l i))
theorem rI.fr{w w':World}{T:Nat->Prop}{b r n:Nat}{ds:List (List UInt8)}{C X:Nat->Nat->Prop}(h:rI w b r n ds C X)(d:Fr T w w')(j:¬T b)(k:¬T r):rI w' b r n ds C X:=by
 obtain⟨es,clock,seen,a,c,e,f,g,i⟩:=h;exact⟨es,clock,seen,(d.block b (Array.getElem?_eq_some_iff.1 a).1 j).trans a,(d.block r (Array.getElem?_eq_some_iff.1 c).1 k).trans c,e,f,g,i⟩
theorem rI.lt{w:World}{b r n:Nat}{ds:List (List UInt8)}{C X:Nat->Nat->Prop}(h:rI w b r n ds C X):b<w.heap.size/\r<w.heap.size:=by
 obtain⟨es,clock,seen,a,c,_⟩:=h;exact⟨(Array.getElem?_eq_some_iff.1 a).1,(Array.getElem?_eq_some_iff.1 c).1⟩
theorem pN(ds:List (List UInt8))(n:Nat):∀l i,(i+1)*2^l<=n->aJ (ds.take n) l i=aJ ds l i
 |0,i,h=>by
  have b:i<n:=by omega
  simp only[aJ];rw[List.getD_eq_getElem?_getD,List.getD_eq_getElem?_getD,List.getElem?_take_of_lt b]
 |l+1,i,h=>by
  have c:2^(l+1)=2*2^l:=by rw[Nat.pow_succ];omega
  have a:(i+1)*2^(l+1)=(2*i+1+1)*2^l:=by rw[c,<-Nat.mul_assoc];congr 1;omega
  have d:(2*i+1+1)*2^l=(2*i+1)*2^l+2^l:=by rw[Nat.add_mul,Nat.one_mul]
  rw[a]at h;rw[aJ,aJ,pN ds n l (2*i) (by omega),pN ds n l (2*i+1) h]
theorem dY.take{w:World}{b n m:Nat}{ds:List (List UInt8)}(h:dY w b ds (λl i=>bN m l i/\(i+1)*2^l<=n))(c:n<=m):dY w b (ds.take n) (bN n):=by
 obtain⟨es,clock,f,g,j,k⟩:=h;refine⟨es,clock,f,λe he=>?_,λl i a=>?_,k⟩;·obtain⟨l,i,o,p,q,d⟩:=g e he;exact⟨l,i,o,by rw[p,pN ds n l i d],q.1,d⟩
 ·exact j l i ⟨⟨a.1,Nat.le_trans a.2 c⟩,a.2⟩
end Go.Proofs.YtphjagkehiklkaaGreatDoor.Lt
namespace Go.Proofs.YtphjagkehiklkaaGreatDoor.Lt
open Proofs.Tryz Go.RowKit
def Dv(w:World)(n:Nat)(PL:List (List UInt8))(v:Value)(w':World):Prop:=∃v1,v=v1/\bT 38 32 w (.slice none 0 0) w' v1 n (PL.flatMap aC)
theorem Dv.ag{w W:World}{n:Nat}{PL:List (List UInt8)}:∀v w' a,Fr Nothing W w'->Fr Nothing w' a->Dv w n PL v w'->Dv w n PL v a:=λ_ _ _ _ c⟨v1,h,b⟩=>⟨v1,h,b.behind c⟩
def yW(w:World)(ds:List (List UInt8))(C:Nat->Nat->Prop)(mb:Option Nat)(W:World):Prop:=(∃b,mb=some b/\dY W b ds C/\w.heap.size<=b)\/(mb=none/\∀l i,¬C l i)
theorem yW.fr{w W W':World}{ds:List (List UInt8)}{C:Nat->Nat->Prop}{mb:Option Nat}(h:yW w ds C mb W)(e:Fr Nothing W W'):yW w ds C mb W':=by
 rcases h with⟨b,a,c,d⟩|h;·exact .inl ⟨b,a,c.fr e id,d⟩
 ·exact .inr h
def Jh(w:World)(ds:List (List UInt8))(C:Nat->Nat->Prop)(v:Value)(W:World):Prop:=∃mb,v= .map mb/\yW w ds C mb W
theorem Jh.ag{w W:World}{ds:List (List UInt8)}{C:Nat->Nat->Prop}:∀v w' a,Fr Nothing W w'->Fr Nothing w' a->Jh w ds C v w'->Jh w ds C v a:=λ_ _ _ _ c⟨mb,h,b⟩=>⟨mb,h,b.fr c⟩
end Go.Proofs.YtphjagkehiklkaaGreatDoor.Lt
namespace Go.Proofs.YtphjagkehiklkaaGreatDoor
open Proofs.Tryz Go.RowKit Go.Shelf
def ME(w:World)(L:List ActV)(v:Value)(W:World):Prop:=ki W v L/\∀k,v.ownBlock=some k->w.heap.size<=k
def MF(w:World)(K:List Nat)(v:Value)(W:World):Prop:=W.ownsRow 0 25 1 v K.length (K.map λk=>Value.pointer (some ⟨k,0,none⟩))/\∀k,v.ownBlock=some k->w.heap.size<=k
def MG(w:World)(ds:List (List UInt8))(p:Nat)(W:World):Prop:=∃A c mb,Lt.eU W p A ds.length c mb ds (Lt.bN ds.length)/\∀k,Lt.TB p A ds.length c mb k->w.heap.size<=k
theorem ME.ao{w W W':World}{L:List ActV}{v:Value}(h:ME w L v W)(f:Fr Nothing W W'):ME w L v W':=⟨h.1.ao f,h.2⟩
theorem MF.ao{w W W':World}{K:List Nat}{v:Value}(h:MF w K v W)(f:Fr Nothing W W'):MF w K v W':=⟨aP h.1 f (λ_ _ x=>x),h.2⟩
theorem MG.ao{w W W':World}{ds:List (List UInt8)}{p:Nat}(h:MG w ds p W)(f:Fr Nothing W W'):MG w ds p W':=by
 obtain⟨A,c,mb,a,b⟩:=h;exact⟨A,c,mb,a.ao f,b⟩
theorem dJ.one{w:World}:∀{cs:List (List Value)}{l:List ActV},dJ w cs l->∀u∈cs.flatten,u.oneCell'=true
 |[],_,_,u,hu=>by cases hu
 |c::r,[],h,_,_=>by cases h
 |c::r,a::l,h,u,hu=>by
  rw[List.flatten_cons,List.mem_append]at hu;rcases hu with hu|hu;·have b:=ActV.one h.1;rw[Array.all_eq_true_iff_forall_mem]at b;exact b u (by simpa using hu)
  ·exact dJ.one h.2 u hu
end Go.Proofs.YtphjagkehiklkaaGreatDoor
namespace Go.Proofs.YtphjagkehiklkaaGreatDoor.Lt
open Proofs.Tryz Go.RowKit
theorem Jm(Q w:World)(p:Nat)(ds:List (List UInt8))(a:Nat)(hT:pd Q w p ds)(N:ds.length<=1048576)(O:a<=ds.length)(F:bU w):
  Calls prog 57 #[.pointer (some ⟨p,0,none⟩), .int .i64 a] w (aM w (.tuple #[bj (gN (ds.take a)), .int .i64 0])):=by
 obtain⟨A,c,mb,s,J,K⟩:=hT;obtain⟨n,j⟩:∃n,n=ds.length:=⟨_,rfl⟩;have r:w.cell? ⟨p,0,none⟩=some (.slice A n c):=by rw[j];exact s.aF.cell 0
 have n4:n<=1048576:=by omega
 have v:Hid (∀w',Calls prog 89 #[.int .i64 a, .int .i64 0, .int .i64 n] w' (bJ w' (.bool (decide (0<=(a:Int)/\(a:Int)<=n))))):=λw'=>fI a 0 n w';rw[cX (show 0<=(a:Int)/\(a:Int)<=n by omega)]at v;have G:(gN (ds.take a)).length=32:=nF a _ (by rw[List.length_take];omega) (by omega) (λd L=>s.each d (List.mem_of_mem_take L));have x:Hid (a=0->∀w',Fr Nothing w w'->Calls prog 73 #[] w' (aM w' (bj (gN (ds.take a))))):=λh w' t=>by
  rw[h,List.take_zero];exact De w' (F.ao t)
 have z:Hid (¬a=0->∀w',Fr Nothing w w'->Calls prog 110 #[.pointer (some ⟨p,0,none⟩), .int .i64 0, .int .i64 a] w' (aM w' (bj (gN (ds.take a))))):=λh w' t=>by
  have k:=wQ a (by omega) w' p A ds.length c mb ds (bN ds.length) 0 20 (s.ao t) (ue _) N (F.ao t) (by omega) (by omega) (by omega) (Nat.dvd_zero _);rw[List.drop_zero]at k;have e:gN (ds.take a)=cY (ds.take a):=by
   unfold gN;rw[if_neg (by intro g;have:=congrArg List.length g;rw[List.length_take,List.length_nil]at this;omega)]
  rw[e];exact k
 generalize gN (ds.take a)=rt at*;have DP:Hid (dL (aC rt).toArray):=dL.of G;have a4:a<=1048576:=by omega
 unfold bj at*;simp only[show∀l:List UInt8,l.map bK=aC l fromλ_=>rfl]at*;generalize aC rt=o at*;clear s J K j O G F;by_cases g:a=0
 ·have y:=af (x.out g);have t0:((a:Int)==0)=true:=by rw[g];rfl
  subst g;clear x z;go_enter func57,ntmps57;go_wp2_with(refine an rfl 38 rfl bp jn aH rfl ?_);intro w1 b;have f:=af b;have H:w1.cell? ⟨p,0,none⟩=some (.slice A n c):=b.fr.ak r id;clear b r;go_wp2_with fail;refine(v.out _).mono ?_;rintro e w'⟨rfl,rfl⟩;go_wp2_with fail;refine(y.out _ f.out.fr).mono ?_;rintro e w2⟨rfl,f2⟩;have C:=af (f.out.fr.trans f2);have u:=af (f.out.aF.fr f2 id);clear f2 f;go_wp2_with(refine ai rfl 38 (.tmp 4) _ rfl w.heap.size o.toArray rfl rfl _ _ u.out DP.out.info DP.out.zero DP.out.one ?_);intro m b5 f5;have D:=af b5;have E:Hid (Fr Nothing w m):=C.out.aw f5 (λi M e=>by have I:i=w.heap.size:=e;omega);clear b5 f5;go_wp2;exact bodyPost_ret (dX (fn:=Tryz.f57) (p:=4) (q:=5) (ty:=38) results57 _ m _ 38 o.toArray (0,0) _ rfl D.out underlying38 rfl DP.out.info _ rfl) rfl ⟨rfl,E.out⟩
 ·have B:=af (z.out g);have t0:((a:Int)==0)=false:=by rw[beq_eq_false_iff_ne];omega
  have P:¬a=0:=g;clear x z;go_enter func57,ntmps57;go_wp2_with(refine an rfl 38 rfl bp jn aH rfl ?_);intro w1 b;have f:=af b;have H:w1.cell? ⟨p,0,none⟩=some (.slice A n c):=b.fr.ak r id;clear b r;go_wp2_with fail;refine(v.out _).mono ?_;rintro e w'⟨rfl,rfl⟩;go_wp2_with fail;refine(B.out _ f.out.fr).mono ?_;rintro e w2⟨rfl,f2⟩;have C:=af (f.out.fr.trans f2);have u:=af (f.out.aF.fr f2 id);clear f2 f;go_wp2_with(refine ai rfl 38 (.tmp 4) _ rfl w.heap.size o.toArray rfl rfl _ _ u.out DP.out.info DP.out.zero DP.out.one ?_);intro m b5 f5;have D:=af b5;have E:Hid (Fr Nothing w m):=C.out.aw f5 (λi M e=>by have I:i=w.heap.size:=e;omega);clear b5 f5;go_wp2;exact bodyPost_ret (dX (fn:=Tryz.f57) (p:=4) (q:=5) (ty:=38) results57 _ m _ 38 o.toArray (0,0) _ rfl D.out underlying38 rfl DP.out.info _ rfl) rfl ⟨rfl,E.out⟩
end Go.Proofs.YtphjagkehiklkaaGreatDoor.Lt
namespace Go.Proofs.YtphjagkehiklkaaGreatDoor.Lt
open Proofs.Tryz Go.RowKit
def Dw(w:World)(PL:List (List UInt8))(v:Value)(w':World):Prop:=∃v1,v=v1/\bT 37 32 w (.slice none 0 0) w' v1 PL.length (PL.flatMap aC)
theorem Dw.ag{w W:World}{PL:List (List UInt8)}:∀v w' a,Fr Nothing W w'->Fr Nothing w' a->Dw w PL v w'->Dw w PL v a:=λ_ _ _ _ c⟨v1,h,b⟩=>⟨v1,h,b.behind c⟩
end Go.Proofs.YtphjagkehiklkaaGreatDoor.Lt
namespace Go.Proofs.YtphjagkehiklkaaGreatDoor.Lt
open Proofs.Tryz Go.RowKit Go.ChangeShapes Go.WideShapes Go.Deep
end Go.Proofs.YtphjagkehiklkaaGreatDoor.Lt
namespace Go.Proofs.YtphjagkehiklkaaGreatDoor
open Proofs.Tryz Go.RowKit Go.Shelf
theorem tW:∀(L:List Ent),(∀x∈L,(jy x).length<=500)->(L.flatMap jy).length<=500*L.length
 |[],_=>by simp
 |x::L,h=>by
  have b:=h x (by simp);have c:=tW L (λy a=>h y (by simp[a]));simp only[List.flatMap_cons,aT,List.length_cons];omega
theorem cM.NH{k:Nat}{L:List Ent}(h:cM k L):∀x∈L,(jy x).length<=500:=λx a=>by
 have b:=h.owner x a;have c:=h.text x a;have d:=h.value x a;have e:=eS x.1;have f:=aY (bZ x.1).length;have g:=aY (aQ x.2).length;have i:=aL x.2;simp only[jy,aN,aT];omega
theorem cM.rQ{k:Nat}{L:List Ent}(h:cM k L):(cq L).length<=10+500*L.length/\1<=(cq L).length:=by
 have a:=tW L h.NH;have b:=aY L.length;have c:=pv 9 L.length;simp only[cq,aT];refine⟨by omega,?_⟩;show 1<=(dy 9 L.length).length+_;omega
theorem KQ(l:List UInt8):aQ ⟨l.toArray⟩=l:=rfl
def Dg(w:World)(l:List UInt8)(e:Ending)(w':World):Prop:=aM w (bj (eW l)) e w'
theorem Mg(l:List UInt8):ee ⟨l.toArray⟩=l:=rfl
theorem GU(L:List Ent)(s:Nat)(w:World)(C:dQ w s L)(D:dO w)(hT:bU w)(B:pZ L)(N:(cq L).length<=1099511627776/\1<=(cq L).length):
  Calls prog 75 #[.pointer (some ⟨s,0,none⟩)] w (Dg w (cq L)):=by
 have r:Hid (∀w',Fr Nothing w w'->Calls prog 102 #[.pointer (some ⟨s,0,none⟩)] w' (mh w' (cq L))):=λw' f=>sC L s w' (C.ao f) (D.ao f) B;obtain⟨x,d⟩:∃x:ByteArray,x=⟨(cq L).toArray⟩:=⟨_,rfl⟩;have n:x.size=(cq L).length:=by rw[d];simp[ByteArray.size]
 have t:Hid (∀w',Fr Nothing w w'->Calls prog 27 #[.string x] w' (aM w' (bj (eW (cq L))))):=λw' f=>by
  have h:=Ap x w' (hT.ao f) (by omega) (by omega);rw[d,Mg]at h;rw[d];exact h
 unfold Dg;have b:=iq (cq L);have I:=af d;generalize cq L=l at*;unfold bj at*;generalize eW l=DL at*;have m:Hid ((DL.map bK).toArray.size=32/\(DL.map bK).toArray.all (·.oneCell')=true):=⟨by simp[b],mn DL⟩;have z:Hid ((prog.info? 37).map (·.size)=some (DL.map bK).toArray.size):=by
  rw[m.out.1];exact Gm
 generalize(DL.map bK).toArray=A at*;clear C D hT B N d n b;go_enter func75,ntmps75;go_wp2_with(refine an rfl 37 rfl bp MA aH rfl ?_);intro w1 n1;have j:=af n1;clear n1;generalize E:w.heap.size=g at*;have y:=af E;clear E;have o:Hid (aq w1 g 37 aH):=by have h:=j.out.aF;rw[y.out]at h;exact h
 go_wp2_with fail;refine(r.out _ j.out.fr).mono ?_;rintro e w2⟨v,rfl,a⟩;obtain⟨O,R,M,rfl,u,_⟩:=aK a.own;have c:=kL w2 _ _ _ M _ (oP.rd a.own u.out);rw[<-I.out]at c;have k:=af (j.out.fr.trans a.ao);have q:=af (o.out.fr a.ao id);clear a u r o j;go_wp2_with fail;refine(t.out _ k.out).mono ?_;rintro e w3⟨rfl,f3⟩;have H:=af (k.out.trans f3);have G:=af (q.out.fr f3 id);clear f3 t k q c;go_wp2_with(refine ai rfl 37 (.tmp 2) _ rfl g A rfl rfl _ _ G.out z.out (by rw[m.out.1];rfl) m.out.2 ?_);intro F b5 f5;have J:=af b5;have K:Hid (Fr Nothing w F):=H.out.aw f5 (λi Q e=>by have P:i=g:=e;have:=y.out;omega);clear b5 f5;go_wp2;exact bodyPost_ret (results_cell_row (fn:=Tryz.f75) (p:=2) (ty:=37) results75 _ F _ 37 A (0,0) _ rfl J.out underlying37 rfl z.out) rfl ⟨rfl,K.out⟩
end Go.Proofs.YtphjagkehiklkaaGreatDoor
