/- Texts. -/
import Derived.Test.YtphjagkehiklkaaGreatDoorUK29
set_option linter.unusedVariables false
set_option linter.unusedSimpArgs false
set_option maxRecDepth 100000
set_option maxHeartbeats 2000000
namespace Go.Proofs.YtphjagkehiklkaaGreatDoor.Lt
open Go.RowKit
theorem aM{P:Program}{ops:Array Oper}{rest:List Oper}{u:Oper}{a:Act}{w:World}{Q:Exit→Act→World→Prop}(j:u.guard=none)(ty:TypeId)(x y:Operand)(p:u.op= .store ty x y)
  (g f:Nat)(v:Value)(r:a.eval x= .pointer (some ⟨g,f,none⟩))(s:a.eval y=v)(m:v.oneCell'=true)(d:(P.info? ty).map (·.size)=some 1)
  (t:TypeId)(cs cs':Array Value)(e:ak w g t cs)(o:f<cs.size)(i:cs.setIfInBounds f v=cs')
  (h:∀w',ak w' g t cs'→Fr (fun k=>k=g) w w'→wpList P ops Q rest (a.put u.dst undef) w'):wpList P ops Q (u::rest) a w:=by
 subst i;obtain⟨b,l,q⟩:∃b,P.info? ty=some b∧b.size=1:=by
  cases he:P.info? ty with
  |none=>rw[he]at d;cases d
  |some b=>rw[he]at d;exact⟨b,rfl,by simpa using d⟩
 have c:=Lib.rl_storeVar_one (P:=P) ty b l q ⟨g,f,none⟩ v (cs[f]) m w (by rw[e.cell];simp[o]) (e.frozen _);refine wpList_plain j fun K n=>?_;unfold Oper.wp execOp;simp only[p,r,s,Instr.storeAt,Instr.sureAddr,Sem.run_bind,Sem.run_pure,Result.andThen_ok,c];exact n _ _ (h _ (e.iV f v) (Fr.setCell (T:=fun k=>k=g) (Fr.refl _ w) (fun _=>rfl) v))
theorem sc:(Tryz.prog.info? 31).map (·.size)=some 1:=by kernel_rfl
theorem GC:(Tryz.prog.info? 178).map (·.size)=some 1:=by kernel_rfl
theorem bG:(Tryz.prog.info? 212).map (·.size)=some 2:=by kernel_rfl
def TB(p:Nat)(A:Option Addr)(n c:Nat)(mb:Option Nat)(k:Nat):Prop:=k=p∨mb=some k∨(Value.slice A n c).ownBlock=some k
theorem dK.mx{w:World}{b g:Nat}{ds:List (List UInt8)}{C:Nat→Nat→Prop}{t:TypeId}{cs:Array Value}(h:dK w b ds C)(a:ak w g t cs):b≠g:=by
 rintro rfl;obtain⟨es,clock,c,_⟩:=h;unfold ak at a;rw[c]at a;cases a
theorem dK.wY{w:World}{b base n:Nat}{ds:List (List UInt8)}{C:Nat→Nat→Prop}{e:TypeId}{size:Nat}{v:Value}{xs:List Value}(h:dK w b ds C)(g:w.ownsRow base e size v n xs):v.ownBlock≠some b:=by
 intro f;obtain⟨es,clock,c,_⟩:=h;obtain⟨i,a,d⟩:=cu g f;rw[c]at a;cases a;cases d
structure lx(w W:World)(p b g5:Nat)(v:Value)(ds:List (List UInt8))(n:Nat)(C:Nat→Nat→Prop)(lv idx:Nat)(T:Nat→Prop):Prop where
 fr:Fr T w W
 az:ak W p 180 #[v, .map (some b)]
 row:W.ownsRow 0 38 32 v n (ds.flatMap aq)
 map:dK W b ds C
 bR:ak W g5 212 #[.int .i64 lv, .int .i64 idx]
section
variable{w W W':World}{p b g5 n lv idx:Nat}{v:Value}{ds:List (List UInt8)}{C C':Nat→Nat→Prop}{T:Nat→Prop}
theorem lx.Gr(h:lx w W p b g5 v ds n C lv idx T):Fr T w W:=h.fr
theorem lx.later(h:lx w W p b g5 v ds n C lv idx T)(a:Fr af W W'):lx w W' p b g5 v ds n C lv idx T:=
 ⟨h.fr.trans a.bA,h.az.fr a (fun x=>x),aK h.row a (fun _ _ x=>x),h.map.fr a (fun x=>x),h.bR.fr a (fun x=>x)⟩
theorem lx.Bz{d a:Nat}(h:lx w W p b g5 v ds n C lv idx T)(f:Fr (fun k=>k=g5) W W')(g:ak W' g5 212 #[.int .i64 d, .int .i64 a])(l:w.heap.size≤g5):lx w W' p b g5 v ds n C d a T:=
  ⟨h.fr.ao f (fun i m e=>by have c:i=g5:=e;omega),h.az.fr f (fun e=>by have c:p=g5:=e;exact ak.o6 h.az h.bR (by decide) c),
   aK h.row f (fun k j e=>by have c:k=g5:=e;exact bh h.row h.bR (by decide) (by rw[←c];exact j)),
   h.map.fr f (fun e=>by have c:b=g5:=e;exact h.map.mx h.bR c),g⟩
theorem lx.BE(h:lx w W p b g5 v ds n C lv idx T)(c:Fr (fun k=>k=b) W W')(f:dK W' b ds C')(g:b<w.heap.size→T b):lx w W' p b g5 v ds n C' lv idx T:=
  ⟨h.fr.ao c (fun i d e=>by have a:i=b:=e;rw[a]at d⊢;exact g d),h.az.fr c (fun e=>by have a:p=b:=e;exact h.map.mx h.az a.symm),
   aK h.row c (fun k j e=>by have a:k=b:=e;exact h.map.wY h.row (by rw[←a];exact j)),f,h.bR.fr c (fun e=>by have a:g5=b:=e;exact h.map.mx h.bR a.symm)⟩
theorem lx.tree{A:Option Addr}{m c:Nat}(h:lx w W p b g5 (.slice A m c) ds m C lv idx T)(a:ds.length=m∧∀d∈ds,d.length=32):dQ W p A m c (some b) ds C:=
 ⟨h.az,h.row,a.1,a.2, .inl ⟨b,rfl,h.map⟩⟩
end
theorem dQ.congr{w:World}{p:Nat}{A:Option Addr}{n c:Nat}{mb:Option Nat}{ds:List (List UInt8)}{C C':Nat→Nat→Prop}(h:dQ w p A n c mb ds C)(a:∀l i,C l i↔C' l i):dQ w p A n c mb ds C':=
 ⟨h.az,h.row,h.len,h.each,by
  rcases h.parts with⟨b,f,j⟩|⟨d,e⟩;·exact .inl ⟨b,f,j.congr a⟩
  ·exact .inr ⟨d,fun l i g=>e l i ((a l i).2 g)⟩⟩
def lG(w:World)(p:Nat)(A:Option Addr)(n c:Nat)(mb:Option Nat)(ds:List (List UInt8))(d:List UInt8)(e:Ending)(w':World):Prop:=
 e= .returned (.int .i64 0)∧∃b f a,dQ w' p b (n+1) f a (ds++[d]) (aZ (n+1))∧Fr (TB p A n c mb) w w'∧∀k,TB p b (n+1) f a k→TB p A n c mb k∨w.heap.size≤k
end Go.Proofs.YtphjagkehiklkaaGreatDoor.Lt
namespace Go.Proofs.YtphjagkehiklkaaGreatDoor
open Go.RowKit Go.Shelf
def bM(l:List UInt8):List UInt8:=Lt.qA (1::l)
def mr(E:List Ent):List UInt8:=Lt.qA (0::dL (ey E))
def cL(E:List Ent)(L:List ActV):List (List UInt8):=mr E::L.map (fun a=>bM (bY a))
theorem fG(l:List UInt8):(bM l).length=32:=Lt.lC _
theorem oZ(E:List Ent):(mr E).length=32:=Lt.lC _
theorem je(E:List Ent)(L:List ActV):(cL E L).length=L.length+1:=by simp[cL]
theorem Ad(E:List Ent)(L:List ActV)(a:ActV):cL E (L++[a])=cL E L++[bM (bY a)]:=by simp[cL]
theorem tk(E:List Ent)(L:List ActV)(n:Nat):(cL E L).take (n+1)=cL E (L.take n):=by simp[cL,List.map_take]
theorem mu(E:List Ent)(L:List ActV):∀d∈cL E L,d.length=32:=fun d b=>by
 rcases List.mem_cons.1 b with rfl|b;·exact oZ E
 ·obtain⟨a,_,rfl⟩:=List.mem_map.1 b;exact fG _
def HB(h:Nat)(va vk:Value)(g:Nat)(A:Option Addr)(n c:Nat)(mb:Option Nat)(k:Nat):Prop:=k=h∨va.ownBlock=some k∨vk.ownBlock=some k∨Lt.TB g A n c mb k
structure dj(w:World)(h b s g:Nat)(va vk:Value)(K:List Nat)(A:Option Addr)(c:Nat)(mb:Option Nat)(E:List Ent)(La Lk Ll Lg:List ActV):Prop where
 az:ak w h 111 #[.pointer (some ⟨b,0,none⟩),va,vk, .pointer (some ⟨s,0,none⟩), .pointer (some ⟨g,0,none⟩)]
 base:ew w b E
 kL:jO w va La
 kept:w.ownsRow 0 25 1 vk K.length (K.map fun k=>Value.pointer (some ⟨k,0,none⟩))
 lB:K.length=Lk.length/16
 qy:∀i k,K[i]? =some k→ew w k (eU (Lk.take (16*(i+1))) E)
 last:ew w s (eU Ll E)
 log:Lt.dQ w g A (Lg.length+1) c mb (cL E Lg) (Lt.aZ (Lg.length+1))
abbrev Hp(w:World)(h b s g:Nat)(va vk:Value)(K:List Nat)(A:Option Addr)(c:Nat)(mb:Option Nat)(E:List Ent)(L:List ActV):Prop:=dj w h b s g va vk K A c mb E L L L L
def eZ(w:World)(h:Nat)(E:List Ent)(L:List ActV)(T:Nat→Prop):Prop:=
 ∃b s g va vk K A c mb,Hp w h b s g va vk K A c mb E L∧T=HB h va vk g A (L.length+1) c mb
theorem kZ{w:World}{b:Nat}{ds:List (List UInt8)}{C:Nat→Nat→Prop}(h:Lt.dK w b ds C)(t:TypeId):¬Ty w b t:=by
 obtain⟨es,clock,c,_⟩:=h;rintro⟨cs,a⟩;rw[c]at a;cases a
theorem dj.bV{w:World}{h b s g:Nat}{va vk:Value}{K:List Nat}{A:Option Addr}{c:Nat}{mb:Option Nat}{E:List Ent}{La Lk Ll Lg:List ActV}(d:dj w h b s g va vk K A c mb E La Lk Ll Lg):eG w (HB h va vk g A (Lg.length+1) c mb):=by
 obtain⟨cs,e,_⟩:=d.kL;intro k a;rcases a with rfl|a|a|rfl|a|a;·exact⟨fun x=>absurd (x.one d.az.ty) (by decide),fun x=>absurd (x.one d.az.ty) (by decide),fun x=>absurd (x.one d.az.ty) (by decide)⟩
 ·have t:=gW e a;exact⟨fun x=>absurd (x.one t) (by decide),fun x=>absurd (x.one t) (by decide),fun x=>absurd (x.one t) (by decide)⟩
 ·have t:=gW d.kept a;exact⟨fun x=>absurd (x.one t) (by decide),fun x=>absurd (x.one t) (by decide),fun x=>absurd (x.one t) (by decide)⟩
 ·have t:=d.log.az.ty;exact⟨fun x=>absurd (x.one t) (by decide),fun x=>absurd (x.one t) (by decide),fun x=>absurd (x.one t) (by decide)⟩
 ·rcases d.log.parts with⟨f,rfl,hm⟩|⟨rfl,_⟩;·cases a;exact⟨kZ hm _,kZ hm _,kZ hm _⟩
  ·cases a
 ·have t:=gW d.log.row a;exact⟨fun x=>absurd (x.one t) (by decide),fun x=>absurd (x.one t) (by decide),fun x=>absurd (x.one t) (by decide)⟩
theorem dj.apart{w:World}{h b s g:Nat}{va vk:Value}{K:List Nat}{A:Option Addr}{c:Nat}{mb:Option Nat}{E:List Ent}{La Lk Ll Lg:List ActV}(a:dj w h b s g va vk K A c mb E La Lk Ll Lg):
  (va.ownBlock≠some h∧vk.ownBlock≠some h∧¬Lt.TB g A (Lg.length+1) c mb h)∧(∀k,va.ownBlock=some k→vk.ownBlock≠some k∧¬Lt.TB g A (Lg.length+1) c mb k)∧∀k,vk.ownBlock=some k→¬Lt.TB g A (Lg.length+1) c mb k:=by
 obtain⟨cs,i,_⟩:=a.kL;have l:∀k t,Ty w k t→t≠180→t≠38→¬Lt.TB g A (Lg.length+1) c mb k:=fun k t j m n d=>by
  rcases d with rfl|d|d;·exact m (j.one a.log.az.ty)
  ·rcases a.log.parts with⟨o,rfl,hm⟩|⟨rfl,_⟩;·cases d;exact kZ hm _ j
   ·cases d
  ·exact n (j.one (gW a.log.row d))
 refine⟨⟨bh i a.az (by decide),bh a.kept a.az (by decide),l _ _ a.az.ty (by decide) (by decide)⟩,fun k e=>⟨fun f=>?_,l _ _ (gW i e) (by decide) (by decide)⟩,fun k e=>l _ _ (gW a.kept e) (by decide) (by decide)⟩;exact absurd ((gW i e).one (gW a.kept f)) (by decide)
theorem jh{w w':World}{T:Nat→Prop}{p:Nat}{A:Option Addr}{n c:Nat}{mb:Option Nat}{ds:List (List UInt8)}{C:Nat→Nat→Prop}(h:Lt.dQ w p A n c mb ds C)(d:Fr T w w')(a:∀k,Lt.TB p A n c mb k→¬T k):Lt.dQ w' p A n c mb ds C:=
 ⟨h.az.fr d (a p (.inl rfl)),aK h.row d (fun k g=>a k (.inr (.inr g))),h.len,h.each,by
  rcases h.parts with⟨b,e,i⟩|f;·exact .inl ⟨b,e,i.fr d (a b (.inr (.inl e)))⟩
  ·exact .inr f⟩
theorem dj.jv{w w':World}{T:Nat→Prop}{h b s g:Nat}{va vk:Value}{K:List Nat}{A:Option Addr}{c:Nat}{mb:Option Nat}{E:List Ent}{La Lk Ll Lg:List ActV}(a:dj w h b s g va vk K A c mb E La Lk Ll Lg)(d:Fr T w w')(hF:eG w T)(f:∀k,HB h va vk g A (Lg.length+1) c mb k→¬T k):dj w' h b s g va vk K A c mb E La Lk Ll Lg:=
  ⟨a.az.fr d (f h (.inl rfl)),a.base.bV d hF,a.kL.bV d hF (fun k e=>f k (.inr (.inl e))),aK a.kept d (fun k e=>f k (.inr (.inr (.inl e)))),a.lB,fun i k e=>(a.qy i k e).bV d hF,a.last.bV d hF,
   jh a.log d (fun k e=>f k (.inr (.inr (.inr e))))⟩
theorem dj.al{w w':World}{h b s g:Nat}{va vk:Value}{K:List Nat}{A:Option Addr}{c:Nat}{mb:Option Nat}{E:List Ent}{La Lk Ll Lg:List ActV}(d:dj w h b s g va vk K A c mb E La Lk Ll Lg)(a:Fr af w w'):dj w' h b s g va vk K A c mb E La Lk Ll Lg:=
 d.jv a (eG.nothing w) (fun _ _ x=>x)
theorem eZ.al{w w':World}{h:Nat}{E:List Ent}{L:List ActV}{T:Nat→Prop}(d:eZ w h E L T)(a:Fr af w w'):eZ w' h E L T:=by
 obtain⟨b,s,g,va,vk,K,A,c,mb,f,e⟩:=d;exact⟨b,s,g,va,vk,K,A,c,mb,f.al a,e⟩
theorem eZ.jv{w w':World}{h:Nat}{E:List Ent}{L:List ActV}{T T':Nat→Prop}(e:eZ w h E L T)(d:Fr T' w w')(hF:eG w T')(a:∀k,T k→¬T' k):eZ w' h E L T:=by
 obtain⟨b,s,g,va,vk,K,A,c,mb,f,rfl⟩:=e;exact⟨b,s,g,va,vk,K,A,c,mb,f.jv d hF a,rfl⟩
theorem eZ.bV{w:World}{h:Nat}{E:List Ent}{L:List ActV}{T:Nat→Prop}(a:eZ w h E L T):eG w T:=by
 obtain⟨b,s,g,va,vk,K,A,c,mb,d,rfl⟩:=a;exact d.bV
theorem ld{w:World}{base n:Nat}{e:TypeId}{size:Nat}{v:Value}{xs:List Value}(h:w.ownsRow base e size v n xs){k:Nat}(b:v.ownBlock=some k):k<w.heap.size:=by
 obtain⟨cs,a⟩:=gW h b;exact(Array.getElem?_eq_some_iff.1 a).1
theorem eZ.lt{w:World}{h:Nat}{E:List Ent}{L:List ActV}{T:Nat→Prop}(e:eZ w h E L T):∀k,T k→k<w.heap.size:=by
 obtain⟨b,s,g,va,vk,K,A,c,mb,d,rfl⟩:=e;obtain⟨cs,f,_⟩:=d.kL;intro k a;rcases a with rfl|a|a|rfl|a|a;·exact d.az.lt
 ·exact ld f a
 ·exact ld d.kept a
 ·exact d.log.az.lt
 ·rcases d.log.parts with⟨i,rfl,hm⟩|⟨rfl,_⟩;·cases a;exact hm.lt
  ·cases a
 ·exact ld d.log.row a
theorem lQ(w:World)(h b:Nat)(a:w.cell? ⟨h,0,none⟩=some (.pointer (some ⟨b,0,none⟩))):
  Calls Tryz.prog 55 #[.pointer (some ⟨h,0,none⟩)] w (bj w (.bool false)):=by
 go_enter Tryz.func55,Tryz.ntmps55;go_wp2;go_ret;exact⟨rfl,rfl⟩
theorem qN(a b:ByteArray):aC (a++b)=aC a++aC b:=by simp[aC]
theorem tf(s:ByteArray)(w:World)(j:bp w)(y:s.size<4294960000):Calls Tryz.prog 59 #[.string s] w (aH w (aL (bM (aC s)))):=by
 have CL:Hid (∀w',Fr af w w'→Calls Tryz.prog 76 #[.string ({data:=#[1]}++s)] w' (aH w' (aL (bM (aC s))))):=fun w' f=>by
  have e:aC ({data:=#[1]}++s)=1::aC s:=qN _ _;have h:=Lt.qj ({data:=#[1]}++s) w' (j.al f) (by have:=aG ({data:=#[1]}++s);rw[e,List.length_cons,aG]at this;omega);have t:dM ({data:=#[1]}++s)=1::aC s:=e;rw[t]at h;exact h
 have a:=Lib.hid (Lt.cy.of (fG (aC s)));unfold aL at*;generalize((bM (aC s)).map aU).toArray=d at*;clear j;go_enter Tryz.func59,Tryz.ntmps59;go_wp2_with(refine ai rfl 38 rfl aQ fW ay rfl ?_);intro w1 n1;have b:=Lib.hid n1.fr;have c:=Lib.hid n1.az;clear n1;generalize k:w.heap.size=g at*;have o:=Lib.hid k;clear k;go_wp2_with fail;refine(CL.out _ b.out).mono ?_;rintro e w2⟨rfl,f2⟩;have n:=Lib.hid (b.out.trans f2);have m:=Lib.hid (c.out.fr f2 (fun x=>x));clear f2 CL b c;go_wp2_with(refine ah rfl 38 (.tmp 2) _ rfl g d rfl rfl _ _ m.out a.out.info a.out.zero a.out.one ?_);intro l b5 f5;have q:=Lib.hid b5;have r:Hid (Fr af w l):=n.out.ao f5 (fun i v e=>by have u:i=g:=e;have:=o.out;omega);clear b5 f5;go_wp2;exact bodyPost_ret (results_cell_row (fn:=Tryz.f59) (p:=2) (ty:=38) Tryz.results59 _ l _ 38 d (0,0) _ rfl q.out Tryz.underlying38 rfl a.out.info) rfl ⟨rfl,r.out⟩
end Go.Proofs.YtphjagkehiklkaaGreatDoor
namespace Go.Proofs.YtphjagkehiklkaaGreatDoor.Lt
open Go.RowKit
def mX(w w':World)(p:Nat)(ds:List (List UInt8)):Prop:=∃A c mb,dQ w' p A ds.length c mb ds (aZ ds.length)∧Fr af w w'∧∀k,TB p A ds.length c mb k→w.heap.size≤k
theorem mX.al{w w' a:World}{p:Nat}{ds:List (List UInt8)}(h:mX w w' p ds)(b:Fr af w' a):mX w a p ds:=by
 obtain⟨A,c,mb,d,e,f⟩:=h;exact⟨A,c,mb,d.al b,e.trans b,f⟩
theorem mX.append{w w' a:World}{p:Nat}{ds:List (List UInt8)}{d:List UInt8}{A:Option Addr}{c:Nat}{mb:Option Nat}(g:∀k,TB p A ds.length c mb k→w.heap.size≤k)(f:Fr af w w'){e:Ending}(n:lG w' p A ds.length c mb ds d e a):mX w a p (ds++[d]):=by
 obtain⟨_,l,m,b,o,q,r⟩:=n;refine⟨l,m,b,by rw[List.length_append,List.length_singleton];exact o,f.ao q (fun i s e=>by have:=g i e;omega),fun k j=>?_⟩;rw[List.length_append,List.length_singleton]at j;rcases r k j with h|h;·exact g k h
 ·exact Nat.le_trans f.size h
end Go.Proofs.YtphjagkehiklkaaGreatDoor.Lt
namespace Go.Proofs.YtphjagkehiklkaaGreatDoor.Lt
open Go.RowKit
def cg(ds:List (List UInt8))(index:Nat):List (List UInt8):=
 if a:1≤aI ds.length∧aI ds.length<ds.length then
  (if index<aI ds.length then cg (ds.take (aI ds.length)) index++[cj (ds.drop (aI ds.length))]else cg (ds.drop (aI ds.length)) (index-aI ds.length)++[cj (ds.take (aI ds.length))])
 else[]
termination_by ds.length
decreasing_by
 ·simp only[List.length_take];omega
 ·simp only[List.length_drop];omega
theorem kx(ds:List (List UInt8))(index:Nat)(h:ds.length≤1):cg ds index=[]:=by
 rw[cg,dif_neg (by omega)]
theorem lg(ds:List (List UInt8))(index n:Nat)(b:ds.length=n)(d:2≤n)(e:n≤1099511627776):cg ds index=if index<aI n then cg (ds.take (aI n)) index++[cj (ds.drop (aI n))]else cg (ds.drop (aI n)) (index-aI n)++[cj (ds.take (aI n))]:=by
 obtain⟨a,_,c⟩:=cS n d e;rw[cg,dif_pos (by rw[b];exact⟨c,a⟩),b]
theorem Aa(n k:Nat)(c:2≤n)(d:n≤1099511627776)(h:n≤2^(k+1)):aI n≤2^k:=by
 obtain⟨a,_,_⟩:=cS n c d;have e:aI n=2^(Lib.bitLen (n-1)-1):=rfl;rw[e]at a⊢;refine Nat.pow_le_pow_right (by omega) ?_;rcases Nat.lt_or_ge k (Lib.bitLen (n-1)-1)with b|b;·have:2^(k+1)≤2^(Lib.bitLen (n-1)-1):=Nat.pow_le_pow_right (by omega) b;omega
 ·exact b
theorem iF:∀(k:Nat)(ds:List (List UInt8))(i:Nat),ds.length≤2^k→ds.length≤1048576→(cg ds i).length≤k
 |0,ds,i,h,_=>by rw[kx ds i (by simpa using h)];simp
 |k+1,ds,i,h,e=>by
  by_cases d:2≤ds.length
  ·obtain⟨a,b,c⟩:=cS ds.length d (by omega);have f:=Aa ds.length k d (by omega) h;rw[lg ds i _ rfl d (by omega)];split;·rw[List.length_append,List.length_singleton];have:=iF k (ds.take (aI ds.length)) i (by rw[List.length_take];omega) (by rw[List.length_take];omega);omega
   ·rw[List.length_append,List.length_singleton];have:=iF k (ds.drop (aI ds.length)) (i-aI ds.length) (by rw[List.length_drop];omega) (by rw[List.length_drop];omega);omega
  ·rw[kx ds i (by omega)];simp
theorem rG(n:Nat):∀(ds:List (List UInt8))(i:Nat),ds.length=n→n≤1048576→(∀d∈ds,d.length=32)→∀d∈cg ds i,d.length=32:=by
 induction n using Nat.strongRecOn with
 |_ n k=>
  intro ds i g m he d f;by_cases j:2≤n
  ·obtain⟨a,b,c⟩:=cS n j (by omega);rw[lg ds i n g j (by omega)]at f;have l:(cj (ds.drop (aI n))).length=32:=eY (n-aI n) _ (by rw[List.length_drop,g]) (by omega) (by omega) (fun x e=>he x (List.mem_of_mem_drop e));have j:(cj (ds.take (aI n))).length=32:=eY (aI n) _ (by rw[List.length_take,g];omega) (by omega) (by omega) (fun x e=>he x (List.mem_of_mem_take e));split at f
   ·rcases List.mem_append.1 f with h|h;·exact k (aI n) a _ i (by rw[List.length_take,g];omega) (by omega) (fun x e=>he x (List.mem_of_mem_take e)) d h
    ·rw[List.mem_singleton.1 h];exact l
   ·rcases List.mem_append.1 f with h|h;·exact k (n-aI n) (by omega) _ _ (by rw[List.length_drop,g]) (by omega) (fun x e=>he x (List.mem_of_mem_drop e)) d h
    ·rw[List.mem_singleton.1 h];exact j
  ·rw[kx ds i (by omega)]at f;cases f
theorem tR(leaf:List UInt8)(pre:List Bool)(P X:List (List UInt8))(h:P.length=pre.length):cW leaf pre (P++X)=cW leaf pre P:=by
 unfold cW;have:pre.zip (P++X)=pre.zip P:=by
  have a:=List.zip_append (l₁:=pre) (l₂:=P) (r₁:=[]) (r₂:=X) h.symm;simpa using a
 rw[this]
theorem DB(n:Nat):∀(ds:List (List UInt8))(i:Nat),ds.length=n→i<n→n≤1048576→(cg ds i).length=(bw i n).length∧(cW (ds.getD i []) (bw i n) (cg ds i)).1=cj ds:=by
 induction n using Nat.strongRecOn with
 |_ n l=>
  intro ds i j m o;by_cases h:2≤n
  ·obtain⟨a,b,c⟩:=cS n h (by omega);rw[lg ds i n j h (by omega),lj ds n j h (by omega)];by_cases f:i<aI n
   ·obtain⟨e,g⟩:=l (aI n) a (ds.take (aI n)) i (by rw[List.length_take,j];omega) f (by omega);have k:(ds.take (aI n)).getD i []=ds.getD i []:=by rw[List.getD_eq_getElem?_getD,List.getD_eq_getElem?_getD,List.getElem?_take_of_lt f]
    rw[k]at g;rw[if_pos f,qd h (by omega) f];refine⟨by rw[List.length_append,List.length_append,e];rfl,?_⟩;rw[kD _ _ _ true (cj (ds.drop (aI n))) (by rw[←e,List.getElem?_append_right (Nat.le_refl _),Nat.sub_self];rfl),tR _ _ _ _ e];simp only[mG,if_true,g]
   ·obtain⟨e,g⟩:=l (n-aI n) (by omega) (ds.drop (aI n)) (i-aI n) (by rw[List.length_drop,j]) (by omega) (by omega);have k:(ds.drop (aI n)).getD (i-aI n) []=ds.getD i []:=by rw[List.getD_eq_getElem?_getD,List.getD_eq_getElem?_getD,List.getElem?_drop,show aI n+(i-aI n)=i by omega]
    rw[k]at g;rw[if_neg f,oJ h (by omega) f];refine⟨by rw[List.length_append,List.length_append,e];rfl,?_⟩;rw[kD _ _ _ false (cj (ds.take (aI n))) (by rw[←e,List.getElem?_append_right (Nat.le_refl _),Nat.sub_self];rfl),tR _ _ _ _ e];simp only[mG,Bool.false_eq_true,if_false,g]
  ·obtain rfl:n=1:=by omega
   obtain rfl:i=0:=by omega
   rw[kx ds 0 (by omega),rL];refine⟨rfl,?_⟩;match ds,j with
   |[d],_=>rw[pf];rfl
theorem Au(n:Nat)(ds:List (List UInt8))(i:Nat)(d:ds.length=n)(c:i<n)(e:n≤1048576):(bL (ds.getD i []) i n (cg ds i)).1=cj ds∧(bL (ds.getD i []) i n (cg ds i)).2.2=0:=by
 obtain⟨a,b⟩:=DB n ds i d c e;unfold bL;rw[if_pos (by omega),Int.toNat_natCast,Int.toNat_natCast,if_pos a];exact⟨b,rfl⟩
def vO(m:Nat):Prop:=∀(w:World)(p:Nat)(A:Option Addr)(n c:Nat)(mb:Option Nat)(ds:List (List UInt8))(C:Nat→Nat→Prop)(f k i:Nat),dQ w p A n c mb ds C→Full C n→n≤1048576→bp w→i<m→f+m≤n→m≤2^k→2^k∣f→
 Calls Tryz.prog 109 #[.pointer (some ⟨p,0,none⟩), .int .i64 i, .int .i64 f, .int .i64 m] w (vS w (cg ((ds.drop f).take m) i).length (cg ((ds.drop f).take m) i))
theorem wM:vO 1:=by
 intro w p A n c mb ds C f k i _ _ _ _ _ _ _ _;rw[kx _ _ (by rw[List.length_take];omega)];go_enter Tryz.func109,Tryz.ntmps109;go_wp2;go_ret;exact⟨_,rfl,bF.start ⟨rfl, .inl ⟨rfl,rfl⟩⟩⟩
theorem uj(m:Nat)(Y:∀j,j<m→vO j)(R:2≤m):vO m:=by
 intro w p A n c mb ds C f k i t hF X N ao S U I;obtain⟨i0,B,D,o,V⟩:=info_parts sb;obtain⟨a,b,Q⟩:=cS m R (by omega);obtain⟨lv,y⟩:∃lv,aI m=2^lv:=⟨_,rfl⟩;have ah:lv≤k:=nH (by omega);have M:2^lv∣f:=ni ah I;have hlen:((ds.drop f).take m).length=m:=by rw[List.length_take,List.length_drop,t.len];omega
 have aa:=Lib.hid (fun w=>lD m w R (by omega));obtain⟨P,W⟩:∃P,P=aI m:=⟨_,rfl⟩;rw[←W]at aa a b Q y;have e:=lg _ i m hlen R (by omega);rw[←W,oK _ (by omega),List.drop_take,List.drop_drop]at e;obtain⟨f2,x⟩:∃f2:Nat,f2=f+P:=⟨_,rfl⟩;obtain⟨m2,K⟩:∃m2:Nat,m2=m-P:=⟨_,rfl⟩;rw[←x,←K]at e;have s1:(f:Int)+(P:Int)=(f2:Int):=by omega
 have s2:(m:Int)-(P:Int)=(m2:Int):=by omega
 have f4:f≤1048576:=by omega
 have f24:f2≤1048576:=by omega
 have m4:m≤1048576:=by omega
 have m24:m2≤1048576:=by omega
 have an:P≤1048576:=by omega
 have i4:i≤1048576:=by omega
 have m1:((m:Int)==1)=false:=by rw[beq_eq_false_iff_ne];omega
 have g1:Hid (¬1*i0.size>2^24):=by simp only[Hid];rw[o];omega
 have g2:Hid (¬1*i0.size=0):=by simp only[Hid];rw[o];omega
 have E:∀(l:List (List UInt8))(j:Nat),l.length≤1048576→(cg l j).length≤20:=fun l j h=>iF 20 l j h h;by_cases J:i<P
 ·rw[if_pos J]at e;rw[e];have Z:Hid (∀w',Fr af w w'→Calls Tryz.prog 109 #[.pointer (some ⟨p,0,none⟩), .int .i64 i, .int .i64 f, .int .i64 P] w' (vS w' (cg ((ds.drop f).take P) i).length (cg ((ds.drop f).take P) i))):=
   fun w' v=>Y P a w' p A n c mb ds C f lv i (t.al v) hF X (N.al v) J (by omega) (by omega) M;have F:Hid (∀w',Fr af w w'→Calls Tryz.prog 110 #[.pointer (some ⟨p,0,none⟩), .int .i64 f2, .int .i64 m2] w' (aH w' (aL (cj ((ds.drop f2).take m2))))):=
   fun w' v=>tN m2 (by omega) w' p A n c mb ds C f2 lv (t.al v) hF X (N.al v) (by omega) (by omega) (by omega) (by rw[x,y];exact(Nat.dvd_add_right M).2 (Nat.dvd_refl _));have L:(cj ((ds.drop f2).take m2)).length=32:=eY m2 _ (by rw[List.length_take,List.length_drop,t.len];omega) (by omega) (by omega) (fun d ag=>t.each d (List.mem_of_mem_drop (List.mem_of_mem_take ag)));have am:=E ((ds.drop f).take P) i (by rw[List.length_take];omega);have ak:(i:Int)<(P:Int):=by omega
  generalize cg ((ds.drop f).take P) i=PL at*;generalize cj ((ds.drop f2).take m2)=g at*;have ab:Hid (Instr.fill (fun i=>some (i*32,32)) ((Array.range (1*32)).map (aQ.cells[· %aQ.cells.size]!)) [(0, .agg (aq g).toArray)]=some (aq g).toArray):=qt _ _ (by simp[aq,L]) (by simp);have ac:Hid ((aq g).toArray.size=1*32):=by simp[Hid,aq,L]
  have ad:Hid (∀u∈(aq g).toArray.toList,u.oneCell'=true):=by
   intro u hu;exact iE _ u (by simpa[aq]using hu)
  have q:Hid ((PL++[g]).flatMap aq=PL.flatMap aq++aq g∧(PL++[g]).length=PL.length+1):=⟨by rw[List.flatMap_append,List.flatMap_singleton],by simp⟩;unfold aL at F;simp only[show∀l:List UInt8,l.map aU=aq l from fun _=>rfl]at F;generalize aq g=z at*;have g3:Hid (Instr.fill (fun i=>some (i*i0.size,i0.size)) ((Array.range (1*i0.size)).map (aQ.cells[· %aQ.cells.size]!)) [(0, .agg z.toArray)]=some z.toArray):=by simp only[Hid];rw[o];exact ab.out
  clear t hF N W x K S U I M ah hlen Y R a b Q y e L E;go_enter Tryz.func109,Tryz.ntmps109;go_wp2_with fail;refine(aa.out _).mono ?_;rintro e w'⟨rfl,rfl⟩;go_wp2_with fail;refine(Z.out _ (Fr.refl _ _)).mono ?_;rintro e w1⟨v1,rfl,H⟩;have G:=Lib.hid H;obtain⟨aj,n1,Q,rfl,H1,_⟩:=aP H.own;clear H;go_wp2_with fail;refine(F.out _ G.out.al).mono ?_;rintro e w2⟨rfl,r⟩;have O:=Lib.hid (G.out.behind r);clear r G;go_wp2_with(refine wpList_buildSlice rfl 31 38 1 #[(0, .tmp 29)] rfl z.toArray i0 aQ Tryz.underlying31 B D g1.out g2.out (by simp only[List.map_toArray,List.map_cons,List.map_nil];exact g3.out) (aR.go ?hold));unfold aR;refine cX _ rfl _ _ 31 rfl 38 i0 aQ 32 32 Tryz.underlying31 B D o V rfl (by omega) _ _ _ rfl O.out.own 1 z.toArray _ rfl rfl ac.out ad.out (by omega) (by omega) ?_;intro v3 ai s;have ae:Hid (bF 38 32 w (.slice none 0 0) ai v3 (PL++[g]).length ((PL++[g]).flatMap aq)):=by
   have h:=O.out.trans s;simp only[Hid];rw[q.out.1,q.out.2];exact h
  clear s;go_wp2;go_ret;exact⟨_,rfl,ae.out⟩
 ·rw[if_neg J]at e;rw[e];obtain⟨i2,T⟩:∃i2:Nat,i2=i-P:=⟨_,rfl⟩;rw[←T];have ar:(i:Int)-(P:Int)=(i2:Int):=by omega
  have i24:i2≤1048576:=by omega
  have Z:Hid (∀w',Fr af w w'→Calls Tryz.prog 109 #[.pointer (some ⟨p,0,none⟩), .int .i64 i2, .int .i64 f2, .int .i64 m2] w' (vS w' (cg ((ds.drop f2).take m2) i2).length (cg ((ds.drop f2).take m2) i2))):=
   fun w' v=>Y m2 (by omega) w' p A n c mb ds C f2 lv i2 (t.al v) hF X (N.al v) (by omega) (by omega) (by omega) (by rw[x,y];exact(Nat.dvd_add_right M).2 (Nat.dvd_refl _));have F:Hid (∀w',Fr af w w'→Calls Tryz.prog 110 #[.pointer (some ⟨p,0,none⟩), .int .i64 f, .int .i64 P] w' (aH w' (aL (cj ((ds.drop f).take P))))):=
   fun w' v=>tN P (by omega) w' p A n c mb ds C f lv (t.al v) hF X (N.al v) (by omega) (by omega) (by omega) M;have L:(cj ((ds.drop f).take P)).length=32:=eY P _ (by rw[List.length_take,List.length_drop,t.len];omega) (by omega) (by omega) (fun d ag=>t.each d (List.mem_of_mem_drop (List.mem_of_mem_take ag)));have am:=E ((ds.drop f2).take m2) i2 (by rw[List.length_take];omega);have ak:decide ((i:Int)<(P:Int))=false:=decide_eq_false (by omega);have ap:¬i<P:=by omega
  generalize cg ((ds.drop f2).take m2) i2=PL at*;generalize cj ((ds.drop f).take P)=g at*;have ab:Hid (Instr.fill (fun i=>some (i*32,32)) ((Array.range (1*32)).map (aQ.cells[· %aQ.cells.size]!)) [(0, .agg (aq g).toArray)]=some (aq g).toArray):=qt _ _ (by simp[aq,L]) (by simp);have ac:Hid ((aq g).toArray.size=1*32):=by simp[Hid,aq,L]
  have ad:Hid (∀u∈(aq g).toArray.toList,u.oneCell'=true):=by
   intro u hu;exact iE _ u (by simpa[aq]using hu)
  have q:Hid ((PL++[g]).flatMap aq=PL.flatMap aq++aq g∧(PL++[g]).length=PL.length+1):=⟨by rw[List.flatMap_append,List.flatMap_singleton],by simp⟩;unfold aL at F;simp only[show∀l:List UInt8,l.map aU=aq l from fun _=>rfl]at F;generalize aq g=z at*;have g3:Hid (Instr.fill (fun i=>some (i*i0.size,i0.size)) ((Array.range (1*i0.size)).map (aQ.cells[· %aQ.cells.size]!)) [(0, .agg z.toArray)]=some z.toArray):=by simp only[Hid];rw[o];exact ab.out
  clear t hF N W x K T S U I M ah hlen Y R a b Q y e L E;go_enter Tryz.func109,Tryz.ntmps109;go_wp2_with fail;refine(aa.out _).mono ?_;rintro e w'⟨rfl,rfl⟩;go_wp2_with fail;refine(Z.out _ (Fr.refl _ _)).mono ?_;rintro e w1⟨v1,rfl,H⟩;have G:=Lib.hid H;obtain⟨aj,n1,Q,rfl,H1,_⟩:=aP H.own;clear H;go_wp2_with fail;refine(F.out _ G.out.al).mono ?_;rintro e w2⟨rfl,r⟩;have O:=Lib.hid (G.out.behind r);clear r G;go_wp2_with(refine wpList_buildSlice rfl 31 38 1 #[(0, .tmp 46)] rfl z.toArray i0 aQ Tryz.underlying31 B D g1.out g2.out (by simp only[List.map_toArray,List.map_cons,List.map_nil];exact g3.out) (aR.go ?zA));unfold aR;refine cX _ rfl _ _ 31 rfl 38 i0 aQ 32 32 Tryz.underlying31 B D o V rfl (by omega) _ _ _ rfl O.out.own 1 z.toArray _ rfl rfl ac.out ad.out (by omega) (by omega) ?_;intro v3 ai s;have ae:Hid (bF 38 32 w (.slice none 0 0) ai v3 (PL++[g]).length ((PL++[g]).flatMap aq)):=by
   have h:=O.out.trans s;simp only[Hid];rw[q.out.1,q.out.2];exact h
  clear s;go_wp2;go_ret;exact⟨_,rfl,ae.out⟩
theorem yb(m:Nat)(hm:1≤m):vO m:=by
 induction m using Nat.strongRecOn with
 |_ m e=>
  by_cases b:2≤m
  ·refine uj m (fun j d=>?_) b;rcases Nat.eq_zero_or_pos j with rfl|a;·intro w p A n c mb ds C f k i _ _ _ _ h;omega
   ·exact e j d a
  ·obtain rfl:m=1:=by omega
   exact wM
end Go.Proofs.YtphjagkehiklkaaGreatDoor.Lt
namespace Go.Proofs.YtphjagkehiklkaaGreatDoor.Lt
open Go.RowKit
def pS(ds:List (List UInt8))(i k:Int):List (List UInt8)×Int:=if 1≤k∧k≤ds.length∧0≤i∧i<k then(cg (ds.take k.toNat) i.toNat,0)else([],2)
def ql(w:World)(V:List (List UInt8)×Int)(e:Ending)(w':World):Prop:=∃v,e= .returned (.tuple #[v, .int .i64 V.2])∧bF 38 32 w (.slice none 0 0) w' v V.1.length (V.1.flatMap aq)
theorem ql.none{w w':World}{k:Int}(h:Fr af w w'):ql w ([],k) (.returned (.tuple #[.slice none 0 0, .int .i64 k])) w':=⟨_,rfl,⟨⟨rfl, .inl ⟨rfl,rfl⟩⟩,h.bA,fun _ a=> .inl a⟩⟩
theorem vP(E w:World)(p:Nat)(ds:List (List UInt8))(i k:Int)(B:mX E w p ds)(C:ds.length≤1048576)(o:bp w)(G:-9223372036854775808≤i∧i≤9223372036854775807)(H:-9223372036854775808≤k∧k≤9223372036854775807):
  Calls Tryz.prog 56 #[.pointer (some ⟨p,0,none⟩), .int .i64 i, .int .i64 k] w (ql w (pS ds i k)):=by
 obtain⟨A,c,mb,l,q,r⟩:=B;obtain⟨n,f⟩:∃n,n=ds.length:=⟨_,rfl⟩;have j:Hid (∀w',Calls Tryz.prog 89 #[.int .i64 k, .int .i64 1, .int .i64 n] w' (bj w' (.bool (decide (1≤k∧k≤n))))):=fun w'=>eo k 1 n w';have F:w.cell? ⟨p,0,none⟩=some (.slice A n c):=by rw[f];exact l.az.cell 0
 by_cases a:1≤k∧k≤(n:Int)
 ·obtain⟨kn,rfl⟩:∃kn:Nat,k=kn:=⟨k.toNat,by omega⟩;obtain⟨g,x⟩:∃g:Nat,(kn:Int)-1=(g:Int):=⟨kn-1,by omega⟩;have m:Hid (∀w',Calls Tryz.prog 89 #[.int .i64 i, .int .i64 0, .int .i64 g] w' (bj w' (.bool (decide (0≤i∧i≤g))))):=fun w'=>eo i 0 g w';rw[decide_eq_true a]at j;by_cases d:0≤i∧i≤(g:Int)
  ·obtain⟨b,rfl⟩:∃b:Nat,i=b:=⟨i.toNat,by omega⟩;rw[decide_eq_true d]at m;have e:pS ds b kn=(cg (ds.take kn) b,0):=by
    unfold pS;rw[if_pos (by omega),Int.toNat_natCast,Int.toNat_natCast]
   rw[e];have y:Hid (∀w',Fr af w w'→Calls Tryz.prog 109 #[.pointer (some ⟨p,0,none⟩), .int .i64 b, .int .i64 0, .int .i64 kn] w' (vS w' (cg (ds.take kn) b).length (cg (ds.take kn) b))):=fun w' u=>by
    have h:=yb kn (by omega) w' p A ds.length c mb ds (aZ ds.length) 0 20 b (l.al u) (rE _) C (o.al u) (by omega) (by omega) (by omega) (Nat.dvd_zero _);rw[List.drop_zero]at h;exact h
   generalize cg (ds.take kn) b=PL at*;have s:kn≤1048576:=by omega
   have D:b≤1048576:=by omega
   clear e l q r o a d f;go_enter Tryz.func56,Tryz.ntmps56;go_wp2_with fail;refine(j.out _).mono ?_;rintro e w'⟨rfl,rfl⟩;go_wp2_with fail;refine(m.out _).mono ?_;rintro e w'⟨rfl,rfl⟩;go_wp2_with fail;refine(y.out _ (Fr.refl _ _)).mono ?_;rintro e w1⟨v,rfl,t⟩;have z:=Lib.hid t;clear t;go_wp2;go_ret2;exact⟨v,rfl,z.out⟩
  ·rw[decide_eq_false d]at m;have e:pS ds i kn=([],2):=by
    unfold pS;rw[if_neg (by omega)]
   rw[e];have s:kn≤1048576:=by omega
   clear e l q r o a d f;go_enter Tryz.func56,Tryz.ntmps56;go_wp2_with fail;refine(j.out _).mono ?_;rintro e w'⟨rfl,rfl⟩;go_wp2_with fail;refine(m.out _).mono ?_;rintro e w'⟨rfl,rfl⟩;go_wp2;go_ret2;exact ql.none (Fr.refl _ _)
 ·rw[decide_eq_false a]at j;have e:pS ds i k=([],2):=by
   unfold pS;rw[if_neg (by omega)]
  rw[e];clear e l q r o a f;go_enter Tryz.func56,Tryz.ntmps56;go_wp2_with fail;refine(j.out _).mono ?_;rintro e w'⟨rfl,rfl⟩;go_wp2;go_ret2;exact ql.none (Fr.refl _ _)
end Go.Proofs.YtphjagkehiklkaaGreatDoor.Lt
namespace Go.Proofs.YtphjagkehiklkaaGreatDoor.Lt
open Go.RowKit
theorem Er(T w:World)(p:Nat)(ds:List (List UInt8))(a:Nat)(N:mX T w p ds)(Q:ds.length≤1048576)(R:a≤ds.length)(H:bp w):
  Calls Tryz.prog 57 #[.pointer (some ⟨p,0,none⟩), .int .i64 a] w (aH w (.tuple #[aL (eX (ds.take a)), .int .i64 0])):=by
 obtain⟨A,c,mb,t,L,M⟩:=N;obtain⟨n,m⟩:∃n,n=ds.length:=⟨_,rfl⟩;have s:w.cell? ⟨p,0,none⟩=some (.slice A n c):=by rw[m];exact t.az.cell 0
 have n4:n≤1048576:=by omega
 have y:Hid (∀w',Calls Tryz.prog 89 #[.int .i64 a, .int .i64 0, .int .i64 n] w' (bj w' (.bool (decide (0≤(a:Int)∧(a:Int)≤n))))):=fun w'=>eo a 0 n w';rw[decide_eq_true (show 0≤(a:Int)∧(a:Int)≤n by omega)]at y;have I:(eX (ds.take a)).length=32:=jr a _ (by rw[List.length_take];omega) (by omega) (fun d O=>t.each d (List.mem_of_mem_take O));have z:Hid (a=0→∀w',Fr af w w'→Calls Tryz.prog 73 #[] w' (aH w' (aL (eX (ds.take a))))):=fun h w' u=>by
  rw[h,List.take_zero];exact zc w' (H.al u)
 have C:Hid (¬a=0→∀w',Fr af w w'→Calls Tryz.prog 110 #[.pointer (some ⟨p,0,none⟩), .int .i64 0, .int .i64 a] w' (aH w' (aL (eX (ds.take a))))):=fun h w' u=>by
  have k:=tN a (by omega) w' p A ds.length c mb ds (aZ ds.length) 0 20 (t.al u) (rE _) Q (H.al u) (by omega) (by omega) (by omega) (Nat.dvd_zero _);rw[List.drop_zero]at k;have e:eX (ds.take a)=cj (ds.take a):=by
   unfold eX;rw[if_neg (by intro j;have:=congrArg List.length j;rw[List.length_take,List.length_nil]at this;omega)]
  rw[e];exact k
 generalize eX (ds.take a)=rt at*;have g:Hid (cy (aq rt).toArray):=cy.of I;have a4:a≤1048576:=by omega
 unfold aL at*;simp only[show∀l:List UInt8,l.map aU=aq l from fun _=>rfl]at*;generalize aq rt=r at*;clear t L M m R I H;by_cases j:a=0
 ·have B:=Lib.hid (z.out j);have t0:((a:Int)==0)=true:=by rw[j];rfl
  subst j;clear z C;go_enter Tryz.func57,Tryz.ntmps57;go_wp2_with(refine ai rfl 38 rfl aQ fW ay rfl ?_);intro w1 b;have f:=Lib.hid b;have J:w1.cell? ⟨p,0,none⟩=some (.slice A n c):=b.fr.aj s (fun x=>x);clear b s;go_wp2_with fail;refine(y.out _).mono ?_;rintro e w'⟨rfl,rfl⟩;go_wp2_with fail;refine(B.out _ f.out.fr).mono ?_;rintro e w2⟨rfl,f2⟩;have E:=Lib.hid (f.out.fr.trans f2);have v:=Lib.hid (f.out.az.fr f2 (fun x=>x));clear f2 f;go_wp2_with(refine ah rfl 38 (.tmp 4) _ rfl w.heap.size r.toArray rfl rfl _ _ v.out g.out.info g.out.zero g.out.one ?_);intro o b5 f5;have F:=Lib.hid b5;have G:Hid (Fr af w o):=E.out.ao f5 (fun i P e=>by have K:i=w.heap.size:=e;omega);clear b5 f5;go_wp2;exact bodyPost_ret (db (fn:=Tryz.f57) (p:=4) (q:=5) (ty:=38) Tryz.results57 _ o _ 38 r.toArray (0,0) _ rfl F.out Tryz.underlying38 rfl g.out.info _ rfl) rfl ⟨rfl,G.out⟩
 ·have D:=Lib.hid (C.out j);have t0:((a:Int)==0)=false:=by rw[beq_eq_false_iff_ne];omega
  have S:¬a=0:=j;clear z C;go_enter Tryz.func57,Tryz.ntmps57;go_wp2_with(refine ai rfl 38 rfl aQ fW ay rfl ?_);intro w1 b;have f:=Lib.hid b;have J:w1.cell? ⟨p,0,none⟩=some (.slice A n c):=b.fr.aj s (fun x=>x);clear b s;go_wp2_with fail;refine(y.out _).mono ?_;rintro e w'⟨rfl,rfl⟩;go_wp2_with fail;refine(D.out _ f.out.fr).mono ?_;rintro e w2⟨rfl,f2⟩;have E:=Lib.hid (f.out.fr.trans f2);have v:=Lib.hid (f.out.az.fr f2 (fun x=>x));clear f2 f;go_wp2_with(refine ah rfl 38 (.tmp 4) _ rfl w.heap.size r.toArray rfl rfl _ _ v.out g.out.info g.out.zero g.out.one ?_);intro o b5 f5;have F:=Lib.hid b5;have G:Hid (Fr af w o):=E.out.ao f5 (fun i P e=>by have K:i=w.heap.size:=e;omega);clear b5 f5;go_wp2;exact bodyPost_ret (db (fn:=Tryz.f57) (p:=4) (q:=5) (ty:=38) Tryz.results57 _ o _ 38 r.toArray (0,0) _ rfl F.out Tryz.underlying38 rfl g.out.info _ rfl) rfl ⟨rfl,G.out⟩
end Go.Proofs.YtphjagkehiklkaaGreatDoor.Lt
namespace Go.Proofs.YtphjagkehiklkaaGreatDoor.Lt
open Go.RowKit
def zp(w:World)(PL:List (List UInt8))(v:Value)(w':World):Prop:=∃v1,v=v1∧bF 37 32 w (.slice none 0 0) w' v1 PL.length (PL.flatMap aq)
theorem zp.ag{w W:World}{PL:List (List UInt8)}:∀v w' a,Fr af W w'→Fr af w' a→zp w PL v w'→zp w PL v a:=fun _ _ _ _ c⟨v1,h,b⟩=>⟨v1,h,b.behind c⟩
end Go.Proofs.YtphjagkehiklkaaGreatDoor.Lt
namespace Go.Proofs.YtphjagkehiklkaaGreatDoor.Lt
open Go.RowKit Go.ChangeShapes Go.WideShapes Go.Deep
end Go.Proofs.YtphjagkehiklkaaGreatDoor.Lt
namespace Go.Proofs.YtphjagkehiklkaaGreatDoor
open Go.RowKit Go.Shelf
def Mod(w:World)(cs:List Value)(b:Nat)(E:List Ent)(L:List ActV):Prop:=∃(A:Option Addr)(n c:Nat),cs=[Value.pointer (some ⟨b,0,none⟩), .slice A n c]∧n=L.length∧n≤c∧ew w b E∧jO w (.slice A n c) L
theorem Mod.al{w w':World}{cs:List Value}{b:Nat}{E:List Ent}{L:List ActV}(h:Mod w cs b E L)(a:Fr af w w'):Mod w' cs b E L:=by
 obtain⟨A,n,c,d,e,f,g,i⟩:=h;exact⟨A,n,c,d,e,f,g.al a,i.al a⟩
end Go.Proofs.YtphjagkehiklkaaGreatDoor
