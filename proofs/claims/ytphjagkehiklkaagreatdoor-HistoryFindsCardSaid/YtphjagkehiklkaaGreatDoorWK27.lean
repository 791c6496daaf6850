/- Texts. -/
import Derived.Test.YtphjagkehiklkaaGreatDoorWK26
set_option linter.unusedVariables false
set_option linter.unusedSimpArgs false
set_option maxRecDepth 100000
set_option maxHeartbeats 4000000
namespace Go.Proofs.YtphjagkehiklkaaGreatDoor.Lt
open Go.RowKit
def rK(s:List UInt8):List UInt8:=eF (gV 0 [s])
def bU(l r:List UInt8):List UInt8:=eF (gV 1 [l,r])
def qM:List UInt8:=eF (gV 2 [])
theorem mB(s:List UInt8):(rK s).length=32:=gJ _
theorem cJ(l r:List UInt8):(bU l r).length=32:=gJ _
theorem oE:qM.length=32:=gJ _
theorem Ay(tag:UInt8)(k:Nat):(ea tag [] k).length≤1099511627776:=by simp[ea]
theorem Az(tag:UInt8)(s:ByteArray)(a:s.size<4294967296)(k:Nat):(ea tag [s] k).length≤1099511627776:=by
 have hw:(ee s.size).length=4:=rfl;rcases k with _|k<;>simp[ea,dL,hw]<;>omega
theorem AB(tag:UInt8)(s t:ByteArray)(b:s.size<4294967296)(c:t.size<4294967296)(k:Nat):(ea tag [s,t] k).length≤1099511627776:=by
 have hw:(ee s.size).length=4:=rfl;have a:(ee t.size).length=4:=rfl;rcases k with _|_|k<;>simp[ea,dL,hw,a]<;>omega
theorem Hz(w:World)(cs:List Value)(n:Nat)(a:cs.length=n)(t:TypeId):Rd (w.alloc (.cells cs.toArray t)) (fun k=>k=w.heap.size) 1 (some ⟨w.heap.size,0,none⟩) n cs:=by
 refine⟨by rw[a,Nat.mul_one],fun _=>⟨_,rfl,rfl,fun j u hu=>?_⟩⟩;have:(⟨w.heap.size,0,none⟩:Addr).add j=⟨w.heap.size,j,none⟩:=by rw[Addr.add_mid,Nat.zero_add]
 rw[this,(aq.new w t cs.toArray).cell,bR];exact hu
theorem DQ{w:World}{g:Nat}{t:TypeId}{cs:List Value}(h:aq w g t cs.toArray){n:Nat}(a:cs.length=n):Rd w (fun k=>k=g) 1 (some ⟨g,0,none⟩) n cs:=by
 refine⟨by rw[a,Nat.mul_one],fun _=>⟨_,rfl,rfl,fun j u hu=>?_⟩⟩;rw[Addr.add_mid,Nat.zero_add,h.cell,bR];exact hu
structure bT(a:Array Value):Prop where
 size:a.size=32
 one:a.all (·.oneCell')=true
theorem bT.of{l:List UInt8}(h:l.length=32):bT (l.map aS).toArray:=⟨by simp[h],kZ l⟩
theorem bT.info{a:Array Value}(h:bT a):(Tryz.prog.info? 38).map (·.size)=some a.size:=by rw[h.size];exact cg
theorem bT.JP{a:Array Value}(h:bT a):(Tryz.prog.info? 37).map (·.size)=some a.size:=by rw[h.size];exact Dy
theorem bT.zero{a:Array Value}(h:bT a):aB.size=a.size:=by rw[h.size];rfl
theorem vZ(s:ByteArray)(w:World)(n:bB w)(q:s.size<4294967296):Calls Tryz.prog 76 #[.string s] w (aJ w (aE (rK (eH s)))):=by
 have j:Hid (∀w',bB w'→Calls Tryz.prog 120 #[.int .u8 0, .slice (some ⟨w'.heap.size,0,none⟩) 1 1] (w'.alloc (.cells #[.string s] 9)) (aJ (w'.alloc (.cells #[.string s] 9)) (.tuple #[aE (rK (eH s)), .int .i64 0]))):=
  fun w' C=>oy 0 [s] (some ⟨w'.heap.size,0,none⟩) 1 1 _ _ (C.ar (aD.alloc _)) (Hz w' [.string s] 1 rfl 9) (by omega) (Az 0 s q) (by simpa using q);have v:=af n;have a:=af (bT.of (mB (eH s)));unfold aE at*;generalize((rK (eH s)).map aS).toArray=f at*;clear n;go_enter Tryz.func76,Tryz.ntmps76;go_wp2_with(refine ak rfl 38 rfl aI dW aB rfl ?_);intro w1 n1;have c:=af n1;clear n1;go_wp2_with fail;refine(j.out _ (v.out.ar c.out.fr)).mono ?_;rintro e w2⟨rfl,f2⟩;have d:Hid (Fr ag w1 w2):=((Fr.refl _ w1).alloc _).trans f2;clear f2 j;go_wp2_with(refine ak rfl 38 rfl aI dW aB rfl ?_);intro w3 n3;have h:=af n3.aH;have k:Hid (Fr ag w w3):=c.out.fr.trans (d.out.trans n3.fr);have l:=af (c.out.aH.fr (d.out.trans n3.fr) (fun x=>x));have b:Hid (w.heap.size<w2.heap.size):=by have:=d.out.size;have:=c.out.size;simp only[Hid];omega
 clear n3 c d;generalize o:w2.heap.size=g at*;have E:=af o;clear o;go_wp2_with(refine ai rfl 38 (.tmp 3) _ rfl g f rfl rfl _ _ h.out a.out.info a.out.zero a.out.one ?_);intro D b4 f4;have t:=af b4;have u:Hid (Fr ag w D):=k.out.aw f4 (fun i B e=>by have m:i=g:=e;have:=b.out;omega);have A:=af (l.out.fr f4 (fun e=>by have m:w.heap.size=g:=e;have:=b.out;omega));clear b4 f4 k l h;go_wp2_with(first|(refine wpList_load_row rfl 38 (.tmp 3) rfl g rfl _ f _ _ t.out Tryz.underlying38 rfl a.out.info ?_)|(refine ai rfl 38 (.tmp 2) _ rfl w.heap.size f rfl rfl _ _ A.out a.out.info a.out.zero a.out.one ?_));intro r b5 f5;have y:=af b5;have z:Hid (Fr ag w r):=u.out.aw f5 (fun i B e=>by have m:i=w.heap.size:=e;omega);clear b5 f5;go_wp2;exact bodyPost_ret (results_cell_row (fn:=Tryz.f76) (p:=2) (ty:=38) Tryz.results76 _ r _ 38 f (0,0) _ rfl y.out Tryz.underlying38 rfl a.out.info) rfl ⟨rfl,z.out⟩
theorem As(w:World)(n:bB w):Calls Tryz.prog 73 #[] w (aJ w (aE qM)):=by
 have j:Hid (∀w',bB w'→Calls Tryz.prog 120 #[.int .u8 2, .slice none 0 0] w' (aJ w' (.tuple #[aE qM, .int .i64 0]))):=
  fun w' A=>oy 2 [] none 0 0 (fun _=>False) _ A Rd.none_ (by omega) (Ay 2) (by simp);have t:=af n;have a:=af (bT.of oE);unfold aE at*;generalize(qM.map aS).toArray=f at*;clear n;go_enter Tryz.func73,Tryz.ntmps73;go_wp2_with(refine ak rfl 38 rfl aI dW aB rfl ?_);intro w1 n1;have c:=af n1;clear n1;go_wp2_with fail;refine(j.out _ (t.out.ar c.out.fr)).mono ?_;rintro e w2⟨rfl,f2⟩;have d:Hid (Fr ag w1 w2):=f2;clear f2 j;go_wp2_with(refine ak rfl 38 rfl aI dW aB rfl ?_);intro w3 n3;have h:=af n3.aH;have k:Hid (Fr ag w w3):=c.out.fr.trans (d.out.trans n3.fr);have l:=af (c.out.aH.fr (d.out.trans n3.fr) (fun x=>x));have b:Hid (w.heap.size<w2.heap.size):=by have:=d.out.size;have:=c.out.size;simp only[Hid];omega
 clear n3 c d;generalize o:w2.heap.size=g at*;have C:=af o;clear o;go_wp2_with(refine ai rfl 38 (.tmp 1) _ rfl g f rfl rfl _ _ h.out a.out.info a.out.zero a.out.one ?_);intro B b4 f4;have r:=af b4;have s:Hid (Fr ag w B):=k.out.aw f4 (fun i z e=>by have m:i=g:=e;have:=b.out;omega);have y:=af (l.out.fr f4 (fun e=>by have m:w.heap.size=g:=e;have:=b.out;omega));clear b4 f4 k l h;go_wp2_with(first|(refine wpList_load_row rfl 38 (.tmp 1) rfl g rfl _ f _ _ r.out Tryz.underlying38 rfl a.out.info ?_)|(refine ai rfl 38 (.tmp 0) _ rfl w.heap.size f rfl rfl _ _ y.out a.out.info a.out.zero a.out.one ?_));intro q b5 f5;have u:=af b5;have v:Hid (Fr ag w q):=s.out.aw f5 (fun i z e=>by have m:i=w.heap.size:=e;omega);clear b5 f5;go_wp2;exact bodyPost_ret (results_cell_row (fn:=Tryz.f73) (p:=0) (ty:=38) Tryz.results73 _ q _ 38 f (0,0) _ rfl u.out Tryz.underlying38 rfl a.out.info) rfl ⟨rfl,v.out⟩
structure ej(w w':World)(g0 g1 g2:Nat)(l r:List UInt8):Prop where
 fr:Fr ag w w'
 b0:aq w' g0 38 (l.map aS).toArray
 b1:aq w' g1 38 (r.map aS).toArray
 b2:aq w' g2 38 aB
theorem ej.drew{w w':World}{g0 g1 g2:Nat}{l r:List UInt8}(h:ej w w' g0 g1 g2 l r):ej w w'.drew g0 g1 g2 l r:=⟨h.fr.drew,h.b0.drew,h.b1.drew,h.b2.drew⟩
theorem ej.later{w w' a:World}{g0 g1 g2:Nat}{l r:List UInt8}(h:ej w w' g0 g1 g2 l r)(b:Fr ag w' a):ej w a g0 g1 g2 l r:=⟨h.fr.trans b,h.b0.fr b (fun x=>x),h.b1.fr b (fun x=>x),h.b2.fr b (fun x=>x)⟩
theorem ej.alloc{w w':World}{g0 g1 g2:Nat}{l r:List UInt8}(h:ej w w' g0 g1 g2 l r)(a:Obj):ej w (w'.alloc a) g0 g1 g2 l r:=h.later (aD.alloc a)
theorem ej.store{w w':World}{g0 g1 g2 g:Nat}{l r:List UInt8}(h:ej w w' g0 g1 g2 l r)(d:w.heap.size≤g∧g0<g∧g1<g∧g2<g)(c:List Value):ej w (w'.setCells g 0 c) g0 g1 g2 l r:=by
 have a:Fr (fun k=>k=g) w' (w'.setCells g 0 c):=Fr.setCells (T:=fun k=>k=g) (fun _=>rfl) _ _ _ aD;exact⟨h.fr.aw a (fun i f e=>by have b:i=g:=e;omega),h.b0.fr a (fun e=>by have b:g0=g:=e;omega),h.b1.fr a (fun e=>by have b:g1=g:=e;omega),h.b2.fr a (fun e=>by have b:g2=g:=e;omega)⟩
theorem ej.all{w w':World}{g0 g1 g2:Nat}{l r:List UInt8}(h:ej w w' g0 g1 g2 l r)(a:l.length=32)(b:r.length=32):ej w w' g0 g1 g2 l r∧
  (convert 61 9 (.slice (some ⟨g0,0,none⟩) 32 32)).run Tryz.prog w'= .ok (.string ⟨l.toArray⟩) w'∧(convert 61 9 (.slice (some ⟨g1,0,none⟩) 32 32)).run Tryz.prog w'= .ok (.string ⟨r.toArray⟩) w':=
 ⟨h,uY (P:=Tryz.prog) w' 61 9 5 Tryz.underlying61 Tryz.underlying5 Tryz.underlying9 _ _ 32 32 l (DQ h.b0 (by rw[List.length_map,a])),
  uY (P:=Tryz.prog) w' 61 9 5 Tryz.underlying61 Tryz.underlying5 Tryz.underlying9 _ _ 32 32 r (DQ h.b1 (by rw[List.length_map,b]))⟩
theorem xf{w w':World}{g n:Nat}(h:w.there g 0 n)(a:Fr ag w w'):w'.there g 0 n:=fun j e=>by
 obtain⟨b,c⟩:=h j e;obtain⟨u,hu⟩:=Option.isSome_iff_exists.1 b;have d:=World.block_lt_of_cell? w _ hu;exact⟨by rw[a.an hu (fun x=>x)];rfl,by rw[a.frozen d (fun x=>x)];exact c⟩
theorem Jf{w:World}{b:Nat}{s t:Value}(a:w.cell? ⟨b,0,none⟩=some s)(c:w.cell? ⟨b,1,none⟩=some t):Rd w (fun k=>k=b) 1 (some ⟨b,0,none⟩) 2 [s,t]:=by
 refine⟨rfl,fun _=>⟨_,rfl,rfl,fun j u hu=>?_⟩⟩;rw[Addr.add_mid,Nat.zero_add];rcases j with _|_|j;·cases hu;exact a
 ·cases hu;exact c
 ·cases hu
theorem iG(l r:List UInt8)(m:l.length=32)(n:r.length=32)(w:World)(A:bB w):Calls Tryz.prog 122 #[aE l,aE r] w (aJ w (aE (bU l r))):=by
 have el:eH ⟨l.toArray⟩=l:=by simp[eH]
 have y:eH ⟨r.toArray⟩=r:=by simp[eH]
 have G:Hid (∀(W:World)(b:Nat),bB W→W.cell? ⟨b,0,none⟩=some (.string ⟨l.toArray⟩)→W.cell? ⟨b,1,none⟩=some (.string ⟨r.toArray⟩)→Calls Tryz.prog 120 #[.int .u8 1, .slice (some ⟨b,0,none⟩) 2 2] W (aJ W (.tuple #[aE (bU l r), .int .i64 0]))):=by
  intro W b Q N O;have h:=oy 1 [⟨l.toArray⟩,⟨r.toArray⟩] (some ⟨b,0,none⟩) 2 2 _ W Q (Jf N O) (by omega) (AB 1 _ _ (by rw[ByteArray.size,List.size_toArray,m];omega) (by rw[ByteArray.size,List.size_toArray,n];omega)) (by
   intro p C;simp only[List.mem_cons,List.not_mem_nil,or_false]at C;rcases C with rfl|rfl<;>simp only[ByteArray.size,List.size_toArray,m,n]<;>omega);simp only[List.map_cons,List.map_nil,el,y]at h;exact h
 have J:=af A;have j:=af (bT.of (cJ l r));have H:=af m;have I:=af n;have hlen:((bU l r).map aS).length=32:=by rw[List.length_map,cJ]
 have B:∀v∈(bU l r).map aS,v.oneCell'=true:=gH _;unfold aE at*;generalize(bU l r).map aS=d at*;have i24:(Tryz.prog.info? 38).map (·.size)=some d.length:=by rw[hlen];exact cg
 clear A m n el y;go_enter Tryz.func122,Tryz.ntmps122;go_wp2_with(refine aA rfl 38 (.tmp 0) rfl _ rfl ?_);intro w1 n1;have k:=af n1;clear n1;go_wp2_with(refine aA rfl 38 (.tmp 1) rfl _ rfl ?_);intro w2 D;have a:=af D;clear D;go_wp2_with(refine ak rfl 38 rfl aI dW aB rfl ?_);intro w3 n3;have c:=af n3;clear n3;have NS:ej w w3 w.heap.size w1.heap.size w2.heap.size l r:=⟨k.out.fr.trans (a.out.fr.trans c.out.fr),(k.out.aH.fr a.out.fr (fun x=>x)).fr c.out.fr (fun x=>x),a.out.aH.fr c.out.fr (fun x=>x),c.out.aH⟩;have z0:w.heap.size≤w3.heap.size:=NS.fr.size;have z1:w.heap.size<w3.heap.size:=NS.b0.lt;have z2:w1.heap.size<w3.heap.size:=NS.b1.lt;have z3:w2.heap.size<w3.heap.size:=NS.b2.lt;have K:Hid (w.heap.size≤w2.heap.size):=(k.out.fr.trans a.out.fr).size;clear k a c;generalize f:w.heap.size=g0 at*;generalize w1.heap.size=g1 at*;generalize w2.heap.size=g2 at*;have t:=af f;clear f;have Y:w.heap.size≤w3.heap.size:=NS.fr.size;go_upto_region 1 with fail;go_cut[4,5](fun S T E=>∃g,S= .pointer (some ⟨g2,0,none⟩)∧T= .pointer (some ⟨g,0,none⟩)∧E.rangeAt g 0 d∧ej w E g0 g1 g2 l r);case first=>
  have s:Hid (((w3.alloc (.cells #[.string ⟨l.toArray⟩, .string ⟨r.toArray⟩] 9)).alloc (.cells #[.int .u8 0, .int .u8 0, .int .u8 0, .int .u8 0, .int .u8 0, .int .u8 0, .int .u8 0, .int .u8 0, .int .u8 0, .int .u8 0, .int .u8 0, .int .u8 0, .int .u8 0, .int .u8 0, .int .u8 0, .int .u8 0, .int .u8 0, .int .u8 0, .int .u8 0, .int .u8 0, .int .u8 0, .int .u8 0, .int .u8 0, .int .u8 0, .int .u8 0, .int .u8 0, .int .u8 0, .int .u8 0, .int .u8 0, .int .u8 0, .int .u8 0, .int .u8 0] 38)).drew.there (w3.heap.size+1) 0 32):=by
   have h:=aq.new (w3.alloc (.cells #[.string ⟨l.toArray⟩, .string ⟨r.toArray⟩] 9)) 38 #[.int .u8 0, .int .u8 0, .int .u8 0, .int .u8 0, .int .u8 0, .int .u8 0, .int .u8 0, .int .u8 0, .int .u8 0, .int .u8 0, .int .u8 0, .int .u8 0, .int .u8 0, .int .u8 0, .int .u8 0, .int .u8 0, .int .u8 0, .int .u8 0, .int .u8 0, .int .u8 0, .int .u8 0, .int .u8 0, .int .u8 0, .int .u8 0, .int .u8 0, .int .u8 0, .int .u8 0, .int .u8 0, .int .u8 0, .int .u8 0, .int .u8 0, .int .u8 0];rw[show(w3.alloc (.cells #[.string ⟨l.toArray⟩, .string ⟨r.toArray⟩] 9)).heap.size=w3.heap.size+1 by simp]at h;exact lK h.drew rfl
  have q:Hid (((w3.alloc (.cells #[.int .u8 0, .int .u8 0, .int .u8 0, .int .u8 0, .int .u8 0, .int .u8 0, .int .u8 0, .int .u8 0, .int .u8 0, .int .u8 0, .int .u8 0, .int .u8 0, .int .u8 0, .int .u8 0, .int .u8 0, .int .u8 0, .int .u8 0, .int .u8 0, .int .u8 0, .int .u8 0, .int .u8 0, .int .u8 0, .int .u8 0, .int .u8 0, .int .u8 0, .int .u8 0, .int .u8 0, .int .u8 0, .int .u8 0, .int .u8 0, .int .u8 0, .int .u8 0] 38)).alloc (.cells #[.string ⟨l.toArray⟩, .string ⟨r.toArray⟩] 9)).drew.there w3.heap.size 0 32):=lK ((aq.new w3 38 #[.int .u8 0, .int .u8 0, .int .u8 0, .int .u8 0, .int .u8 0, .int .u8 0, .int .u8 0, .int .u8 0, .int .u8 0, .int .u8 0, .int .u8 0, .int .u8 0, .int .u8 0, .int .u8 0, .int .u8 0, .int .u8 0, .int .u8 0, .int .u8 0, .int .u8 0, .int .u8 0, .int .u8 0, .int .u8 0, .int .u8 0, .int .u8 0, .int .u8 0, .int .u8 0, .int .u8 0, .int .u8 0, .int .u8 0, .int .u8 0, .int .u8 0, .int .u8 0]).alloc _).drew rfl;go_region_held3(fun w'=>ej w w' g0 g1 g2 l r∧(convert 61 9 (.slice (some ⟨g0,0,none⟩) 32 32)).run Tryz.prog w'= .ok (.string ⟨l.toArray⟩) w'∧(convert 61 9 (.slice (some ⟨g1,0,none⟩) 32 32)).run Tryz.prog w'= .ok (.string ⟨r.toArray⟩) w')((go_split_ands;refine ej.all ?_ H.out I.out;first|assumption|exact ej.drew (by assumption)|exact ej.later (by assumption) (by assumption)|exact ej.store (by assumption) ⟨by omega,by omega,by omega,by omega⟩ _|exact ej.alloc (by assumption) _|exact(ej.alloc (by assumption) _).alloc _|exact(ej.drew (by assumption)).alloc _|exact((ej.drew (by assumption)).alloc _).alloc _))((first|(go_at_call 120;go_split_ands;refine(G.out _ _ (J.out.ar (ej.fr (by assumption))) (by simp) (by simp)).mono ?_;rintro e o⟨rfl,f4⟩;have R:w3.heap.size≤o.heap.size:=Nat.le_trans (by first|(simp;done)|(simp;omega)) f4.size;have t4:(o.alloc (.cells #[.int .u8 0, .int .u8 0, .int .u8 0, .int .u8 0, .int .u8 0, .int .u8 0, .int .u8 0, .int .u8 0, .int .u8 0, .int .u8 0, .int .u8 0, .int .u8 0, .int .u8 0, .int .u8 0, .int .u8 0, .int .u8 0, .int .u8 0, .int .u8 0, .int .u8 0, .int .u8 0, .int .u8 0, .int .u8 0, .int .u8 0, .int .u8 0, .int .u8 0, .int .u8 0, .int .u8 0, .int .u8 0, .int .u8 0, .int .u8 0, .int .u8 0, .int .u8 0] 38)).there o.heap.size 0 32:=lK (aq.new o 38 #[.int .u8 0, .int .u8 0, .int .u8 0, .int .u8 0, .int .u8 0, .int .u8 0, .int .u8 0, .int .u8 0, .int .u8 0, .int .u8 0, .int .u8 0, .int .u8 0, .int .u8 0, .int .u8 0, .int .u8 0, .int .u8 0, .int .u8 0, .int .u8 0, .int .u8 0, .int .u8 0, .int .u8 0, .int .u8 0, .int .u8 0, .int .u8 0, .int .u8 0, .int .u8 0, .int .u8 0, .int .u8 0, .int .u8 0, .int .u8 0, .int .u8 0, .int .u8 0]) rfl;first|(have U:=xf s.out (by with_reducible exact f4))|(have U:=xf q.out (by with_reducible exact f4))|skip)));all_goals
   go_split_ands;go_wp2_with fail;go_meet;exact⟨_,rfl,rfl,World.rangeAt_setCells_same _ _ _ _ (by rw[hlen];assumption),by assumption⟩
 case rest=>
  obtain⟨g,rfl,rfl,P,z⟩:=hcut;have KN:=af z;have u:Hid (w.heap.size≤g2):=by have:=K.out;have:=t.out;simp only[Hid];omega
  have ty:=Tryz.underlying38;clear NS z z0 z1 z2 z3;go_wp2_with(first|(refine wpList_load_mid rfl 38 (.tmp 5) rfl g 0 rfl d _ P ty rfl i24 ?_)|(refine ai rfl 38 (.tmp 4) _ rfl g2 d.toArray rfl rfl _ _ KN.out.b2 j.out.info j.out.zero j.out.one ?_));intro F b7 f7;have L:=af b7;have M:Hid (Fr ag w F):=KN.out.fr.aw f7 (fun i X e=>by have V:i=g2:=e;have:=u.out;omega);clear b7 f7;go_wp2;exact bodyPost_ret (results_cell_row (fn:=Tryz.f122) (p:=4) (ty:=38) Tryz.results122 _ F _ 38 d.toArray (0,0) _ rfl L.out Tryz.underlying38 rfl j.out.info) rfl ⟨rfl,M.out⟩
structure kg(w w':World)(g0 g1:Nat)(a b:List Value):Prop where
 fr:Fr ag w w'
 b0:aq w' g0 37 a.toArray
 b1:aq w' g1 37 b.toArray
theorem kg.drew{w w':World}{g0 g1:Nat}{l r:List Value}(h:kg w w' g0 g1 l r):kg w w'.drew g0 g1 l r:=⟨h.fr.drew,h.b0.drew,h.b1.drew⟩
theorem kg.later{w w' a:World}{g0 g1:Nat}{l r:List Value}(h:kg w w' g0 g1 l r)(b:Fr ag w' a):kg w a g0 g1 l r:=⟨h.fr.trans b,h.b0.fr b (fun x=>x),h.b1.fr b (fun x=>x)⟩
theorem kg.alloc{w w':World}{g0 g1:Nat}{l r:List Value}(h:kg w w' g0 g1 l r)(a:Obj):kg w (w'.alloc a) g0 g1 l r:=h.later (aD.alloc a)
theorem bw{w:World}{g:Nat}{t:TypeId}{cs:List Value}(h:aq w g t cs.toArray):w.rangeAt g 0 cs:=fun j v a=>by
 rw[Nat.zero_add,h.cell,bR];exact a
theorem kg.all{w w':World}{g0 g1:Nat}{l r:List Value}(h:kg w w' g0 g1 l r):kg w w' g0 g1 l r∧w'.rangeAt g0 0 l∧w'.rangeAt g1 0 r:=⟨h,bw h.b0,bw h.b1⟩
def bQ(ds:List (List UInt8)):List UInt8:=
 if a:1≤au ds.length∧au ds.length<ds.length then bU (bQ (ds.take (au ds.length))) (bQ (ds.drop (au ds.length)))else ds.headD []
termination_by ds.length
decreasing_by
 ·simp only[List.length_take];omega
 ·simp only[List.length_drop];omega
theorem qo(d:List UInt8):bQ [d]=d:=by
 rw[bQ,dif_neg (by simp;omega)];rfl
theorem iC(ds:List (List UInt8))(n:Nat)(b:ds.length=n)(d:2≤n)(e:n≤1099511627776):bQ ds=bU (bQ (ds.take (au n))) (bQ (ds.drop (au n))):=by
 obtain⟨a,_,c⟩:=aX n d e;rw[bQ,dif_pos (by rw[b];exact⟨c,a⟩),b]
theorem de(n:Nat):∀ds:List (List UInt8),ds.length=n→1≤n→n≤1099511627776→(∀d∈ds,d.length=32)→(bQ ds).length=32:=by
 intro ds a f e b;by_cases c:2≤n;·rw[iC ds n a c e];exact cJ _ _
 ·match ds,a,b with
  |[d],_,b=>rw[qo];exact b d (by simp)
  |[],a,_=>simp at a;omega
  |_::_::_,a,_=>simp at a;omega
def ao(d:List UInt8):List Value:=d.map aS
structure eM(w:World)(S:Nat→Prop)(A:Option Addr)(n:Nat)(ds:List (List UInt8)):Prop where
 rd:Rd w S 32 A n (ds.flatMap ao)
 len:ds.length=n
 each:∀d∈ds,d.length=32
theorem eM.ar{w w':World}{S:Nat→Prop}{A:Option Addr}{n:Nat}{ds:List (List UInt8)}(h:eM w S A n ds)(a:Fr ag w w'):eM w' S A n ds:=⟨h.rd.ar a,h.len,h.each⟩
theorem eM.fr{w w':World}{S T:Nat→Prop}{A:Option Addr}{n:Nat}{ds:List (List UInt8)}(h:eM w S A n ds)(b:Fr T w w')(a:∀k,S k→¬T k):eM w' S A n ds:=⟨h.rd.fr b a,h.len,h.each⟩
theorem nE(ds:List (List UInt8))(h:∀d∈ds,d.length=32):∀k,(ds.flatMap ao).take (k*32)=(ds.take k).flatMap ao:=by
 induction ds with
 |nil=>simp
 |cons d r b=>
  intro k;rcases k with _|k;·simp
  ·have c:(ao d).length=32:=by rw[ao,List.length_map];exact h d (by simp)
   rw[List.flatMap_cons,List.take_succ_cons,List.flatMap_cons,show(k+1)*32=(ao d).length+k*32 by omega,List.take_length_add_append,b (fun x a=>h x (by simp[a]))]
theorem nC(ds:List (List UInt8))(h:∀d∈ds,d.length=32):∀k,(ds.flatMap ao).drop (k*32)=(ds.drop k).flatMap ao:=by
 induction ds with
 |nil=>simp
 |cons d r b=>
  intro k;rcases k with _|k;·simp
  ·have c:(ao d).length=32:=by rw[ao,List.length_map];exact h d (by simp)
   rw[List.flatMap_cons,List.drop_succ_cons,show(k+1)*32=(ao d).length+k*32 by omega,List.drop_length_add_append,b (fun x a=>h x (by simp[a]))]
theorem eM.take{w:World}{S:Nat→Prop}{A:Option Addr}{n k:Nat}{ds:List (List UInt8)}(h:eM w S A n ds)(b:k≤n):eM w S A k (ds.take k):=by
 have:=h.rd.take b;rw[nE ds h.each]at this;exact⟨this,by rw[List.length_take,h.len];omega,fun d a=>h.each d (List.mem_of_mem_take a)⟩
theorem eM.at_{w:World}{S:Nat→Prop}{A:Option Addr}{n k:Nat}{ds:List (List UInt8)}(h:eM w S A n ds)(o:k<n):∃f d,A=some f∧S f.block∧ds[k]? =some d∧d.length=32∧∀j v,(ao d)[j]? =some v→w.cell? ((f.add (k*32)).add j)=some v:=by
 obtain⟨f,e,i,l⟩:=h.rd.2 (by omega);have c:k<ds.length:=by rw[h.len];exact o
 have a:ds[k].length=32:=h.each _ (List.getElem_mem c);refine⟨f,ds[k],e,i,List.getElem?_eq_getElem c,a,fun j v g=>?_⟩;rw[iq];refine l _ v ?_;have m:j<32:=by have:=(List.getElem?_eq_some_iff.1 g).1;rw[ao,List.length_map,a]at this;exact this
 have b:(ds.flatMap ao).drop (k*32)=ao ds[k]++(ds.drop (k+1)).flatMap ao:=by
  rw[nC ds h.each,List.drop_eq_getElem_cons c,List.flatMap_cons]
 rw[←List.getElem?_drop,b,List.getElem?_append_left (by rw[ao,List.length_map,a];exact m)];exact g
theorem jP{P:Program}(w:World)(b:Addr)(ty:TypeId)(cs:List Value)(d:TypeDesc)(f:∀j v,cs[j]? =some v→w.cell? (b.add j)=some v)
  (hu:P.underlying ty=some d)(k:d.isRow=true)(e:(P.info? ty).map (·.size)=some cs.length):(loadVar ty b).run P w= .ok (.agg cs.toArray) w:=by
 have g:(loadCells b cs.length).run P w= .ok cs.toArray w:=run_loadCells_list (P:=P) w b cs f;cases c:P.info? ty with
 |none=>simp[c]at e
 |some i=>
  have h:i.size=cs.length:=by simpa[c]using e
  have a:(isAgg ty).run P w= .ok true w:=by
   unfold isAgg;rw[Sem.run_bind,run_underlying hu w];cases d<;>simp_all
  simp[loadVar,Sem.run_bind,a,sizeOf,typeInfo,c,h,g]
theorem az{P:Program}{op:Oper}{a:Act}{w:World}{K:Act→World→Prop}{Q:Exit→Act→World→Prop}(ty:TypeId)(x:Operand)(g:op.op= .load ty x)
  (b:Addr)(i:a.eval x= .pointer (some b))(cs:List Value)(d:TypeDesc)(c:∀j v,cs[j]? =some v→w.cell? (b.add j)=some v)
  (hu:P.underlying ty=some d)(e:d.isRow=true)(f:(P.info? ty).map (·.size)=some cs.length)
  (h:K (a.put op.dst (.agg cs.toArray)) w):op.wp P a w K Q:=by
 unfold Oper.wp execOp;simp only[g,i,Instr.loadAt,Instr.sureAddr,Sem.run_bind,Sem.run_pure,Result.andThen_ok,jP w b ty cs d c hu e f];exact h
theorem aF{P:Program}{ops:Array Oper}{rest:List Oper}{op:Oper}{a:Act}{w:World}{Q:Exit→Act→World→Prop}(c:op.guard=none)(ty:TypeId)(x:Operand)(k:op.op= .load ty x)
  (b:Addr)(l:a.eval x= .pointer (some b))(cs:List Value)(d:TypeDesc)(f:∀j v,cs[j]? =some v→w.cell? (b.add j)=some v)
  (hu:P.underlying ty=some d)(g:d.isRow=true)(i:(P.info? ty).map (·.size)=some cs.length)
  (h:wpList P ops Q rest (a.put op.dst (.agg cs.toArray)) w):wpList P ops Q (op::rest) a w:=
 wpList_plain c fun _ e=>az ty x k b l cs d f hu g i (e _ _ h)
def dC(ds:List (List UInt8)):List UInt8:=if ds=[]then qM else bQ ds
def bj(p:Prop):Prop:=p
theorem bj.go{p:Prop}(h:bj p):p:=h
theorem pz:(Tryz.prog.info? 38).map (fun i=>(i.zero,i.size,i.bytes))=some (some aI,32,32):=by kernel_rfl
theorem foldl_set:∀(l:List Value)(k off:Nat)(b:List Value),off+k+l.length≤b.length→(l.zipIdx k).foldl (fun cs x=>cs.setIfInBounds (off+x.2) x.1) b.toArray=(b.take (off+k)++l++b.drop (off+k+l.length)).toArray
 |[],k,off,b,_=>by simp
 |c::r,k,off,b,h=>by
  simp only[List.length_cons]at h;rw[List.zipIdx_cons,List.foldl_cons,List.setIfInBounds_toArray,foldl_set r (k+1) off (b.set (off+k) c) (by rw[List.length_set];omega)];congr 1;have a:(b.set (off+k) c).take (off+(k+1))=b.take (off+k)++[c]:=by
   rw[List.take_set,show off+(k+1)=(off+k)+1 by omega,List.take_succ_eq_append_getElem (by omega:off+k<b.length),List.set_append_right _ _ (by simp;omega)];simp;rw[show off+k-min (off+k) b.length=0 by omega];rfl
  have d:(b.set (off+k) c).drop (off+(k+1)+r.length)=b.drop (off+k+(c::r).length):=by
   rw[List.drop_set_of_lt (by omega)];congr 1;simp only[List.length_cons];omega
  rw[a,d];simp
theorem kP(cs b:Array Value)(off:Nat)(h:off+cs.size≤b.size):cs.zipIdx.foldl (fun cs(x:Value×Nat)=>cs.setIfInBounds (off+x.2) x.1) b=(b.toList.take off++cs.toList++b.toList.drop (off+cs.size)).toArray:=by
 rw[←Array.foldl_toList,Array.toList_zipIdx];have:=foldl_set cs.toList 0 off b.toList (by simpa using h);simpa using this
theorem kO(cs b:Array Value)(d:cs.size=32)(c:b.size=32):Instr.fill (fun i=>some (i*32,32)) b [(0, .agg cs)]=some cs:=by
 have a:=kP cs b 0 (by omega);simp only[Instr.fill,Value.cells,d,c,Nat.zero_mul,Nat.zero_add,ne_eq,not_true_eq_false,decide_false,Bool.false_or,gt_iff_lt,Nat.lt_irrefl,Bool.false_eq_true,if_false];simp only[Nat.zero_add,List.take_zero,List.nil_append,d]at a;rw[List.drop_of_length_le (by simp[c]),List.append_nil]at a;rw[a]
def kV(w:World)(n:Nat)(ds:List (List UInt8))(e:Ending)(w':World):Prop:=∃v,e= .returned v∧bW 38 32 w (.slice none 0 0) w' v n (ds.flatMap ao)
def JG(w:World)(e:Ending)(w':World):Prop:=e= .returned (.pointer (some ⟨w.heap.size,0,none⟩))∧w'=w.alloc (.cells #[.slice none 0 0, .map none] 180)
theorem qB(w:World):Calls Tryz.prog 83 #[] w (JG w):=by
 go_enter Tryz.func83,Tryz.ntmps83;go_wp2;go_ret;exact⟨rfl,rfl⟩
structure Iy(w w':World):Prop where
 map:w'.heap[w.heap.size]? =some (.map #[] 0)
 fr:Fr ag w w'
 size:w'.heap.size=w.heap.size+1
theorem sV{P:Program}{ops:Array Oper}{rest:List Oper}{e:Oper}{a:Act}{w:World}{Q:Exit→Act→World→Prop}(c:e.guard=none)(t:TypeId)(d:e.op= .makeMap t none)
  (h:∀w',Iy w w'→wpList P ops Q rest (a.put e.dst (.map (some w.heap.size))) w'):wpList P ops Q (e::rest) a w:=by
 refine wpList_plain c fun K b=>?_;have mk:(Instr.makeMap t none).run P w= .ok (.map (some w.heap.size)) (w.alloc (.map #[] 0)):=by simp[Instr.makeMap]
 unfold Oper.wp execOp;simp only[d,Option.map_none,Sem.run_bind,mk,Sem.run_pure,Result.andThen_ok];exact b _ _ (h _ ⟨heap_alloc_new w _,aD.alloc _,by simp⟩)
theorem dZ{P:Program}{ops:Array Oper}{rest:List Oper}{op:Oper}{a:Act}{w:World}{Q:Exit→Act→World→Prop}(b:op.guard=none)(ty:TypeId)(x:Operand)(i:op.op= .load ty x)
  (g:Nat)(l:a.eval x= .pointer (some ⟨g,0,none⟩))(t:TypeId)(cs:List Value)(c:aq w g t cs.toArray)(d:TypeDesc)
  (hu:P.underlying ty=some d)(e:d.isRow=true)(f:(P.info? ty).map (·.size)=some cs.length)
  (h:wpList P ops Q rest (a.put op.dst (.agg cs.toArray)) w):wpList P ops Q (op::rest) a w:=
 aF b ty x i ⟨g,0,none⟩ l cs d (fun j v k=>by rw[Addr.add_mid,Nat.zero_add,c.cell,bR];exact k) hu e f h
theorem EM(a e b:Array Value)(c:a.size=32)(g:e.size=32)(f:b.size=64):Instr.fill (fun i=>some (i*32,32)) b [(0, .agg a),(1, .agg e)]=some (a.toList++e.toList).toArray:=by
 have h:=kP a b 0 (by omega);simp only[Nat.zero_add,List.take_zero,List.nil_append,c]at h;have l:(a.toList++b.toList.drop 32).toArray.size=64:=by simp[c,f]
 have d:=kP e (a.toList++b.toList.drop 32).toArray 32 (by omega);have j:(a.toList++b.toList.drop 32).take 32=a.toList:=by rw[List.take_append_of_le_length (by simp[c]),List.take_of_length_le (by simp[c])]
 have k:(a.toList++b.toList.drop 32).drop (32+32)=[]:=List.drop_of_length_le (by simp[c,f]);simp only[g,j,k,List.append_nil]at d;simp only[Instr.fill,Value.cells,c,g,f,Nat.zero_mul,Nat.zero_add,Nat.one_mul,ne_eq,not_true_eq_false,decide_false,Bool.false_or,gt_iff_lt,Nat.lt_irrefl,Bool.false_eq_true,if_false,Nat.reduceAdd,Nat.reduceLT,h,l,d]
theorem eM.qY{w w':World}{v:Value}{n:Nat}{ds:List (List UInt8)}(h:bW 38 32 w (.slice none 0 0) w' v n (ds.flatMap ao))(i:ds.length=n)(he:∀d∈ds,d.length=32):
  ∃A c,v= .slice A n c∧eM w' (mZ v) A n ds∧n≤c∧c≤9223372036854775807∧Fr ag w w':=by
 obtain⟨A,c,rfl,f⟩:=uH h.own;refine⟨A,c,rfl,⟨Rd.ib h.own,i,he⟩,f,?_,h.ar⟩;rcases h.own.2 with⟨b,_⟩|⟨g,cap,cur,b,_,_,_,a,_⟩;·injection b with _ _ e;omega
 ·injection b with _ _ e;unfold maxLen at a;omega
theorem fD{P:Program}{op:Oper}{a:Act}{w:World}{K:Act→World→Prop}{Q:Exit→Act→World→Prop}(i:BinOp)(t:TypeId)(x y:Operand)(ty:TypeId)(d:op.op= .binOp i t x y ty)
  (xs b:Array Value)(f:a.eval x= .agg xs)(g:a.eval y= .agg b)(c:P.eqGuardType P.depth t=false)
  (v:Value)(e:(binOp i t (.agg xs) (.agg b)).run P w= .ok v w)(h:K (a.put op.dst v) w):op.wp P a w K Q:=by
 have he:=run_eqGuard_agg (P:=P) (w:=w) i t x y xs b c;unfold Oper.wp execOp;simp only[d,f,g,Sem.run_bind,he,e,Result.andThen_ok];exact h
theorem iW(n:Nat)(ds:List (List UInt8))(b:ds.length=n)(e:n≤1048576)(he:∀d∈ds,d.length=32):(dC ds).length=32:=by
 unfold dC;split;·exact oE
 ·rename_i h;have c:1≤n:=by
   rcases Nat.eq_zero_or_pos n with a|a;·exact absurd (List.eq_nil_of_length_eq_zero (b.trans a)) h
   ·exact a
  exact de n ds b c (by omega) he
end Go.Proofs.YtphjagkehiklkaaGreatDoor.Lt
namespace Go.Proofs.YtphjagkehiklkaaGreatDoor.Lt
open Go.RowKit Go.ChangeShapes Go.WideShapes Go.Deep
theorem yW:Tryz.prog.cellsOf 141=8:=by kernel_rfl
theorem wD:Tryz.prog.cellsOf 242=64:=by kernel_rfl
theorem tQ:Tryz.prog.cellsOf 140=1:=by kernel_rfl
theorem qa:Tryz.prog.globalNamed "replevin/sha256.initial"=some 1:=by kernel_rfl
theorem sP:(Tryz.prog.globals[1]?).map (·.type)=some 141:=by kernel_rfl
theorem nF:Tryz.prog.globalNamed "replevin/sha256.constants"=some 2:=by kernel_rfl
theorem pQ:(Tryz.prog.globals[2]?).map (·.type)=some 242:=by kernel_rfl
def Bv:List Int:=[1779033703,3144134277,1013904242,2773480762,1359893119,2600822924,528734635,1541459225]
def zA:List Int:=sE.map (fun n:Nat=>(n:Int))
end Go.Proofs.YtphjagkehiklkaaGreatDoor.Lt
namespace Go.Proofs.YtphjagkehiklkaaGreatDoor.Lt
open Go.RowKit
theorem db{P:Program}{l:Oper}{a:Act}{w:World}{K:Act→World→Prop}{Q:Exit→Act→World→Prop}(ty:TypeId)(x y:Operand)(f:l.op= .store ty x y)
  (g:Nat)(cells:Array Value)(i:a.eval x= .pointer (some ⟨g,0,none⟩))(j:a.eval y= .agg cells)
  (t:TypeId)(b:Array Value)(c:aq w g t b)(e:(P.info? ty).map (·.size)=some cells.size)
  (hold:b.size=cells.size)(d:cells.all (·.oneCell')=true)
  (h:∀w',aq w' g t cells→Fr (fun k=>k=g) w w'→K (a.put l.dst undef) w'):l.wp P a w K Q:=
 wp_store_row ty x y f g cells i j t b c e hold d (h _ (gZ c) ((Fr.refl (fun k=>k=g) w).setRow (fun _=>rfl) cells))
structure iR(w w3:World)(ty:TypeId)(a:Array Value)(X Y:Array Value)(g5 g10 g11:Nat):Prop where
 fr:Fr ag w w3
 b5:aq w3 g5 ty a
 fj:aq w3 g10 ty X
 gg:aq w3 g11 ty Y
 lo:w.heap.size≤g5
 l1:g5<g10
 l2:g10<g11
theorem iR.of{w w1 w2 w3:World}{ty:TypeId}{d:Array Value}(c:dF w w1 ty d)(a:dF w1 w2 ty aB)(b:dF w2 w3 ty aB):iR w w3 ty d aB aB w.heap.size w1.heap.size w2.heap.size:=
 ⟨c.fr.trans (a.fr.trans b.fr),(c.aH.fr a.fr (fun x=>x)).fr b.fr (fun x=>x),a.aH.fr b.fr (fun x=>x),b.aH,Nat.le_refl _,by rw[c.size];omega,by rw[a.size];omega⟩
end Go.Proofs.YtphjagkehiklkaaGreatDoor.Lt
namespace Go.Proofs.YtphjagkehiklkaaGreatDoor
open Go.RowKit Go.Shelf
structure Wi(a W:World)(b:Nat)(l:List UInt8):Prop where
 fr:Fr ag a W
 wr:∃v,Wr W b v l 0∧∀k,v.ownBlock=some k→a.heap.size≤k
 new:a.heap.size≤b
def mY(W W':World):Prop:=∀g t cs,aq W g t cs→t≠185→t≠5→aq W' g t cs
theorem mY.of{W W':World}(h:Fr ag W W'):mY W W':=fun _ _ _ a _ _=>a.fr h (fun x=>x)
theorem mY.trans{W W' a:World}(h:mY W W')(k:mY W' a):mY W a:=fun g t cs d b c=>k g t cs (h g t cs d b c) b c
theorem Wi.later{b W W':World}{a:Nat}{l:List UInt8}(h:Wi b W a l)(f:Fr ag W W'):Wi b W' a l:=by
 obtain⟨v,c,d⟩:=h.wr;exact⟨h.fr.trans f,⟨v,c.cN f (fun _ _ x=>x),d⟩,h.new⟩
def ta(b W:World)(a:Nat)(l:List UInt8)(e:Ending)(W':World):Prop:=e= .returned (.tuple #[])∧Wi b W' a l∧mY W W'
theorem Wi.step{c W W':World}{a:Nat}{l f:List UInt8}{v j:Value}(h:Wi c W a l)(hw:Wr W a v l 0)(d:∀k,v.ownBlock=some k→c.heap.size≤k)(st:dj W a v W' j (f,0)):Wi c W' a f∧mY W W':=by
 refine⟨⟨h.fr.aw st.fr (fun i p e=>?_),⟨j,st.wr,fun k o=>?_⟩,h.new⟩,fun g t cs b m n=>b.fr st.fr (fun e=>?_)⟩
 ·rcases e with e|e;·have:=h.new;omega
  ·have:=d i e;omega
 ·rcases st.ew k o with e|e;·exact d k e
  ·exact Nat.le_trans h.fr.size e
 ·rcases e with e|e;·exact eo b hw.aH m e
  ·exact bG hw.own b (fun x=>n x.symm) e
theorem Wi.number{c W:World}{a:Nat}{l:List UInt8}(h:Wi c W a l)(n:Nat)(f:l.length≤1099511627776)(g:n≤9223372036854775807):
  Calls Tryz.prog 63 #[.pointer (some ⟨a,0,none⟩), .int .i64 (n:Int)] W (ta c W a (l++enc n)):=by
 obtain⟨v,b,d⟩:=h.wr;refine(jv a v l 0 (n:Int) W b f (by omega)).mono ?_;rintro e w'⟨rfl,i,st⟩;rw[iL]at st;exact⟨rfl,h.step b d st⟩
theorem Wi.text{c W:World}{a:Nat}{l:List UInt8}(h:Wi c W a l)(s:ByteArray)(f:l.length≤1099511627776)(g:s.size≤16777216):
  Calls Tryz.prog 65 #[.pointer (some ⟨a,0,none⟩), .string s] W (ta c W a (l++bO (aR s))):=by
 obtain⟨v,b,d⟩:=h.wr;refine(lL a v l 0 s W b f (by omega)).mono ?_;rintro e w'⟨rfl,i,st⟩;rw[iM _ _ (by omega),vp]at st;exact⟨rfl,h.step b d st⟩
theorem Wi.flag{d W:World}{a:Nat}{l:List UInt8}(h:Wi d W a l)(b:Bool)(i:l.length≤1099511627776):
  Calls Tryz.prog 66 #[.pointer (some ⟨a,0,none⟩), .bool b] W (ta d W a (l++jH b)):=by
 obtain⟨v,c,g⟩:=h.wr;refine(Db a v l 0 b W c i).mono ?_;rintro e w'⟨rfl,j,st⟩;have f:r8 (l,0) b=(l++jH b,0):=by unfold r8;rw[if_pos rfl];rfl
 rw[f]at st;exact⟨rfl,h.step c g st⟩
theorem Wi.start{b W:World}(h:Fr ag b W):
  Calls Tryz.prog 61 #[] W (fun e W'=>e= .returned (.pointer (some ⟨W.heap.size,0,none⟩))∧Wi b W' W.heap.size []∧Fr ag W W'):=by
 refine(kU W).mono ?_;rintro e w'⟨rfl,c,a⟩;exact⟨rfl,⟨h.trans a,⟨_,c,fun k d=>by simp[Value.ownBlock]at d⟩,h.size⟩,a⟩
theorem yx(p W:World)(b:Nat)(l:List UInt8)(h:Wi p W b l)(n:l.length≤1099511627776):
  Calls Tryz.prog 67 #[.pointer (some ⟨b,0,none⟩)] W (aJ W (.tuple #[.string ⟨l.toArray⟩, .int .i64 0])):=by
 obtain⟨v,d,k⟩:=h.wr;have c:Hid (Calls Tryz.prog 103 #[.pointer (some ⟨b,0,none⟩)] W (tp W l 0)):=oZ b v l 0 W d n;clear d k h;go_enter Tryz.func67,Tryz.ntmps67;go_wp2_with fail;refine c.out.mono ?_;rintro e w1⟨_,f⟩;obtain⟨q,rfl,a⟩:=f rfl;obtain⟨g,o,j,rfl,i,_⟩:=aU a.own;have m:=mR w1 _ g o j _ (pF.rd a.own i.out);have F:=af a.ar;clear a f c;go_wp2;go_ret2;exact⟨rfl,F.out⟩
theorem vC(N W:World)(m:Nat)(l:List UInt8)(k:eN)(h:Wi N W m l)(L:l.length≤1000000000000)(K:dM k=true)(o:k.fA.size≤16777216):
  Calls Tryz.prog 62 #[.agg k.cells.toArray, .pointer (some ⟨m,0,none⟩)] W (ta N W m (l++qW k)):=by
 obtain⟨t,c,n,s⟩:=k;simp only at o;simp only[dM,Bool.and_eq_true,decide_eq_true_eq]at K;obtain⟨⟨⟨⟨t0,t1⟩,i,j⟩,⟨n0,n1⟩,_⟩,_⟩:=K;obtain⟨t,rfl⟩:∃q:Nat,t=(q:Int):=⟨t.toNat,by omega⟩;obtain⟨c,rfl⟩:∃q:Nat,c=(q:Int):=⟨c.toNat,by omega⟩;obtain⟨n,rfl⟩:∃q:Nat,n=(q:Int):=⟨n.toNat,by omega⟩;have x:=af h;have S:=af o;have O:=aW t;have P:=aW c;have Q:=aW n;have R:Hid (l.length≤1000000000000):=L;have w:Hid (l++qW ⟨t,c,n,s⟩=((l++enc t)++enc c++enc n)++bO (aR s)):=by simp[Hid,qW]
 have U:Hid ((l++enc t).length≤1099511627776):=by simp only[Hid,bh];omega
 have V:Hid ((l++enc t++enc c).length≤1099511627776):=by simp only[Hid,bh];omega
 have X:Hid ((l++enc t++enc c++enc n).length≤1099511627776):=by simp only[Hid,bh];omega
 have f:Hid (t≤1073741824∧c≤2∧n≤999999):=⟨by omega,by omega,by omega⟩;unfold eN.cells;rw[w.out];clear h o L t0 t1 i j n0 n1 O P Q w;go_enter Tryz.func62,Tryz.ntmps62;go_wp2_with(refine aA rfl 43 (.tmp 0) rfl _ rfl ?_);intro w1 n1;have a:Hid (aq w1 W.heap.size 43 #[.int .i64 (t:Int), .int .i64 (c:Int), .int .i64 (n:Int), .string s]):=n1.aH;have C:=af (x.out.later n1.fr);have y:=af (mY.of n1.fr);clear n1 x;generalize W.heap.size=g at*;have i:w1.cell? ⟨g,0,none⟩=some (.int .i64 t):=a.out.cell 0;go_wp2_with fail;refine(C.out.number t (by have:=R.out;omega) (by have:=f.out;omega)).mono ?_;rintro e w2⟨rfl,G,p⟩;have D:=af G;have b:=af (p _ _ _ a.out (by decide) (by decide));have z:=af (y.out.trans p);clear G p i C a y;have j:w2.cell? ⟨g,1,none⟩=some (.int .i64 c):=b.out.cell 1;go_wp2_with fail;refine(D.out.number c U.out (by have:=f.out;omega)).mono ?_;rintro e w3⟨rfl,H,r⟩;have E:=af H;have d:=af (r _ _ _ b.out (by decide) (by decide));have A:=af (z.out.trans r);clear H r j D b z;have Z:w3.cell? ⟨g,2,none⟩=some (.int .i64 n):=d.out.cell 2;go_wp2_with fail;refine(E.out.number n V.out (by have:=f.out;omega)).mono ?_;rintro e aa⟨rfl,I,u⟩;have F:=af I;have v:=af (u _ _ _ d.out (by decide) (by decide));have B:=af (A.out.trans u);clear I u Z E d A;have c3:aa.cell? ⟨g,3,none⟩=some (.string s):=v.out.cell 3;go_wp2_with fail;refine(F.out.text s X.out S.out).mono ?_;rintro e ab⟨rfl,J,M⟩;have Y:=af J;have T:=af (B.out.trans M);clear J M c3 F v B;go_wp2;go_end0;exact⟨rfl,Y.out,T.out⟩
end Go.Proofs.YtphjagkehiklkaaGreatDoor
namespace Go.Proofs.YtphjagkehiklkaaGreatDoor.Lt
open Go.RowKit
theorem kL{P:Program}{op:Oper}{a:Act}{w:World}{K:Act→World→Prop}{Q:Exit→Act→World→Prop}(t:TypeId)(c:op.op= .alloc t)(z:Value)(d:∀w,(zeroValue t).run P w= .ok z w)(cells:Array Value)(b:z.cells=cells)
  (h:∀w',dF w w' t cells→K (a.put op.dst (.pointer (some ⟨w.heap.size,0,none⟩))) w'):op.wp P a w K Q:=by
 subst b;unfold Oper.wp execOp;simp only[c,Instr.alloc,Sem.run_bind,d,newVar,newRow,run_newObj_alloc,Sem.run_pure,Result.andThen_ok];exact h _ (dF.alloc w t z.cells)
theorem iR.ks{w w3 d:World}{ty:TypeId}{c X Y:Array Value}{g5 g10 g11 g:Nat}(h:iR w w3 ty c X Y g5 g10 g11)(a:Fr (fun k=>k=g) w3 d)(f:g11<g):iR w d ty c X Y g5 g10 g11:=by
 have:=h.l1;have:=h.l2;have:=h.lo;exact⟨h.fr.aw a (fun i j e=>by have b:i=g:=e;omega),h.b5.fr a (fun e=>by have b:g5=g:=e;omega),h.fj.fr a (fun e=>by have b:g10=g:=e;omega),h.gg.fr a (fun e=>by have b:g11=g:=e;omega),h.lo,h.l1,h.l2⟩
theorem iR.later{w w3 c:World}{ty:TypeId}{b X Y:Array Value}{g5 g10 g11:Nat}(h:iR w w3 ty b X Y g5 g10 g11)(a:Fr ag w3 c):iR w c ty b X Y g5 g10 g11:=
 ⟨h.fr.trans a,h.b5.fr a (fun x=>x),h.fj.fr a (fun x=>x),h.gg.fr a (fun x=>x),h.lo,h.l1,h.l2⟩
end Go.Proofs.YtphjagkehiklkaaGreatDoor.Lt
namespace Go.Proofs.YtphjagkehiklkaaGreatDoor.Lt
open Go.RowKit Go.ChangeShapes Go.WideShapes Go.Deep
structure sZ where
 leaf:List UInt8
 index:Int
 n:Int
 A:Option Addr
 len:Nat
 cap:Nat
 path:List (List UInt8)
def sZ.val(c:sZ):Value:= .agg (ao c.leaf++[Value.int .i64 c.index,Value.int .i64 c.n,Value.slice c.A c.len c.cap]).toArray
structure sZ.oh(c:sZ)(w:World):Prop where
 leaf:c.leaf.length=32
 index:-9223372036854775808≤c.index∧c.index≤9223372036854775807
 n:-9223372036854775808≤c.n∧c.n≤9223372036854775807
 path:eM w (Old w) c.A c.len c.path
 le:c.len≤c.cap
 cap:c.cap≤9223372036854775807
end Go.Proofs.YtphjagkehiklkaaGreatDoor.Lt
