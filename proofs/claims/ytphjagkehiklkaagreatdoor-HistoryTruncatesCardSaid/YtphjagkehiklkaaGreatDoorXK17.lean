/- Texts. -/
import Derived.Test.YtphjagkehiklkaaGreatDoorXK16
set_option linter.unusedVariables false
set_option linter.unusedSimpArgs false
set_option maxRecDepth 100000
set_option maxHeartbeats 4000000
namespace Go.Proofs.YtphjagkehiklkaaGreatDoor.Lt
open Go.RowKit
def sd(s:List UInt8):List UInt8:=eJ (ia 0 [s])
def cN(l r:List UInt8):List UInt8:=eJ (ia 1 [l,r])
def re:List UInt8:=eJ (ia 2 [])
theorem mG(s:List UInt8):(sd s).length=32:=gP _
theorem eH(l r:List UInt8):(cN l r).length=32:=gP _
theorem oR:re.length=32:=gP _
theorem BH(tag:UInt8)(k:Nat):(ef tag [] k).length≤1099511627776:=by simp[ef]
theorem BJ(tag:UInt8)(s:ByteArray)(a:s.size<4294967296)(k:Nat):(ef tag [s] k).length≤1099511627776:=by
 have hw:(ej s.size).length=4:=rfl;rcases k with _|k<;>simp[ef,dP,hw]<;>omega
theorem BM(tag:UInt8)(s t:ByteArray)(b:s.size<4294967296)(c:t.size<4294967296)(k:Nat):(ef tag [s,t] k).length≤1099511627776:=by
 have hw:(ej s.size).length=4:=rfl;have a:(ej t.size).length=4:=rfl;rcases k with _|_|k<;>simp[ef,dP,hw,a]<;>omega
theorem Jb(w:World)(cs:List Value)(n:Nat)(a:cs.length=n)(t:TypeId):Rd (w.alloc (.cells cs.toArray t)) (fun k=>k=w.heap.size) 1 (some ⟨w.heap.size,0,none⟩) n cs:=by
 refine⟨by rw[a,Nat.mul_one],fun _=>⟨_,rfl,rfl,fun j u hu=>?_⟩⟩;have:(⟨w.heap.size,0,none⟩:Addr).add j=⟨w.heap.size,j,none⟩:=by rw[Addr.add_mid,Nat.zero_add]
 rw[this,(aq.new w t cs.toArray).cell,bQ];exact hu
theorem ER{w:World}{g:Nat}{t:TypeId}{cs:List Value}(h:aq w g t cs.toArray){n:Nat}(a:cs.length=n):Rd w (fun k=>k=g) 1 (some ⟨g,0,none⟩) n cs:=by
 refine⟨by rw[a,Nat.mul_one],fun _=>⟨_,rfl,rfl,fun j u hu=>?_⟩⟩;rw[Addr.add_mid,Nat.zero_add,h.cell,bQ];exact hu
structure dB(a:Array Value):Prop where
 size:a.size=32
 one:a.all (·.oneCell')=true
theorem dB.of{l:List UInt8}(h:l.length=32):dB (l.map bL).toArray:=⟨by simp[h],lF l⟩
theorem dB.info{a:Array Value}(h:dB a):(Tryz.prog.info? 38).map (·.size)=some a.size:=by rw[h.size];exact eW
theorem dB.K6{a:Array Value}(h:dB a):(Tryz.prog.info? 37).map (·.size)=some a.size:=by rw[h.size];exact EE
theorem dB.zero{a:Array Value}(h:dB a):aE.size=a.size:=by rw[h.size];rfl
theorem wW(s:ByteArray)(w:World)(n:bU w)(q:s.size<4294967296):Calls Tryz.prog 76 #[.string s] w (aK w (aU (sd (eN s)))):=by
 have j:Hid (∀w',bU w'→Calls Tryz.prog 120 #[.int .u8 0, .slice (some ⟨w'.heap.size,0,none⟩) 1 1] (w'.alloc (.cells #[.string s] 9)) (aK (w'.alloc (.cells #[.string s] 9)) (.tuple #[aU (sd (eN s)), .int .i64 0]))):=
  fun w' C=>oJ 0 [s] (some ⟨w'.heap.size,0,none⟩) 1 1 _ _ (C.ao (az.alloc _)) (Jb w' [.string s] 1 rfl 9) (by omega) (BJ 0 s q) (by simpa using q);have v:=af n;have a:=af (dB.of (mG (eN s)));unfold aU at*;generalize((sd (eN s)).map bL).toArray=f at*;clear n;go_enter Tryz.func76,Tryz.ntmps76;go_wp2_with(refine an rfl 38 rfl aZ iJ aE rfl ?_);intro w1 n1;have c:=af n1;clear n1;go_wp2_with fail;refine(j.out _ (v.out.ao c.out.fr)).mono ?_;rintro e w2⟨rfl,f2⟩;have d:Hid (Fr ah w1 w2):=((Fr.refl _ w1).alloc _).trans f2;clear f2 j;go_wp2_with(refine an rfl 38 rfl aZ iJ aE rfl ?_);intro w3 n3;have h:=af n3.aD;have k:Hid (Fr ah w w3):=c.out.fr.trans (d.out.trans n3.fr);have l:=af (c.out.aD.fr (d.out.trans n3.fr) (fun x=>x));have b:Hid (w.heap.size<w2.heap.size):=by have:=d.out.size;have:=c.out.size;simp only[Hid];omega
 clear n3 c d;generalize o:w2.heap.size=g at*;have E:=af o;clear o;go_wp2_with(refine ak rfl 38 (.tmp 3) _ rfl g f rfl rfl _ _ h.out a.out.info a.out.zero a.out.one ?_);intro D b4 f4;have t:=af b4;have u:Hid (Fr ah w D):=k.out.au f4 (fun i B e=>by have m:i=g:=e;have:=b.out;omega);have A:=af (l.out.fr f4 (fun e=>by have m:w.heap.size=g:=e;have:=b.out;omega));clear b4 f4 k l h;go_wp2_with(first|(refine wpList_load_row rfl 38 (.tmp 3) rfl g rfl _ f _ _ t.out Tryz.underlying38 rfl a.out.info ?_)|(refine ak rfl 38 (.tmp 2) _ rfl w.heap.size f rfl rfl _ _ A.out a.out.info a.out.zero a.out.one ?_));intro r b5 f5;have y:=af b5;have z:Hid (Fr ah w r):=u.out.au f5 (fun i B e=>by have m:i=w.heap.size:=e;omega);clear b5 f5;go_wp2;exact bodyPost_ret (results_cell_row (fn:=Tryz.f76) (p:=2) (ty:=38) Tryz.results76 _ r _ 38 f (0,0) _ rfl y.out Tryz.underlying38 rfl a.out.info) rfl ⟨rfl,z.out⟩
theorem Bv(w:World)(n:bU w):Calls Tryz.prog 73 #[] w (aK w (aU re)):=by
 have j:Hid (∀w',bU w'→Calls Tryz.prog 120 #[.int .u8 2, .slice none 0 0] w' (aK w' (.tuple #[aU re, .int .i64 0]))):=
  fun w' A=>oJ 2 [] none 0 0 (fun _=>False) _ A Rd.none_ (by omega) (BH 2) (by simp);have t:=af n;have a:=af (dB.of oR);unfold aU at*;generalize(re.map bL).toArray=f at*;clear n;go_enter Tryz.func73,Tryz.ntmps73;go_wp2_with(refine an rfl 38 rfl aZ iJ aE rfl ?_);intro w1 n1;have c:=af n1;clear n1;go_wp2_with fail;refine(j.out _ (t.out.ao c.out.fr)).mono ?_;rintro e w2⟨rfl,f2⟩;have d:Hid (Fr ah w1 w2):=f2;clear f2 j;go_wp2_with(refine an rfl 38 rfl aZ iJ aE rfl ?_);intro w3 n3;have h:=af n3.aD;have k:Hid (Fr ah w w3):=c.out.fr.trans (d.out.trans n3.fr);have l:=af (c.out.aD.fr (d.out.trans n3.fr) (fun x=>x));have b:Hid (w.heap.size<w2.heap.size):=by have:=d.out.size;have:=c.out.size;simp only[Hid];omega
 clear n3 c d;generalize o:w2.heap.size=g at*;have C:=af o;clear o;go_wp2_with(refine ak rfl 38 (.tmp 1) _ rfl g f rfl rfl _ _ h.out a.out.info a.out.zero a.out.one ?_);intro B b4 f4;have r:=af b4;have s:Hid (Fr ah w B):=k.out.au f4 (fun i z e=>by have m:i=g:=e;have:=b.out;omega);have y:=af (l.out.fr f4 (fun e=>by have m:w.heap.size=g:=e;have:=b.out;omega));clear b4 f4 k l h;go_wp2_with(first|(refine wpList_load_row rfl 38 (.tmp 1) rfl g rfl _ f _ _ r.out Tryz.underlying38 rfl a.out.info ?_)|(refine ak rfl 38 (.tmp 0) _ rfl w.heap.size f rfl rfl _ _ y.out a.out.info a.out.zero a.out.one ?_));intro q b5 f5;have u:=af b5;have v:Hid (Fr ah w q):=s.out.au f5 (fun i z e=>by have m:i=w.heap.size:=e;omega);clear b5 f5;go_wp2;exact bodyPost_ret (results_cell_row (fn:=Tryz.f73) (p:=0) (ty:=38) Tryz.results73 _ q _ 38 f (0,0) _ rfl u.out Tryz.underlying38 rfl a.out.info) rfl ⟨rfl,v.out⟩
end Go.Proofs.YtphjagkehiklkaaGreatDoor.Lt
namespace Go.Proofs.YtphjagkehiklkaaGreatDoor
open Go.RowKit
theorem vM(w:World)(d:Nat)(l r:List UInt8)(a:l.length=32)(b:r.length=32):∀is:List Nat,(∀i∈is,i<32)→
  (Op.eqItems (d+1) 5 1 (l.map bL).toArray (r.map bL).toArray is).run Tryz.prog w= .ok (is.all fun i=>l[i]? ==r[i]?) w
 |[],_=>by simp[Op.eqItems]
 |i::is,h=>by
  have k:i<32:=h i (by simp);have c:(isAgg 5).run Tryz.prog w= .ok false w:=by kernel_rfl
  have p:∀x:List UInt8,x.length=32→(part 5 (x.map bL).toArray (i*1)).run Tryz.prog w= .ok (bL (x[i]?.getD 0)) w:=by
   intro x n;unfold part;rw[Sem.run_bind,c];simp only[Result.andThen_ok,Bool.false_eq_true,if_false,Nat.mul_one,bQ,List.getElem?_map,List.getElem?_eq_getElem (show i<x.length by omega),Option.map_some,Sem.run_pure,Option.getD_some]
  have g:=vM w d l r a b is (fun j f=>h j (by simp[f]));have e:((((l[i]?.getD 0).toNat:Nat):Int)==(((r[i]?.getD 0).toNat:Nat):Int))=(l[i]? ==r[i]?):=by
   rw[List.getElem?_eq_getElem (show i<l.length by omega),List.getElem?_eq_getElem (show i<r.length by omega),Bool.eq_iff_iff];simp[←UInt8.toNat_inj];omega
  have q:(Op.equalIn (d+1) 5 (bL (l[i]?.getD 0)) (bL (r[i]?.getD 0))).run Tryz.prog w= .ok (l[i]? ==r[i]?) w:=by
   rw[←e];exact run_equalIn_int w d 5 .u8 .u8 _ _ Tryz.underlying5
  simp only[Op.eqItems,Sem.run_bind,p l a,p r b,q,Result.andThen_ok,List.all_cons];cases m:(l[i]? ==r[i]?);·simp
  ·simpa using g
theorem Fq(l r:List UInt8)(b:l.length=32)(c:r.length=32):((List.range 32).all fun i=>l[i]? ==r[i]?)=decide (l=r):=by
 rw[Bool.eq_iff_iff];simp only[List.all_eq_true,List.mem_range,beq_iff_eq,decide_eq_true_eq];constructor
 ·intro h;apply List.ext_getElem?;intro i;rcases Nat.lt_or_ge i 32 with a|a;·exact h i a
  ·rw[List.getElem?_eq_none (by omega),List.getElem?_eq_none (by omega)]
 ·rintro rfl _ _;rfl
theorem JX:(Tryz.prog.info? 5).isSome=true:=by kernel_rfl
theorem zK:Tryz.prog.cellsOf 5=1:=by kernel_rfl
theorem vL(w:World)(t:TypeId)(hu:Tryz.prog.underlying t=some (.array 32 5))(l r:List UInt8)(b:l.length=32)(c:r.length=32):
  (Op.equalIn 10000 t (aU l) (aU r)).run Tryz.prog w= .ok (decide (l=r)) w:=by
 obtain⟨i,a⟩:=Option.isSome_iff_exists.1 JX;unfold aU;rw[run_equalIn_array w 9999 _ _ hu a,zK,vM w 9998 l r b c _ (fun i a=>List.mem_range.1 a),Fq l r b c]
theorem Jg(w:World)(t:TypeId)(hu:Tryz.prog.underlying t=some (.array 32 5))(l r:List UInt8)(a:l.length=32)(b:r.length=32):
  (binOp .neq t (aU l) (aU r)).run Tryz.prog w= .ok (.bool (!decide (l=r))) w:=by
 have:=vL w t hu l r a b;unfold aU at*;rw[run_neq_struct,this];rfl
end Go.Proofs.YtphjagkehiklkaaGreatDoor
namespace Go.Proofs.YtphjagkehiklkaaGreatDoor.Lt
open Go.RowKit
structure ev(w w':World)(g0 g1 g2:Nat)(l r:List UInt8):Prop where
 fr:Fr ah w w'
 b0:aq w' g0 38 (l.map bL).toArray
 b1:aq w' g1 38 (r.map bL).toArray
 b2:aq w' g2 38 aE
theorem ev.drew{w w':World}{g0 g1 g2:Nat}{l r:List UInt8}(h:ev w w' g0 g1 g2 l r):ev w w'.drew g0 g1 g2 l r:=⟨h.fr.drew,h.b0.drew,h.b1.drew,h.b2.drew⟩
theorem ev.later{w w' a:World}{g0 g1 g2:Nat}{l r:List UInt8}(h:ev w w' g0 g1 g2 l r)(b:Fr ah w' a):ev w a g0 g1 g2 l r:=⟨h.fr.trans b,h.b0.fr b (fun x=>x),h.b1.fr b (fun x=>x),h.b2.fr b (fun x=>x)⟩
theorem ev.alloc{w w':World}{g0 g1 g2:Nat}{l r:List UInt8}(h:ev w w' g0 g1 g2 l r)(a:Obj):ev w (w'.alloc a) g0 g1 g2 l r:=h.later (az.alloc a)
theorem ev.store{w w':World}{g0 g1 g2 g:Nat}{l r:List UInt8}(h:ev w w' g0 g1 g2 l r)(d:w.heap.size≤g∧g0<g∧g1<g∧g2<g)(c:List Value):ev w (w'.setCells g 0 c) g0 g1 g2 l r:=by
 have a:Fr (fun k=>k=g) w' (w'.setCells g 0 c):=Fr.setCells (T:=fun k=>k=g) (fun _=>rfl) _ _ _ az;exact⟨h.fr.au a (fun i f e=>by have b:i=g:=e;omega),h.b0.fr a (fun e=>by have b:g0=g:=e;omega),h.b1.fr a (fun e=>by have b:g1=g:=e;omega),h.b2.fr a (fun e=>by have b:g2=g:=e;omega)⟩
theorem ev.all{w w':World}{g0 g1 g2:Nat}{l r:List UInt8}(h:ev w w' g0 g1 g2 l r)(a:l.length=32)(b:r.length=32):ev w w' g0 g1 g2 l r∧
  (convert 61 9 (.slice (some ⟨g0,0,none⟩) 32 32)).run Tryz.prog w'= .ok (.string ⟨l.toArray⟩) w'∧(convert 61 9 (.slice (some ⟨g1,0,none⟩) 32 32)).run Tryz.prog w'= .ok (.string ⟨r.toArray⟩) w':=
 ⟨h,vN (P:=Tryz.prog) w' 61 9 5 Tryz.underlying61 Tryz.underlying5 Tryz.underlying9 _ _ 32 32 l (ER h.b0 (by rw[List.length_map,a])),
  vN (P:=Tryz.prog) w' 61 9 5 Tryz.underlying61 Tryz.underlying5 Tryz.underlying9 _ _ 32 32 r (ER h.b1 (by rw[List.length_map,b]))⟩
theorem xH{w w':World}{g n:Nat}(h:w.there g 0 n)(a:Fr ah w w'):w'.there g 0 n:=fun j e=>by
 obtain⟨b,c⟩:=h j e;obtain⟨u,hu⟩:=Option.isSome_iff_exists.1 b;have d:=World.block_lt_of_cell? w _ hu;exact⟨by rw[a.aj hu (fun x=>x)];rfl,by rw[a.frozen d (fun x=>x)];exact c⟩
theorem Kd{w:World}{b:Nat}{s t:Value}(a:w.cell? ⟨b,0,none⟩=some s)(c:w.cell? ⟨b,1,none⟩=some t):Rd w (fun k=>k=b) 1 (some ⟨b,0,none⟩) 2 [s,t]:=by
 refine⟨rfl,fun _=>⟨_,rfl,rfl,fun j u hu=>?_⟩⟩;rw[Addr.add_mid,Nat.zero_add];rcases j with _|_|j;·cases hu;exact a
 ·cases hu;exact c
 ·cases hu
theorem lj(l r:List UInt8)(m:l.length=32)(n:r.length=32)(w:World)(A:bU w):Calls Tryz.prog 122 #[aU l,aU r] w (aK w (aU (cN l r))):=by
 have el:eN ⟨l.toArray⟩=l:=by simp[eN]
 have y:eN ⟨r.toArray⟩=r:=by simp[eN]
 have G:Hid (∀(W:World)(b:Nat),bU W→W.cell? ⟨b,0,none⟩=some (.string ⟨l.toArray⟩)→W.cell? ⟨b,1,none⟩=some (.string ⟨r.toArray⟩)→Calls Tryz.prog 120 #[.int .u8 1, .slice (some ⟨b,0,none⟩) 2 2] W (aK W (.tuple #[aU (cN l r), .int .i64 0]))):=by
  intro W b Q N O;have h:=oJ 1 [⟨l.toArray⟩,⟨r.toArray⟩] (some ⟨b,0,none⟩) 2 2 _ W Q (Kd N O) (by omega) (BM 1 _ _ (by rw[ByteArray.size,List.size_toArray,m];omega) (by rw[ByteArray.size,List.size_toArray,n];omega)) (by
   intro p C;simp only[List.mem_cons,List.not_mem_nil,or_false]at C;rcases C with rfl|rfl<;>simp only[ByteArray.size,List.size_toArray,m,n]<;>omega);simp only[List.map_cons,List.map_nil,el,y]at h;exact h
 have J:=af A;have j:=af (dB.of (eH l r));have H:=af m;have I:=af n;have hlen:((cN l r).map bL).length=32:=by rw[List.length_map,eH]
 have B:∀v∈(cN l r).map bL,v.oneCell'=true:=iP _;unfold aU at*;generalize(cN l r).map bL=d at*;have i24:(Tryz.prog.info? 38).map (·.size)=some d.length:=by rw[hlen];exact eW
 clear A m n el y;go_enter Tryz.func122,Tryz.ntmps122;go_wp2_with(refine aB rfl 38 (.tmp 0) rfl _ rfl ?_);intro w1 n1;have k:=af n1;clear n1;go_wp2_with(refine aB rfl 38 (.tmp 1) rfl _ rfl ?_);intro w2 D;have a:=af D;clear D;go_wp2_with(refine an rfl 38 rfl aZ iJ aE rfl ?_);intro w3 n3;have c:=af n3;clear n3;have NS:ev w w3 w.heap.size w1.heap.size w2.heap.size l r:=⟨k.out.fr.trans (a.out.fr.trans c.out.fr),(k.out.aD.fr a.out.fr (fun x=>x)).fr c.out.fr (fun x=>x),a.out.aD.fr c.out.fr (fun x=>x),c.out.aD⟩;have z0:w.heap.size≤w3.heap.size:=NS.fr.size;have z1:w.heap.size<w3.heap.size:=NS.b0.lt;have z2:w1.heap.size<w3.heap.size:=NS.b1.lt;have z3:w2.heap.size<w3.heap.size:=NS.b2.lt;have K:Hid (w.heap.size≤w2.heap.size):=(k.out.fr.trans a.out.fr).size;clear k a c;generalize f:w.heap.size=g0 at*;generalize w1.heap.size=g1 at*;generalize w2.heap.size=g2 at*;have t:=af f;clear f;have Y:w.heap.size≤w3.heap.size:=NS.fr.size;go_upto_region 1 with fail;go_cut[4,5](fun S T E=>∃g,S= .pointer (some ⟨g2,0,none⟩)∧T= .pointer (some ⟨g,0,none⟩)∧E.rangeAt g 0 d∧ev w E g0 g1 g2 l r);case first=>
  have s:Hid (((w3.alloc (.cells #[.string ⟨l.toArray⟩, .string ⟨r.toArray⟩] 9)).alloc (.cells #[.int .u8 0, .int .u8 0, .int .u8 0, .int .u8 0, .int .u8 0, .int .u8 0, .int .u8 0, .int .u8 0, .int .u8 0, .int .u8 0, .int .u8 0, .int .u8 0, .int .u8 0, .int .u8 0, .int .u8 0, .int .u8 0, .int .u8 0, .int .u8 0, .int .u8 0, .int .u8 0, .int .u8 0, .int .u8 0, .int .u8 0, .int .u8 0, .int .u8 0, .int .u8 0, .int .u8 0, .int .u8 0, .int .u8 0, .int .u8 0, .int .u8 0, .int .u8 0] 38)).drew.there (w3.heap.size+1) 0 32):=by
   have h:=aq.new (w3.alloc (.cells #[.string ⟨l.toArray⟩, .string ⟨r.toArray⟩] 9)) 38 #[.int .u8 0, .int .u8 0, .int .u8 0, .int .u8 0, .int .u8 0, .int .u8 0, .int .u8 0, .int .u8 0, .int .u8 0, .int .u8 0, .int .u8 0, .int .u8 0, .int .u8 0, .int .u8 0, .int .u8 0, .int .u8 0, .int .u8 0, .int .u8 0, .int .u8 0, .int .u8 0, .int .u8 0, .int .u8 0, .int .u8 0, .int .u8 0, .int .u8 0, .int .u8 0, .int .u8 0, .int .u8 0, .int .u8 0, .int .u8 0, .int .u8 0, .int .u8 0];rw[show(w3.alloc (.cells #[.string ⟨l.toArray⟩, .string ⟨r.toArray⟩] 9)).heap.size=w3.heap.size+1 by simp]at h;exact lY h.drew rfl
  have q:Hid (((w3.alloc (.cells #[.int .u8 0, .int .u8 0, .int .u8 0, .int .u8 0, .int .u8 0, .int .u8 0, .int .u8 0, .int .u8 0, .int .u8 0, .int .u8 0, .int .u8 0, .int .u8 0, .int .u8 0, .int .u8 0, .int .u8 0, .int .u8 0, .int .u8 0, .int .u8 0, .int .u8 0, .int .u8 0, .int .u8 0, .int .u8 0, .int .u8 0, .int .u8 0, .int .u8 0, .int .u8 0, .int .u8 0, .int .u8 0, .int .u8 0, .int .u8 0, .int .u8 0, .int .u8 0] 38)).alloc (.cells #[.string ⟨l.toArray⟩, .string ⟨r.toArray⟩] 9)).drew.there w3.heap.size 0 32):=lY ((aq.new w3 38 #[.int .u8 0, .int .u8 0, .int .u8 0, .int .u8 0, .int .u8 0, .int .u8 0, .int .u8 0, .int .u8 0, .int .u8 0, .int .u8 0, .int .u8 0, .int .u8 0, .int .u8 0, .int .u8 0, .int .u8 0, .int .u8 0, .int .u8 0, .int .u8 0, .int .u8 0, .int .u8 0, .int .u8 0, .int .u8 0, .int .u8 0, .int .u8 0, .int .u8 0, .int .u8 0, .int .u8 0, .int .u8 0, .int .u8 0, .int .u8 0, .int .u8 0, .int .u8 0]).alloc _).drew rfl;go_region_held3(fun w'=>ev w w' g0 g1 g2 l r∧(convert 61 9 (.slice (some ⟨g0,0,none⟩) 32 32)).run Tryz.prog w'= .ok (.string ⟨l.toArray⟩) w'∧(convert 61 9 (.slice (some ⟨g1,0,none⟩) 32 32)).run Tryz.prog w'= .ok (.string ⟨r.toArray⟩) w')((go_split_ands;refine ev.all ?_ H.out I.out;first|assumption|exact ev.drew (by assumption)|exact ev.later (by assumption) (by assumption)|exact ev.store (by assumption) ⟨by omega,by omega,by omega,by omega⟩ _|exact ev.alloc (by assumption) _|exact(ev.alloc (by assumption) _).alloc _|exact(ev.drew (by assumption)).alloc _|exact((ev.drew (by assumption)).alloc _).alloc _))((first|(go_at_call 120;go_split_ands;refine(G.out _ _ (J.out.ao (ev.fr (by assumption))) (by simp) (by simp)).mono ?_;rintro e o⟨rfl,f4⟩;have R:w3.heap.size≤o.heap.size:=Nat.le_trans (by first|(simp;done)|(simp;omega)) f4.size;have t4:(o.alloc (.cells #[.int .u8 0, .int .u8 0, .int .u8 0, .int .u8 0, .int .u8 0, .int .u8 0, .int .u8 0, .int .u8 0, .int .u8 0, .int .u8 0, .int .u8 0, .int .u8 0, .int .u8 0, .int .u8 0, .int .u8 0, .int .u8 0, .int .u8 0, .int .u8 0, .int .u8 0, .int .u8 0, .int .u8 0, .int .u8 0, .int .u8 0, .int .u8 0, .int .u8 0, .int .u8 0, .int .u8 0, .int .u8 0, .int .u8 0, .int .u8 0, .int .u8 0, .int .u8 0] 38)).there o.heap.size 0 32:=lY (aq.new o 38 #[.int .u8 0, .int .u8 0, .int .u8 0, .int .u8 0, .int .u8 0, .int .u8 0, .int .u8 0, .int .u8 0, .int .u8 0, .int .u8 0, .int .u8 0, .int .u8 0, .int .u8 0, .int .u8 0, .int .u8 0, .int .u8 0, .int .u8 0, .int .u8 0, .int .u8 0, .int .u8 0, .int .u8 0, .int .u8 0, .int .u8 0, .int .u8 0, .int .u8 0, .int .u8 0, .int .u8 0, .int .u8 0, .int .u8 0, .int .u8 0, .int .u8 0, .int .u8 0]) rfl;first|(have U:=xH s.out (by with_reducible exact f4))|(have U:=xH q.out (by with_reducible exact f4))|skip)));all_goals
   go_split_ands;go_wp2_with fail;go_meet;exact⟨_,rfl,rfl,World.rangeAt_setCells_same _ _ _ _ (by rw[hlen];assumption),by assumption⟩
 case rest=>
  obtain⟨g,rfl,rfl,P,z⟩:=hcut;have KN:=af z;have u:Hid (w.heap.size≤g2):=by have:=K.out;have:=t.out;simp only[Hid];omega
  have ty:=Tryz.underlying38;clear NS z z0 z1 z2 z3;go_wp2_with(first|(refine wpList_load_mid rfl 38 (.tmp 5) rfl g 0 rfl d _ P ty rfl i24 ?_)|(refine ak rfl 38 (.tmp 4) _ rfl g2 d.toArray rfl rfl _ _ KN.out.b2 j.out.info j.out.zero j.out.one ?_));intro F b7 f7;have L:=af b7;have M:Hid (Fr ah w F):=KN.out.fr.au f7 (fun i X e=>by have V:i=g2:=e;have:=u.out;omega);clear b7 f7;go_wp2;exact bodyPost_ret (results_cell_row (fn:=Tryz.f122) (p:=4) (ty:=38) Tryz.results122 _ F _ 38 d.toArray (0,0) _ rfl L.out Tryz.underlying38 rfl j.out.info) rfl ⟨rfl,M.out⟩
structure kC(w w':World)(g0 g1:Nat)(a b:List Value):Prop where
 fr:Fr ah w w'
 b0:aq w' g0 37 a.toArray
 b1:aq w' g1 37 b.toArray
theorem kC.drew{w w':World}{g0 g1:Nat}{l r:List Value}(h:kC w w' g0 g1 l r):kC w w'.drew g0 g1 l r:=⟨h.fr.drew,h.b0.drew,h.b1.drew⟩
theorem kC.later{w w' a:World}{g0 g1:Nat}{l r:List Value}(h:kC w w' g0 g1 l r)(b:Fr ah w' a):kC w a g0 g1 l r:=⟨h.fr.trans b,h.b0.fr b (fun x=>x),h.b1.fr b (fun x=>x)⟩
theorem kC.alloc{w w':World}{g0 g1:Nat}{l r:List Value}(h:kC w w' g0 g1 l r)(a:Obj):kC w (w'.alloc a) g0 g1 l r:=h.later (az.alloc a)
theorem dx{w:World}{g:Nat}{t:TypeId}{cs:List Value}(h:aq w g t cs.toArray):w.rangeAt g 0 cs:=fun j v a=>by
 rw[Nat.zero_add,h.cell,bQ];exact a
theorem kC.all{w w':World}{g0 g1:Nat}{l r:List Value}(h:kC w w' g0 g1 l r):kC w w' g0 g1 l r∧w'.rangeAt g0 0 l∧w'.rangeAt g1 0 r:=⟨h,dx h.b0,dx h.b1⟩
def aN(n:Nat):Nat:=2^(Lib.bitLen (n-1)-1)
theorem dz(n:Nat)(h:2≤n)(e:n≤1099511627776):aN n<n∧n≤2*aN n∧1≤aN n:=by
 obtain⟨d,b,c⟩:=Lib.bitLenAux_bounds 64 (n-1) (by omega) (by omega);obtain⟨m,hm⟩:∃m,Lib.bitLen (n-1)=m+1:=⟨Lib.bitLenAux 64 (n-1)-1,by unfold Lib.bitLen;omega⟩;have a:Lib.bitLenAux 64 (n-1)=m+1:=hm;unfold aN;rw[a]at d b c;rw[hm];rw[Nat.pow_succ]at c;have:1≤2^m:=Nat.one_le_two_pow;simp only[Nat.add_sub_cancel]at b⊢;omega
theorem pow_one(n i j:Nat)(a:2^i<n)(b:n≤2*2^i)(c:2^j<n)(d:n≤2*2^j):2^i=2^j:=by
 rcases Nat.lt_trichotomy i j with h|h|h;·have:2^(i+1)≤2^j:=Nat.pow_le_pow_right (by omega) h;rw[Nat.pow_succ]at this;omega
 ·rw[h]
 ·have:2^(j+1)≤2^i:=Nat.pow_le_pow_right (by omega) h;rw[Nat.pow_succ]at this;omega
theorem xv(n j:Nat)(f:n≤1099511627776)(d:2^j<n)(e:n≤2*2^j):2^j=aN n:=by
 have:1≤2^j:=Nat.one_le_two_pow;obtain⟨a,b,c⟩:=dz n (by omega) f;exact pow_one n j _ d e a b
theorem mH(n:Nat)(w:World)(k:2≤n)(q:n≤1099511627776):Calls Tryz.prog 121 #[.int .i64 n] w fun e w'=>e= .returned (.int .i64 (aN n:Nat))∧w=w':=by
 obtain⟨a,b,c⟩:=dz n k q;obtain⟨m,hm⟩:∃m,m=n-1:=⟨_,rfl⟩;have l:1≤Lib.bitLen m:=(Lib.bitLenAux_bounds 64 m (by omega) (by omega)).1;have o:Lib.bitLen m≤64:=Lib.bitLen_le m 64 (by omega) (by omega);have d:Hid (aN n=2^(Lib.bitLen m-1)):=by rw[hm];rfl
 obtain⟨x,h⟩:∃x,x=Lib.bitLen m-1:=⟨_,rfl⟩;rw[←h]at d;have r:((Lib.bitLen m:Nat):Int)-1=(x:Int):=by omega
 have i:(x:Int)≤64:=by omega
 have p:(n:Int)-1=(m:Int):=by omega
 have j:Hid (∀w,Calls Tryz.prog 150 #[.int .u64 (m:Int)] w fun e w'=>e= .returned (.int .i64 (Lib.bitLen m:Nat))∧w'=w):=fun w=>Tryz.bits_Len (m:Int) w (by omega) (by omega);have f:IntKind.i64.wrap (1*2^x)=((aN n:Nat):Int):=by
  rw[d.out,Int.one_mul];have:(2:Int)^x=((2^x:Nat):Int):=by simp
  rw[this];refine IntWalk.i64_in _ ?_;rw[←d.out];omega
 have g:IntKind.i64.wrap (2^x)=((aN n:Nat):Int):=by rw[←f,Int.one_mul]
 clear h a b c;generalize Lib.bitLen m=B at*;generalize aN n=t at*;have s:=af hm;clear hm;go_enter Tryz.func121,Tryz.ntmps121;go_wp2_with fail;refine(j.out _).mono ?_;rintro e w'⟨rfl,rfl⟩;go_wp2;go_ret;exact⟨rfl,rfl⟩
def cR(ds:List (List UInt8)):List UInt8:=
 if a:1≤aN ds.length∧aN ds.length<ds.length then cN (cR (ds.take (aN ds.length))) (cR (ds.drop (aN ds.length)))else ds.headD []
termination_by ds.length
decreasing_by
 ·simp only[List.length_take];omega
 ·simp only[List.length_drop];omega
theorem qD(d:List UInt8):cR [d]=d:=by
 rw[cR,dif_neg (by simp;omega)];rfl
theorem mz(ds:List (List UInt8))(n:Nat)(b:ds.length=n)(d:2≤n)(e:n≤1099511627776):cR ds=cN (cR (ds.take (aN n))) (cR (ds.drop (aN n))):=by
 obtain⟨a,_,c⟩:=dz n d e;rw[cR,dif_pos (by rw[b];exact⟨c,a⟩),b]
theorem fV(n:Nat):∀ds:List (List UInt8),ds.length=n→1≤n→n≤1099511627776→(∀d∈ds,d.length=32)→(cR ds).length=32:=by
 intro ds a f e b;by_cases c:2≤n;·rw[mz ds n a c e];exact eH _ _
 ·match ds,a,b with
  |[d],_,b=>rw[qD];exact b d (by simp)
  |[],a,_=>simp at a;omega
  |_::_::_,a,_=>simp at a;omega
def aA(d:List UInt8):List Value:=d.map bL
structure fL(w:World)(S:Nat→Prop)(A:Option Addr)(n:Nat)(ds:List (List UInt8)):Prop where
 rd:Rd w S 32 A n (ds.flatMap aA)
 len:ds.length=n
 each:∀d∈ds,d.length=32
theorem fL.ao{w w':World}{S:Nat→Prop}{A:Option Addr}{n:Nat}{ds:List (List UInt8)}(h:fL w S A n ds)(a:Fr ah w w'):fL w' S A n ds:=⟨h.rd.ao a,h.len,h.each⟩
theorem fL.fr{w w':World}{S T:Nat→Prop}{A:Option Addr}{n:Nat}{ds:List (List UInt8)}(h:fL w S A n ds)(b:Fr T w w')(a:∀k,S k→¬T k):fL w' S A n ds:=⟨h.rd.fr b a,h.len,h.each⟩
theorem nJ(ds:List (List UInt8))(h:∀d∈ds,d.length=32):∀k,(ds.flatMap aA).take (k*32)=(ds.take k).flatMap aA:=by
 induction ds with
 |nil=>simp
 |cons d r b=>
  intro k;rcases k with _|k;·simp
  ·have c:(aA d).length=32:=by rw[aA,List.length_map];exact h d (by simp)
   rw[List.flatMap_cons,List.take_succ_cons,List.flatMap_cons,show(k+1)*32=(aA d).length+k*32 by omega,List.take_length_add_append,b (fun x a=>h x (by simp[a]))]
theorem lM(ds:List (List UInt8))(h:∀d∈ds,d.length=32):∀k,(ds.flatMap aA).drop (k*32)=(ds.drop k).flatMap aA:=by
 induction ds with
 |nil=>simp
 |cons d r b=>
  intro k;rcases k with _|k;·simp
  ·have c:(aA d).length=32:=by rw[aA,List.length_map];exact h d (by simp)
   rw[List.flatMap_cons,List.drop_succ_cons,show(k+1)*32=(aA d).length+k*32 by omega,List.drop_length_add_append,b (fun x a=>h x (by simp[a]))]
theorem fL.take{w:World}{S:Nat→Prop}{A:Option Addr}{n k:Nat}{ds:List (List UInt8)}(h:fL w S A n ds)(b:k≤n):fL w S A k (ds.take k):=by
 have:=h.rd.take b;rw[nJ ds h.each]at this;exact⟨this,by rw[List.length_take,h.len];omega,fun d a=>h.each d (List.mem_of_mem_take a)⟩
theorem fL.cut{w:World}{S:Nat→Prop}{A:Option Addr}{n k cap:Nat}{ds:List (List UInt8)}(h:fL w S A n ds)(c:k≤n)(a:n≤cap):fL w S (if cap=k then A else A.map (·.add (k*32))) (n-k) (ds.drop k):=by
 have:=h.rd.cut c a;rw[lM ds h.each]at this;exact⟨this,by rw[List.length_drop,h.len],fun d b=>h.each d (List.mem_of_mem_drop b)⟩
theorem fL.at_{w:World}{S:Nat→Prop}{A:Option Addr}{n k:Nat}{ds:List (List UInt8)}(h:fL w S A n ds)(o:k<n):∃f d,A=some f∧S f.block∧ds[k]? =some d∧d.length=32∧∀j v,(aA d)[j]? =some v→w.cell? ((f.add (k*32)).add j)=some v:=by
 obtain⟨f,e,i,l⟩:=h.rd.2 (by omega);have c:k<ds.length:=by rw[h.len];exact o
 have a:ds[k].length=32:=h.each _ (List.getElem_mem c);refine⟨f,ds[k],e,i,List.getElem?_eq_getElem c,a,fun j v g=>?_⟩;rw[iq];refine l _ v ?_;have m:j<32:=by have:=(List.getElem?_eq_some_iff.1 g).1;rw[aA,List.length_map,a]at this;exact this
 have b:(ds.flatMap aA).drop (k*32)=aA ds[k]++(ds.drop (k+1)).flatMap aA:=by
  rw[lM ds h.each,List.drop_eq_getElem_cons c,List.flatMap_cons]
 rw[←List.getElem?_drop,b,List.getElem?_append_left (by rw[aA,List.length_map,a];exact m)];exact g
theorem j4{P:Program}(w:World)(b:Addr)(ty:TypeId)(cs:List Value)(d:TypeDesc)(f:∀j v,cs[j]? =some v→w.cell? (b.add j)=some v)
  (hu:P.underlying ty=some d)(k:d.isRow=true)(e:(P.info? ty).map (·.size)=some cs.length):(loadVar ty b).run P w= .ok (.agg cs.toArray) w:=by
 have g:(loadCells b cs.length).run P w= .ok cs.toArray w:=run_loadCells_list (P:=P) w b cs f;cases c:P.info? ty with
 |none=>simp[c]at e
 |some i=>
  have h:i.size=cs.length:=by simpa[c]using e
  have a:(isAgg ty).run P w= .ok true w:=by
   unfold isAgg;rw[Sem.run_bind,run_underlying hu w];cases d<;>simp_all
  simp[loadVar,Sem.run_bind,a,sizeOf,typeInfo,c,h,g]
theorem aw{P:Program}{op:Oper}{a:Act}{w:World}{K:Act→World→Prop}{Q:Exit→Act→World→Prop}(ty:TypeId)(x:Operand)(g:op.op= .load ty x)
  (b:Addr)(i:a.eval x= .pointer (some b))(cs:List Value)(d:TypeDesc)(c:∀j v,cs[j]? =some v→w.cell? (b.add j)=some v)
  (hu:P.underlying ty=some d)(e:d.isRow=true)(f:(P.info? ty).map (·.size)=some cs.length)
  (h:K (a.put op.dst (.agg cs.toArray)) w):op.wp P a w K Q:=by
 unfold Oper.wp execOp;simp only[g,i,Instr.loadAt,Instr.sureAddr,Sem.run_bind,Sem.run_pure,Result.andThen_ok,j4 w b ty cs d c hu e f];exact h
theorem aC{P:Program}{ops:Array Oper}{rest:List Oper}{op:Oper}{a:Act}{w:World}{Q:Exit→Act→World→Prop}(c:op.guard=none)(ty:TypeId)(x:Operand)(k:op.op= .load ty x)
  (b:Addr)(l:a.eval x= .pointer (some b))(cs:List Value)(d:TypeDesc)(f:∀j v,cs[j]? =some v→w.cell? (b.add j)=some v)
  (hu:P.underlying ty=some d)(g:d.isRow=true)(i:(P.info? ty).map (·.size)=some cs.length)
  (h:wpList P ops Q rest (a.put op.dst (.agg cs.toArray)) w):wpList P ops Q (op::rest) a w:=
 wpList_plain c fun _ e=>aw ty x k b l cs d f hu g i (e _ _ h)
def gz(ds:List (List UInt8)):List UInt8:=if ds=[]then re else cR ds
def aR(p:Prop):Prop:=p
theorem aR.go{p:Prop}(h:aR p):p:=h
theorem rm:(Tryz.prog.info? 38).map (fun i=>(i.zero,i.size,i.bytes))=some (some aZ,32,32):=by kernel_rfl
theorem foldl_set:∀(l:List Value)(k off:Nat)(b:List Value),off+k+l.length≤b.length→(l.zipIdx k).foldl (fun cs x=>cs.setIfInBounds (off+x.2) x.1) b.toArray=(b.take (off+k)++l++b.drop (off+k+l.length)).toArray
 |[],k,off,b,_=>by simp
 |c::r,k,off,b,h=>by
  simp only[List.length_cons]at h;rw[List.zipIdx_cons,List.foldl_cons,List.setIfInBounds_toArray,foldl_set r (k+1) off (b.set (off+k) c) (by rw[List.length_set];omega)];congr 1;have a:(b.set (off+k) c).take (off+(k+1))=b.take (off+k)++[c]:=by
   rw[List.take_set,show off+(k+1)=(off+k)+1 by omega,List.take_succ_eq_append_getElem (by omega:off+k<b.length),List.set_append_right _ _ (by simp;omega)];simp;rw[show off+k-min (off+k) b.length=0 by omega];rfl
  have d:(b.set (off+k) c).drop (off+(k+1)+r.length)=b.drop (off+k+(c::r).length):=by
   rw[List.drop_set_of_lt (by omega)];congr 1;simp only[List.length_cons];omega
  rw[a,d];simp
theorem ln(cs b:Array Value)(off:Nat)(h:off+cs.size≤b.size):cs.zipIdx.foldl (fun cs(x:Value×Nat)=>cs.setIfInBounds (off+x.2) x.1) b=(b.toList.take off++cs.toList++b.toList.drop (off+cs.size)).toArray:=by
 rw[←Array.foldl_toList,Array.toList_zipIdx];have:=foldl_set cs.toList 0 off b.toList (by simpa using h);simpa using this
theorem rX(cs b:Array Value)(d:cs.size=32)(c:b.size=32):Instr.fill (fun i=>some (i*32,32)) b [(0, .agg cs)]=some cs:=by
 have a:=ln cs b 0 (by omega);simp only[Instr.fill,Value.cells,d,c,Nat.zero_mul,Nat.zero_add,ne_eq,not_true_eq_false,decide_false,Bool.false_or,gt_iff_lt,Nat.lt_irrefl,Bool.false_eq_true,if_false];simp only[Nat.zero_add,List.take_zero,List.nil_append,d]at a;rw[List.drop_of_length_le (by simp[c]),List.append_nil]at a;rw[a]
def oF(w:World)(n:Nat)(ds:List (List UInt8))(e:Ending)(w':World):Prop:=∃v,e= .returned v∧bO 38 32 w (.slice none 0 0) w' v n (ds.flatMap aA)
def KM(w:World)(e:Ending)(w':World):Prop:=e= .returned (.pointer (some ⟨w.heap.size,0,none⟩))∧w'=w.alloc (.cells #[.slice none 0 0, .map none] 180)
theorem qO(w:World):Calls Tryz.prog 83 #[] w (KM w):=by
 go_enter Tryz.func83,Tryz.ntmps83;go_wp2;go_ret;exact⟨rfl,rfl⟩
structure Jw(w w':World):Prop where
 map:w'.heap[w.heap.size]? =some (.map #[] 0)
 fr:Fr ah w w'
 size:w'.heap.size=w.heap.size+1
theorem tG{P:Program}{ops:Array Oper}{rest:List Oper}{e:Oper}{a:Act}{w:World}{Q:Exit→Act→World→Prop}(c:e.guard=none)(t:TypeId)(d:e.op= .makeMap t none)
  (h:∀w',Jw w w'→wpList P ops Q rest (a.put e.dst (.map (some w.heap.size))) w'):wpList P ops Q (e::rest) a w:=by
 refine wpList_plain c fun K b=>?_;have mk:(Instr.makeMap t none).run P w= .ok (.map (some w.heap.size)) (w.alloc (.map #[] 0)):=by simp[Instr.makeMap]
 unfold Oper.wp execOp;simp only[d,Option.map_none,Sem.run_bind,mk,Sem.run_pure,Result.andThen_ok];exact b _ _ (h _ ⟨heap_alloc_new w _,az.alloc _,by simp⟩)
theorem dA{P:Program}{ops:Array Oper}{rest:List Oper}{op:Oper}{a:Act}{w:World}{Q:Exit→Act→World→Prop}(b:op.guard=none)(ty:TypeId)(x:Operand)(i:op.op= .load ty x)
  (g:Nat)(l:a.eval x= .pointer (some ⟨g,0,none⟩))(t:TypeId)(cs:List Value)(c:aq w g t cs.toArray)(d:TypeDesc)
  (hu:P.underlying ty=some d)(e:d.isRow=true)(f:(P.info? ty).map (·.size)=some cs.length)
  (h:wpList P ops Q rest (a.put op.dst (.agg cs.toArray)) w):wpList P ops Q (op::rest) a w:=
 aC b ty x i ⟨g,0,none⟩ l cs d (fun j v k=>by rw[Addr.add_mid,Nat.zero_add,c.cell,bQ];exact k) hu e f h
theorem Gg(a e b:Array Value)(c:a.size=32)(g:e.size=32)(f:b.size=64):Instr.fill (fun i=>some (i*32,32)) b [(0, .agg a),(1, .agg e)]=some (a.toList++e.toList).toArray:=by
 have h:=ln a b 0 (by omega);simp only[Nat.zero_add,List.take_zero,List.nil_append,c]at h;have l:(a.toList++b.toList.drop 32).toArray.size=64:=by simp[c,f]
 have d:=ln e (a.toList++b.toList.drop 32).toArray 32 (by omega);have j:(a.toList++b.toList.drop 32).take 32=a.toList:=by rw[List.take_append_of_le_length (by simp[c]),List.take_of_length_le (by simp[c])]
 have k:(a.toList++b.toList.drop 32).drop (32+32)=[]:=List.drop_of_length_le (by simp[c,f]);simp only[g,j,k,List.append_nil]at d;simp only[Instr.fill,Value.cells,c,g,f,Nat.zero_mul,Nat.zero_add,Nat.one_mul,ne_eq,not_true_eq_false,decide_false,Bool.false_or,gt_iff_lt,Nat.lt_irrefl,Bool.false_eq_true,if_false,Nat.reduceAdd,Nat.reduceLT,h,l,d]
theorem fL.Ax{w w':World}{v:Value}{n:Nat}{ds:List (List UInt8)}(h:bO 38 32 w (.slice none 0 0) w' v n (ds.flatMap aA))(i:ds.length=n)(he:∀d∈ds,d.length=32):
  ∃A c,v= .slice A n c∧fL w' (nk v) A n ds∧n≤c∧c≤9223372036854775807∧Fr ah w w':=by
 obtain⟨A,c,rfl,f⟩:=qz h.own;refine⟨A,c,rfl,⟨Rd.gO h.own,i,he⟩,f,?_,h.ao⟩;rcases h.own.2 with⟨b,_⟩|⟨g,cap,cur,b,_,_,_,a,_⟩;·injection b with _ _ e;omega
 ·injection b with _ _ e;unfold maxLen at a;omega
theorem mc{P:Program}{op:Oper}{a:Act}{w:World}{K:Act→World→Prop}{Q:Exit→Act→World→Prop}(i:BinOp)(t:TypeId)(x y:Operand)(ty:TypeId)(d:op.op= .binOp i t x y ty)
  (xs b:Array Value)(f:a.eval x= .agg xs)(g:a.eval y= .agg b)(c:P.eqGuardType P.depth t=false)
  (v:Value)(e:(binOp i t (.agg xs) (.agg b)).run P w= .ok v w)(h:K (a.put op.dst v) w):op.wp P a w K Q:=by
 have he:=run_eqGuard_agg (P:=P) (w:=w) i t x y xs b c;unfold Oper.wp execOp;simp only[d,f,g,Sem.run_bind,he,e,Result.andThen_ok];exact h
theorem mJ(n:Nat)(ds:List (List UInt8))(b:ds.length=n)(e:n≤1048576)(he:∀d∈ds,d.length=32):(gz ds).length=32:=by
 unfold gz;split;·exact oR
 ·rename_i h;have c:1≤n:=by
   rcases Nat.eq_zero_or_pos n with a|a;·exact absurd (List.eq_nil_of_length_eq_zero (b.trans a)) h
   ·exact a
  exact fV n ds b c (by omega) he
end Go.Proofs.YtphjagkehiklkaaGreatDoor.Lt
namespace Go.Proofs.YtphjagkehiklkaaGreatDoor.Lt
open Go.RowKit Go.ChangeShapes Go.WideShapes Go.Deep
theorem zI:Tryz.prog.cellsOf 141=8:=by kernel_rfl
theorem xd:Tryz.prog.cellsOf 242=64:=by kernel_rfl
theorem uz:Tryz.prog.cellsOf 140=1:=by kernel_rfl
theorem qm:Tryz.prog.globalNamed "replevin/sha256.initial"=some 1:=by kernel_rfl
theorem tw:(Tryz.prog.globals[1]?).map (·.type)=some 141:=by kernel_rfl
theorem nK:Tryz.prog.globalNamed "replevin/sha256.constants"=some 2:=by kernel_rfl
theorem qa:(Tryz.prog.globals[2]?).map (·.type)=some 242:=by kernel_rfl
def Dc:List Int:=[1779033703,3144134277,1013904242,2773480762,1359893119,2600822924,528734635,1541459225]
def An:List Int:=sZ.map (fun n:Nat=>(n:Int))
end Go.Proofs.YtphjagkehiklkaaGreatDoor.Lt
namespace Go.Proofs.YtphjagkehiklkaaGreatDoor.Lt
open Go.RowKit
theorem oh{P:Program}{l:Oper}{a:Act}{w:World}{K:Act→World→Prop}{Q:Exit→Act→World→Prop}(ty:TypeId)(x y:Operand)(f:l.op= .store ty x y)
  (g:Nat)(cells:Array Value)(i:a.eval x= .pointer (some ⟨g,0,none⟩))(j:a.eval y= .agg cells)
  (t:TypeId)(b:Array Value)(c:aq w g t b)(e:(P.info? ty).map (·.size)=some cells.size)
  (hold:b.size=cells.size)(d:cells.all (·.oneCell')=true)
  (h:∀w',aq w' g t cells→Fr (fun k=>k=g) w w'→K (a.put l.dst undef) w'):l.wp P a w K Q:=
 wp_store_row ty x y f g cells i j t b c e hold d (h _ (ij c) ((Fr.refl (fun k=>k=g) w).setRow (fun _=>rfl) cells))
structure sI(w w3:World)(ty:TypeId)(a:Array Value)(X Y:Array Value)(g5 g10 g11:Nat):Prop where
 fr:Fr ah w w3
 b5:aq w3 g5 ty a
 iu:aq w3 g10 ty X
 jQ:aq w3 g11 ty Y
 lo:w.heap.size≤g5
 l1:g5<g10
 l2:g10<g11
theorem sI.of{w w1 w2 w3:World}{ty:TypeId}{d:Array Value}(c:dh w w1 ty d)(a:dh w1 w2 ty aE)(b:dh w2 w3 ty aE):sI w w3 ty d aE aE w.heap.size w1.heap.size w2.heap.size:=
 ⟨c.fr.trans (a.fr.trans b.fr),(c.aD.fr a.fr (fun x=>x)).fr b.fr (fun x=>x),a.aD.fr b.fr (fun x=>x),b.aD,Nat.le_refl _,by rw[c.size];omega,by rw[a.size];omega⟩
theorem lg{P:Program}{op:Oper}{a:Act}{w:World}{K:Act→World→Prop}{Q:Exit→Act→World→Prop}(t:TypeId)(c:op.op= .alloc t)(z:Value)(d:∀w,(zeroValue t).run P w= .ok z w)(cells:Array Value)(b:z.cells=cells)
  (h:∀w',dh w w' t cells→K (a.put op.dst (.pointer (some ⟨w.heap.size,0,none⟩))) w'):op.wp P a w K Q:=by
 subst b;unfold Oper.wp execOp;simp only[c,Instr.alloc,Sem.run_bind,d,newVar,newRow,run_newObj_alloc,Sem.run_pure,Result.andThen_ok];exact h _ (dh.alloc w t z.cells)
theorem sI.kK{w w3 d:World}{ty:TypeId}{c X Y:Array Value}{g5 g10 g11 g:Nat}(h:sI w w3 ty c X Y g5 g10 g11)(a:Fr (fun k=>k=g) w3 d)(f:g11<g):sI w d ty c X Y g5 g10 g11:=by
 have:=h.l1;have:=h.l2;have:=h.lo;exact⟨h.fr.au a (fun i j e=>by have b:i=g:=e;omega),h.b5.fr a (fun e=>by have b:g5=g:=e;omega),h.iu.fr a (fun e=>by have b:g10=g:=e;omega),h.jQ.fr a (fun e=>by have b:g11=g:=e;omega),h.lo,h.l1,h.l2⟩
theorem sI.later{w w3 c:World}{ty:TypeId}{b X Y:Array Value}{g5 g10 g11:Nat}(h:sI w w3 ty b X Y g5 g10 g11)(a:Fr ah w3 c):sI w c ty b X Y g5 g10 g11:=
 ⟨h.fr.trans a,h.b5.fr a (fun x=>x),h.iu.fr a (fun x=>x),h.jQ.fr a (fun x=>x),h.lo,h.l1,h.l2⟩
def gG:List UInt8:=List.replicate 32 0
theorem kl:gG.length=32:=rfl
theorem rJ:(aA gG).toArray=aE:=by kernel_rfl
theorem jH{P:Program}{ops:Array Oper}{rest:List Oper}{e:Oper}{a:Act}{w:World}{Q:Exit→Act→World→Prop}(c:e.guard=none)(t:TypeId)(d:e.op= .build t #[])(cells:Array Value)
  (b:P.built t []=some cells)(h:wpList P ops Q rest (a.put e.dst (.agg cells)) w):wpList P ops Q (e::rest) a w:=
 wpList_buildTo c t #[] d cells (by simpa using b) h
theorem eK(n lo a:Int)(w:World):Calls Tryz.prog 89 #[.int .i64 n, .int .i64 lo, .int .i64 a] w (bG w (.bool (decide (lo≤n∧n≤a)))):=by
 by_cases b:lo≤n
 ·have t1:decide (lo≤n)=true:=decide_eq_true b;by_cases c:n≤a;·have t2:decide (n≤a)=true:=decide_eq_true c;rw[decide_eq_true ⟨b,c⟩];go_enter Tryz.func89,Tryz.ntmps89;go_wp2;go_ret;exact⟨rfl,rfl⟩
  ·have t2:decide (n≤a)=false:=decide_eq_false c;rw[bZ (fun h=>c h.2)];go_enter Tryz.func89,Tryz.ntmps89;go_wp2;go_ret;exact⟨rfl,rfl⟩
 ·have t1:decide (lo≤n)=false:=decide_eq_false b;rw[bZ (fun h=>b h.1)];go_enter Tryz.func89,Tryz.ntmps89;go_wp2;go_ret;exact⟨rfl,rfl⟩
end Go.Proofs.YtphjagkehiklkaaGreatDoor.Lt
namespace Go.Proofs.YtphjagkehiklkaaGreatDoor.Lt
open Go.RowKit Go.ChangeShapes Go.WideShapes Go.Deep
structure tJ where
 leaf:List UInt8
 index:Int
 n:Int
 A:Option Addr
 len:Nat
 cap:Nat
 path:List (List UInt8)
def tJ.val(c:tJ):Value:= .agg (aA c.leaf++[Value.int .i64 c.index,Value.int .i64 c.n,Value.slice c.A c.len c.cap]).toArray
structure tJ.jK(c:tJ)(w:World):Prop where
 leaf:c.leaf.length=32
 index:-9223372036854775808≤c.index∧c.index≤9223372036854775807
 n:-9223372036854775808≤c.n∧c.n≤9223372036854775807
 path:fL w (Old w) c.A c.len c.path
 le:c.len≤c.cap
 cap:c.cap≤9223372036854775807
end Go.Proofs.YtphjagkehiklkaaGreatDoor.Lt
namespace Go.Proofs.YtphjagkehiklkaaGreatDoor.Lt
open Go.RowKit
theorem Eh:aE.size=32:=by kernel_rfl
theorem xL:aE.all (·.oneCell')=true:=by kernel_rfl
theorem qW:Tryz.prog.built 38 []=some aE:=by kernel_rfl
theorem yC:(Tryz.prog.info? 38).map (·.size)=some aE.size:=by rw[Eh];exact eW
theorem tD{P:Program}{op:Oper}{a:Act}{w:World}{K:Act→World→Prop}{Q:Exit→Act→World→Prop}(t:TypeId)(parts:Array (Nat×Operand))(c:op.op= .build t parts)(cells:Array Value)
  (b:P.built t (parts.map fun(i,x)=>(i,a.eval x)).toList=some cells)(h:K (a.put op.dst (.agg cells)) w):op.wp P a w K Q:=
 wp_build t parts c (by rw[b];rfl) (by rw[b];exact h)
def js(n:Nat)(ds:List (List UInt8))(v:Value)(w:World):Prop:=∃A c,v= .slice A n c∧n≤c∧c≤9223372036854775807∧∃S,fL w S A n ds
theorem js.of{w w':World}{v:Value}{n:Nat}{ds:List (List UInt8)}(h:bO 38 32 w (.slice none 0 0) w' v n (ds.flatMap aA))(f:ds.length=n)(he:∀d∈ds,d.length=32):js n ds v w':=by
 obtain⟨A,c,rfl,e,a,b,_⟩:=fL.Ax h f he;exact⟨A,c,rfl,a,b,_,e⟩
theorem js.ag{w:World}{n:Nat}{ds:List (List UInt8)}:∀v w' a,Fr ah w w'→Fr ah w' a→js n ds v w'→js n ds v a:=fun _ _ _ _ f⟨A,c,h,b,d,S,e⟩=>⟨A,c,h,b,d,S,e.ao f⟩
end Go.Proofs.YtphjagkehiklkaaGreatDoor.Lt
