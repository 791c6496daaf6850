/- Texts. -/
import Derived.Test.YtphjagkehiklkaaGreatDoorUK24
set_option linter.unusedVariables false
set_option linter.unusedSimpArgs false
set_option maxRecDepth 100000
set_option maxHeartbeats 4000000
namespace Go.Proofs.YtphjagkehiklkaaGreatDoor
open Go.RowKit
def A0:cm:=⟨0,0,0,0,0,0,0,0⟩
def xr:Array Value:=(fF 0 A0 (List.replicate 64 0)).toArray
theorem IG(w:World):(zeroValue 144).run Tryz.prog w= .ok (.agg xr) w:=by kernel_rfl
theorem bp.yk{w:World}(h:bp w):1<w.heap.size:=World.block_lt_of_cell? w ⟨1,0,none⟩ (h.init 0 _ rfl)
theorem bp.yl{w:World}(h:bp w):2<w.heap.size:=World.block_lt_of_cell? w ⟨2,0,none⟩ (h.kk 0 (by omega))
theorem db{P:Program}{fn:Func}{p q:Tmp}{ty:TypeId}(h:fn.results=#[.cell p ty, .tmp q])(tmps:Array Value)(w:World)(g:Nat)(t:TypeId)(cs:Array Value)(fr:Nat×Nat)(d:TypeDesc)
  (i:tmps.getD p undef= .pointer (some ⟨g,0,none⟩))(e:w.heap[g]? =some (.cells cs t fr))
  (hu:P.underlying ty=some d)(c:(match d with| .struct _| .array _ _=>true|_=>false)=true)(f:(P.info? ty).map (·.size)=some cs.size)(v:Value)(j:tmps.getD q undef=v):
  (results fn tmps).run P w= .ok (.tuple #[.agg cs,v]) w:=by
 have a:tmps[p]?.getD undef= .pointer (some ⟨g,0,none⟩):=by simpa using i
 have b:tmps[q]?.getD undef=v:=by simpa using j
 simp[results,h,a,b,asAddr,run_loadVar_row w g t ty cs fr d e hu c f]
theorem xx(s:ByteArray)(w:World)(E:bp w)(F:s.size≤1099511627776)(k:1≤s.size):
  Calls Tryz.prog 27 #[.string s] w (aH w (aL (dL (dM s)))):=by
 have q:=Lib.hid E;have J:=Lib.hid (dc s);have v:=Lib.hid (fun g w'(b:ak w' g 144 (fF 0 A0 (List.replicate 64 0)).toArray)t N O=>zu s g A0 (List.replicate 64 0) (List.length_replicate ..) w' b t N O F k);have u:=Lib.hid (fun g rest w'(h:lW w' g (dM s) rest)t=>Cc g (dM s) rest w' h t (by rw[dc];exact F) (by rw[dc];exact k));have a:=fJ (dM s);unfold aL;generalize dL (dM s)=j at*;have o:Hid ((j.map aU).toArray.size=32∧(j.map aU).toArray.all (·.oneCell')=true):=⟨by simp[a],kg j⟩;have z:Hid ((Tryz.prog.info? 38).map (·.size)=some (j.map aU).toArray.size):=by
  rw[o.out.1];exact dZ
 generalize(j.map aU).toArray=B at*;clear E a;go_enter Tryz.func27,Tryz.ntmps27;go_wp2_with(refine ai rfl 38 rfl aQ fW ay rfl ?_);intro w1 n1;have l:=Lib.hid n1;clear n1;go_wp2_with(refine ai rfl 144 rfl (.agg xr) IG xr rfl ?_);intro w2 n;have A:=Lib.hid n;have C:=Lib.hid (q.out.al (l.out.fr.trans n.fr));have c:Hid (w.heap.size<w1.heap.size∧1<w.heap.size∧2<w.heap.size):=⟨by have:=l.out.size;omega,q.out.yk,q.out.yl⟩;have f:=Lib.hid (v.out w1.heap.size w2 n.az C.out (by have:=c.out;omega) (by have:=c.out;omega));clear n v;go_wp2_with fail;refine f.out.mono ?_;rintro e Q⟨rfl,f3,rest,D⟩;have M:=Lib.hid (C.out.fr f3 (fun e=>by have m:1=w1.heap.size:=e;have:=c.out;omega) (fun e=>by have m:2=w1.heap.size:=e;have:=c.out;omega));have d:=Lib.hid (u.out _ _ _ D M.out);have r:=Lib.hid ((l.out.az.fr A.out.fr (fun x=>x)).fr f3 (fun e=>by have m:w.heap.size=w1.heap.size:=e;have:=c.out;omega));have y:Hid (Fr af w Q):=(l.out.fr.trans A.out.fr).ao f3 (fun i P e=>by have m:i=w1.heap.size:=e;have:=c.out;omega);clear f3 D u f;go_wp2_with fail;refine d.out.mono ?_;rintro e R⟨rfl,f4⟩;have H:=Lib.hid (r.out.fr f4 (fun x=>x));have I:=Lib.hid (y.out.trans f4);clear f4 d r y;go_wp2_with(refine ah rfl 38 (.tmp 2) _ rfl w.heap.size B rfl rfl _ _ H.out z.out (by rw[o.out.1];rfl) o.out.2 ?_);intro G b5 f5;have K:=Lib.hid b5;have L:Hid (Fr af w G):=I.out.ao f5 (fun i P e=>by have m:i=w.heap.size:=e;omega);clear b5 f5;go_wp2;exact bodyPost_ret (results_cell_row (fn:=Tryz.f27) (p:=2) (ty:=38) Tryz.results27 _ G _ 38 B (0,0) _ rfl K.out Tryz.underlying38 rfl z.out) rfl ⟨rfl,L.out⟩
theorem mW(tag:UInt8)(a:List ByteArray)(A:Option Addr)(n c:Nat)(S:Nat→Prop)(w:World)(C:bp w)(s:Rd w S 1 A n (a.map lS))(D:n≤255)(r:∀k,(dt tag a k).length≤1099511627776)(B:∀p∈a,p.size<4294967296):
  Calls Tryz.prog 120 #[aU tag, .slice A n c] w (aH w (.tuple #[aL (dL (fV tag (a.map dM))), .int .i64 0])):=by
 have u:=Lib.hid (fun w'(t:Fr af w w')=>Cd tag a A n c S w' (s.al t) D r B);have m:a.length=n:=by have:=s.1;simpa using this
 have g:(fV tag (a.map dM)).length≤1099511627776:=by
  rw[←sw tag a n (by omega)];exact r n
 have d:1≤(fV tag (a.map dM)).length:=by simp[fV]
 have j:=Lib.hid (fun w'(t:Fr af w w')=>xx ⟨(fV tag (a.map dM)).toArray⟩ w' (C.al t) (by simp only[ByteArray.size,List.size_toArray];exact g) (by simp only[ByteArray.size,List.size_toArray];exact d));have b:=fJ (fV tag (a.map dM));have z:dM ⟨(fV tag (a.map dM)).toArray⟩=fV tag (a.map dM):=by simp[dM]
 rw[z]at j;unfold aL at*;generalize(⟨(fV tag (a.map dM)).toArray⟩:ByteArray)=RS at*;generalize dL (fV tag (a.map dM))=f at*;have o:Hid ((f.map aU).toArray.size=32∧(f.map aU).toArray.all (·.oneCell')=true):=⟨by simp[b],kg f⟩;have v:Hid ((Tryz.prog.info? 38).map (·.size)=some (f.map aU).toArray.size):=by
  rw[o.out.1];exact dZ
 generalize(f.map aU).toArray=y at*;clear s D r B m g d b z C;unfold aU at*;go_enter Tryz.func120,Tryz.ntmps120;go_wp2_with(refine ai rfl 38 rfl aQ fW ay rfl ?_);intro w1 n1;have h:=Lib.hid n1;clear n1;go_wp2_with fail;refine(u.out _ h.out.fr).mono ?_;rintro e w2⟨rfl,f2⟩;have l:Hid (Fr af w w2):=h.out.fr.trans f2;have F:=Lib.hid (h.out.az.fr f2 (fun x=>x));clear f2 u;go_wp2_with fail;refine(j.out _ l.out).mono ?_;rintro e K⟨rfl,f3⟩;have G:=Lib.hid (F.out.fr f3 (fun x=>x));have H:Hid (Fr af w K):=l.out.trans f3;clear f3 j l h;go_wp2_with(refine ah rfl 38 (.tmp 4) _ rfl w.heap.size y rfl rfl _ _ G.out v.out (by rw[o.out.1];rfl) o.out.2 ?_);intro E b4 f4;have I:=Lib.hid b4;have J:Hid (Fr af w E):=H.out.ao f4 (fun i M e=>by have L:i=w.heap.size:=e;omega);clear b4 f4;go_wp2;exact bodyPost_ret (db (fn:=Tryz.f120) (p:=4) (q:=5) (ty:=38) Tryz.results120 _ E _ 38 y (0,0) _ rfl I.out Tryz.underlying38 rfl v.out _ rfl) rfl ⟨rfl,J.out⟩
end Go.Proofs.YtphjagkehiklkaaGreatDoor
namespace Go.Proofs.YtphjagkehiklkaaGreatDoor.Lt
open Go.RowKit
def qA(s:List UInt8):List UInt8:=dL (fV 0 [s])
def bX(l r:List UInt8):List UInt8:=dL (fV 1 [l,r])
def pM:List UInt8:=dL (fV 2 [])
theorem lC(s:List UInt8):(qA s).length=32:=fJ _
theorem dG(l r:List UInt8):(bX l r).length=32:=fJ _
theorem nj:pM.length=32:=fJ _
theorem zh(tag:UInt8)(k:Nat):(dt tag [] k).length≤1099511627776:=by simp[dt]
theorem zi(tag:UInt8)(s:ByteArray)(a:s.size<4294967296)(k:Nat):(dt tag [s] k).length≤1099511627776:=by
 have hw:(dx s.size).length=4:=rfl;rcases k with _|k<;>simp[dt,dc,hw]<;>omega
theorem zj(tag:UInt8)(s t:ByteArray)(b:s.size<4294967296)(c:t.size<4294967296)(k:Nat):(dt tag [s,t] k).length≤1099511627776:=by
 have hw:(dx s.size).length=4:=rfl;have a:(dx t.size).length=4:=rfl;rcases k with _|_|k<;>simp[dt,dc,hw,a]<;>omega
theorem Fx(w:World)(cs:List Value)(n:Nat)(a:cs.length=n)(t:TypeId):Rd (w.alloc (.cells cs.toArray t)) (fun k=>k=w.heap.size) 1 (some ⟨w.heap.size,0,none⟩) n cs:=by
 refine⟨by rw[a,Nat.mul_one],fun _=>⟨_,rfl,rfl,fun j u hu=>?_⟩⟩;have:(⟨w.heap.size,0,none⟩:Addr).add j=⟨w.heap.size,j,none⟩:=by rw[Addr.add_mid,Nat.zero_add]
 rw[this,(ak.new w t cs.toArray).cell,List.getElem?_toArray];exact hu
theorem BG{w:World}{g:Nat}{t:TypeId}{cs:List Value}(h:ak w g t cs.toArray){n:Nat}(a:cs.length=n):Rd w (fun k=>k=g) 1 (some ⟨g,0,none⟩) n cs:=by
 refine⟨by rw[a,Nat.mul_one],fun _=>⟨_,rfl,rfl,fun j u hu=>?_⟩⟩;rw[Addr.add_mid,Nat.zero_add,h.cell,List.getElem?_toArray];exact hu
structure cy(a:Array Value):Prop where
 size:a.size=32
 one:a.all (·.oneCell')=true
theorem cy.of{l:List UInt8}(h:l.length=32):cy (l.map aU).toArray:=⟨by simp[h],kg l⟩
theorem cy.info{a:Array Value}(h:cy a):(Tryz.prog.info? 38).map (·.size)=some a.size:=by rw[h.size];exact dZ
theorem cy.Ia{a:Array Value}(h:cy a):(Tryz.prog.info? 37).map (·.size)=some a.size:=by rw[h.size];exact Bt
theorem cy.zero{a:Array Value}(h:cy a):ay.size=a.size:=by rw[h.size];rfl
theorem qj(s:ByteArray)(w:World)(n:bp w)(q:s.size<4294967296):Calls Tryz.prog 76 #[.string s] w (aH w (aL (qA (dM s)))):=by
 have j:Hid (∀w',bp w'→Calls Tryz.prog 120 #[.int .u8 0, .slice (some ⟨w'.heap.size,0,none⟩) 1 1] (w'.alloc (.cells #[.string s] 9)) (aH (w'.alloc (.cells #[.string s] 9)) (.tuple #[aL (qA (dM s)), .int .i64 0]))):=
  fun w' C=>mW 0 [s] (some ⟨w'.heap.size,0,none⟩) 1 1 _ _ (C.al ((Fr.refl _ _).alloc _)) (Fx w' [.string s] 1 rfl 9) (by omega) (zi 0 s q) (by simpa using q);have v:=Lib.hid n;have a:=Lib.hid (cy.of (lC (dM s)));unfold aL at*;generalize((qA (dM s)).map aU).toArray=f at*;clear n;go_enter Tryz.func76,Tryz.ntmps76;go_wp2_with(refine ai rfl 38 rfl aQ fW ay rfl ?_);intro w1 n1;have c:=Lib.hid n1;clear n1;go_wp2_with fail;refine(j.out _ (v.out.al c.out.fr)).mono ?_;rintro e w2⟨rfl,f2⟩;have d:Hid (Fr af w1 w2):=((Fr.refl _ w1).alloc _).trans f2;clear f2 j;go_wp2_with(refine ai rfl 38 rfl aQ fW ay rfl ?_);intro D n3;have h:=Lib.hid n3.az;have k:Hid (Fr af w D):=c.out.fr.trans (d.out.trans n3.fr);have l:=Lib.hid (c.out.az.fr (d.out.trans n3.fr) (fun x=>x));have b:Hid (w.heap.size<w2.heap.size):=by have:=d.out.size;have:=c.out.size;simp only[Hid];omega
 clear n3 c d;generalize o:w2.heap.size=g at*;have F:=Lib.hid o;clear o;go_wp2_with(refine ah rfl 38 (.tmp 3) _ rfl g f rfl rfl _ _ h.out a.out.info a.out.zero a.out.one ?_);intro E b4 f4;have t:=Lib.hid b4;have u:Hid (Fr af w E):=k.out.ao f4 (fun i B e=>by have m:i=g:=e;have:=b.out;omega);have A:=Lib.hid (l.out.fr f4 (fun e=>by have m:w.heap.size=g:=e;have:=b.out;omega));clear b4 f4 k l h;go_wp2_with(first|(refine wpList_load_row rfl 38 (.tmp 3) rfl g rfl _ f _ _ t.out Tryz.underlying38 rfl a.out.info ?_)|(refine ah rfl 38 (.tmp 2) _ rfl w.heap.size f rfl rfl _ _ A.out a.out.info a.out.zero a.out.one ?_));intro r b5 f5;have y:=Lib.hid b5;have z:Hid (Fr af w r):=u.out.ao f5 (fun i B e=>by have m:i=w.heap.size:=e;omega);clear b5 f5;go_wp2;exact bodyPost_ret (results_cell_row (fn:=Tryz.f76) (p:=2) (ty:=38) Tryz.results76 _ r _ 38 f (0,0) _ rfl y.out Tryz.underlying38 rfl a.out.info) rfl ⟨rfl,z.out⟩
theorem zc(w:World)(n:bp w):Calls Tryz.prog 73 #[] w (aH w (aL pM)):=by
 have j:Hid (∀w',bp w'→Calls Tryz.prog 120 #[.int .u8 2, .slice none 0 0] w' (aH w' (.tuple #[aL pM, .int .i64 0]))):=
  fun w' A=>mW 2 [] none 0 0 (fun _=>False) _ A Rd.none_ (by omega) (zh 2) (by simp);have t:=Lib.hid n;have a:=Lib.hid (cy.of nj);unfold aL at*;generalize(pM.map aU).toArray=f at*;clear n;go_enter Tryz.func73,Tryz.ntmps73;go_wp2_with(refine ai rfl 38 rfl aQ fW ay rfl ?_);intro w1 n1;have c:=Lib.hid n1;clear n1;go_wp2_with fail;refine(j.out _ (t.out.al c.out.fr)).mono ?_;rintro e w2⟨rfl,f2⟩;have d:Hid (Fr af w1 w2):=f2;clear f2 j;go_wp2_with(refine ai rfl 38 rfl aQ fW ay rfl ?_);intro B n3;have h:=Lib.hid n3.az;have k:Hid (Fr af w B):=c.out.fr.trans (d.out.trans n3.fr);have l:=Lib.hid (c.out.az.fr (d.out.trans n3.fr) (fun x=>x));have b:Hid (w.heap.size<w2.heap.size):=by have:=d.out.size;have:=c.out.size;simp only[Hid];omega
 clear n3 c d;generalize o:w2.heap.size=g at*;have D:=Lib.hid o;clear o;go_wp2_with(refine ah rfl 38 (.tmp 1) _ rfl g f rfl rfl _ _ h.out a.out.info a.out.zero a.out.one ?_);intro C b4 f4;have r:=Lib.hid b4;have s:Hid (Fr af w C):=k.out.ao f4 (fun i z e=>by have m:i=g:=e;have:=b.out;omega);have y:=Lib.hid (l.out.fr f4 (fun e=>by have m:w.heap.size=g:=e;have:=b.out;omega));clear b4 f4 k l h;go_wp2_with(first|(refine wpList_load_row rfl 38 (.tmp 1) rfl g rfl _ f _ _ r.out Tryz.underlying38 rfl a.out.info ?_)|(refine ah rfl 38 (.tmp 0) _ rfl w.heap.size f rfl rfl _ _ y.out a.out.info a.out.zero a.out.one ?_));intro q b5 f5;have u:=Lib.hid b5;have v:Hid (Fr af w q):=s.out.ao f5 (fun i z e=>by have m:i=w.heap.size:=e;omega);clear b5 f5;go_wp2;exact bodyPost_ret (results_cell_row (fn:=Tryz.f73) (p:=0) (ty:=38) Tryz.results73 _ q _ 38 f (0,0) _ rfl u.out Tryz.underlying38 rfl a.out.info) rfl ⟨rfl,v.out⟩
end Go.Proofs.YtphjagkehiklkaaGreatDoor.Lt
namespace Go.Proofs.YtphjagkehiklkaaGreatDoor
open Go.RowKit
theorem tU(w:World)(d:Nat)(l r:List UInt8)(a:l.length=32)(b:r.length=32):∀is:List Nat,(∀i∈is,i<32)→
  (Op.eqItems (d+1) 5 1 (l.map aU).toArray (r.map aU).toArray is).run Tryz.prog w= .ok (is.all fun i=>l[i]? ==r[i]?) w
 |[],_=>by simp[Op.eqItems]
 |i::is,h=>by
  have k:i<32:=h i (by simp);have c:(isAgg 5).run Tryz.prog w= .ok false w:=by kernel_rfl
  have p:∀x:List UInt8,x.length=32→(part 5 (x.map aU).toArray (i*1)).run Tryz.prog w= .ok (aU (x[i]?.getD 0)) w:=by
   intro x n;unfold part;rw[Sem.run_bind,c];simp only[Result.andThen_ok,Bool.false_eq_true,if_false,Nat.mul_one,List.getElem?_toArray,List.getElem?_map,List.getElem?_eq_getElem (show i<x.length by omega),Option.map_some,Sem.run_pure,Option.getD_some]
  have g:=tU w d l r a b is (fun j f=>h j (by simp[f]));have e:((((l[i]?.getD 0).toNat:Nat):Int)==(((r[i]?.getD 0).toNat:Nat):Int))=(l[i]? ==r[i]?):=by
   rw[List.getElem?_eq_getElem (show i<l.length by omega),List.getElem?_eq_getElem (show i<r.length by omega),Bool.eq_iff_iff];simp[←UInt8.toNat_inj];omega
  have q:(Op.equalIn (d+1) 5 (aU (l[i]?.getD 0)) (aU (r[i]?.getD 0))).run Tryz.prog w= .ok (l[i]? ==r[i]?) w:=by
   rw[←e];exact run_equalIn_int w d 5 .u8 .u8 _ _ Tryz.underlying5
  simp only[Op.eqItems,Sem.run_bind,p l a,p r b,q,Result.andThen_ok,List.all_cons];cases m:(l[i]? ==r[i]?);·simp
  ·simpa using g
theorem Cn(l r:List UInt8)(b:l.length=32)(c:r.length=32):((List.range 32).all fun i=>l[i]? ==r[i]?)=decide (l=r):=by
 rw[Bool.eq_iff_iff];simp only[List.all_eq_true,List.mem_range,beq_iff_eq,decide_eq_true_eq];constructor
 ·intro h;apply List.ext_getElem?;intro i;rcases Nat.lt_or_ge i 32 with a|a;·exact h i a
  ·rw[List.getElem?_eq_none (by omega),List.getElem?_eq_none (by omega)]
 ·rintro rfl _ _;rfl
theorem GD:(Tryz.prog.info? 5).isSome=true:=by kernel_rfl
theorem sJ:Tryz.prog.cellsOf 5=1:=by kernel_rfl
theorem nJ(w:World)(t:TypeId)(hu:Tryz.prog.underlying t=some (.array 32 5))(l r:List UInt8)(b:l.length=32)(c:r.length=32):
  (Op.equalIn 10000 t (aL l) (aL r)).run Tryz.prog w= .ok (decide (l=r)) w:=by
 obtain⟨i,a⟩:=Option.isSome_iff_exists.1 GD;unfold aL;rw[run_equalIn_array w 9999 _ _ hu a,sJ,tU w 9998 l r b c _ (fun i a=>List.mem_range.1 a),Cn l r b c]
theorem FJ(w:World)(t:TypeId)(hu:Tryz.prog.underlying t=some (.array 32 5))(l r:List UInt8)(a:l.length=32)(b:r.length=32):
  (binOp .neq t (aL l) (aL r)).run Tryz.prog w= .ok (.bool (!decide (l=r))) w:=by
 have:=nJ w t hu l r a b;unfold aL at*;rw[run_neq_struct,this];rfl
end Go.Proofs.YtphjagkehiklkaaGreatDoor
namespace Go.Proofs.YtphjagkehiklkaaGreatDoor.Lt
open Go.RowKit
structure dA(w w':World)(g0 g1 g2:Nat)(l r:List UInt8):Prop where
 fr:Fr af w w'
 b0:ak w' g0 38 (l.map aU).toArray
 b1:ak w' g1 38 (r.map aU).toArray
 b2:ak w' g2 38 ay
theorem dA.drew{w w':World}{g0 g1 g2:Nat}{l r:List UInt8}(h:dA w w' g0 g1 g2 l r):dA w w'.drew g0 g1 g2 l r:=⟨h.fr.drew,h.b0.drew,h.b1.drew,h.b2.drew⟩
theorem dA.later{w w' a:World}{g0 g1 g2:Nat}{l r:List UInt8}(h:dA w w' g0 g1 g2 l r)(b:Fr af w' a):dA w a g0 g1 g2 l r:=⟨h.fr.trans b,h.b0.fr b (fun x=>x),h.b1.fr b (fun x=>x),h.b2.fr b (fun x=>x)⟩
theorem dA.alloc{w w':World}{g0 g1 g2:Nat}{l r:List UInt8}(h:dA w w' g0 g1 g2 l r)(a:Obj):dA w (w'.alloc a) g0 g1 g2 l r:=h.later ((Fr.refl _ _).alloc a)
theorem dA.store{w w':World}{g0 g1 g2 g:Nat}{l r:List UInt8}(h:dA w w' g0 g1 g2 l r)(d:w.heap.size≤g∧g0<g∧g1<g∧g2<g)(c:List Value):dA w (w'.setCells g 0 c) g0 g1 g2 l r:=by
 have a:Fr (fun k=>k=g) w' (w'.setCells g 0 c):=Fr.setCells (T:=fun k=>k=g) (fun _=>rfl) _ _ _ (Fr.refl _ _);exact⟨h.fr.ao a (fun i f e=>by have b:i=g:=e;omega),h.b0.fr a (fun e=>by have b:g0=g:=e;omega),h.b1.fr a (fun e=>by have b:g1=g:=e;omega),h.b2.fr a (fun e=>by have b:g2=g:=e;omega)⟩
theorem dA.all{w w':World}{g0 g1 g2:Nat}{l r:List UInt8}(h:dA w w' g0 g1 g2 l r)(a:l.length=32)(b:r.length=32):dA w w' g0 g1 g2 l r∧
  (convert 61 9 (.slice (some ⟨g0,0,none⟩) 32 32)).run Tryz.prog w'= .ok (.string ⟨l.toArray⟩) w'∧(convert 61 9 (.slice (some ⟨g1,0,none⟩) 32 32)).run Tryz.prog w'= .ok (.string ⟨r.toArray⟩) w':=
 ⟨h,tW (P:=Tryz.prog) w' 61 9 5 Tryz.underlying61 Tryz.underlying5 Tryz.underlying9 _ _ 32 32 l (BG h.b0 (by rw[List.length_map,a])),
  tW (P:=Tryz.prog) w' 61 9 5 Tryz.underlying61 Tryz.underlying5 Tryz.underlying9 _ _ 32 32 r (BG h.b1 (by rw[List.length_map,b]))⟩
theorem vF{w w':World}{g n:Nat}(h:w.there g 0 n)(a:Fr af w w'):w'.there g 0 n:=fun j e=>by
 obtain⟨b,c⟩:=h j e;obtain⟨u,hu⟩:=Option.isSome_iff_exists.1 b;have d:=World.block_lt_of_cell? w _ hu;exact⟨by rw[a.aj hu (fun x=>x)];rfl,by rw[a.frozen d (fun x=>x)];exact c⟩
theorem GS{w:World}{b:Nat}{s t:Value}(a:w.cell? ⟨b,0,none⟩=some s)(c:w.cell? ⟨b,1,none⟩=some t):Rd w (fun k=>k=b) 1 (some ⟨b,0,none⟩) 2 [s,t]:=by
 refine⟨rfl,fun _=>⟨_,rfl,rfl,fun j u hu=>?_⟩⟩;rw[Addr.add_mid,Nat.zero_add];rcases j with _|_|j;·cases hu;exact a
 ·cases hu;exact c
 ·cases hu
theorem j7(l r:List UInt8)(n:l.length=32)(o:r.length=32)(w:World)(B:bp w):Calls Tryz.prog 122 #[aL l,aL r] w (aH w (aL (bX l r))):=by
 have el:dM ⟨l.toArray⟩=l:=by simp[dM]
 have z:dM ⟨r.toArray⟩=r:=by simp[dM]
 have H:Hid (∀(W:World)(b:Nat),bp W→W.cell? ⟨b,0,none⟩=some (.string ⟨l.toArray⟩)→W.cell? ⟨b,1,none⟩=some (.string ⟨r.toArray⟩)→Calls Tryz.prog 120 #[.int .u8 1, .slice (some ⟨b,0,none⟩) 2 2] W (aH W (.tuple #[aL (bX l r), .int .i64 0]))):=by
  intro W b R O P;have h:=mW 1 [⟨l.toArray⟩,⟨r.toArray⟩] (some ⟨b,0,none⟩) 2 2 _ W R (GS O P) (by omega) (zj 1 _ _ (by rw[ByteArray.size,List.size_toArray,n];omega) (by rw[ByteArray.size,List.size_toArray,o];omega)) (by
   intro p D;simp only[List.mem_cons,List.not_mem_nil,or_false]at D;rcases D with rfl|rfl<;>simp only[ByteArray.size,List.size_toArray,n,o]<;>omega);simp only[List.map_cons,List.map_nil,el,z]at h;exact h
 have K:=Lib.hid B;have k:=Lib.hid (cy.of (dG l r));have I:=Lib.hid n;have J:=Lib.hid o;have hlen:((bX l r).map aU).length=32:=by rw[List.length_map,dG]
 have C:∀v∈(bX l r).map aU,v.oneCell'=true:=iE _;unfold aL at*;generalize(bX l r).map aU=f at*;have i24:(Tryz.prog.info? 38).map (·.size)=some f.length:=by rw[hlen];exact dZ
 clear B n o el z;go_enter Tryz.func122,Tryz.ntmps122;go_wp2_with(refine au rfl 38 (.tmp 0) rfl _ rfl ?_);intro w1 n1;have m:=Lib.hid n1;clear n1;go_wp2_with(refine au rfl 38 (.tmp 1) rfl _ rfl ?_);intro w2 E;have c:=Lib.hid E;clear E;go_wp2_with(refine ai rfl 38 rfl aQ fW ay rfl ?_);intro a n3;have d:=Lib.hid n3;clear n3;have NS:dA w a w.heap.size w1.heap.size w2.heap.size l r:=⟨m.out.fr.trans (c.out.fr.trans d.out.fr),(m.out.az.fr c.out.fr (fun x=>x)).fr d.out.fr (fun x=>x),c.out.az.fr d.out.fr (fun x=>x),d.out.az⟩;have z0:w.heap.size≤a.heap.size:=NS.fr.size;have z1:w.heap.size<a.heap.size:=NS.b0.lt;have z2:w1.heap.size<a.heap.size:=NS.b1.lt;have z3:w2.heap.size<a.heap.size:=NS.b2.lt;have L:Hid (w.heap.size≤w2.heap.size):=(m.out.fr.trans c.out.fr).size;clear m c d;generalize j:w.heap.size=g0 at*;generalize w1.heap.size=g1 at*;generalize w2.heap.size=g2 at*;have u:=Lib.hid j;clear j;have Z:w.heap.size≤a.heap.size:=NS.fr.size;go_upto_region 1 with fail;go_cut[4,5](fun T U F=>∃g,T= .pointer (some ⟨g2,0,none⟩)∧U= .pointer (some ⟨g,0,none⟩)∧F.rangeAt g 0 f∧dA w F g0 g1 g2 l r);case first=>
  have t:Hid (((a.alloc (.cells #[.string ⟨l.toArray⟩, .string ⟨r.toArray⟩] 9)).alloc (.cells #[.int .u8 0, .int .u8 0, .int .u8 0, .int .u8 0, .int .u8 0, .int .u8 0, .int .u8 0, .int .u8 0, .int .u8 0, .int .u8 0, .int .u8 0, .int .u8 0, .int .u8 0, .int .u8 0, .int .u8 0, .int .u8 0, .int .u8 0, .int .u8 0, .int .u8 0, .int .u8 0, .int .u8 0, .int .u8 0, .int .u8 0, .int .u8 0, .int .u8 0, .int .u8 0, .int .u8 0, .int .u8 0, .int .u8 0, .int .u8 0, .int .u8 0, .int .u8 0] 38)).drew.there (a.heap.size+1) 0 32):=by
   have h:=ak.new (a.alloc (.cells #[.string ⟨l.toArray⟩, .string ⟨r.toArray⟩] 9)) 38 #[.int .u8 0, .int .u8 0, .int .u8 0, .int .u8 0, .int .u8 0, .int .u8 0, .int .u8 0, .int .u8 0, .int .u8 0, .int .u8 0, .int .u8 0, .int .u8 0, .int .u8 0, .int .u8 0, .int .u8 0, .int .u8 0, .int .u8 0, .int .u8 0, .int .u8 0, .int .u8 0, .int .u8 0, .int .u8 0, .int .u8 0, .int .u8 0, .int .u8 0, .int .u8 0, .int .u8 0, .int .u8 0, .int .u8 0, .int .u8 0, .int .u8 0, .int .u8 0];rw[show(a.alloc (.cells #[.string ⟨l.toArray⟩, .string ⟨r.toArray⟩] 9)).heap.size=a.heap.size+1 by simp]at h;exact kE h.drew rfl
  have s:Hid (((a.alloc (.cells #[.int .u8 0, .int .u8 0, .int .u8 0, .int .u8 0, .int .u8 0, .int .u8 0, .int .u8 0, .int .u8 0, .int .u8 0, .int .u8 0, .int .u8 0, .int .u8 0, .int .u8 0, .int .u8 0, .int .u8 0, .int .u8 0, .int .u8 0, .int .u8 0, .int .u8 0, .int .u8 0, .int .u8 0, .int .u8 0, .int .u8 0, .int .u8 0, .int .u8 0, .int .u8 0, .int .u8 0, .int .u8 0, .int .u8 0, .int .u8 0, .int .u8 0, .int .u8 0] 38)).alloc (.cells #[.string ⟨l.toArray⟩, .string ⟨r.toArray⟩] 9)).drew.there a.heap.size 0 32):=kE ((ak.new a 38 #[.int .u8 0, .int .u8 0, .int .u8 0, .int .u8 0, .int .u8 0, .int .u8 0, .int .u8 0, .int .u8 0, .int .u8 0, .int .u8 0, .int .u8 0, .int .u8 0, .int .u8 0, .int .u8 0, .int .u8 0, .int .u8 0, .int .u8 0, .int .u8 0, .int .u8 0, .int .u8 0, .int .u8 0, .int .u8 0, .int .u8 0, .int .u8 0, .int .u8 0, .int .u8 0, .int .u8 0, .int .u8 0, .int .u8 0, .int .u8 0, .int .u8 0, .int .u8 0]).alloc _).drew rfl;go_region_held3(fun w'=>dA w w' g0 g1 g2 l r∧(convert 61 9 (.slice (some ⟨g0,0,none⟩) 32 32)).run Tryz.prog w'= .ok (.string ⟨l.toArray⟩) w'∧(convert 61 9 (.slice (some ⟨g1,0,none⟩) 32 32)).run Tryz.prog w'= .ok (.string ⟨r.toArray⟩) w')((go_split_ands;refine dA.all ?_ I.out J.out;first|assumption|exact dA.drew (by assumption)|exact dA.later (by assumption) (by assumption)|exact dA.store (by assumption) ⟨by omega,by omega,by omega,by omega⟩ _|exact dA.alloc (by assumption) _|exact(dA.alloc (by assumption) _).alloc _|exact(dA.drew (by assumption)).alloc _|exact((dA.drew (by assumption)).alloc _).alloc _))((first|(go_at_call 120;go_split_ands;refine(H.out _ _ (K.out.al (dA.fr (by assumption))) (by simp) (by simp)).mono ?_;rintro e q⟨rfl,f4⟩;have S:a.heap.size≤q.heap.size:=Nat.le_trans (by first|(simp;done)|(simp;omega)) f4.size;have t4:(q.alloc (.cells #[.int .u8 0, .int .u8 0, .int .u8 0, .int .u8 0, .int .u8 0, .int .u8 0, .int .u8 0, .int .u8 0, .int .u8 0, .int .u8 0, .int .u8 0, .int .u8 0, .int .u8 0, .int .u8 0, .int .u8 0, .int .u8 0, .int .u8 0, .int .u8 0, .int .u8 0, .int .u8 0, .int .u8 0, .int .u8 0, .int .u8 0, .int .u8 0, .int .u8 0, .int .u8 0, .int .u8 0, .int .u8 0, .int .u8 0, .int .u8 0, .int .u8 0, .int .u8 0] 38)).there q.heap.size 0 32:=kE (ak.new q 38 #[.int .u8 0, .int .u8 0, .int .u8 0, .int .u8 0, .int .u8 0, .int .u8 0, .int .u8 0, .int .u8 0, .int .u8 0, .int .u8 0, .int .u8 0, .int .u8 0, .int .u8 0, .int .u8 0, .int .u8 0, .int .u8 0, .int .u8 0, .int .u8 0, .int .u8 0, .int .u8 0, .int .u8 0, .int .u8 0, .int .u8 0, .int .u8 0, .int .u8 0, .int .u8 0, .int .u8 0, .int .u8 0, .int .u8 0, .int .u8 0, .int .u8 0, .int .u8 0]) rfl;first|(have V:=vF t.out (by with_reducible exact f4))|(have V:=vF s.out (by with_reducible exact f4))|skip)));all_goals
   go_split_ands;go_wp2_with fail;go_meet;exact⟨_,rfl,rfl,World.rangeAt_setCells_same _ _ _ _ (by rw[hlen];assumption),by assumption⟩
 case rest=>
  obtain⟨g,rfl,rfl,Q,A⟩:=hcut;have KN:=Lib.hid A;have y:Hid (w.heap.size≤g2):=by have:=L.out;have:=u.out;simp only[Hid];omega
  have ty:=Tryz.underlying38;clear NS A z0 z1 z2 z3;go_wp2_with(first|(refine wpList_load_mid rfl 38 (.tmp 5) rfl g 0 rfl f _ Q ty rfl i24 ?_)|(refine ah rfl 38 (.tmp 4) _ rfl g2 f.toArray rfl rfl _ _ KN.out.b2 k.out.info k.out.zero k.out.one ?_));intro G b7 f7;have M:=Lib.hid b7;have N:Hid (Fr af w G):=KN.out.fr.ao f7 (fun i Y e=>by have X:i=g2:=e;have:=y.out;omega);clear b7 f7;go_wp2;exact bodyPost_ret (results_cell_row (fn:=Tryz.f122) (p:=4) (ty:=38) Tryz.results122 _ G _ 38 f.toArray (0,0) _ rfl M.out Tryz.underlying38 rfl k.out.info) rfl ⟨rfl,N.out⟩
end Go.Proofs.YtphjagkehiklkaaGreatDoor.Lt
namespace Go.Proofs.YtphjagkehiklkaaGreatDoor.Lt
open Go.RowKit
structure jG(w w':World)(g0 g1:Nat)(a b:List Value):Prop where
 fr:Fr af w w'
 b0:ak w' g0 37 a.toArray
 b1:ak w' g1 37 b.toArray
theorem jG.drew{w w':World}{g0 g1:Nat}{l r:List Value}(h:jG w w' g0 g1 l r):jG w w'.drew g0 g1 l r:=⟨h.fr.drew,h.b0.drew,h.b1.drew⟩
theorem jG.later{w w' a:World}{g0 g1:Nat}{l r:List Value}(h:jG w w' g0 g1 l r)(b:Fr af w' a):jG w a g0 g1 l r:=⟨h.fr.trans b,h.b0.fr b (fun x=>x),h.b1.fr b (fun x=>x)⟩
theorem jG.alloc{w w':World}{g0 g1:Nat}{l r:List Value}(h:jG w w' g0 g1 l r)(a:Obj):jG w (w'.alloc a) g0 g1 l r:=h.later ((Fr.refl _ _).alloc a)
theorem cQ{w:World}{g:Nat}{t:TypeId}{cs:List Value}(h:ak w g t cs.toArray):w.rangeAt g 0 cs:=fun j v a=>by
 rw[Nat.zero_add,h.cell,List.getElem?_toArray];exact a
theorem jG.all{w w':World}{g0 g1:Nat}{l r:List Value}(h:jG w w' g0 g1 l r):jG w w' g0 g1 l r∧w'.rangeAt g0 0 l∧w'.rangeAt g1 0 r:=⟨h,cQ h.b0,cQ h.b1⟩
end Go.Proofs.YtphjagkehiklkaaGreatDoor.Lt
namespace Go.Proofs.YtphjagkehiklkaaGreatDoor.Lt
open Go.RowKit
def aI(n:Nat):Nat:=2^(Lib.bitLen (n-1)-1)
theorem cS(n:Nat)(h:2≤n)(e:n≤1099511627776):aI n<n∧n≤2*aI n∧1≤aI n:=by
 obtain⟨d,b,c⟩:=Lib.bitLenAux_bounds 64 (n-1) (by omega) (by omega);obtain⟨m,hm⟩:∃m,Lib.bitLen (n-1)=m+1:=⟨Lib.bitLenAux 64 (n-1)-1,by unfold Lib.bitLen;omega⟩;have a:Lib.bitLenAux 64 (n-1)=m+1:=hm;unfold aI;rw[a]at d b c;rw[hm];rw[Nat.pow_succ]at c;have:1≤2^m:=Nat.one_le_two_pow;simp only[Nat.add_sub_cancel]at b⊢;omega
theorem pow_one(n i j:Nat)(a:2^i<n)(b:n≤2*2^i)(c:2^j<n)(d:n≤2*2^j):2^i=2^j:=by
 rcases Nat.lt_trichotomy i j with h|h|h;·have:2^(i+1)≤2^j:=Nat.pow_le_pow_right (by omega) h;rw[Nat.pow_succ]at this;omega
 ·rw[h]
 ·have:2^(j+1)≤2^i:=Nat.pow_le_pow_right (by omega) h;rw[Nat.pow_succ]at this;omega
theorem vm(n j:Nat)(f:n≤1099511627776)(d:2^j<n)(e:n≤2*2^j):2^j=aI n:=by
 have:1≤2^j:=Nat.one_le_two_pow;obtain⟨a,b,c⟩:=cS n (by omega) f;exact pow_one n j _ d e a b
theorem lD(n:Nat)(w:World)(k:2≤n)(q:n≤1099511627776):Calls Tryz.prog 121 #[.int .i64 n] w fun e w'=>e= .returned (.int .i64 (aI n:Nat))∧w=w':=by
 obtain⟨a,b,c⟩:=cS n k q;obtain⟨m,hm⟩:∃m,m=n-1:=⟨_,rfl⟩;have l:1≤Lib.bitLen m:=(Lib.bitLenAux_bounds 64 m (by omega) (by omega)).1;have o:Lib.bitLen m≤64:=Lib.bitLen_le m 64 (by omega) (by omega);have d:Hid (aI n=2^(Lib.bitLen m-1)):=by rw[hm];rfl
 obtain⟨x,h⟩:∃x,x=Lib.bitLen m-1:=⟨_,rfl⟩;rw[←h]at d;have r:((Lib.bitLen m:Nat):Int)-1=(x:Int):=by omega
 have i:(x:Int)≤64:=by omega
 have p:(n:Int)-1=(m:Int):=by omega
 have j:Hid (∀w,Calls Tryz.prog 150 #[.int .u64 (m:Int)] w fun e w'=>e= .returned (.int .i64 (Lib.bitLen m:Nat))∧w'=w):=fun w=>Tryz.bits_Len (m:Int) w (by omega) (by omega);have f:IntKind.i64.wrap (1*2^x)=((aI n:Nat):Int):=by
  rw[d.out,Int.one_mul];have:(2:Int)^x=((2^x:Nat):Int):=by simp
  rw[this];refine IntWalk.i64_in _ ?_;rw[←d.out];omega
 have g:IntKind.i64.wrap (2^x)=((aI n:Nat):Int):=by rw[←f,Int.one_mul]
 clear h a b c;generalize Lib.bitLen m=B at*;generalize aI n=t at*;have s:=Lib.hid hm;clear hm;go_enter Tryz.func121,Tryz.ntmps121;go_wp2_with fail;refine(j.out _).mono ?_;rintro e w'⟨rfl,rfl⟩;go_wp2;go_ret;exact⟨rfl,rfl⟩
end Go.Proofs.YtphjagkehiklkaaGreatDoor.Lt
namespace Go.Proofs.YtphjagkehiklkaaGreatDoor.Lt
open Go.RowKit
def cj(ds:List (List UInt8)):List UInt8:=
 if a:1≤aI ds.length∧aI ds.length<ds.length then bX (cj (ds.take (aI ds.length))) (cj (ds.drop (aI ds.length)))else ds.headD []
termination_by ds.length
decreasing_by
 ·simp only[List.length_take];omega
 ·simp only[List.length_drop];omega
theorem pf(d:List UInt8):cj [d]=d:=by
 rw[cj,dif_neg (by simp;omega)];rfl
theorem lj(ds:List (List UInt8))(n:Nat)(b:ds.length=n)(d:2≤n)(e:n≤1099511627776):cj ds=bX (cj (ds.take (aI n))) (cj (ds.drop (aI n))):=by
 obtain⟨a,_,c⟩:=cS n d e;rw[cj,dif_pos (by rw[b];exact⟨c,a⟩),b]
theorem eY(n:Nat):∀ds:List (List UInt8),ds.length=n→1≤n→n≤1099511627776→(∀d∈ds,d.length=32)→(cj ds).length=32:=by
 intro ds a f e b;by_cases c:2≤n;·rw[lj ds n a c e];exact dG _ _
 ·match ds,a,b with
  |[d],_,b=>rw[pf];exact b d (by simp)
  |[],a,_=>simp at a;omega
  |_::_::_,a,_=>simp at a;omega
def aq(d:List UInt8):List Value:=d.map aU
structure eF(w:World)(S:Nat→Prop)(A:Option Addr)(n:Nat)(ds:List (List UInt8)):Prop where
 rd:Rd w S 32 A n (ds.flatMap aq)
 len:ds.length=n
 each:∀d∈ds,d.length=32
theorem eF.al{w w':World}{S:Nat→Prop}{A:Option Addr}{n:Nat}{ds:List (List UInt8)}(h:eF w S A n ds)(a:Fr af w w'):eF w' S A n ds:=⟨h.rd.al a,h.len,h.each⟩
theorem eF.fr{w w':World}{S T:Nat→Prop}{A:Option Addr}{n:Nat}{ds:List (List UInt8)}(h:eF w S A n ds)(b:Fr T w w')(a:∀k,S k→¬T k):eF w' S A n ds:=⟨h.rd.fr b a,h.len,h.each⟩
theorem ml(ds:List (List UInt8))(h:∀d∈ds,d.length=32):∀k,(ds.flatMap aq).take (k*32)=(ds.take k).flatMap aq:=by
 induction ds with
 |nil=>simp
 |cons d r b=>
  intro k;rcases k with _|k;·simp
  ·have c:(aq d).length=32:=by rw[aq,List.length_map];exact h d (by simp)
   rw[List.flatMap_cons,List.take_succ_cons,List.flatMap_cons,show(k+1)*32=(aq d).length+k*32 by omega,List.take_length_add_append,b (fun x a=>h x (by simp[a]))]
theorem mj(ds:List (List UInt8))(h:∀d∈ds,d.length=32):∀k,(ds.flatMap aq).drop (k*32)=(ds.drop k).flatMap aq:=by
 induction ds with
 |nil=>simp
 |cons d r b=>
  intro k;rcases k with _|k;·simp
  ·have c:(aq d).length=32:=by rw[aq,List.length_map];exact h d (by simp)
   rw[List.flatMap_cons,List.drop_succ_cons,show(k+1)*32=(aq d).length+k*32 by omega,List.drop_length_add_append,b (fun x a=>h x (by simp[a]))]
theorem eF.take{w:World}{S:Nat→Prop}{A:Option Addr}{n k:Nat}{ds:List (List UInt8)}(h:eF w S A n ds)(b:k≤n):eF w S A k (ds.take k):=by
 have:=h.rd.take b;rw[ml ds h.each]at this;exact⟨this,by rw[List.length_take,h.len];omega,fun d a=>h.each d (List.mem_of_mem_take a)⟩
theorem eF.at_{w:World}{S:Nat→Prop}{A:Option Addr}{n k:Nat}{ds:List (List UInt8)}(h:eF w S A n ds)(o:k<n):∃f d,A=some f∧S f.block∧ds[k]? =some d∧d.length=32∧∀j v,(aq d)[j]? =some v→w.cell? ((f.add (k*32)).add j)=some v:=by
 obtain⟨f,e,i,l⟩:=h.rd.2 (by omega);have c:k<ds.length:=by rw[h.len];exact o
 have a:ds[k].length=32:=h.each _ (List.getElem_mem c);refine⟨f,ds[k],e,i,List.getElem?_eq_getElem c,a,fun j v g=>?_⟩;rw[gA];refine l _ v ?_;have m:j<32:=by have:=(List.getElem?_eq_some_iff.1 g).1;rw[aq,List.length_map,a]at this;exact this
 have b:(ds.flatMap aq).drop (k*32)=aq ds[k]++(ds.drop (k+1)).flatMap aq:=by
  rw[mj ds h.each,List.drop_eq_getElem_cons c,List.flatMap_cons]
 rw[←List.getElem?_drop,b,List.getElem?_append_left (by rw[aq,List.length_map,a];exact m)];exact g
theorem jg{P:Program}(w:World)(b:Addr)(ty:TypeId)(cs:List Value)(d:TypeDesc)(f:∀j v,cs[j]? =some v→w.cell? (b.add j)=some v)
  (hu:P.underlying ty=some d)(k:d.isRow=true)(e:(P.info? ty).map (·.size)=some cs.length):(loadVar ty b).run P w= .ok (.agg cs.toArray) w:=by
 have g:(loadCells b cs.length).run P w= .ok cs.toArray w:=run_loadCells_list (P:=P) w b cs f;cases c:P.info? ty with
 |none=>simp[c]at e
 |some i=>
  have h:i.size=cs.length:=by simpa[c]using e
  have a:(isAgg ty).run P w= .ok true w:=by
   unfold isAgg;rw[Sem.run_bind,run_underlying hu w];cases d<;>simp_all
  simp[loadVar,Sem.run_bind,a,sizeOf,typeInfo,c,h,g]
theorem ar{P:Program}{op:Oper}{a:Act}{w:World}{K:Act→World→Prop}{Q:Exit→Act→World→Prop}(ty:TypeId)(x:Operand)(g:op.op= .load ty x)
  (b:Addr)(i:a.eval x= .pointer (some b))(cs:List Value)(d:TypeDesc)(c:∀j v,cs[j]? =some v→w.cell? (b.add j)=some v)
  (hu:P.underlying ty=some d)(e:d.isRow=true)(f:(P.info? ty).map (·.size)=some cs.length)
  (h:K (a.put op.dst (.agg cs.toArray)) w):op.wp P a w K Q:=by
 unfold Oper.wp execOp;simp only[g,i,Instr.loadAt,Instr.sureAddr,Sem.run_bind,Sem.run_pure,Result.andThen_ok,jg w b ty cs d c hu e f];exact h
theorem aw{P:Program}{ops:Array Oper}{rest:List Oper}{op:Oper}{a:Act}{w:World}{Q:Exit→Act→World→Prop}(c:op.guard=none)(ty:TypeId)(x:Operand)(k:op.op= .load ty x)
  (b:Addr)(l:a.eval x= .pointer (some b))(cs:List Value)(d:TypeDesc)(f:∀j v,cs[j]? =some v→w.cell? (b.add j)=some v)
  (hu:P.underlying ty=some d)(g:d.isRow=true)(i:(P.info? ty).map (·.size)=some cs.length)
  (h:wpList P ops Q rest (a.put op.dst (.agg cs.toArray)) w):wpList P ops Q (op::rest) a w:=
 wpList_plain c fun _ e=>ar ty x k b l cs d f hu g i (e _ _ h)
end Go.Proofs.YtphjagkehiklkaaGreatDoor.Lt
namespace Go.Proofs.YtphjagkehiklkaaGreatDoor.Lt
open Go.RowKit
def eX(ds:List (List UInt8)):List UInt8:=if ds=[]then pM else cj ds
end Go.Proofs.YtphjagkehiklkaaGreatDoor.Lt
namespace Go.Proofs.YtphjagkehiklkaaGreatDoor.Lt
open Go.RowKit
def aR(p:Prop):Prop:=p
theorem aR.go{p:Prop}(h:aR p):p:=h
theorem sb:(Tryz.prog.info? 38).map (fun i=>(i.zero,i.size,i.bytes))=some (some aQ,32,32):=by kernel_rfl
theorem foldl_set:∀(l:List Value)(k off:Nat)(b:List Value),off+k+l.length≤b.length→(l.zipIdx k).foldl (fun cs x=>cs.setIfInBounds (off+x.2) x.1) b.toArray=(b.take (off+k)++l++b.drop (off+k+l.length)).toArray
 |[],k,off,b,_=>by simp
 |c::r,k,off,b,h=>by
  simp only[List.length_cons]at h;rw[List.zipIdx_cons,List.foldl_cons,List.setIfInBounds_toArray,foldl_set r (k+1) off (b.set (off+k) c) (by rw[List.length_set];omega)];congr 1;have a:(b.set (off+k) c).take (off+(k+1))=b.take (off+k)++[c]:=by
   rw[List.take_set,show off+(k+1)=(off+k)+1 by omega,List.take_succ_eq_append_getElem (by omega:off+k<b.length),List.set_append_right _ _ (by simp;omega)];simp;rw[show off+k-min (off+k) b.length=0 by omega];rfl
  have d:(b.set (off+k) c).drop (off+(k+1)+r.length)=b.drop (off+k+(c::r).length):=by
   rw[List.drop_set_of_lt (by omega)];congr 1;simp only[List.length_cons];omega
  rw[a,d];simp
theorem j8(cs b:Array Value)(off:Nat)(h:off+cs.size≤b.size):cs.zipIdx.foldl (fun cs(x:Value×Nat)=>cs.setIfInBounds (off+x.2) x.1) b=(b.toList.take off++cs.toList++b.toList.drop (off+cs.size)).toArray:=by
 rw[←Array.foldl_toList,Array.toList_zipIdx];have:=foldl_set cs.toList 0 off b.toList (by simpa using h);simpa using this
theorem qt(cs b:Array Value)(d:cs.size=32)(c:b.size=32):Instr.fill (fun i=>some (i*32,32)) b [(0, .agg cs)]=some cs:=by
 have a:=j8 cs b 0 (by omega);simp only[Instr.fill,Value.cells,d,c,Nat.zero_mul,Nat.zero_add,ne_eq,not_true_eq_false,decide_false,Bool.false_or,gt_iff_lt,Nat.lt_irrefl,Bool.false_eq_true,if_false];simp only[Nat.zero_add,List.take_zero,List.nil_append,d]at a;rw[List.drop_of_length_le (by simp[c]),List.append_nil]at a;rw[a]
def vS(w:World)(n:Nat)(ds:List (List UInt8))(e:Ending)(w':World):Prop:=∃v,e= .returned v∧bF 38 32 w (.slice none 0 0) w' v n (ds.flatMap aq)
end Go.Proofs.YtphjagkehiklkaaGreatDoor.Lt
namespace Go.Proofs.YtphjagkehiklkaaGreatDoor.Lt
open Go.RowKit
def Hq(w:World)(e:Ending)(w':World):Prop:=e= .returned (.pointer (some ⟨w.heap.size,0,none⟩))∧w'=w.alloc (.cells #[.slice none 0 0, .map none] 180)
theorem py(w:World):Calls Tryz.prog 83 #[] w (Hq w):=by
 go_enter Tryz.func83,Tryz.ntmps83;go_wp2;go_ret;exact⟨rfl,rfl⟩
end Go.Proofs.YtphjagkehiklkaaGreatDoor.Lt
namespace Go.Proofs.YtphjagkehiklkaaGreatDoor.Lt
open Go.RowKit
structure Gi(w w':World):Prop where
 map:w'.heap[w.heap.size]? =some (.map #[] 0)
 fr:Fr af w w'
 size:w'.heap.size=w.heap.size+1
theorem rR{P:Program}{ops:Array Oper}{rest:List Oper}{e:Oper}{a:Act}{w:World}{Q:Exit→Act→World→Prop}(c:e.guard=none)(t:TypeId)(d:e.op= .makeMap t none)
  (h:∀w',Gi w w'→wpList P ops Q rest (a.put e.dst (.map (some w.heap.size))) w'):wpList P ops Q (e::rest) a w:=by
 refine wpList_plain c fun K b=>?_;have mk:(Instr.makeMap t none).run P w= .ok (.map (some w.heap.size)) (w.alloc (.map #[] 0)):=by simp[Instr.makeMap]
 unfold Oper.wp execOp;simp only[d,Option.map_none,Sem.run_bind,mk,Sem.run_pure,Result.andThen_ok];exact b _ _ (h _ ⟨heap_alloc_new w _,(Fr.refl _ _).alloc _,by simp⟩)
end Go.Proofs.YtphjagkehiklkaaGreatDoor.Lt
namespace Go.Proofs.YtphjagkehiklkaaGreatDoor.Lt
open Go.RowKit
theorem dS{P:Program}{ops:Array Oper}{rest:List Oper}{op:Oper}{a:Act}{w:World}{Q:Exit→Act→World→Prop}(b:op.guard=none)(ty:TypeId)(x:Operand)(i:op.op= .load ty x)
  (g:Nat)(l:a.eval x= .pointer (some ⟨g,0,none⟩))(t:TypeId)(cs:List Value)(c:ak w g t cs.toArray)(d:TypeDesc)
  (hu:P.underlying ty=some d)(e:d.isRow=true)(f:(P.info? ty).map (·.size)=some cs.length)
  (h:wpList P ops Q rest (a.put op.dst (.agg cs.toArray)) w):wpList P ops Q (op::rest) a w:=
 aw b ty x i ⟨g,0,none⟩ l cs d (fun j v k=>by rw[Addr.add_mid,Nat.zero_add,c.cell,List.getElem?_toArray];exact k) hu e f h
theorem Dh(a e b:Array Value)(c:a.size=32)(g:e.size=32)(f:b.size=64):Instr.fill (fun i=>some (i*32,32)) b [(0, .agg a),(1, .agg e)]=some (a.toList++e.toList).toArray:=by
 have h:=j8 a b 0 (by omega);simp only[Nat.zero_add,List.take_zero,List.nil_append,c]at h;have l:(a.toList++b.toList.drop 32).toArray.size=64:=by simp[c,f]
 have d:=j8 e (a.toList++b.toList.drop 32).toArray 32 (by omega);have j:(a.toList++b.toList.drop 32).take 32=a.toList:=by rw[List.take_append_of_le_length (by simp[c]),List.take_of_length_le (by simp[c])]
 have k:(a.toList++b.toList.drop 32).drop (32+32)=[]:=List.drop_of_length_le (by simp[c,f]);simp only[g,j,k,List.append_nil]at d;simp only[Instr.fill,Value.cells,c,g,f,Nat.zero_mul,Nat.zero_add,Nat.one_mul,ne_eq,not_true_eq_false,decide_false,Bool.false_or,gt_iff_lt,Nat.lt_irrefl,Bool.false_eq_true,if_false,Nat.reduceAdd,Nat.reduceLT,h,l,d]
end Go.Proofs.YtphjagkehiklkaaGreatDoor.Lt
namespace Go.Proofs.YtphjagkehiklkaaGreatDoor.Lt
open Go.RowKit
theorem Ba:ay.size=32:=by kernel_rfl
theorem vJ:ay.all (·.oneCell')=true:=by kernel_rfl
theorem pF:Tryz.prog.built 38 []=some ay:=by kernel_rfl
theorem wR:(Tryz.prog.info? 38).map (·.size)=some ay.size:=by rw[Ba];exact dZ
end Go.Proofs.YtphjagkehiklkaaGreatDoor.Lt
