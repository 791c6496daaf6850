/- Texts. -/
import Derived.Test.YtphjagkehiklkaaGreatDoorUK02
import Derived.Test.YtphjagkehiklkaaGreatDoorUK16
set_option linter.unusedVariables false
set_option linter.unusedSimpArgs false
set_option maxRecDepth 100000
set_option maxHeartbeats 4000000
namespace Go.Proofs.YtphjagkehiklkaaGreatDoor
open Go.RowKit Go.Shelf
def aY(l:List UInt8):List UInt8:=enc l.length++l
def mw(u:fM)(n:aD):List UInt8:=enc n.kind.toNat++((if u.owner then aY (aC n.owner)else[])++((if u.number then enc n.number.toNat else[])++((if u.index then enc n.index.toNat else[])++(if u.text then aY (aC n.text)else[]))))
def bT(n:aD):List UInt8:=match fQ[n.kind.toNat]? with
 |some u=>mw u n
 |none=>[]
def nk(x:Ent):List UInt8:=aY (bT x.1)++aY (aC x.2)
def ey(L:List Ent):List UInt8:=enc L.length++L.flatMap nk
theorem uU{s:ByteArray}(h:s.toList.isEmpty=true):s=ByteArray.empty:=by
 rw[ByteArray.toList_eq,List.isEmpty_iff]at h;exact ByteArray.ext (Array.toList_inj.1 h)
structure xy(u:fM)(n:aD):Prop where
 o0:u.owner=false→n.owner=ByteArray.empty
 n0:u.number=false→n.number=0
 i0:u.index=false→n.index=0
 t0:u.text=false→n.text=ByteArray.empty
 n1:u.number=true→0≤n.number∧n.number≤1073741824
 i1:u.index=true→0≤n.index∧n.index≤u.aJ
theorem rC{u:fM}{n:aD}(h:oI u n=true):xy u n:=by
 simp only[oI,Bool.and_eq_true,Bool.or_eq_true,Bool.not_eq_true',decide_eq_true_eq]at h;obtain⟨⟨⟨⟨⟨⟨⟨a,b⟩,c⟩,d⟩,_⟩,f⟩,g⟩,_⟩:=h;refine⟨fun e=>?_,fun e=>?_,fun e=>?_,fun e=>?_,fun e=>?_,fun e=>?_⟩
 ·rcases a with h|h;·rw[e]at h;cases h
  ·exact uU h
 ·rcases b with h|h;·rw[e]at h;cases h
  ·exact beq_iff_eq.1 h
 ·rcases c with h|h;·rw[e]at h;cases h
  ·exact beq_iff_eq.1 h
 ·rcases d with h|h;·rw[e]at h;cases h
  ·exact uU h
 ·rcases f with h|h;·rw[e]at h;cases h
  ·exact h
 ·rcases g with h|h;·rw[e]at h;cases h
  ·exact h
theorem pW{n:aD}(h:cU n=true):(1≤n.kind∧n.kind≤20)∧∃u,fQ[n.kind.toNat]? =some u∧oI u n=true:=by
 simp only[cU,Bool.and_eq_true,decide_eq_true_eq]at h;obtain⟨⟨b,c⟩,a⟩:=h;refine⟨⟨b,c⟩,?_⟩;cases hu:fQ[n.kind.toNat]? with
 |none=>rw[hu]at a;cases a
 |some u=>rw[hu]at a;exact⟨u,rfl,a⟩
theorem yo{k:Nat}{u:fM}(h:fQ[k]? =some u):u.aJ≤1073741824:=by
 have hm:∀x∈fQ,x.aJ≤1073741824:=by decide
 exact hm u (List.mem_of_getElem? h)
theorem qB{n:aD}{u:fM}(h:fQ[n.kind.toNat]? =some u):bT n=mw u n:=by
 unfold bT;rw[h]
theorem oH(u:fM)(n:aD):(mw u n).length≤50+n.owner.size+n.text.size:=by
 have a:=aO n.kind.toNat;have b:=aO n.number.toNat;have c:=aO n.index.toNat;have d:=aO (aC n.owner).length;have e:=aO (aC n.text).length;have f:=aG n.owner;have g:=aG n.text;simp only[mw,List.length_append,aY];split<;>split<;>split<;>split<;>simp only[List.length_append,List.length_nil]<;>omega
theorem ej(n:aD):(bT n).length≤50+n.owner.size+n.text.size:=by
 unfold bT;split;·exact oH _ n
 ·simp
structure Iy(L:List Ent):Prop where
 ok:∀x∈L,cU x.1=true
 name:∀x∈L,su x.1
 value:∀x∈L,x.2.size≤1099511627776
end Go.Proofs.YtphjagkehiklkaaGreatDoor
namespace Go.Proofs.YtphjagkehiklkaaGreatDoor
open Go.RowKit Go.Shelf
theorem iO{P:Program}{op:Oper}{a:Act}{w:World}{K:Act→World→Prop}{Q:Exit→Act→World→Prop}(t:TypeId)(c:op.op= .alloc t)(z:Value)(d:∀w,(zeroValue t).run P w= .ok z w)(cells:Array Value)(b:z.cells=cells)
  (h:∀w',dd w w' t cells→K (a.put op.dst (.pointer (some ⟨w.heap.size,0,none⟩))) w'):op.wp P a w K Q:=by
 subst b;unfold Oper.wp execOp;simp only[c,Instr.alloc,Sem.run_bind,d,newVar,newRow,run_newObj_alloc,Sem.run_pure,Result.andThen_ok];exact h _ (dd.alloc w t z.cells)
theorem dB{w:World}{g b:Nat}{t c:TypeId}{cs cs':Array Value}(h:ak w g t cs)(d:ak w b c cs')(a:t≠c):g≠b:=by
 rintro rfl;have e:=h.symm.trans d;simp only[Option.some.injEq,Obj.cells.injEq]at e;exact a e.2.1
theorem qf{a k:Nat}(h:Gm a (.slice none 0 0) k):k=a:=by
 rcases h with h|h;·exact h
 ·simp[Value.ownBlock]at h
def yp(k:Nat)(c:ByteArray)(b a:Int)(d:ByteArray):Array Value:=#[.int .i64 (k:Int), .string c, .int .i64 b, .int .i64 a, .string d]
def nM(wd:ByteArray)(b a bi c:Bool)(d:Int):Array Value:=#[.string wd, .bool b, .bool a, .bool bi, .bool c, .int .i64 d]
structure WN(w2 w:World)(a:Nat)(v:Value)(l:List UInt8):Prop where
 step:∃b,cF b a (.slice none 0 0) w v (l,0)∧Fr af w2 b
 new:w2.heap.size≤a
theorem WN.next{w2 w w':World}{b:Nat}{v:Value}{l c:List UInt8}(h:WN w2 w b v l)(k:∃a,cF w b v w' a (c,0)):∃a,WN w2 w' b a c:=by
 obtain⟨a,f⟩:=k;obtain⟨g,d,e⟩:=h.step;exact⟨a,⟨g,d.trans f,e⟩,h.new⟩
theorem WN.fr{w2 w:World}{a:Nat}{v:Value}{l:List UInt8}(h:WN w2 w a v l):Fr af w2 w:=by
 obtain⟨f,b,c⟩:=h.step;exact c.ao b.fr (fun i d e=>by have:=qf e;have:=h.new;omega)
theorem WN.jQ{w2 w w':World}{b g:Nat}{v m:Value}{l k:List UInt8}{t:TypeId}{cs:Array Value}(h:WN w2 w b v l)(f:cF w b v w' m (k,0))(a:ak w g t cs)(i:t≠185)(j:t≠5):ak w' g t cs:=by
 obtain⟨o,c,n⟩:=h.step;refine a.fr f.fr (fun e=>?_);rcases e with e|e;·exact dB a c.wr.az i e
 ·exact bh c.wr.own a (fun d=>j d.symm) e
def NS(w2 W:World)(c b a:Nat)(us nm:Array Value)(l:List UInt8):Prop:=∃v,WN w2 W c v l∧ak W b 189 us∧ak W a 106 nm
theorem WN.wr{w2 w:World}{a:Nat}{v:Value}{l:List UInt8}(h:WN w2 w a v l):Wr w a v l 0:=by
 obtain⟨c,b,_⟩:=h.step;exact b.wr
theorem WN.ns{w2 w w':World}{a c b:Nat}{us nm:Array Value}{v e:Value}{l d:List UInt8}(h:WN w2 w a v l)(hu:ak w c 189 us)(g:ak w b 106 nm)(k:cF w a v w' e (d,0)):NS w2 w' a c b us nm d:=by
 obtain⟨v2,f⟩:=h.next ⟨e,k⟩;exact⟨v2,f,h.jQ k hu (by decide) (by decide),h.jQ k g (by decide) (by decide)⟩
theorem Cg(k:Nat)(n:ByteArray)(m c:Int)(o wd:ByteArray)(s r bi t:Bool)(B:Int)(w:World)(aZ:dy w)(bu:1≤k∧k≤20)(hu:fQ[k]? =some ⟨wd,s,r,bi,t,B⟩)(bb:n.size≤16777216)(bc:o.size≤16777216)(Z:cU ⟨(k:Int),n,m,c,o⟩=true):
  Calls Tryz.prog 64 #[.agg #[.int .i64 (k:Int), .string n, .int .i64 m, .int .i64 c, .string o]] w (aH w (.tuple #[.string ⟨(mw ⟨wd,s,r,bi,t,B⟩ ⟨(k:Int),n,m,c,o⟩).toArray⟩, .int .i64 0])):=by
 have a0:xy ⟨wd,s,r,bi,t,B⟩ ⟨(k:Int),n,m,c,o⟩:=by
  obtain⟨_,u,ae,ba⟩:=pW Z;simp only[Int.toNat_natCast]at ae;rw[hu]at ae;cases ae;exact rC ba
 have aL:=yo hu;simp only at aL;have aB:Hid (r=true→m=(m.toNat:Int)∧m.toNat≤1073741824):=fun h=>by
  have:=a0.n1 h;simp only at this;omega
 have ap:Hid (bi=true→c=(c.toNat:Int)∧c.toNat≤1073741824):=fun h=>by
  have:=a0.i1 h;simp only at this;omega
 have M:Hid (enc k++(if s then aY (aC n)else[])++(if r then enc m.toNat else[])++(if bi then enc c.toNat else[])++(if t then aY (aC o)else[])=mw ⟨wd,s,r,bi,t,B⟩ ⟨(k:Int),n,m,c,o⟩):=by
  simp[Hid,mw]
 have a4:Hid (∀w',Fr af w w'→Calls Tryz.prog 115 #[.agg #[.int .i64 (k:Int), .string n, .int .i64 m, .int .i64 c, .string o]] w' (Checked w' ⟨(k:Int),n,m,c,o⟩)):=fun w' f=>j9 ⟨(k:Int),n,m,c,o⟩ w' (aZ.al f) (by simp only;omega) (by simp only;omega);have Q:Hid ((mw ⟨wd,s,r,bi,t,B⟩ ⟨(k:Int),n,m,c,o⟩).length≤50+n.size+o.size):=oH _ _;have aE:=Lib.hid Z;have G:Hid (n.size≤16777216∧o.size≤16777216):=⟨bb,bc⟩;have bj:Hid (∀j v,(nM wd s r bi t B).toList[j]? =some v→w.cell? ⟨0,k*6+j,none⟩=some v):=aZ.row k _ hu;have ai:(k:Int)<21:=by omega
 have bv:k<21:=by omega
 have bw:(0:Int)≤(k:Int):=by omega
 clear aZ hu Z a0 aL bb bc;obtain⟨aT,X⟩:∃L,enc k++(if s then aY (aC n)else[])=L:=⟨_,rfl⟩;obtain⟨aU,H⟩:∃L,aT++(if r then enc m.toNat else[])=L:=⟨_,rfl⟩;obtain⟨aV,I⟩:∃L,aU++(if bi then enc c.toNat else[])=L:=⟨_,rfl⟩;obtain⟨a7,J⟩:∃L,aV++(if t then aY (aC o)else[])=L:=⟨_,rfl⟩;rw[X,H,I,J]at M;rw[←M.out]at Q;rw[←M.out];have aq:=Lib.hid X;have av:=Lib.hid H;have ax:=Lib.hid I;have ay:=Lib.hid J;have N:Hid (aT.length≤100000000∧aU.length≤100000000∧aV.length≤100000000∧a7.length≤100000000):=by
  have ae:=Q.out;have ba:=G.out;rw[←J,←I,←H]at ae;simp only[List.length_append]at ae;simp only[Hid];rw[←J,←I,←H];simp only[List.length_append];omega
 clear X H I J M Q;go_enter Tryz.func64,Tryz.ntmps64;go_wp2_with(refine au rfl 106 (.tmp 0) rfl (yp k n m c o) rfl ?_);intro w1 n1;have aS:=Lib.hid n1.fr;have aK:=Lib.hid n1.az;clear n1;generalize w.heap.size=A at*;have U:Hid (ak w1 A 106 (yp k n m c o)):=aK.out;clear aK;go_wp2_with(refine aw rfl 106 (.tmp 1) rfl ⟨A,0,none⟩ rfl (aD.cells ⟨(k:Int),n,m,c,o⟩) _ ?zF Tryz.underlying106 rfl aX (aR.go ?zH));case zF=>exact fun j x aa=>by rw[Addr.add_mid,Nat.zero_add];exact U.out.cell j|>.trans (by rw[←List.getElem?_toArray]at aa;exact aa)
 unfold aR;go_wp2_with fail;refine(a4.out _ aS.out).mono ?_;rintro e w2⟨q,rfl,a1,f2⟩;obtain rfl:q=0:=by
  rw[aE.out]at a1;exact beq_iff_eq.1 a1
 have a5:=Lib.hid (aS.out.trans f2);have V:=Lib.hid (U.out.fr f2 (fun x=>x));clear a1 f2 a4 aE U aS;go_upto_region 4 with fail;refine aA 6 af [Is (.pointer (some ⟨A,0,none⟩)),Is (.int .i64 (k:Int)),Is (.pointer (some ⟨0,k*6,none⟩)),Is (.agg (nM wd s r bi t B)),(fun a3 a2=>∃g,a3= .pointer (some ⟨g,0,none⟩)∧w2.heap.size≤g∧Wr a2 g (.slice none 0 0) [] 0),(fun a3 a2=>∃g,a3= .pointer (some ⟨g,0,none⟩)∧w2.heap.size≤g∧ak a2 g 189 #[.string ByteArray.empty, .bool false, .bool false, .bool false, .bool false, .int .i64 0])] [] (fun _=>True) (fun _ _=>false) (by kernel_rfl) (by kernel_rfl) (by kernel_rfl) (by kernel_rfl) ⟨Is.ag _,Is.ag _,Is.ag _,Is.ag _,fun _ _ _ _ f h=>by obtain⟨g,e,l,b⟩:=h;exact⟨g,e,l,b.bV f (fun _ _ x=>x)⟩,fun _ _ _ _ f h=>by obtain⟨g,e,l,b⟩:=h;exact⟨g,e,l,b.fr f (fun x=>x)⟩,trivial⟩ trivial (fun _ _ _ _ h=>h) trivial ?_ ?_
 ·refine⟨?zG,?zA,?zB,?zC,?zD,?zE,trivial⟩;all_goals intro u w' d Y F ai aM ab
  all_goals simp only[List.take_succ_cons,List.take_zero,List.map_cons,List.map_nil,an,Act.put,List.setIfInBounds_toArray,List.set_cons_zero,List.set_cons_succ,Nat.reduceAdd,Nat.zero_add]
  case zA=>
   simp only[show u 0=_ from F 0 (by kernel_rfl)];clear F ai aM ab;refine .inl ⟨by kernel_rfl,?_⟩;have q:_=some (Value.int .i64 (k:Int)):=(V.out.fr Y (fun x=>x)).cell 0;go_simp;exact⟨_,rfl,Fr.refl _ _,rfl,trivial⟩
  case' zB=>simp only[show u 1=_ from F 1 (by kernel_rfl)]
  case zC=>
   simp only[show u 2=_ from F 2 (by kernel_rfl)];clear F ai aM ab;refine .inl ⟨by kernel_rfl,?_⟩;exact ar _ _ rfl ⟨0,k*6,none⟩ rfl (nM wd s r bi t B).toList _ (fun bp v bo=>by rw[Addr.add_mid];exact(a5.out.trans Y).aj (bj.out bp v bo) (fun x=>x)) Tryz.underlying189 rfl jc ⟨_,rfl,Fr.refl _ _,rfl,trivial⟩
  case zD=>
   clear F ai aM ab;refine .inl ⟨by kernel_rfl,?_⟩;go_simp;refine(kb _).mono ?_;rintro e bq⟨rfl,hw,f4⟩;exact⟨_,rfl,f4.bA,⟨_,rfl,Y.size,hw⟩,trivial⟩
  case zE=>
   clear F ai aM ab;refine .inl ⟨by kernel_rfl,?_⟩;refine iO 189 rfl BM ud #[.string ByteArray.empty, .bool false, .bool false, .bool false, .bool false, .int .i64 0] rfl ?_;intro bq n4;exact⟨_,rfl,n4.fr,⟨_,rfl,Y.size,n4.az⟩,trivial⟩
  all_goals
   clear F ai aM ab;refine .inl ⟨by kernel_rfl,?_⟩;go_simp;exact⟨_,rfl,Fr.refl _ _,rfl,trivial⟩
 ·intro u w' Y F ab;have aN:u 3=_:=F 3 (by omega);obtain⟨E,bd,lw,aI⟩:=F 4 (by omega);obtain⟨D,be,bf,aF⟩:=F 5 (by omega);clear F ab;simp only[List.take_succ_cons,List.take_zero,List.map_cons,List.map_nil,an,Act.put,List.setIfInBounds_toArray,List.set_cons_zero,List.set_cons_succ,List.drop_succ_cons,List.drop_zero,Nat.reduceAdd,Nat.zero_add,aN,bd,be];have T:=Lib.hid aI;have S:=Lib.hid aF;have a8:Hid (w2.heap.size≤E∧w2.heap.size≤D):=⟨lw,bf⟩;have a6:=Lib.hid Y;clear Y aN bd be lw bf aI aF;refine ah rfl 189 (.tmp 5) _ rfl D (nM wd s r bi t B) rfl rfl _ _ S.out jc rfl (fM.one ⟨wd,s,r,bi,t,B⟩) ?_;intro y a9 aW;have NE:Hid (E≠D):=dB T.out.az S.out (by decide);have aJ:Hid (Wr y E (.slice none 0 0) [] 0):=T.out.bV aW (fun x aa e=>by have bm:x=D:=e;have:=qf aa;have:=NE.out;omega);have P:Hid (Fr af w2 y):=a6.out.ao aW (fun i bt e=>by have bm:i=D:=e;have:=a8.out;omega);have a:Hid (WN w2 y E (.slice none 0 0) []):=⟨⟨y,cF.start aJ.out,P.out⟩,a8.out.1⟩;have K:Hid (ak y D 189 (nM wd s r bi t B)):=a9;have C:Hid (ak y A 106 (yp k n m c o)):=V.out.fr P.out (fun x=>x);clear aW a9 T S a6 V aJ NE P;have bk:y.cell? ⟨A,0,none⟩=some (.int .i64 (k:Int)):=C.out.cell 0;go_wp2_with fail;refine(iL E _ _ 0 (k:Int) _ a.out.wr (by simp) (by omega)).mono ?_;rintro e am⟨rfl,aQ,z⟩;rw[gN,List.nil_append]at z;have ST:Hid (NS w2 am E D A (nM wd s r bi t B) (yp k n m c o) (enc k)):=a.out.ns K.out C.out z;clear z bk a K C;generalize am=y at*;have ub:y.cell? ⟨D,1,none⟩=some (.bool s):=by obtain⟨_,_,h,_⟩:=ST.out;exact h.cell 1
  go_upto_if 24 with fail;clear ub;go_cut[1](fun ac ad=>ac= .pointer (some ⟨A,0,none⟩)∧NS w2 ad E D A (nM wd s r bi t B) (yp k n m c o) aT);case first=>
   cases s;·go_wp2;go_meet;refine⟨rfl,?_⟩;have h:=ST.out;rw[←aq.out];simpa using h
   ·obtain⟨v,wn,ub,nb⟩:=ST.out;have a:=Lib.hid wn;have K:=Lib.hid ub;have C:=Lib.hid nb;clear wn ub nb;have W:y.cell? ⟨A,1,none⟩=some (.string n):=C.out.cell 1;go_wp2_with fail;refine(kF E v _ 0 n _ a.out.wr (by have:=aO k;omega) (by have:=G.out;omega)).mono ?_;rintro e am⟨rfl,aQ,z⟩;rw[gO _ _ (by have:=G.out;omega)]at z;have h:=a.out.ns K.out C.out z;have R:=Lib.hid h;clear z h W;go_wp2;go_meet;refine⟨rfl,?_⟩;have h:=R.out;rw[←aq.out];simpa[aY,aG]using h
  case rest=>
   obtain⟨rfl,p⟩:=hcut;clear ST;have ST:=Lib.hid p;clear p;generalize wc=y at*;have ub:y.cell? ⟨D,2,none⟩=some (.bool r):=by obtain⟨_,_,h,_⟩:=ST.out;exact h.cell 2
   go_upto_if 30 with fail;clear ub;go_cut[1](fun ac ad=>ac= .pointer (some ⟨A,0,none⟩)∧NS w2 ad E D A (nM wd s r bi t B) (yp k n m c o) aU);case first=>
    cases r;·go_wp2;go_meet;refine⟨rfl,?_⟩;have h:=ST.out;rw[←av.out];simpa using h
    ·obtain⟨v,wn,ub,nb⟩:=ST.out;have a:=Lib.hid wn;have K:=Lib.hid ub;have C:=Lib.hid nb;clear wn ub nb;have W:y.cell? ⟨A,2,none⟩=some (.int .i64 m):=C.out.cell 2;go_wp2_with fail;refine(iL E v _ 0 m _ a.out.wr (by have:=N.out;omega) (by have:=aB.out (by first|rfl|trivial);omega)).mono ?_;rintro e am⟨rfl,aQ,z⟩;rw[(aB.out (by first|rfl|trivial)).1,gN]at z;have h:=a.out.ns K.out C.out z;have R:=Lib.hid h;clear z h W;go_wp2;go_meet;refine⟨rfl,?_⟩;have h:=R.out;rw[←av.out];simpa[aY,aG]using h
   case rest=>
    obtain⟨rfl,p⟩:=hcut;clear ST;have ST:=Lib.hid p;clear p;generalize wc=y at*;have ub:y.cell? ⟨D,3,none⟩=some (.bool bi):=by obtain⟨_,_,h,_⟩:=ST.out;exact h.cell 3
    go_upto_if 36 with fail;clear ub;go_cut[1](fun ac ad=>ac= .pointer (some ⟨A,0,none⟩)∧NS w2 ad E D A (nM wd s r bi t B) (yp k n m c o) aV);case first=>
     cases bi;·go_wp2;go_meet;refine⟨rfl,?_⟩;have h:=ST.out;rw[←ax.out];simpa using h
     ·obtain⟨v,wn,ub,nb⟩:=ST.out;have a:=Lib.hid wn;have K:=Lib.hid ub;have C:=Lib.hid nb;clear wn ub nb;have W:y.cell? ⟨A,3,none⟩=some (.int .i64 c):=C.out.cell 3;go_wp2_with fail;refine(iL E v _ 0 c _ a.out.wr (by have:=N.out;omega) (by have:=ap.out (by first|rfl|trivial);omega)).mono ?_;rintro e am⟨rfl,aQ,z⟩;rw[(ap.out (by first|rfl|trivial)).1,gN]at z;have h:=a.out.ns K.out C.out z;have R:=Lib.hid h;clear z h W;go_wp2;go_meet;refine⟨rfl,?_⟩;have h:=R.out;rw[←ax.out];simpa[aY,aG]using h
    case rest=>
     obtain⟨rfl,p⟩:=hcut;clear ST;have ST:=Lib.hid p;clear p;generalize wc=y at*;have ub:y.cell? ⟨D,4,none⟩=some (.bool t):=by obtain⟨_,_,h,_⟩:=ST.out;exact h.cell 4
     go_upto_if 42 with fail;clear ub;go_cut[1](fun ac ad=>ac= .pointer (some ⟨A,0,none⟩)∧NS w2 ad E D A (nM wd s r bi t B) (yp k n m c o) a7);case first=>
      cases t;·go_wp2;go_meet;refine⟨rfl,?_⟩;have h:=ST.out;rw[←ay.out];simpa using h
      ·obtain⟨v,wn,ub,nb⟩:=ST.out;have a:=Lib.hid wn;have K:=Lib.hid ub;have C:=Lib.hid nb;clear wn ub nb;have W:y.cell? ⟨A,4,none⟩=some (.string o):=C.out.cell 4;go_wp2_with fail;refine(kF E v _ 0 o _ a.out.wr (by have:=N.out;omega) (by have:=G.out;omega)).mono ?_;rintro e am⟨rfl,aQ,z⟩;rw[gO _ _ (by have:=G.out;omega)]at z;have h:=a.out.ns K.out C.out z;have R:=Lib.hid h;clear z h W;go_wp2;go_meet;refine⟨rfl,?_⟩;have h:=R.out;rw[←ay.out];simpa[aY,aG]using h
     case rest=>
      obtain⟨rfl,p⟩:=hcut;clear ST;have ST:=Lib.hid p;clear p;generalize wc=y at*;obtain⟨v,wn,ub,nb⟩:=ST.out;have a:=Lib.hid wn;clear wn ub nb ST;go_wp2_with fail;refine(nN E _ _ _ _ a.out.wr (by have:=N.out;omega)).mono ?_;rintro e br⟨_,aa⟩;obtain⟨bz,rfl,O⟩:=aa rfl;obtain⟨bs,bx,bl,rfl,bh,_⟩:=aP O.own;have bn:=lR br _ _ _ bl _ (oz.rd O.own bh.out);have bg:=Lib.hid ((a5.out.trans a.out.fr).trans O.al);clear O aa;go_wp2;go_ret2;exact⟨rfl,bg.out⟩
theorem uI(n:aD)(w:World)(h:dy w)(b:n.owner.size≤16777216)(c:n.text.size≤16777216)(a:cU n=true):
  Calls Tryz.prog 64 #[.agg n.cells.toArray] w (aH w (.tuple #[.string ⟨(bT n).toArray⟩, .int .i64 0])):=by
 obtain⟨i,u,hu,_⟩:=pW a;rw[qB hu];obtain⟨d,o,m,j,p⟩:=n;obtain⟨wd,f,e,bi,g,l⟩:=u;simp only at b c i hu;obtain⟨k,rfl⟩:∃k:Nat,d=(k:Int):=⟨d.toNat,by omega⟩;rw[Int.toNat_natCast]at hu;exact Cg k o m j p wd f e bi g l w h (by omega) hu b c a
end Go.Proofs.YtphjagkehiklkaaGreatDoor
namespace Go.Proofs.YtphjagkehiklkaaGreatDoor
open Go.RowKit Go.Shelf
attribute[local go_sem]Oper.semAt_some
abbrev jT(w:World)(P:Nd→Prop):={x:Nd//mN w x∧P x}
def wX{w:World}{P:Nd→Prop}(x:jT w P):Array Value:=#[.pointer (some ⟨x.1.g,0,none⟩)]
def vo{w:World}{P:Nd→Prop}(x:jT w P):aD×ByteArray:=(x.1.nm,x.1.v)
def Eh(w:World)(P:Nd→Prop)(b a:List (jT w P)→World→Prop)(pre xs:List (jT w P))(e:Ending)(W':World):Prop:=
 (e= .returned (.bool true)∧b (pre++xs) W'∧KN w W')∨(e= .returned (.bool false)∧∃q,q<+:xs∧a (pre++q) W')
inductive lI(w:World)(P:Nd→Prop):Option Addr→Tr→List (jT w P)→Prop where
 |leaf:lI w P none .leaf []
 |node{l r:Tr}{nm:aD}{v:ByteArray}{g:Nat}{a b:Option Addr}{L h:List (jT w P)}(d:lI w P a l L)(e:lI w P b r h)
   (c:ak w g 177 (qD a b (.node l nm v r)).toArray)(x:jT w P)(f:x.1=⟨g,nm,v⟩):lI w P (some ⟨g,0,none⟩) (.node l nm v r) (L++x::h)
theorem lI.of{w:World}{P:Nd→Prop}:∀{a:Option Addr}{t:Tr},bO w a t→(∀g e,e∈t.aW→P ⟨g,e.1,e.2⟩)→∃L,lI w P a t L
 |_, .leaf,h,_=>by
  obtain rfl:_=none:=h;exact⟨[], .leaf⟩
 |_, .node l nm v r,⟨g,k,m,e,d,f,c⟩,b=>by
  subst e;obtain⟨L,i⟩:=lI.of d (fun g e he=>b g e (by rw[Tr.aW];simp[he]));obtain⟨n,j⟩:=lI.of f (fun g e he=>b g e (by rw[Tr.aW];simp[he]));exact⟨_, .node i j c ⟨⟨g,nm,v⟩,⟨_,_,_,_,_,c⟩,b g (nm,v) (by rw[Tr.aW];simp)⟩ rfl⟩
theorem lI.aW{w:World}{P:Nd→Prop}{a:Option Addr}{t:Tr}{L:List (jT w P)}(h:lI w P a t L):L.map vo=t.aW:=by
 induction h with
 |leaf=>rfl
 |node _ _ _ x d b c=>
  rw[List.map_append,List.map_cons,b,c,Tr.aW];simp only[vo,d]
theorem Db(l N:Nat)(w:World)(P:Nd→Prop)(J p:List (jT w P)→World→Prop)
  (S:∀m pre x W,J pre W→KN w W→pre.length<N→YieldAt Fence.wide m Tryz.prog l (wX x) W fun e W'=>(e= .returned (.bool true)∧J (pre++[x]) W'∧KN W W')∨(e= .returned (.bool false)∧p (pre++[x]) W'))
  {a:Option Addr}{t:Tr}{L:List (jT w P)}(h:lI w P a t L):
  ∀(m:Nat)(pre:List (jT w P))(W:World),J pre W→KN w W→pre.length+L.length≤N→
   CallsIn Fence.wide m Tryz.prog 170 #[.pointer a, .func (.yield l) #[] #[]] W (Eh w P J p pre L):=by
 induction h with
 |leaf=>
  intro m pre W r i _;refine callsIn_of_wp Tryz.func170 rfl trivial ?_ rfl;simp only[Tryz.ntmps170,List.size_toArray,List.length_cons,List.length_nil,Nat.reduceAdd,Nat.reduceSub,Array.replicate_succ,Array.replicate_zero,List.push_toArray,List.append_toArray,List.nil_append,List.cons_append];gi_wp2_with(refine jL rfl ?_);go_ret;exact .inl ⟨rfl,by simpa using r,i⟩
 |@node af ag nm v g aa T L R ac ad I x Z C D=>
  intro m pre W r i Q;have d:∀k:Nat,(Fence.wide.depth.isSome=true→1≤k):=fun k h=>by cases h
  rw[List.length_append,List.length_cons]at Q;have n:wX x=#[Value.pointer (some ⟨g,0,none⟩)]:=by rw[wX,Z]
  have y:∀b,J (pre++L) b→KN w b→YieldAt Fence.wide (m-1) Tryz.prog l #[.pointer (some ⟨g,0,none⟩)] b fun e c=>
    (e= .returned (.bool true)∧J (pre++L++[x]) c∧KN b c)∨(e= .returned (.bool false)∧p (pre++L++[x]) c):=fun b F H=>by
   have:=S (m-1) (pre++L) x b F H (by simp;omega);rw[n]at this;exact this
  have A:=Lib.hid ((C (m-1) pre W r i (by omega)).mono (R':=fun e b=>
    (e= .returned (.bool true)∧KN w b∧YieldAt Fence.wide (m-1) Tryz.prog l #[.pointer (some ⟨g,0,none⟩)] b fun e c=>
     (e= .returned (.bool true)∧J (pre++L++[x]) c∧KN b c)∨(e= .returned (.bool false)∧p (pre++L++[x]) c))∨
    (e= .returned (.bool false)∧∃q,q<+:L∧p (pre++q) b))
   (fun e b h=>h.elim (fun⟨he,Y,j⟩=> .inl ⟨he,j,y b Y j⟩) .inr));have B:=Lib.hid (fun W r i=>D (m-1) (pre++L++[x]) W r i (by simp;omega));have V:W.cell? ⟨g,0,none⟩=some (.pointer aa):=(i _ _ I).cell 0;have HB:=Lib.hid I;clear y C D S Q I n;refine callsIn_of_wp Tryz.func170 rfl trivial ?_ rfl;simp only[Tryz.ntmps170,List.size_toArray,List.length_cons,List.length_nil,Nat.reduceAdd,Nat.reduceSub,Array.replicate_succ,Array.replicate_zero,List.push_toArray,List.append_toArray,List.nil_append,List.cons_append];gi_wp2_with((try refine⟨trivial,d _,?_⟩);gi_at_call 170;refine A.out.mono ?_;clear A;rintro e b(⟨rfl,f,fn,tmps,assign,body,ae,hR⟩|⟨rfl,q,n,K⟩))
  ·have o:=Lib.hid f;have X:b.cell? ⟨g,1,none⟩=some (.pointer T):=(f _ _ HB.out).cell 1;clear f V;refine⟨d _,?_⟩;refine hR.mono ?_;clear hR;rintro e c(⟨rfl,s,u⟩|⟨rfl,M⟩)
   ·have j:=o.out.trans u;have U:=Lib.hid j;have E:=Lib.hid s;have X:c.cell? ⟨g,1,none⟩=some (.pointer T):=(j _ _ HB.out).cell 1;clear j u s o;gi_wp2_with((try refine⟨trivial,d _,?_⟩);gi_at_call 170;refine(B.out _ E.out U.out).mono ?_;clear B;rintro e ab(⟨rfl,G,hk3⟩|⟨rfl,q,n,O⟩));·go_ret;exact .inl ⟨rfl,by simpa[List.append_assoc]using G,hk3⟩
    ·go_ret;exact .inr ⟨rfl,L++x::q,by
      obtain⟨z,rfl⟩:=n;exact⟨z,by simp⟩,by simpa[List.append_assoc]using O⟩
   ·gi_wp2_with(refine jL rfl ?_);go_ret;exact .inr ⟨rfl,L++[x],by exact⟨R,by simp⟩,by simpa[List.append_assoc]using M⟩
  ·refine⟨fun _ h=>(by cases h),?_⟩;gi_wp2_with(refine jL rfl ?_);go_ret;exact .inr ⟨rfl,q,n.trans (List.prefix_append _ _),K⟩
theorem uq(m B s:Nat)(a:Option Addr)(t:Tr)(w:World)(P:Nd→Prop)(L:List (jT w P))(r:lI w P a t L)(f:ak w B 25 #[.pointer (some ⟨s,0,none⟩)])(i:ak w s 174 #[.pointer a]):
  SeqStopsK Fence.wide m Tryz.prog 169 #[.pointer (some ⟨B,0,none⟩)] (fun x:jT w P=>#[Value.pointer (some ⟨x.1.g,0,none⟩)]) KN (fun C=>C=L) (fun pre=>pre<+:L) L.length w:=by
 intro l G n W c _ _ u o;have d:∀k:Nat,(Fence.wide.depth.isSome=true→1≤k):=fun k h=>by cases h
 have j:=Db l L.length w P G n (fun m pre x W v _ y=>YieldAt.iZ rfl m (u pre x W v y)) r (m-1) [] W o (KN.below c) (by simp);have E:W.cell? ⟨B,0,none⟩=some (.pointer (some ⟨s,0,none⟩)):=(c.cell (p:=⟨B,0,none⟩) f.lt).trans (f.cell 0);have F:W.cell? ⟨s,0,none⟩=some (.pointer a):=(c.cell (p:=⟨s,0,none⟩) i.lt).trans (i.cell 0);refine callsIn_of_wp Tryz.func169 rfl trivial ?_ rfl;simp only[Tryz.ntmps169,List.size_toArray,List.length_cons,List.length_nil,Nat.reduceAdd,Nat.reduceSub,Array.replicate_succ,Array.replicate_zero,List.push_toArray,List.append_toArray,List.nil_append,List.cons_append];gi_wp2_with((try refine⟨trivial,d _,?_⟩);gi_at_call 170;refine j.mono ?_;clear j;rintro e D(⟨rfl,b,_⟩|⟨rfl,q,z,A⟩));·go_end0;exact⟨⟨_,rfl⟩, .inl ⟨_,rfl,by simpa using b⟩⟩
 ·go_end0;exact⟨⟨_,rfl⟩, .inr ⟨q,z,by simpa using A⟩⟩
end Go.Proofs.YtphjagkehiklkaaGreatDoor
namespace Go.Proofs.YtphjagkehiklkaaGreatDoor
open Go.RowKit Go.Shelf
attribute[local go_sem]Oper.semAt_some
theorem GH:(Tryz.prog.info? 113).map (·.size)=some 1:=by kernel_rfl
theorem Iw(w:World):(zeroValue 113).run Tryz.prog w= .ok (.pointer none) w:=by kernel_rfl
structure xz{α:Type}(b c:World)(g2 a:Nat)(lw:List α→List UInt8)(pre:List α)(W:World):Prop where
 fr:Fr af b W
 kn:KN c W
 box:ak W g2 113 #[.pointer (some ⟨a,0,none⟩)]
 wr:∃v,Wr W a v (lw pre) 0∧∀k,v.ownBlock=some k→b.heap.size≤k
theorem oa{X:World}{g k:Nat}{t:TypeId}{cs:Array Value}{d:Obj}(a:ak X g t cs)(b:X.heap[k]? =some d)(c:d.isCells=false):g≠k:=by
 rintro rfl;unfold ak at a;rw[a]at b;cases b;simp[Obj.isCells]at c
theorem lE{X:World}{e:TypeId}{sz n k:Nat}{v:Value}{xs:List Value}{i:Obj}(h:X.ownsRow 0 e sz v n xs)(b:X.heap[k]? =some i)(d:i.isCells=false):v.ownBlock≠some k:=by
 intro g;obtain⟨c,f,a⟩:=cu h g;rw[a]at b;cases b;simp[Obj.isCells]at d
theorem xz.gT{α:Type}{j p:World}{g2 l B:Nat}{lw:List α→List UInt8}(q:j.heap.size≤B):OwnFrom B (xz j p g2 l lw):=by
 intro pre X Y row h n f;have d:Fr (fun k=>some k=row) X Y:=Fr.grown n;obtain⟨v,hw,o⟩:=h.wr;refine⟨h.fr.ao d (fun i r e=>(by have:=(f i e.symm).1;omega)),h.kn.trans (KN.fr d (fun g cs m e=>?_)),h.box.fr d (fun e=>?_),⟨v,hw.bV d (fun k c e=>?_),o⟩⟩;·obtain⟨_,s,b,a⟩:=f g e.symm;exact oa m b a rfl
 ·obtain⟨_,s,b,a⟩:=f g2 e.symm;exact oa h.box b a rfl
 ·obtain⟨_,s,b,a⟩:=f k e.symm;rcases c with c|c;·exact oa hw.az b a c.symm
  ·exact lE hw.own b a c
theorem xz.step{α:Type}{e o W j X:World}{g2 b B:Nat}{lw:List α→List UInt8}{pre a:List α}{v v3:Value}(c:xz e o g2 b lw pre W)(p:e.heap.size≤b)
  (hw:Wr W b v (lw pre) 0)(n:∀k,v.ownBlock=some k→e.heap.size≤k)(f:Fr af W j)(st:cF j b v X v3 (lw a,0)):KeepsFrom B W X∧KN W X∧xz e o g2 b lw a X:=by
 have F:Fr (Gm b v) W X:=f.bA.trans st.fr;have K:KN W X:=KN.fr F (fun g cs l h=>by
  rcases h with h|h;·exact dB l hw.az (by decide) h
  ·exact bh hw.own l (by decide) h);refine⟨⟨F.size,fun k s _ d m=>?_⟩,K,?_,c.kn.trans K,c.box.fr F (fun h=>?_),⟨v3,st.wr,fun k q=>?_⟩⟩
 ·refine(F.block k (Array.getElem?_eq_some_iff.1 d).1 ?_).trans d;rintro(h|h);·exact oa hw.az d m h.symm
  ·exact lE hw.own d m h
 ·refine c.fr.ao F (fun i r h=>?_);rcases h with h|h;·omega
  ·have:=n i h;omega
 ·rcases h with h|h;·exact dB c.box hw.az (by decide) h
  ·exact bh hw.own c.box (by decide) h
 ·rcases st.dD k q with h|h;·exact n k h
  ·have:=c.fr.size;have:=f.size;omega
def zf(LE:List Ent)(x:Nd):Prop:=(x.nm,x.v)∈LE
def kl{w:World}{P:Nd→Prop}(n:Nat)(a:List (jT w P)):List UInt8:=enc n++(a.map vo).flatMap nk
theorem sW{w:World}{P:Nd→Prop}(n:Nat)(a:List (jT w P))(y:jT w P):kl n (a++[y])=kl n a++aY (bT y.1.nm)++aY (aC y.1.v):=by
 simp[kl,nk,vo,List.flatMap_append,List.append_assoc]
theorem ua(s:ByteArray):enc s.size++aC s=aY (aC s):=by rw[aY,aG]
theorem DX(l:List UInt8):enc (⟨l.toArray⟩:ByteArray).size++aC ⟨l.toArray⟩=aY l:=by
 rw[←aG];rfl
structure vU(L:List Ent):Prop where
 ok:∀x∈L,cU x.1=true
 owner:∀x∈L,x.1.owner.size≤1048576
 text:∀x∈L,x.1.text.size≤1048576
 value:∀x∈L,x.2.size≤1048576
 len:L.length≤60000
theorem mi:∀(L:List Ent),(∀x∈L,x.1.owner.size≤1048576)→(∀x∈L,x.1.text.size≤1048576)→(∀x∈L,x.2.size≤1048576)→(L.flatMap nk).length≤L.length*4000000
 |[],_,_,_=>by simp
 |x::L,b,c,d=>by
  have e:=mi L (fun y a=>b y (by simp[a])) (fun y a=>c y (by simp[a])) (fun y a=>d y (by simp[a]));have f:=b x (by simp);have a2:=c x (by simp);have a3:=d x (by simp);have b1:=ej x.1;have b2:=aO (bT x.1).length;have b3:=aO (aC x.2).length;have b4:=aG x.2;simp only[List.flatMap_cons,nk,aY,List.length_append,List.length_cons]at e⊢;omega
theorem EM{w:World}{P:Nd→Prop}(n:Nat)(b:List (jT w P))(c:∀y:jT w P,y.1.nm.owner.size≤1048576)(d:∀y:jT w P,y.1.nm.text.size≤1048576)(e:∀y:jT w P,y.1.v.size≤1048576):(kl n b).length≤10+b.length*4000000:=by
 have h:=mi (b.map vo) (fun x a=>by obtain⟨y,_,rfl⟩:=List.mem_map.1 a;exact c y) (fun x a=>by obtain⟨y,_,rfl⟩:=List.mem_map.1 a;exact d y) (fun x a=>by obtain⟨y,_,rfl⟩:=List.mem_map.1 a;exact e y);have f:=aO n;rw[List.length_map]at h;simp only[kl,List.length_append];omega
def po(w:World)(l:List UInt8)(e:Ending)(w':World):Prop:=∃v,e= .returned v∧fT w (.slice none 0 0) w' v l
theorem Ci(LE:List Ent)(s:Nat)(w:World)(bn:ew w s LE)(bK:dy w)(aa:vU LE):Calls Tryz.prog 102 #[.pointer (some ⟨s,0,none⟩)] w (po w (ey LE)):=by
  obtain⟨t,aD,het⟩:=bn;have aQ:t.size=LE.length:=by rw[←t.bU,het]
  have bX:=Lib.hid (fun w=>pb (some ⟨s,0,none⟩) w);have z:=Lib.hid aa;have aj:=Lib.hid het;have b5:=Lib.hid aQ;have b4:=Lib.hid bK;have bw:=Lib.hid aD;have aq:Hid ((ey LE).length≤250000000000):=by
    have a2:=mi LE aa.owner aa.text aa.value;have a4:=aO LE.length;have bJ:=aa.len;simp only[Hid,ey,List.length_append];omega
  clear aD het aQ aa bK;refine(callsIn_wide (n:=6)).1 (callsIn_of_wp_marks Tryz.func102 rfl trivial (wpIn_wide.2 ?_) rfl);simp only[Tryz.ntmps102,List.size_toArray,List.length_cons,List.length_nil,Nat.reduceAdd,Nat.reduceSub,Array.replicate_succ,Array.replicate_zero,List.push_toArray,List.append_toArray,List.nil_append,List.cons_append];go_wp2_with fail;refine(kb _).mono ?_;rintro r w1⟨rfl,aM,f1⟩;have ap:Sz w w.heap.size:=Nat.le_refl _;generalize w.heap.size=a at*;have bD:=Lib.hid aM;have a8:=Lib.hid f1;clear aM f1;go_wp2_with(refine ai rfl 113 rfl (.pointer none) Iw #[.pointer none] rfl ?_);intro w2 bS;have bg:=Lib.hid bS;clear bS;have b0:Sz w w1.heap.size:=a8.out.size;generalize aE:w1.heap.size=g2 at*;have am:=Lib.hid aE;clear aE;have br:Hid (ak w2 g2 113 #[.pointer none]):=by have h:=bg.out.az;rw[am.out]at h;exact h
  go_wp2_with(refine bE rfl 113 (.tmp 3) _ rfl g2 (.pointer (some ⟨a,0,none⟩)) rfl rfl rfl _ _ br.out GH ?_);intro bp b3 f3;have S:Hid (Fr af w1 bp):=bg.out.fr.ao f3 (fun i bM e=>by have a1:i=g2:=e;have:=am.out;omega);have a9:=Lib.hid (a8.out.trans S.out);have a6:=Lib.hid b3;have bF:Hid (Wr bp a (.slice none 0 0) [] 0):=bD.out.bV S.out (fun _ _ x=>x);clear b3 f3 bg br bD a8 S;have CL:Hid (∀w',Fr af bp w'→Calls Tryz.prog 94 #[.pointer (some ⟨s,0,none⟩)] w' (bj w' (.int .i64 (LE.length:Int)))):=fun w' f=>by
    rw[←b5.out];exact xw w' s t (bw.out.al (a9.out.trans f))
  go_upto_region 4 with fail;refine aA 3 af [Is (.pointer (some ⟨a,0,none⟩)),Is (.pointer (some ⟨s,0,none⟩)),Is (.int .i64 (LE.length:Int))] [] (fun _=>True) (fun _ _=>false) (by kernel_rfl) (by kernel_rfl) (by kernel_rfl) (by kernel_rfl) ⟨Is.ag _,Is.ag _,Is.ag _,trivial⟩ trivial (fun _ _ _ _ h=>h) trivial ?_ ?_
  · refine⟨?zA,?zG,?zB,trivial⟩;all_goals intro u w' d hf b X B G
    all_goals simp only[List.take_succ_cons,List.take_zero,List.map_cons,List.map_nil,an,Act.put,List.setIfInBounds_toArray,List.set_cons_zero,List.set_cons_succ,Nat.reduceAdd,Nat.zero_add]
    case zA=>
      clear b X B G;refine .inl ⟨by kernel_rfl,?_⟩;have q:_=some (Value.pointer (some ⟨a,0,none⟩)):=(a6.out.fr hf (fun x=>x)).cell 0;go_simp;exact⟨_,rfl,Fr.refl _ _,rfl,trivial⟩
    case zB=>
      simp only[show u 1=_ from b 1 (by kernel_rfl)];clear b X B G;refine .inl ⟨by kernel_rfl,?_⟩;go_simp;refine(CL.out _ hf).mono ?_;rintro e ck⟨rfl,rfl⟩;exact⟨_,rfl,Fr.refl _ _,rfl,trivial⟩
    all_goals
      clear b X B G;refine .inl ⟨by kernel_rfl,?_⟩;go_simp;exact⟨_,rfl,Fr.refl _ _,rfl,trivial⟩
  · intro u w' hf b G;have B:u 0=_:=b 0 (by omega);have bP:u 2=_:=b 2 (by omega);clear b G;simp only[List.take_succ_cons,List.take_zero,List.map_cons,List.map_nil,an,Act.put,List.setIfInBounds_toArray,List.set_cons_zero,List.set_cons_succ,List.drop_succ_cons,List.drop_zero,Nat.reduceAdd,Nat.zero_add,B,bP];have bk:Hid (Wr w' a (.slice none 0 0) [] 0):=bF.out.bV hf (fun _ _ x=>x);have a7:=Lib.hid (a6.out.fr hf (fun x=>x));have ba:=Lib.hid (a9.out.trans hf);have ar:Hid (LE.length≤60000):=z.out.len;clear hf B bP CL bF a6 a9;generalize w'=ck at*;go_wp2_with fail;refine(iL a _ _ 0 (LE.length:Int) _ bk.out (by simp) (by have:=ar.out;omega)).mono ?_;rintro e bq⟨rfl,v5,C⟩;rw[gN,List.nil_append]at C;have ad:Hid (Fr af w bq):=ba.out.ao C.fr (fun i bM e=>by have a1:=qf e;have:=ap;unfold Sz at this;omega);have bs:Hid (ak bq g2 113 #[.pointer (some ⟨a,0,none⟩)]):=a7.out.fr C.fr (fun e=>dB a7.out bk.out.az (by decide) (qf e));have bG:=Lib.hid C.wr;have bx:Hid (∀k,v5.ownBlock=some k→w.heap.size≤k):=fun k aF=>by
      rcases C.dD k aF with h|h;· simp[Value.ownBlock]at h
      · have:=ba.out.size;omega
    clear C ba a7 bk;go_wp2_with fail;refine(bX.out _).mono ?_;rintro r Z⟨rfl,f6,bI⟩;have aT:=Lib.hid (ad.out.trans f6);have bW:=Lib.hid (bs.out.fr f6 (fun x=>x));have cb:Hid (Wr Z a v5 (enc LE.length) 0):=bG.out.bV f6 (fun _ _ x=>x);have bY:=Lib.hid bI;have b9:Hid (∀k,v5.ownBlock=some k→w.heap.size≤k):=bx.out;clear f6 bI ad bs bG bx;generalize bq.heap.size=gs at*;obtain⟨a3,aL,aJ⟩:=bw.out.al aT.out;obtain⟨L,bm⟩:=lI.of (P:=zf LE) aJ (fun g e he=>by unfold zf;rw[←aj.out];exact he);have bz:Hid (L.map vo=LE):=bm.aW.trans aj.out;have ca:Hid (L.length=LE.length):=by simp only[Hid];have h:=congrArg List.length bz.out;simpa using h
    have b2:=Lib.hid bm;have bd:=Lib.hid aL;clear aL aJ bm;go_wp2_with fail;refine(wpIn_wide (n:=6)).1 ?_;refine wpIn_rangeFunc_ownG rfl (by omega) (gf:=169) (lb:=#[.pointer (some ⟨gs,0,none⟩)]) rfl trivial (enters_of Tryz.func169 (by kernel_rfl) rfl)
      (uq 5 gs s a3 t Z (zf LE) L b2.out bY.out bd.out) (fun h k=>h.trans k) (fun W l o cj _ ch cg _=>KN.put W l o cj ch cg) (Below.refl _ _) (fun _=>rfl)
      (xz w Z g2 a (fun cl:List (jT Z (zf LE))=>kl LE.length cl)) (fun _ _ _=>False) (xz.gT aT.out.size) (fun _ _ _ _ _ h _ _=>h.elim)
      ⟨aT.out,KN.refl _,bW.out,v5,by simpa[kl]using cb.out,b9.out⟩ ?zJ ?assign ?body ?done ?stop;case assign=>
      intro l x W K aB;gi_wp2;exact aB
    case body=>
      rintro bR pre x W a5 aI;have bv:=Lib.hid a5;have b1:=Lib.hid aI;obtain⟨V,R,m,⟨v,F,c⟩⟩:=a5;have bZ:=Lib.hid V;have au:=Lib.hid F;have bc:=Lib.hid c;have bb:=Lib.hid m;have aV:=Lib.hid (x.2.1.kn R).kr;have H:Hid ((x.1.nm,x.1.v)∈LE):=x.2.2;have A:=Lib.hid (sW LE.length pre x);have J:Hid ((kl LE.length (pre++[x])).length≤250000000000+3000000):=by
        have a2:=z.out.owner _ H.out;have a4:=z.out.text _ H.out;have bJ:=z.out.value _ H.out;have cf:=ej x.1.nm;have cp:=aO (bT x.1.nm).length;have cq:=aO (aC x.1.v).length;have cr:=aG x.1.v;have ct:=EM LE.length pre (fun y=>z.out.owner _ y.2.2) (fun y=>z.out.text _ y.2.2) (fun y=>z.out.value _ y.2.2);have cu:=b1.out;have cd:=ca.out;have ce:=ar.out;simp only at a2 a4 bJ;simp only[Hid];rw[sW];simp only[aY,List.length_append];omega
      have bB:Hid (dy W):=b4.out.al V;obtain⟨y,bo⟩:∃y:jT Z (zf LE),y=x:=⟨x,rfl⟩;have be:=Lib.hid bo;rw[←bo]at A J;obtain⟨⟨U,p,ab⟩,aN,bO⟩:=x;rw[be.out]at A J;simp only at aV H A⊢;have bt:Hid (Calls Tryz.prog 64 #[.agg p.cells.toArray] W (aH W (.tuple #[.string ⟨(bT p).toArray⟩, .int .i64 0]))):=uI p W bB.out (by have:=z.out.owner _ H.out;simp only at this;omega) (by have:=z.out.text _ H.out;simp only at this;omega) (z.out.ok _ H.out);have bC:Hid (ab.size≤1048576):=z.out.value _ H.out;have ax:Hid ((bT p).length≤3000000):=by
        have a2:=z.out.owner _ H.out;have a4:=z.out.text _ H.out;have cf:=ej p;simp only at a2 a4;simp only[Hid];omega
      clear V R m F c bo bB aI;gi_wp2_with(refine bN (ku 106) rfl (by kernel_rfl) ?_);refine aw rfl 106 (.tmp 22) rfl ⟨U,2,none⟩ rfl p.cells _ ?zI Tryz.underlying106 rfl aX (aR.go ?hold);case zI=>exact fun j v ci=>by rw[Addr.add_mid];exact aV.out.name j v ci
      unfold aR;go_wp2_with fail;refine bt.out.mono ?_;rintro e a0⟨rfl,f1⟩;have E:Hid (Wr a0 a v (kl LE.length pre) 0):=au.out.bV f1 (fun _ _ x=>x);have I:=Lib.hid (bb.out.fr f1 (fun x=>x));have bf:=Lib.hid (aV.out.al f1);have ae:=Lib.hid f1;clear f1 bt;go_wp2;show Code.wpIn (Fence.wide.inRound bR) (6-1-1) Tryz.prog _ _ _ _;have O:a0.cell? ⟨g2,0,none⟩=some (.pointer (some ⟨a,0,none⟩)):=I.out.cell 0;gi_wp2_with(refine bN (ku 113) rfl (by kernel_rfl) ?_);have M:Hid ((kl LE.length pre).length≤260000000000):=by
        have h:=J.out;rw[A.out]at h;simp only[List.length_append]at h;simp only[Hid];omega
      go_wp2_with fail;refine(kF a v _ 0 ⟨(bT p).toArray⟩ _ E.out (by have:=M.out;omega) (by have:=ax.out;rw[←aG];exact Nat.le_trans this (by decide))).mono ?_;rintro e bH⟨rfl,v2,st2⟩
      rw[gO _ _ (by have h:=ax.out;have e:(⟨(bT p).toArray⟩:ByteArray).size=(bT p).length:=by rw[←aG];rfl
                    omega),DX]at st2;have N:=Lib.hid st2;have ac:Hid (ak bH g2 113 #[.pointer (some ⟨a,0,none⟩)]):=I.out.fr st2.fr (fun h=>by
        rcases h with h|h;· exact dB I.out E.out.az (by decide) h
        · exact bh E.out.own I.out (by decide) h);have av:Hid (Mid bH U p ab):=((⟨⟨U,p,ab⟩,aN,bO⟩:jT Z (zf LE)).2.1.kn ((bv.out.kn.trans (KN.fr ae.out (fun _ _ _ x=>x))).trans (KN.fr st2.fr (fun g cs bL h=>by
        rcases h with h|h;· exact dB bL E.out.az (by decide) h
        · exact bh E.out.own bL (by decide) h)))).kr;clear st2 O aV bf M;go_wp2;show Code.wpIn (Fence.wide.inRound bR) (6-1-1) Tryz.prog _ _ _ _;gi_wp2;refine nP 5 af [Is (.pointer (some ⟨a,0,none⟩)),Is (.pointer (some ⟨U,0,none⟩)),Is (.pointer (some ⟨U,0,none⟩)),Is (.pointer (some ⟨U,7,none⟩)),Is (.string ab)] [] (fun _=>True) (fun _ _=>false) (by kernel_rfl) (by kernel_rfl) (by kernel_rfl) (by kernel_rfl) (by kernel_rfl) ⟨Is.ag _,Is.ag _,Is.ag _,Is.ag _,Is.ag _,trivial⟩ trivial (fun _ _ _ _ h=>h) trivial ?_ ?_
      · refine⟨?zC,?zH,?zD,?zE,?zF,trivial⟩;all_goals intro u w' d hf b X B G
        all_goals simp only[List.take_succ_cons,List.take_zero,List.map_cons,List.map_nil,an,Act.put,List.setIfInBounds_toArray,List.set_cons_zero,List.set_cons_succ,Nat.reduceAdd,Nat.zero_add]
        case zC=>
          clear b X B G;refine .inl ⟨by kernel_rfl,?_⟩;have q:_=some (Value.pointer (some ⟨a,0,none⟩)):=(ac.out.fr hf (fun x=>x)).cell 0;go_simp;exact⟨_,rfl,Fr.refl _ _,rfl,trivial⟩
        case' zD=>simp only[show u 1=_ from b 1 (by kernel_rfl)]
        case' zE=>simp only[show u 2=_ from b 2 (by kernel_rfl)]
        case zF=>
          simp only[show u 3=_ from b 3 (by kernel_rfl)];clear b X B G;refine .inl ⟨by kernel_rfl,?_⟩;have q:=(av.out.al hf).val;go_simp;exact⟨_,rfl,Fr.refl _ _,rfl,trivial⟩
        all_goals
          clear b X B G;refine .inl ⟨by kernel_rfl,?_⟩;go_simp;exact⟨_,rfl,Fr.refl _ _,rfl,trivial⟩
      · intro u w' hf b G;have B:u 0=_:=b 0 (by omega);have bQ:u 4=_:=b 4 (by omega);clear b G;simp only[List.take_succ_cons,List.take_zero,List.map_cons,List.map_nil,an,Act.put,List.setIfInBounds_toArray,List.set_cons_zero,List.set_cons_succ,List.drop_succ_cons,List.drop_zero,Nat.reduceAdd,Nat.zero_add,B,bQ];have ay:Hid (cF a0 a v w' v2 (kl LE.length pre++aY (bT p),0)):=⟨N.out.wr.bV hf (fun _ _ x=>x),N.out.fr.trans hf.bA,N.out.dD⟩;have M:Hid ((kl LE.length pre++aY (bT p)).length≤260000000000):=by
          have h:=J.out;rw[A.out]at h;simp only[List.length_append]at h⊢;simp only[Hid];omega
        clear hf B bQ N ac av;go_wp2_with fail;refine(kF a v2 _ 0 ab _ ay.out.wr (by have:=M.out;simp only;omega) (by have:=bC.out;omega)).mono ?_;rintro e cc⟨rfl,v3,Y⟩;rw[gO _ _ (by have:=bC.out;omega),ua]at Y;have ST:=Lib.hid (ay.out.trans Y);clear Y;go_wp2;have bi:cF a0 a v cc v3 (kl LE.length (pre++[(⟨⟨U,p,ab⟩,aN,bO⟩:jT Z (zf LE))]),0):=by
          rw[A.out];exact ST.out
        exact xz.step bv.out ap au.out bc.out ae.out bi
    case done=>
      rintro D xs W bl rfl a5 aB;obtain⟨hf,R,m,⟨v,F,c⟩⟩:=a5;have aZ:Fr (fun k=>some k=some D) W (W.putObj D (.deferred none)):=Fr.grown (grownBy_putObj' W D _);have b8:=Lib.hid aB;have bu:=Lib.hid hf;have b7:Hid (Wr W a v (ey LE) 0):=by
        have h:kl LE.length xs=ey LE:=by rw[kl,bz.out];rfl
        rw[←h];exact F
      have ah:Hid (w.heap.size≤D∧D<W.heap.size):=⟨by have:=aT.out.size;have:=bl;omega,(Array.getElem?_eq_some_iff.1 aB).1⟩;have O:=m.cell 0;simp only[List.getElem?_toArray,List.getElem?_cons_zero]at O;clear aZ hf m F c bl aB R;go_wp2_with fail;refine(nN a _ _ _ _ b7.out (by have:=aq.out;omega)).mono ?_;rintro e aS⟨_,aN⟩;obtain⟨cw,rfl,Q⟩:=aN rfl;have T:Hid (aS.heap[D]? =W.heap[D]?):=Q.al.block D ah.out.2 (fun x=>x);have aU:=Lib.hid Q;obtain⟨cm,cv,cn,rfl,_,_⟩:=aP Q.own;clear Q aN O;go_wp2;rw[b8.out]at T;refine⟨by simp, .inl ⟨_,_,rfl,run_takeDeferred T.out,?_⟩⟩;refine⟨_,results_tmp Tryz.results102 _ _ _,?_⟩;have aZ:Fr (fun k=>some k=some D) aS (aS.putObj D (.deferred none)):=Fr.grown (grownBy_putObj' aS D _);have b6:Fr af w (aS.putObj D (.deferred none)):=(bu.out.trans aU.out.al).ao aZ (fun i bM e=>by have a1:i=D:=(by simpa using e);have:=ah.out.1;omega);refine⟨_,rfl,⟨aK aU.out.own aZ (fun k aF e=>?_),b6.bA,fun k aF=> .inr ?_⟩⟩
      · have a1:k=D:=by simpa using e
        exact lE aU.out.own T.out rfl (by rw[←a1];exact aF)
      · have:=aU.out.new k aF;have:=bu.out.size;omega
    case stop=>
      rintro D co pre W bl _ h;exact h.elim
theorem ct.small{k:Nat}{L:List Ent}(h:ct k L)(b:k≤60000):vU L:=⟨h.ok,fun x a=>by have:=h.owner x a;omega,fun x a=>by have:=h.text x a;omega,fun x a=>by have:=h.value x a;omega,by have:=h.len;omega⟩
def rU(l:List UInt8)(v:Value)(w:World):Prop:=∃A n c,v= .slice A n c∧oz w (.slice A n c) l∧n=l.length
theorem rU.al{l:List UInt8}{v:Value}{w w':World}(h:rU l v w)(a:Fr af w w'):rU l v w':=by
 obtain⟨A,n,c,e,d,b⟩:=h;exact⟨A,n,c,e,aK d a (fun _ _ x=>x),b⟩
theorem po.bytes{w w':World}{l:List UInt8}{e:Ending}(h:po w l e w'):∃v,e= .returned v∧rU l v w'∧Fr af w w':=by
 obtain⟨v,rfl,a⟩:=h;obtain⟨A,n,c,rfl,b,_⟩:=aP a.own;exact⟨_,rfl,⟨A,n,c,rfl,a.own,b.out⟩,a.al⟩
end Go.Proofs.YtphjagkehiklkaaGreatDoor
