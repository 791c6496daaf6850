/- Texts. -/
import Derived.Test.YtphjagkehiklkaaGreatDoorXK02
import Derived.Test.YtphjagkehiklkaaGreatDoorXK09
set_option linter.unusedVariables false
set_option linter.unusedSimpArgs false
set_option maxRecDepth 100000
set_option maxHeartbeats 4000000
namespace Go.Proofs.YtphjagkehiklkaaGreatDoor
open Go.RowKit Go.Shelf
def bN(l:List UInt8):List UInt8:=enc l.length++l
def nO(u:gX)(n:aI):List UInt8:=enc n.kind.toNat++((if u.owner then bN (aS n.owner)else[])++((if u.number then enc n.number.toNat else[])++((if u.index then enc n.index.toNat else[])++(if u.text then bN (aS n.text)else[]))))
def cJ(n:aI):List UInt8:=match ik[n.kind.toNat]? with
 |some u=>nO u n
 |none=>[]
def oS(x:Ent):List UInt8:=bN (cJ x.1)++bN (aS x.2)
def fE(L:List Ent):List UInt8:=enc L.length++L.flatMap oS
theorem xk{s:ByteArray}(h:s.toList.isEmpty=true):s=ByteArray.empty:=by
 rw[ByteArray.toList_eq,List.isEmpty_iff]at h;exact ByteArray.ext (Array.toList_inj.1 h)
structure zo(u:gX)(n:aI):Prop where
 o0:u.owner=false→n.owner=ByteArray.empty
 n0:u.number=false→n.number=0
 i0:u.index=false→n.index=0
 t0:u.text=false→n.text=ByteArray.empty
 n1:u.number=true→0≤n.number∧n.number≤1073741824
 i1:u.index=true→0≤n.index∧n.index≤u.aP
theorem td{u:gX}{n:aI}(h:pX u n=true):zo u n:=by
 simp only[pX,Bool.and_eq_true,Bool.or_eq_true,Bool.not_eq_true',decide_eq_true_eq]at h;obtain⟨⟨⟨⟨⟨⟨⟨a,b⟩,c⟩,d⟩,_⟩,f⟩,g⟩,_⟩:=h;refine⟨fun e=>?_,fun e=>?_,fun e=>?_,fun e=>?_,fun e=>?_,fun e=>?_⟩
 ·rcases a with h|h;·rw[e]at h;cases h
  ·exact xk h
 ·rcases b with h|h;·rw[e]at h;cases h
  ·exact beq_iff_eq.1 h
 ·rcases c with h|h;·rw[e]at h;cases h
  ·exact beq_iff_eq.1 h
 ·rcases d with h|h;·rw[e]at h;cases h
  ·exact xk h
 ·rcases f with h|h;·rw[e]at h;cases h
  ·exact h
 ·rcases g with h|h;·rw[e]at h;cases h
  ·exact h
theorem ru{n:aI}(h:dD n=true):(1≤n.kind∧n.kind≤20)∧∃u,ik[n.kind.toNat]? =some u∧pX u n=true:=by
 simp only[dD,Bool.and_eq_true,decide_eq_true_eq]at h;obtain⟨⟨b,c⟩,a⟩:=h;refine⟨⟨b,c⟩,?_⟩;cases hu:ik[n.kind.toNat]? with
 |none=>rw[hu]at a;cases a
 |some u=>rw[hu]at a;exact⟨u,rfl,a⟩
theorem As{k:Nat}{u:gX}(h:ik[k]? =some u):u.aP≤1073741824:=by
 have hm:∀x∈ik,x.aP≤1073741824:=by decide
 exact hm u (List.mem_of_getElem? h)
theorem se{n:aI}{u:gX}(h:ik[n.kind.toNat]? =some u):cJ n=nO u n:=by
 unfold cJ;rw[h]
theorem pW(u:gX)(n:aI):(nO u n).length≤50+n.owner.size+n.text.size:=by
 have a:=aX n.kind.toNat;have b:=aX n.number.toNat;have c:=aX n.index.toNat;have d:=aX (aS n.owner).length;have e:=aX (aS n.text).length;have f:=aQ n.owner;have g:=aQ n.text;simp only[nO,aW,bN];split<;>split<;>split<;>split<;>simp only[aW,List.length_nil]<;>omega
theorem ft(n:aI):(cJ n).length≤50+n.owner.size+n.text.size:=by
 unfold cJ;split;·exact pW _ n
 ·simp
structure LC(L:List Ent):Prop where
 ok:∀x∈L,dD x.1=true
 name:∀x∈L,ud x.1
 value:∀x∈L,x.2.size≤1099511627776
end Go.Proofs.YtphjagkehiklkaaGreatDoor
namespace Go.Proofs.YtphjagkehiklkaaGreatDoor
open Go.RowKit Go.Shelf
theorem lg{P:Program}{op:Oper}{a:Act}{w:World}{K:Act→World→Prop}{Q:Exit→Act→World→Prop}(t:TypeId)(c:op.op= .alloc t)(z:Value)(d:∀w,(zeroValue t).run P w= .ok z w)(cells:Array Value)(b:z.cells=cells)
  (h:∀w',dh w w' t cells→K (a.put op.dst (.pointer (some ⟨w.heap.size,0,none⟩))) w'):op.wp P a w K Q:=by
 subst b;unfold Oper.wp execOp;simp only[c,Instr.alloc,Sem.run_bind,d,newVar,newRow,run_newObj_alloc,Sem.run_pure,Result.andThen_ok];exact h _ (dh.alloc w t z.cells)
theorem ey{w:World}{g b:Nat}{t c:TypeId}{cs cs':Array Value}(h:aq w g t cs)(d:aq w b c cs')(a:t≠c):g≠b:=by
 rintro rfl;have e:=h.symm.trans d;simp only[Option.some.injEq,Obj.cells.injEq]at e;exact a e.2.1
theorem rI{a k:Nat}(h:JB a (.slice none 0 0) k):k=a:=by
 rcases h with h|h;·exact h
 ·simp[Value.ownBlock]at h
def At(k:Nat)(c:ByteArray)(b a:Int)(d:ByteArray):Array Value:=#[.int .i64 (k:Int), .string c, .int .i64 b, .int .i64 a, .string d]
def pg(wd:ByteArray)(b a bi c:Bool)(d:Int):Array Value:=#[.string wd, .bool b, .bool a, .bool bi, .bool c, .int .i64 d]
structure WN(w2 w:World)(a:Nat)(v:Value)(l:List UInt8):Prop where
 step:∃b,di b a (.slice none 0 0) w v (l,0)∧Fr ah w2 b
 new:w2.heap.size≤a
theorem WN.next{w2 w w':World}{b:Nat}{v:Value}{l c:List UInt8}(h:WN w2 w b v l)(k:∃a,di w b v w' a (c,0)):∃a,WN w2 w' b a c:=by
 obtain⟨a,f⟩:=k;obtain⟨g,d,e⟩:=h.step;exact⟨a,⟨g,d.trans f,e⟩,h.new⟩
theorem WN.fr{w2 w:World}{a:Nat}{v:Value}{l:List UInt8}(h:WN w2 w a v l):Fr ah w2 w:=by
 obtain⟨f,b,c⟩:=h.step;exact c.au b.fr (fun i d e=>by have:=rI e;have:=h.new;omega)
theorem WN.kK{w2 w w':World}{b g:Nat}{v m:Value}{l k:List UInt8}{t:TypeId}{cs:Array Value}(h:WN w2 w b v l)(f:di w b v w' m (k,0))(a:aq w g t cs)(i:t≠185)(j:t≠5):aq w' g t cs:=by
 obtain⟨o,c,n⟩:=h.step;refine a.fr f.fr (fun e=>?_);rcases e with e|e;·exact ey a c.wr.aD i e
 ·exact bK c.wr.own a (fun d=>j d.symm) e
def NS(w2 W:World)(c b a:Nat)(us nm:Array Value)(l:List UInt8):Prop:=∃v,WN w2 W c v l∧aq W b 189 us∧aq W a 106 nm
theorem WN.wr{w2 w:World}{a:Nat}{v:Value}{l:List UInt8}(h:WN w2 w a v l):Wr w a v l 0:=by
 obtain⟨c,b,_⟩:=h.step;exact b.wr
theorem WN.ns{w2 w w':World}{a c b:Nat}{us nm:Array Value}{v e:Value}{l d:List UInt8}(h:WN w2 w a v l)(hu:aq w c 189 us)(g:aq w b 106 nm)(k:di w a v w' e (d,0)):NS w2 w' a c b us nm d:=by
 obtain⟨v2,f⟩:=h.next ⟨e,k⟩;exact⟨v2,f,h.kK k hu (by decide) (by decide),h.kK k g (by decide) (by decide)⟩
theorem Fj(k:Nat)(n:ByteArray)(m c:Int)(o wd:ByteArray)(s r bi t:Bool)(B:Int)(w:World)(a2:ed w)(bB:1≤k∧k≤20)(hu:ik[k]? =some ⟨wd,s,r,bi,t,B⟩)(be:n.size≤16777216)(bf:o.size≤16777216)(Z:dD ⟨(k:Int),n,m,c,o⟩=true):
  Calls Tryz.prog 64 #[.agg #[.int .i64 (k:Int), .string n, .int .i64 m, .int .i64 c, .string o]] w (aK w (.tuple #[.string ⟨(nO ⟨wd,s,r,bi,t,B⟩ ⟨(k:Int),n,m,c,o⟩).toArray⟩, .int .i64 0])):=by
 have a3:zo ⟨wd,s,r,bi,t,B⟩ ⟨(k:Int),n,m,c,o⟩:=by
  obtain⟨_,u,ae,bd⟩:=ru Z;simp only[Int.toNat_natCast]at ae;rw[hu]at ae;cases ae;exact td bd
 have aN:=As hu;simp only at aN;have aE:Hid (r=true→m=(m.toNat:Int)∧m.toNat≤1073741824):=fun h=>by
  have:=a3.n1 h;simp only at this;omega
 have ap:Hid (bi=true→c=(c.toNat:Int)∧c.toNat≤1073741824):=fun h=>by
  have:=a3.i1 h;simp only at this;omega
 have M:Hid (enc k++(if s then bN (aS n)else[])++(if r then enc m.toNat else[])++(if bi then enc c.toNat else[])++(if t then bN (aS o)else[])=nO ⟨wd,s,r,bi,t,B⟩ ⟨(k:Int),n,m,c,o⟩):=by
  simp[Hid,nO]
 have a7:Hid (∀w',Fr ah w w'→Calls Tryz.prog 115 #[.agg #[.int .i64 (k:Int), .string n, .int .i64 m, .int .i64 c, .string o]] w' (Checked w' ⟨(k:Int),n,m,c,o⟩)):=fun w' f=>lA ⟨(k:Int),n,m,c,o⟩ w' (a2.ao f) (by simp only;omega) (by simp only;omega);have Q:Hid ((nO ⟨wd,s,r,bi,t,B⟩ ⟨(k:Int),n,m,c,o⟩).length≤50+n.size+o.size):=pW _ _;have aF:=af Z;have G:Hid (n.size≤16777216∧o.size≤16777216):=⟨be,bf⟩;have bn:Hid (∀j v,(pg wd s r bi t B).toList[j]? =some v→w.cell? ⟨0,k*6+j,none⟩=some v):=a2.row k _ hu;have am:(k:Int)<21:=by omega
 have bG:k<21:=by omega
 have bH:(0:Int)≤(k:Int):=by omega
 clear a2 hu Z a3 aN be bf;obtain⟨aY,X⟩:∃L,enc k++(if s then bN (aS n)else[])=L:=⟨_,rfl⟩;obtain⟨aZ,H⟩:∃L,aY++(if r then enc m.toNat else[])=L:=⟨_,rfl⟩;obtain⟨a0,I⟩:∃L,aZ++(if bi then enc c.toNat else[])=L:=⟨_,rfl⟩;obtain⟨ba,J⟩:∃L,a0++(if t then bN (aS o)else[])=L:=⟨_,rfl⟩;rw[X,H,I,J]at M;rw[←M.out]at Q;rw[←M.out];have av:=af X;have ax:=af H;have az:=af I;have aA:=af J;have N:Hid (aY.length≤100000000∧aZ.length≤100000000∧a0.length≤100000000∧ba.length≤100000000):=by
  have ae:=Q.out;have bd:=G.out;rw[←J,←I,←H]at ae;simp only[aW]at ae;simp only[Hid];rw[←J,←I,←H];simp only[aW];omega
 clear X H I J M Q;go_enter Tryz.func64,Tryz.ntmps64;go_wp2_with(refine aB rfl 106 (.tmp 0) rfl (At k n m c o) rfl ?_);intro w1 n1;have aV:=af n1.fr;have aM:=af n1.aD;clear n1;generalize w.heap.size=A at*;have U:Hid (aq w1 A 106 (At k n m c o)):=aM.out;clear aM;go_wp2_with(refine aC rfl 106 (.tmp 1) rfl ⟨A,0,none⟩ rfl (aI.cells ⟨(k:Int),n,m,c,o⟩) _ ?zF Tryz.underlying106 rfl aT (aR.go ?zH));case zF=>exact fun j x aa=>by rw[Addr.add_mid,Nat.zero_add];exact U.out.cell j|>.trans (by rw[←bQ]at aa;exact aa)
 unfold aR;go_wp2_with fail;refine(a7.out _ aV.out).mono ?_;rintro e w2⟨q,rfl,a4,f2⟩;obtain rfl:q=0:=by
  rw[aF.out]at a4;exact beq_iff_eq.1 a4
 have a8:=af (aV.out.trans f2);have V:=af (U.out.fr f2 (fun x=>x));clear a4 f2 a7 aF U aV;go_upto_region 4 with fail;refine ay 6 ah [Is (.pointer (some ⟨A,0,none⟩)),Is (.int .i64 (k:Int)),Is (.pointer (some ⟨0,k*6,none⟩)),Is (.agg (pg wd s r bi t B)),(fun a6 a5=>∃g,a6= .pointer (some ⟨g,0,none⟩)∧w2.heap.size≤g∧Wr a5 g (.slice none 0 0) [] 0),(fun a6 a5=>∃g,a6= .pointer (some ⟨g,0,none⟩)∧w2.heap.size≤g∧aq a5 g 189 #[.string ByteArray.empty, .bool false, .bool false, .bool false, .bool false, .int .i64 0])] [] (fun _=>True) (fun _ _=>false) (by kernel_rfl) (by kernel_rfl) (by kernel_rfl) (by kernel_rfl) ⟨Is.ag _,Is.ag _,Is.ag _,Is.ag _,fun _ _ _ _ f h=>by obtain⟨g,e,l,b⟩:=h;exact⟨g,e,l,b.cu f (fun _ _ x=>x)⟩,fun _ _ _ _ f h=>by obtain⟨g,e,l,b⟩:=h;exact⟨g,e,l,b.fr f (fun x=>x)⟩,trivial⟩ trivial (fun _ _ _ _ h=>h) trivial ?_ ?_
 ·refine⟨?zG,?zA,?zB,?zC,?zD,?zE,trivial⟩;all_goals intro u w' d Y F am aO ab
  all_goals simp only[bm,bp,bw,bC,ar,Act.put,bD,bE,bF,Nat.reduceAdd,Nat.zero_add]
  case zA=>
   simp only[show u 0=_ from F 0];clear F am aO ab;refine ai ?_;have q:_=some (Value.int .i64 (k:Int)):=(V.out.fr Y (fun x=>x)).cell 0;go_simp;exact⟨_,rfl,al⟩
  case' zB=>simp only[show u 1=_ from F 1]
  case zC=>
   simp only[show u 2=_ from F 2];clear F am aO ab;refine ai ?_;exact aw _ _ rfl ⟨0,k*6,none⟩ rfl (pg wd s r bi t B).toList _ (fun bu v bt=>by rw[Addr.add_mid];exact(a8.out.trans Y).aj (bn.out bu v bt) (fun x=>x)) Tryz.underlying189 rfl jT ⟨_,rfl,al⟩
  case zD=>
   clear F am aO ab;refine ai ?_;go_simp;refine(lC _).mono ?_;rintro e bv⟨rfl,hw,f4⟩;exact⟨_,rfl,f4.bJ,⟨_,rfl,Y.size,hw⟩,trivial⟩
  case zE=>
   clear F am aO ab;refine ai ?_;refine lg 189 rfl ET vX #[.string ByteArray.empty, .bool false, .bool false, .bool false, .bool false, .int .i64 0] rfl ?_;intro bv n4;exact⟨_,rfl,n4.fr,⟨_,rfl,Y.size,n4.aD⟩,trivial⟩
  all_goals
   clear F am aO ab;refine ai ?_;go_simp;exact⟨_,rfl,al⟩
 ·intro u w' Y F ab;have aP:u 3=_:=F 3 (by omega);obtain⟨E,bg,lw,aJ⟩:=F 4 (by omega);obtain⟨D,bh,bj,aG⟩:=F 5 (by omega);clear F ab;simp only[bm,bp,bw,bC,ar,Act.put,bD,bE,bF,cZ,da,Nat.reduceAdd,Nat.zero_add,aP,bg,bh];have T:=af aJ;have S:=af aG;have bb:Hid (w2.heap.size≤E∧w2.heap.size≤D):=⟨lw,bj⟩;have a9:=af Y;clear Y aP bg bh lw bj aJ aG;refine ak rfl 189 (.tmp 5) _ rfl D (pg wd s r bi t B) rfl rfl _ _ S.out jT rfl (gX.one ⟨wd,s,r,bi,t,B⟩) ?_;intro y bc a1;have NE:Hid (E≠D):=ey T.out.aD S.out (by decide);have aL:Hid (Wr y E (.slice none 0 0) [] 0):=T.out.cu a1 (fun x aa e=>by have br:x=D:=e;have:=rI aa;have:=NE.out;omega);have P:Hid (Fr ah w2 y):=a9.out.au a1 (fun i bA e=>by have br:i=D:=e;have:=bb.out;omega);have a:Hid (WN w2 y E (.slice none 0 0) []):=⟨⟨y,di.start aL.out,P.out⟩,bb.out.1⟩;have K:Hid (aq y D 189 (pg wd s r bi t B)):=bc;have C:Hid (aq y A 106 (At k n m c o)):=V.out.fr P.out (fun x=>x);clear a1 bc T S a9 V aL NE P;have bo:y.cell? ⟨A,0,none⟩=some (.int .i64 (k:Int)):=C.out.cell 0;go_wp2_with fail;refine(jG E _ _ 0 (k:Int) _ a.out.wr (by simp) (by omega)).mono ?_;rintro e an⟨rfl,aU,z⟩;rw[iQ,List.nil_append]at z;have ST:Hid (NS w2 an E D A (pg wd s r bi t B) (At k n m c o) (enc k)):=a.out.ns K.out C.out z;clear z bo a K C;generalize an=y at*;have ub:y.cell? ⟨D,1,none⟩=some (.bool s):=by obtain⟨_,_,h,_⟩:=ST.out;exact h.cell 1
  go_upto_if 24 with fail;clear ub;go_cut[1](fun ac ad=>ac= .pointer (some ⟨A,0,none⟩)∧NS w2 ad E D A (pg wd s r bi t B) (At k n m c o) aY);case first=>
   cases s;·go_wp2;go_meet;refine⟨rfl,?_⟩;have h:=ST.out;rw[←av.out];simpa using h
   ·obtain⟨v,wn,ub,nb⟩:=ST.out;have a:=af wn;have K:=af ub;have C:=af nb;clear wn ub nb;have W:y.cell? ⟨A,1,none⟩=some (.string n):=C.out.cell 1;go_wp2_with fail;refine(lZ E v _ 0 n _ a.out.wr (by have:=aX k;omega) (by have:=G.out;omega)).mono ?_;rintro e an⟨rfl,aU,z⟩;rw[iR _ _ (by have:=G.out;omega)]at z;have h:=a.out.ns K.out C.out z;have R:=af h;clear z h W;go_wp2;go_meet;refine⟨rfl,?_⟩;have h:=R.out;rw[←av.out];simpa[bN,aQ]using h
  case rest=>
   obtain⟨rfl,p⟩:=hcut;clear ST;have ST:=af p;clear p;generalize wc=y at*;have ub:y.cell? ⟨D,2,none⟩=some (.bool r):=by obtain⟨_,_,h,_⟩:=ST.out;exact h.cell 2
   go_upto_if 30 with fail;clear ub;go_cut[1](fun ac ad=>ac= .pointer (some ⟨A,0,none⟩)∧NS w2 ad E D A (pg wd s r bi t B) (At k n m c o) aZ);case first=>
    cases r;·go_wp2;go_meet;refine⟨rfl,?_⟩;have h:=ST.out;rw[←ax.out];simpa using h
    ·obtain⟨v,wn,ub,nb⟩:=ST.out;have a:=af wn;have K:=af ub;have C:=af nb;clear wn ub nb;have W:y.cell? ⟨A,2,none⟩=some (.int .i64 m):=C.out.cell 2;go_wp2_with fail;refine(jG E v _ 0 m _ a.out.wr (by have:=N.out;omega) (by have:=aE.out (by first|rfl|trivial);omega)).mono ?_;rintro e an⟨rfl,aU,z⟩;rw[(aE.out (by first|rfl|trivial)).1,iQ]at z;have h:=a.out.ns K.out C.out z;have R:=af h;clear z h W;go_wp2;go_meet;refine⟨rfl,?_⟩;have h:=R.out;rw[←ax.out];simpa[bN,aQ]using h
   case rest=>
    obtain⟨rfl,p⟩:=hcut;clear ST;have ST:=af p;clear p;generalize wc=y at*;have ub:y.cell? ⟨D,3,none⟩=some (.bool bi):=by obtain⟨_,_,h,_⟩:=ST.out;exact h.cell 3
    go_upto_if 36 with fail;clear ub;go_cut[1](fun ac ad=>ac= .pointer (some ⟨A,0,none⟩)∧NS w2 ad E D A (pg wd s r bi t B) (At k n m c o) a0);case first=>
     cases bi;·go_wp2;go_meet;refine⟨rfl,?_⟩;have h:=ST.out;rw[←az.out];simpa using h
     ·obtain⟨v,wn,ub,nb⟩:=ST.out;have a:=af wn;have K:=af ub;have C:=af nb;clear wn ub nb;have W:y.cell? ⟨A,3,none⟩=some (.int .i64 c):=C.out.cell 3;go_wp2_with fail;refine(jG E v _ 0 c _ a.out.wr (by have:=N.out;omega) (by have:=ap.out (by first|rfl|trivial);omega)).mono ?_;rintro e an⟨rfl,aU,z⟩;rw[(ap.out (by first|rfl|trivial)).1,iQ]at z;have h:=a.out.ns K.out C.out z;have R:=af h;clear z h W;go_wp2;go_meet;refine⟨rfl,?_⟩;have h:=R.out;rw[←az.out];simpa[bN,aQ]using h
    case rest=>
     obtain⟨rfl,p⟩:=hcut;clear ST;have ST:=af p;clear p;generalize wc=y at*;have ub:y.cell? ⟨D,4,none⟩=some (.bool t):=by obtain⟨_,_,h,_⟩:=ST.out;exact h.cell 4
     go_upto_if 42 with fail;clear ub;go_cut[1](fun ac ad=>ac= .pointer (some ⟨A,0,none⟩)∧NS w2 ad E D A (pg wd s r bi t B) (At k n m c o) ba);case first=>
      cases t;·go_wp2;go_meet;refine⟨rfl,?_⟩;have h:=ST.out;rw[←aA.out];simpa using h
      ·obtain⟨v,wn,ub,nb⟩:=ST.out;have a:=af wn;have K:=af ub;have C:=af nb;clear wn ub nb;have W:y.cell? ⟨A,4,none⟩=some (.string o):=C.out.cell 4;go_wp2_with fail;refine(lZ E v _ 0 o _ a.out.wr (by have:=N.out;omega) (by have:=G.out;omega)).mono ?_;rintro e an⟨rfl,aU,z⟩;rw[iR _ _ (by have:=G.out;omega)]at z;have h:=a.out.ns K.out C.out z;have R:=af h;clear z h W;go_wp2;go_meet;refine⟨rfl,?_⟩;have h:=R.out;rw[←aA.out];simpa[bN,aQ]using h
     case rest=>
      obtain⟨rfl,p⟩:=hcut;clear ST;have ST:=af p;clear p;generalize wc=y at*;obtain⟨v,wn,ub,nb⟩:=ST.out;have a:=af wn;clear wn ub nb ST;go_wp2_with fail;refine(ph E _ _ _ _ a.out.wr (by have:=N.out;omega)).mono ?_;rintro e bx⟨_,aa⟩;obtain⟨bK,rfl,O⟩:=aa rfl;obtain⟨bz,bI,bq,rfl,bl,_⟩:=aH O.own;have bs:=mU bx _ _ _ bq _ (pQ.rd O.own bl.out);have bk:=af ((a8.out.trans a.out.fr).trans O.ao);clear O aa;go_wp2;go_ret2;exact⟨rfl,bk.out⟩
theorem wX(n:aI)(w:World)(h:ed w)(b:n.owner.size≤16777216)(c:n.text.size≤16777216)(a:dD n=true):
  Calls Tryz.prog 64 #[.agg n.cells.toArray] w (aK w (.tuple #[.string ⟨(cJ n).toArray⟩, .int .i64 0])):=by
 obtain⟨i,u,hu,_⟩:=ru a;rw[se hu];obtain⟨d,o,m,j,p⟩:=n;obtain⟨wd,f,e,bi,g,l⟩:=u;simp only at b c i hu;obtain⟨k,rfl⟩:∃k:Nat,d=(k:Int):=⟨d.toNat,by omega⟩;rw[Int.toNat_natCast]at hu;exact Fj k o m j p wd f e bi g l w h (by omega) hu b c a
end Go.Proofs.YtphjagkehiklkaaGreatDoor
namespace Go.Proofs.YtphjagkehiklkaaGreatDoor
open Go.RowKit Go.Shelf
attribute[local go_sem]Oper.semAt_some
abbrev kO(w:World)(P:Nd→Prop):={x:Nd//lB w x∧P x}
def yG{w:World}{P:Nd→Prop}(x:kO w P):Array Value:=#[.pointer (some ⟨x.1.g,0,none⟩)]
def xx{w:World}{P:Nd→Prop}(x:kO w P):aI×ByteArray:=(x.1.nm,x.1.v)
def Hm(w:World)(P:Nd→Prop)(b a:List (kO w P)→World→Prop)(pre xs:List (kO w P))(e:Ending)(W':World):Prop:=
 (e= .returned (.bool true)∧b (pre++xs) W'∧KN w W')∨(e= .returned (.bool false)∧∃q,q<+:xs∧a (pre++q) W')
inductive mL(w:World)(P:Nd→Prop):Option Addr→Tr→List (kO w P)→Prop where
 |leaf:mL w P none .leaf []
 |node{l r:Tr}{nm:aI}{v:ByteArray}{g:Nat}{a ra:Option Addr}{L f:List (kO w P)}(c:mL w P a l L)(d:mL w P ra r f)
   (b:aq w g 177 (nP a ra (.node l nm v r)).toArray)(x:kO w P)(e:x.1=⟨g,nm,v⟩):mL w P (some ⟨g,0,none⟩) (.node l nm v r) (L++x::f)
theorem mL.of{w:World}{P:Nd→Prop}:∀{a:Option Addr}{t:Tr},ck w a t→(∀g e,e∈t.bI→P ⟨g,e.1,e.2⟩)→∃L,mL w P a t L
 |_, .leaf,h,_=>by
  obtain rfl:_=none:=h;exact⟨[], .leaf⟩
 |_, .node l nm v r,⟨g,k,ra,e,d,f,c⟩,b=>by
  subst e;obtain⟨L,i⟩:=mL.of d (fun g e he=>b g e (by rw[Tr.bI];simp[he]));obtain⟨m,j⟩:=mL.of f (fun g e he=>b g e (by rw[Tr.bI];simp[he]));exact⟨_, .node i j c ⟨⟨g,nm,v⟩,⟨_,_,_,_,_,c⟩,b g (nm,v) (by rw[Tr.bI];simp)⟩ rfl⟩
theorem mL.bI{w:World}{P:Nd→Prop}{a:Option Addr}{t:Tr}{L:List (kO w P)}(h:mL w P a t L):L.map xx=t.bI:=by
 induction h with
 |leaf=>rfl
 |node _ _ _ x d b c=>
  rw[List.map_append,List.map_cons,b,c,Tr.bI];simp only[xx,d]
theorem Ga(l N:Nat)(w:World)(P:Nd→Prop)(J p:List (kO w P)→World→Prop)
  (S:∀m pre x W,J pre W→KN w W→pre.length<N→YieldAt Fence.wide m Tryz.prog l (yG x) W fun e W'=>(e= .returned (.bool true)∧J (pre++[x]) W'∧KN W W')∨(e= .returned (.bool false)∧p (pre++[x]) W'))
  {a:Option Addr}{t:Tr}{L:List (kO w P)}(h:mL w P a t L):
  ∀(m:Nat)(pre:List (kO w P))(W:World),J pre W→KN w W→pre.length+L.length≤N→
   CallsIn Fence.wide m Tryz.prog 170 #[.pointer a, .func (.yield l) #[] #[]] W (Hm w P J p pre L):=by
 induction h with
 |leaf=>
  intro m pre W r i _;refine callsIn_of_wp Tryz.func170 rfl trivial ?_ rfl;simp only[Tryz.ntmps170,List.size_toArray,List.length_cons,List.length_nil,Nat.reduceAdd,Nat.reduceSub,Array.replicate_succ,Array.replicate_zero,List.push_toArray,List.append_toArray,List.nil_append,List.cons_append];gi_wp2_with(refine fJ rfl ?_);go_ret;exact .inl ⟨rfl,by simpa using r,i⟩
 |@node ae ag nm v g Z ra L R ab ac I x Y C D=>
  intro m pre W r i Q;have d:∀k:Nat,(Fence.wide.depth.isSome=true→1≤k):=fun k h=>by cases h
  rw[aW,List.length_cons]at Q;have n:yG x=#[Value.pointer (some ⟨g,0,none⟩)]:=by rw[yG,Y]
  have y:∀b,J (pre++L) b→KN w b→YieldAt Fence.wide (m-1) Tryz.prog l #[.pointer (some ⟨g,0,none⟩)] b fun e c=>
    (e= .returned (.bool true)∧J (pre++L++[x]) c∧KN b c)∨(e= .returned (.bool false)∧p (pre++L++[x]) c):=fun b F H=>by
   have:=S (m-1) (pre++L) x b F H (by simp;omega);rw[n]at this;exact this
  have A:=af ((C (m-1) pre W r i (by omega)).mono (R':=fun e b=>
    (e= .returned (.bool true)∧KN w b∧YieldAt Fence.wide (m-1) Tryz.prog l #[.pointer (some ⟨g,0,none⟩)] b fun e c=>
     (e= .returned (.bool true)∧J (pre++L++[x]) c∧KN b c)∨(e= .returned (.bool false)∧p (pre++L++[x]) c))∨
    (e= .returned (.bool false)∧∃q,q<+:L∧p (pre++q) b))
   (fun e b h=>h.elim (fun⟨he,X,j⟩=> .inl ⟨he,j,y b X j⟩) .inr));have B:=af (fun W r i=>D (m-1) (pre++L++[x]) W r i (by simp;omega));have U:W.cell? ⟨g,0,none⟩=some (.pointer Z):=(i _ _ I).cell 0;have HB:=af I;clear y C D S Q I n;refine callsIn_of_wp Tryz.func170 rfl trivial ?_ rfl;simp only[Tryz.ntmps170,List.size_toArray,List.length_cons,List.length_nil,Nat.reduceAdd,Nat.reduceSub,Array.replicate_succ,Array.replicate_zero,List.push_toArray,List.append_toArray,List.nil_append,List.cons_append];gi_wp2_with((try refine⟨trivial,d _,?_⟩);gi_at_call 170;refine A.out.mono ?_;clear A;rintro e b(⟨rfl,f,fn,tmps,assign,body,ad,hR⟩|⟨rfl,q,n,K⟩))
  ·have o:=af f;have V:b.cell? ⟨g,1,none⟩=some (.pointer ra):=(f _ _ HB.out).cell 1;clear f U;refine⟨d _,?_⟩;refine hR.mono ?_;clear hR;rintro e c(⟨rfl,s,u⟩|⟨rfl,M⟩)
   ·have j:=o.out.trans u;have T:=af j;have E:=af s;have V:c.cell? ⟨g,1,none⟩=some (.pointer ra):=(j _ _ HB.out).cell 1;clear j u s o;gi_wp2_with((try refine⟨trivial,d _,?_⟩);gi_at_call 170;refine(B.out _ E.out T.out).mono ?_;clear B;rintro e aa(⟨rfl,G,hk3⟩|⟨rfl,q,n,O⟩));·go_ret;exact .inl ⟨rfl,by simpa[List.append_assoc]using G,hk3⟩
    ·go_ret;exact .inr ⟨rfl,L++x::q,by
      obtain⟨z,rfl⟩:=n;exact⟨z,by simp⟩,by simpa[List.append_assoc]using O⟩
   ·gi_wp2_with(refine fJ rfl ?_);go_ret;exact .inr ⟨rfl,L++[x],by exact⟨R,by simp⟩,by simpa[List.append_assoc]using M⟩
  ·refine⟨fun _ h=>(by cases h),?_⟩;gi_wp2_with(refine fJ rfl ?_);go_ret;exact .inr ⟨rfl,q,n.trans (List.prefix_append _ _),K⟩
theorem wG(m B s:Nat)(a:Option Addr)(t:Tr)(w:World)(P:Nd→Prop)(L:List (kO w P))(r:mL w P a t L)(f:aq w B 25 #[.pointer (some ⟨s,0,none⟩)])(i:aq w s 174 #[.pointer a]):
  SeqStopsK Fence.wide m Tryz.prog 169 #[.pointer (some ⟨B,0,none⟩)] (fun x:kO w P=>#[Value.pointer (some ⟨x.1.g,0,none⟩)]) KN (fun C=>C=L) (fun pre=>pre<+:L) L.length w:=by
 intro l G n W c _ _ u o;have d:∀k:Nat,(Fence.wide.depth.isSome=true→1≤k):=fun k h=>by cases h
 have j:=Ga l L.length w P G n (fun m pre x W v _ y=>YieldAt.ju rfl m (u pre x W v y)) r (m-1) [] W o (KN.below c) (by simp);have E:W.cell? ⟨B,0,none⟩=some (.pointer (some ⟨s,0,none⟩)):=(c.cell (p:=⟨B,0,none⟩) f.lt).trans (f.cell 0);have F:W.cell? ⟨s,0,none⟩=some (.pointer a):=(c.cell (p:=⟨s,0,none⟩) i.lt).trans (i.cell 0);refine callsIn_of_wp Tryz.func169 rfl trivial ?_ rfl;simp only[Tryz.ntmps169,List.size_toArray,List.length_cons,List.length_nil,Nat.reduceAdd,Nat.reduceSub,Array.replicate_succ,Array.replicate_zero,List.push_toArray,List.append_toArray,List.nil_append,List.cons_append];gi_wp2_with((try refine⟨trivial,d _,?_⟩);gi_at_call 170;refine j.mono ?_;clear j;rintro e D(⟨rfl,b,_⟩|⟨rfl,q,z,A⟩));·go_end0;exact⟨⟨_,rfl⟩, .inl ⟨_,rfl,by simpa using b⟩⟩
 ·go_end0;exact⟨⟨_,rfl⟩, .inr ⟨q,z,by simpa using A⟩⟩
end Go.Proofs.YtphjagkehiklkaaGreatDoor
namespace Go.Proofs.YtphjagkehiklkaaGreatDoor
open Go.RowKit Go.Shelf
attribute[local go_sem]Oper.semAt_some
theorem JY:(Tryz.prog.info? 113).map (·.size)=some 1:=by kernel_rfl
theorem Lx(w:World):(zeroValue 113).run Tryz.prog w= .ok (.pointer none) w:=by kernel_rfl
structure zp{α:Type}(b w3:World)(g2 a:Nat)(lw:List α→List UInt8)(pre:List α)(W:World):Prop where
 fr:Fr ah b W
 kn:KN w3 W
 box:aq W g2 113 #[.pointer (some ⟨a,0,none⟩)]
 wr:∃v,Wr W a v (lw pre) 0∧∀k,v.ownBlock=some k→b.heap.size≤k
theorem pz{X:World}{g k:Nat}{t:TypeId}{cs:Array Value}{d:Obj}(a:aq X g t cs)(b:X.heap[k]? =some d)(c:d.isCells=false):g≠k:=by
 rintro rfl;unfold aq at a;rw[a]at b;cases b;simp[Obj.isCells]at c
theorem mI{X:World}{e:TypeId}{sz n k:Nat}{v:Value}{xs:List Value}{i:Obj}(h:X.ownsRow 0 e sz v n xs)(b:X.heap[k]? =some i)(d:i.isCells=false):v.ownBlock≠some k:=by
 intro g;obtain⟨c,f,a⟩:=cO h g;rw[a]at b;cases b;simp[Obj.isCells]at d
theorem zp.iC{α:Type}{j w3:World}{g2 l B:Nat}{lw:List α→List UInt8}(p:j.heap.size≤B):OwnFrom B (zp j w3 g2 l lw):=by
 intro pre X Y row h n f;have d:Fr (fun k=>some k=row) X Y:=Fr.grown n;obtain⟨v,hw,o⟩:=h.wr;refine⟨h.fr.au d (fun i q e=>(by have:=(f i e.symm).1;omega)),h.kn.trans (KN.fr d (fun g cs m e=>?_)),h.box.fr d (fun e=>?_),⟨v,hw.cu d (fun k c e=>?_),o⟩⟩;·obtain⟨_,r,b,a⟩:=f g e.symm;exact pz m b a rfl
 ·obtain⟨_,r,b,a⟩:=f g2 e.symm;exact pz h.box b a rfl
 ·obtain⟨_,r,b,a⟩:=f k e.symm;rcases c with c|c;·exact pz hw.aD b a c.symm
  ·exact mI hw.own b a c
theorem zp.step{α:Type}{e w3 W j X:World}{g2 b B:Nat}{lw:List α→List UInt8}{pre a:List α}{v v3:Value}(c:zp e w3 g2 b lw pre W)(o:e.heap.size≤b)
  (hw:Wr W b v (lw pre) 0)(n:∀k,v.ownBlock=some k→e.heap.size≤k)(f:Fr ah W j)(st:di j b v X v3 (lw a,0)):KeepsFrom B W X∧KN W X∧zp e w3 g2 b lw a X:=by
 have F:Fr (JB b v) W X:=f.bJ.trans st.fr;have K:KN W X:=KN.fr F (fun g cs l h=>by
  rcases h with h|h;·exact ey l hw.aD (by decide) h
  ·exact bK hw.own l (by decide) h);refine⟨⟨F.size,fun k r _ d m=>?_⟩,K,?_,c.kn.trans K,c.box.fr F (fun h=>?_),⟨v3,st.wr,fun k p=>?_⟩⟩
 ·refine(F.block k (Array.getElem?_eq_some_iff.1 d).1 ?_).trans d;rintro(h|h);·exact pz hw.aD d m h.symm
  ·exact mI hw.own d m h
 ·refine c.fr.au F (fun i q h=>?_);rcases h with h|h;·omega
  ·have:=n i h;omega
 ·rcases h with h|h;·exact ey c.box hw.aD (by decide) h
  ·exact bK hw.own c.box (by decide) h
 ·rcases st.eE k p with h|h;·exact n k h
  ·have:=c.fr.size;have:=f.size;omega
def BG(LE:List Ent)(x:Nd):Prop:=(x.nm,x.v)∈LE
def lJ{w:World}{P:Nd→Prop}(n:Nat)(a:List (kO w P)):List UInt8:=enc n++(a.map xx).flatMap oS
theorem uK{w:World}{P:Nd→Prop}(n:Nat)(a:List (kO w P))(y:kO w P):lJ n (a++[y])=lJ n a++bN (cJ y.1.nm)++bN (aS y.1.v):=by
 simp[lJ,oS,xx,List.flatMap_append,List.append_assoc]
theorem vT(s:ByteArray):enc s.size++aS s=bN (aS s):=by rw[bN,aQ]
theorem GY(l:List UInt8):enc (⟨l.toArray⟩:ByteArray).size++aS ⟨l.toArray⟩=bN l:=by
 rw[←aQ];rfl
structure xY(L:List Ent):Prop where
 ok:∀x∈L,dD x.1=true
 owner:∀x∈L,x.1.owner.size≤1048576
 text:∀x∈L,x.1.text.size≤1048576
 value:∀x∈L,x.2.size≤1048576
 len:L.length≤60000
theorem nI:∀(L:List Ent),(∀x∈L,x.1.owner.size≤1048576)→(∀x∈L,x.1.text.size≤1048576)→(∀x∈L,x.2.size≤1048576)→(L.flatMap oS).length≤L.length*4000000
 |[],_,_,_=>by simp
 |x::L,b,c,d=>by
  have e:=nI L (fun y a=>b y (by simp[a])) (fun y a=>c y (by simp[a])) (fun y a=>d y (by simp[a]));have f:=b x (by simp);have a2:=c x (by simp);have a3:=d x (by simp);have b1:=ft x.1;have b2:=aX (cJ x.1).length;have b3:=aX (aS x.2).length;have b4:=aQ x.2;simp only[List.flatMap_cons,oS,bN,aW,List.length_cons]at e⊢;omega
theorem Iv{w:World}{P:Nd→Prop}(n:Nat)(b:List (kO w P))(c:∀y:kO w P,y.1.nm.owner.size≤1048576)(d:∀y:kO w P,y.1.nm.text.size≤1048576)(e:∀y:kO w P,y.1.v.size≤1048576):(lJ n b).length≤10+b.length*4000000:=by
 have h:=nI (b.map xx) (fun x a=>by obtain⟨y,_,rfl⟩:=List.mem_map.1 a;exact c y) (fun x a=>by obtain⟨y,_,rfl⟩:=List.mem_map.1 a;exact d y) (fun x a=>by obtain⟨y,_,rfl⟩:=List.mem_map.1 a;exact e y);have f:=aX n;rw[List.length_map]at h;simp only[lJ,aW];omega
def qL(w:World)(l:List UInt8)(e:Ending)(w':World):Prop:=∃v,e= .returned v∧fC w (.slice none 0 0) w' v l
theorem Fl(LE:List Ent)(s:Nat)(w:World)(bo:ec w s LE)(bV:ed w)(aa:xY LE):Calls Tryz.prog 102 #[.pointer (some ⟨s,0,none⟩)] w (qL w (fE LE)):=by
  obtain⟨t,aF,het⟩:=bo;have aU:t.size=LE.length:=by rw[←t.bW,het]
  have b6:=af (fun w=>nQ (some ⟨s,0,none⟩) w);have z:=af aa;have ak:=af het;have cd:=af aU;have cc:=af bV;have bz:=af aF;have av:Hid ((fE LE).length≤250000000000):=by
    have a5:=nI LE aa.owner aa.text aa.value;have a6:=aX LE.length;have bU:=aa.len;simp only[Hid,fE,aW];omega
  clear aF het aU aa bV;refine(callsIn_wide (n:=6)).1 (callsIn_of_wp_marks Tryz.func102 rfl trivial (wpIn_wide.2 ?_) rfl);simp only[Tryz.ntmps102,List.size_toArray,List.length_cons,List.length_nil,Nat.reduceAdd,Nat.reduceSub,Array.replicate_succ,Array.replicate_zero,List.push_toArray,List.append_toArray,List.nil_append,List.cons_append];go_wp2_with fail;refine(lC _).mono ?_;rintro r w1⟨rfl,aO,f1⟩;have ap:Sz w w.heap.size:=Nat.le_refl _;generalize w.heap.size=a at*;have bM:=af aO;have ba:=af f1;clear aO f1;go_wp2_with(refine an rfl 113 rfl (.pointer none) Lx #[.pointer none] rfl ?_);intro w2 b4;have bi:=af b4;clear b4;have b9:Sz w w1.heap.size:=ba.out.size;generalize aG:w1.heap.size=g2 at*;have am:=af aG;clear aG;have bs:Hid (aq w2 g2 113 #[.pointer none]):=by have h:=bi.out.aD;rw[am.out]at h;exact h
  go_wp2_with(refine bT rfl 113 (.tmp 3) _ rfl g2 (.pointer (some ⟨a,0,none⟩)) rfl rfl rfl _ _ bs.out JY ?_);intro w3 b3 f3;have S:Hid (Fr ah w1 w3):=bi.out.fr.au f3 (fun i bY e=>by have a4:i=g2:=e;have:=am.out;omega);have bb:=af (ba.out.trans S.out);have a8:=af b3;have bO:Hid (Wr w3 a (.slice none 0 0) [] 0):=bM.out.cu S.out (fun _ _ x=>x);clear b3 f3 bi bs bM ba S;have CL:Hid (∀w',Fr ah w3 w'→Calls Tryz.prog 94 #[.pointer (some ⟨s,0,none⟩)] w' (bG w' (.int .i64 (LE.length:Int)))):=fun w' f=>by
    rw[←cd.out];exact oD w' s t (bz.out.ao (bb.out.trans f))
  go_upto_region 4 with fail;refine ay 3 ah [Is (.pointer (some ⟨a,0,none⟩)),Is (.pointer (some ⟨s,0,none⟩)),Is (.int .i64 (LE.length:Int))] [] (fun _=>True) (fun _ _=>false) (by kernel_rfl) (by kernel_rfl) (by kernel_rfl) (by kernel_rfl) ⟨Is.ag _,Is.ag _,Is.ag _,trivial⟩ trivial (fun _ _ _ _ h=>h) trivial ?_ ?_
  · refine⟨?zA,?zG,?zB,trivial⟩;all_goals intro u w' d hf b X B G
    all_goals simp only[bm,bp,bw,bC,ar,Act.put,bD,bE,bF,Nat.reduceAdd,Nat.zero_add]
    case zA=>
      clear b X B G;refine ai ?_;have q:_=some (Value.pointer (some ⟨a,0,none⟩)):=(a8.out.fr hf (fun x=>x)).cell 0;go_simp;exact⟨_,rfl,al⟩
    case zB=>
      simp only[show u 1=_ from b 1];clear b X B G;refine ai ?_;go_simp;refine(CL.out _ hf).mono ?_;rintro e cv⟨rfl,rfl⟩;exact⟨_,rfl,al⟩
    all_goals
      clear b X B G;refine ai ?_;go_simp;exact⟨_,rfl,al⟩
  · intro u w' hf b G;have B:u 0=_:=b 0 (by omega);have b0:u 2=_:=b 2 (by omega);clear b G;simp only[bm,bp,bw,bC,ar,Act.put,bD,bE,bF,cZ,da,Nat.reduceAdd,Nat.zero_add,B,b0];have bk:Hid (Wr w' a (.slice none 0 0) [] 0):=bO.out.cu hf (fun _ _ x=>x);have a9:=af (a8.out.fr hf (fun x=>x));have bc:=af (bb.out.trans hf);have aw:Hid (LE.length≤60000):=z.out.len;clear hf B b0 CL bO a8 bb;generalize w'=cv at*;go_wp2_with fail;refine(jG a _ _ 0 (LE.length:Int) _ bk.out (by simp) (by have:=aw.out;omega)).mono ?_;rintro e br⟨rfl,v5,C⟩;rw[iQ,List.nil_append]at C;have ad:Hid (Fr ah w br):=bc.out.au C.fr (fun i bY e=>by have a4:=rI e;have:=ap;unfold Sz at this;omega);have bt:Hid (aq br g2 113 #[.pointer (some ⟨a,0,none⟩)]):=a9.out.fr C.fr (fun e=>ey a9.out bk.out.aD (by decide) (rI e));have bP:=af C.wr;have bA:Hid (∀k,v5.ownBlock=some k→w.heap.size≤k):=fun k aI=>by
      rcases C.eE k aI with h|h;· simp[Value.ownBlock]at h
      · have:=bc.out.size;omega
    clear C bc a9 bk;go_wp2_with fail;refine(b6.out _).mono ?_;rintro r Z⟨rfl,f6,bS⟩;have aY:=af (ad.out.trans f6);have b5:=af (bt.out.fr f6 (fun x=>x));have ck:Hid (Wr Z a v5 (enc LE.length) 0):=bP.out.cu f6 (fun _ _ x=>x);have b7:=af bS;have ch:Hid (∀k,v5.ownBlock=some k→w.heap.size≤k):=bA.out;clear f6 bS ad bt bP bA;generalize br.heap.size=gs at*;obtain⟨a3,aN,aM⟩:=bz.out.ao aY.out;obtain⟨L,bn⟩:=mL.of (P:=BG LE) aM (fun g e he=>by unfold BG;rw[←ak.out];exact he);have bB:Hid (L.map xx=LE):=bn.bI.trans ak.out;have ci:Hid (L.length=LE.length):=by simp only[Hid];have h:=congrArg List.length bB.out;simpa using h
    have cb:=af bn;have bf:=af aN;clear aN aM bn;go_wp2_with fail;refine(wpIn_wide (n:=6)).1 ?_;refine wpIn_rangeFunc_ownG rfl (by omega) (gf:=169) (lb:=#[.pointer (some ⟨gs,0,none⟩)]) rfl trivial (enters_of Tryz.func169 (by kernel_rfl) rfl)
      (wG 5 gs s a3 t Z (BG LE) L cb.out b7.out bf.out) (fun h k=>h.trans k) (fun W l o ct _ cq cp _=>KN.put W l o ct cq cp) (Below.refl _ _) (fun _=>rfl)
      (zp w Z g2 a (fun cw:List (kO Z (BG LE))=>lJ LE.length cw)) (fun _ _ _=>False) (zp.iC aY.out.size) (fun _ _ _ _ _ h _ _=>h.elim)
      ⟨aY.out,KN.refl _,b5.out,v5,by simpa[lJ]using ck.out,ch.out⟩ ?zJ ?assign ?body ?done ?stop;case assign=>
      intro l x W K aE;gi_wp2;exact aE
    case body=>
      rintro b2 pre x W a7 aL;have bx:=af a7;have ca:=af aL;obtain⟨V,R,m,⟨v,F,c⟩⟩:=a7;have b8:=af V;have ax:=af F;have be:=af c;have bd:=af m;have a0:=af (x.2.1.kn R).jW;have H:Hid ((x.1.nm,x.1.v)∈LE):=x.2.2;have A:=af (uK LE.length pre x);have J:Hid ((lJ LE.length (pre++[x])).length≤250000000000+3000000):=by
        have a5:=z.out.owner _ H.out;have a6:=z.out.text _ H.out;have bU:=z.out.value _ H.out;have co:=ft x.1.nm;have cA:=aX (cJ x.1.nm).length;have cB:=aX (aS x.1.v).length;have cC:=aQ x.1.v;have cD:=Iv LE.length pre (fun y=>z.out.owner _ y.2.2) (fun y=>z.out.text _ y.2.2) (fun y=>z.out.value _ y.2.2);have cE:=ca.out;have cm:=ci.out;have cn:=aw.out;simp only at a5 a6 bU;simp only[Hid];rw[uK];simp only[bN,aW];omega
      have bH:Hid (ed W):=cc.out.ao V;obtain⟨y,bq⟩:∃y:kO Z (BG LE),y=x:=⟨x,rfl⟩;have bg:=af bq;rw[←bq]at A J;obtain⟨⟨U,p,ab⟩,aP,bZ⟩:=x;rw[bg.out]at A J;simp only at a0 H A⊢;have bu:Hid (Calls Tryz.prog 64 #[.agg p.cells.toArray] W (aK W (.tuple #[.string ⟨(cJ p).toArray⟩, .int .i64 0]))):=wX p W bH.out (by have:=z.out.owner _ H.out;simp only at this;omega) (by have:=z.out.text _ H.out;simp only at this;omega) (z.out.ok _ H.out);have bL:Hid (ab.size≤1048576):=z.out.value _ H.out;have aA:Hid ((cJ p).length≤3000000):=by
        have a5:=z.out.owner _ H.out;have a6:=z.out.text _ H.out;have co:=ft p;simp only at a5 a6;simp only[Hid];omega
      clear V R m F c bq bH aL;gi_wp2_with(refine cj (kx 106) rfl (by kernel_rfl) ?_);refine aC rfl 106 (.tmp 22) rfl ⟨U,2,none⟩ rfl p.cells _ ?zI Tryz.underlying106 rfl aT (aR.go ?hold);case zI=>exact fun j v cr=>by rw[Addr.add_mid];exact a0.out.name j v cr
      unfold aR;go_wp2_with fail;refine bu.out.mono ?_;rintro e a2⟨rfl,f1⟩;have E:Hid (Wr a2 a v (lJ LE.length pre) 0):=ax.out.cu f1 (fun _ _ x=>x);have I:=af (bd.out.fr f1 (fun x=>x));have bh:=af (a0.out.ao f1);have ae:=af f1;clear f1 bu;go_wp2;show Code.wpIn (Fence.wide.inRound b2) (6-1-1) Tryz.prog _ _ _ _;have O:a2.cell? ⟨g2,0,none⟩=some (.pointer (some ⟨a,0,none⟩)):=I.out.cell 0;gi_wp2_with(refine cj (kx 113) rfl (by kernel_rfl) ?_);have M:Hid ((lJ LE.length pre).length≤260000000000):=by
        have h:=J.out;rw[A.out]at h;simp only[aW]at h;simp only[Hid];omega
      go_wp2_with fail;refine(lZ a v _ 0 ⟨(cJ p).toArray⟩ _ E.out (by have:=M.out;omega) (by have:=aA.out;rw[←aQ];exact Nat.le_trans this (by decide))).mono ?_;rintro e bR⟨rfl,v2,st2⟩
      rw[iR _ _ (by have h:=aA.out;have e:(⟨(cJ p).toArray⟩:ByteArray).size=(cJ p).length:=by rw[←aQ];rfl
                    omega),GY]at st2;have N:=af st2;have ac:Hid (aq bR g2 113 #[.pointer (some ⟨a,0,none⟩)]):=I.out.fr st2.fr (fun h=>by
        rcases h with h|h;· exact ey I.out E.out.aD (by decide) h
        · exact bK E.out.own I.out (by decide) h);have az:Hid (Mid bR U p ab):=((⟨⟨U,p,ab⟩,aP,bZ⟩:kO Z (BG LE)).2.1.kn ((bx.out.kn.trans (KN.fr ae.out (fun _ _ _ x=>x))).trans (KN.fr st2.fr (fun g cs bX h=>by
        rcases h with h|h;· exact ey bX E.out.aD (by decide) h
        · exact bK E.out.own bX (by decide) h)))).jW;clear st2 O a0 bh M;go_wp2;show Code.wpIn (Fence.wide.inRound b2) (6-1-1) Tryz.prog _ _ _ _;gi_wp2;refine pk 5 ah [Is (.pointer (some ⟨a,0,none⟩)),Is (.pointer (some ⟨U,0,none⟩)),Is (.pointer (some ⟨U,0,none⟩)),Is (.pointer (some ⟨U,7,none⟩)),Is (.string ab)] [] (fun _=>True) (fun _ _=>false) (by kernel_rfl) (by kernel_rfl) (by kernel_rfl) (by kernel_rfl) (by kernel_rfl) ⟨Is.ag _,Is.ag _,Is.ag _,Is.ag _,Is.ag _,trivial⟩ trivial (fun _ _ _ _ h=>h) trivial ?_ ?_
      · refine⟨?zC,?zH,?zD,?zE,?zF,trivial⟩;all_goals intro u w' d hf b X B G
        all_goals simp only[bm,bp,bw,bC,ar,Act.put,bD,bE,bF,Nat.reduceAdd,Nat.zero_add]
        case zC=>
          clear b X B G;refine ai ?_;have q:_=some (Value.pointer (some ⟨a,0,none⟩)):=(ac.out.fr hf (fun x=>x)).cell 0;go_simp;exact⟨_,rfl,al⟩
        case' zD=>simp only[show u 1=_ from b 1]
        case' zE=>simp only[show u 2=_ from b 2]
        case zF=>
          simp only[show u 3=_ from b 3];clear b X B G;refine ai ?_;have q:=(az.out.ao hf).val;go_simp;exact⟨_,rfl,al⟩
        all_goals
          clear b X B G;refine ai ?_;go_simp;exact⟨_,rfl,al⟩
      · intro u w' hf b G;have B:u 0=_:=b 0 (by omega);have b1:u 4=_:=b 4 (by omega);clear b G;simp only[bm,bp,bw,bC,ar,Act.put,bD,bE,bF,cZ,da,Nat.reduceAdd,Nat.zero_add,B,b1];have aB:Hid (di a2 a v w' v2 (lJ LE.length pre++bN (cJ p),0)):=⟨N.out.wr.cu hf (fun _ _ x=>x),N.out.fr.trans hf.bJ,N.out.eE⟩;have M:Hid ((lJ LE.length pre++bN (cJ p)).length≤260000000000):=by
          have h:=J.out;rw[A.out]at h;simp only[aW]at h⊢;simp only[Hid];omega
        clear hf B b1 N ac az;go_wp2_with fail;refine(lZ a v2 _ 0 ab _ aB.out.wr (by have:=M.out;simp only;omega) (by have:=bL.out;omega)).mono ?_;rintro e cl⟨rfl,v3,Y⟩;rw[iR _ _ (by have:=bL.out;omega),vT]at Y;have ST:=af (aB.out.trans Y);clear Y;go_wp2;have bj:di a2 a v cl v3 (lJ LE.length (pre++[(⟨⟨U,p,ab⟩,aP,bZ⟩:kO Z (BG LE))]),0):=by
          rw[A.out];exact ST.out
        exact zp.step bx.out ap ax.out be.out ae.out bj
    case done=>
      rintro D xs W bl rfl a7 aE;obtain⟨hf,R,m,⟨v,F,c⟩⟩:=a7;have a1:Fr (fun k=>some k=some D) W (W.putObj D (.deferred none)):=Fr.grown (grownBy_putObj' W D _);have cg:=af aE;have bv:=af hf;have cf:Hid (Wr W a v (fE LE) 0):=by
        have h:lJ LE.length xs=fE LE:=by rw[lJ,bB.out];rfl
        rw[←h];exact F
      have aj:Hid (w.heap.size≤D∧D<W.heap.size):=⟨by have:=aY.out.size;have:=bl;omega,(Array.getElem?_eq_some_iff.1 aE).1⟩;have O:=m.cell 0;simp only[bQ,List.getElem?_cons_zero]at O;clear a1 hf m F c bl aE R;go_wp2_with fail;refine(ph a _ _ _ _ cf.out (by have:=av.out;omega)).mono ?_;rintro e aV⟨_,aP⟩;obtain⟨cG,rfl,Q⟩:=aP rfl;have T:Hid (aV.heap[D]? =W.heap[D]?):=Q.ao.block D aj.out.2 (fun x=>x);have aZ:=af Q;obtain⟨cx,cF,cy,rfl,_,_⟩:=aH Q.own;clear Q aP O;go_wp2;rw[cg.out]at T;refine⟨by simp, .inl ⟨_,_,rfl,run_takeDeferred T.out,?_⟩⟩;refine⟨_,results_tmp Tryz.results102 _ _ _,?_⟩;have a1:Fr (fun k=>some k=some D) aV (aV.putObj D (.deferred none)):=Fr.grown (grownBy_putObj' aV D _);have ce:Fr ah w (aV.putObj D (.deferred none)):=(bv.out.trans aZ.out.ao).au a1 (fun i bY e=>by have a4:i=D:=(by simpa using e);have:=aj.out.1;omega);refine⟨_,rfl,⟨aJ aZ.out.own a1 (fun k aI e=>?_),ce.bJ,fun k aI=> .inr ?_⟩⟩
      · have a4:k=D:=by simpa using e
        exact mI aZ.out.own T.out rfl (by rw[←a4];exact aI)
      · have:=aZ.out.new k aI;have:=bv.out.size;omega
    case stop=>
      rintro D cz pre W bl _ h;exact h.elim
theorem cI.small{k:Nat}{L:List Ent}(h:cI k L)(b:k≤60000):xY L:=⟨h.ok,fun x a=>by have:=h.owner x a;omega,fun x a=>by have:=h.text x a;omega,fun x a=>by have:=h.value x a;omega,by have:=h.len;omega⟩
def tI(l:List UInt8)(v:Value)(w:World):Prop:=∃A n c,v= .slice A n c∧pQ w (.slice A n c) l∧n=l.length
theorem tI.ao{l:List UInt8}{v:Value}{w w':World}(h:tI l v w)(a:Fr ah w w'):tI l v w':=by
 obtain⟨A,n,c,e,d,b⟩:=h;exact⟨A,n,c,e,aJ d a (fun _ _ x=>x),b⟩
theorem qL.bytes{w w':World}{l:List UInt8}{e:Ending}(h:qL w l e w'):∃v,e= .returned v∧tI l v w'∧Fr ah w w':=by
 obtain⟨v,rfl,a⟩:=h;obtain⟨A,n,c,rfl,b,_⟩:=aH a.own;exact⟨_,rfl,⟨A,n,c,rfl,a.own,b.out⟩,a.ao⟩
end Go.Proofs.YtphjagkehiklkaaGreatDoor
namespace Go.Proofs.YtphjagkehiklkaaGreatDoor
open Go.RowKit Go.Shelf
theorem sQ(w:World)(s:ByteArray):∃c w1,(convert 9 61 (.string s)).run Tryz.prog w= .ok (.slice (some ⟨w.heap.size,0,none⟩) s.size c) w1∧Fr ah w w1∧Rd w1 (fun k=>k=w.heap.size) 1 (some ⟨w.heap.size,0,none⟩) s.size ((aS s).map bv):=by
 refine⟨_,_,Lib.run_convert_string_bytes w 9 61 5 s Tryz.underlying9 Tryz.underlying61 Tryz.underlying5,⟨rfl,rfl,rfl,?_,fun k d _=>Lib.bytesWorld_at_old w _ s k d⟩,?_,fun _=>⟨_,rfl,rfl,fun j u hu=>?_⟩⟩;·rw[Lib.bytesWorld_size];omega
 ·rw[List.length_map,aQ,Nat.mul_one]
 ·rw[List.getElem?_map]at hu;cases a:(aS s)[j]? with
  |none=>rw[a]at hu;cases hu
  |some x=>
   rw[a]at hu;simp only[Option.map_some,Option.some.injEq]at hu;have b:j<s.size:=by rw[←aQ];exact(List.getElem?_eq_some_iff.1 a).1
   rw[show(⟨w.heap.size,0,none⟩:Addr).add j=⟨w.heap.size,j,none⟩by unfold Addr.add;split<;>simp_all,Lib.bytesWorld_cell w _ s j b];unfold aS at a;rw[List.getD_eq_getElem?_getD,a,←hu];rfl
theorem bh{P:Program}{fn:Func}{p q:Tmp}{ty:TypeId}(h:fn.results=#[.cell p ty, .tmp q])(tmps:Array Value)(w:World)(g:Nat)(t:TypeId)(cs:Array Value)(fr:Nat×Nat)(d:TypeDesc)
  (i:tmps.getD p undef= .pointer (some ⟨g,0,none⟩))(e:w.heap[g]? =some (.cells cs t fr))
  (hu:P.underlying ty=some d)(c:(match d with| .struct _| .array _ _=>true|_=>false)=true)(f:(P.info? ty).map (·.size)=some cs.size)(v:Value)(j:tmps.getD q undef=v):
  (results fn tmps).run P w= .ok (.tuple #[.agg cs,v]) w:=by
 have a:tmps[p]?.getD undef= .pointer (some ⟨g,0,none⟩):=by simpa using i
 have b:tmps[q]?.getD undef=v:=by simpa using j
 simp[results,h,a,b,asAddr,run_loadVar_row w g t ty cs fr d e hu c f]
def dX(l:List UInt8):Int×(List UInt8×Nat×Int):=aO 0 (bj 20) (l,0,0)
def ks(u:gX)(st:List UInt8×Nat×Int):List UInt8×(List UInt8×Nat×Int):=if u.owner then aO [] (cq 16777216) st else([],st)
def mO(u:gX)(st:List UInt8×Nat×Int):Int×(List UInt8×Nat×Int):=if u.number then aO 0 (bj 1073741824) st else(0,st)
def oP(u:gX)(st:List UInt8×Nat×Int):Int×(List UInt8×Nat×Int):=if u.index then aO 0 (bj u.aP) st else(0,st)
def pU(u:gX)(st:List UInt8×Nat×Int):List UInt8×(List UInt8×Nat×Int):=if u.text then aO [] (cq 32) st else([],st)
def gg(st:List UInt8×Nat×Int):Int:=if st.2.2=0 then(if 0<st.1.length then 5 else 0)else st.2.2
def fH(u:gX)(l:List UInt8):aI×(List UInt8×Nat×Int):=
 (⟨(dX l).1,⟨(ks u (dX l).2).1.toArray⟩,(mO u (ks u (dX l).2).2).1,(oP u (mO u (ks u (dX l).2).2).2).1,⟨(pU u (oP u (mO u (ks u (dX l).2).2).2).2).1.toArray⟩⟩,(pU u (oP u (mO u (ks u (dX l).2).2).2).2).2)
theorem uI(l:List UInt8):0≤(dX l).1∧(dX l).1≤20:=by
 unfold dX aO;simp only[ne_eq,not_true_eq_false,if_false];split;·omega
 next h=>
  simp only[bj]at h⊢;split at h;·omega
  next a=>
   have b:(pn l 9).2.2=0:=by omega
   have:¬(20:Int)<((pn l 9).1:Int):=fun e=>a ⟨b,e⟩;omega
def jg(k:Int)(c:ByteArray)(b a:Int)(d:ByteArray):Array Value:=#[.int .i64 k, .string c, .int .i64 b, .int .i64 a, .string d]
theorem Fx(k:Int):Tryz.prog.built 106 [(0, .int .i64 k)]=some (jg k ByteArray.empty 0 0 ByteArray.empty):=by kernel_rfl
theorem Fw:Tryz.prog.built 106 []=some (jg 0 ByteArray.empty 0 0 ByteArray.empty):=by kernel_rfl
theorem lN:(Tryz.prog.info? 106).map (·.size)=some 5:=by kernel_rfl
theorem uT:(Tryz.prog.info? 41).map (·.size)=some 1:=by kernel_rfl
theorem mR:(Tryz.prog.info? 3).map (·.size)=some 1:=by kernel_rfl
theorem Bp(w:World):(zeroValue 106).run Tryz.prog w= .ok sf w:=by kernel_rfl
structure RS(w W:World)(g a c b:Nat)(S:Nat→Prop)(us nm:Array Value)(st:List UInt8×Nat×Int):Prop where
 rr:Rr W g S st.1 st.2.1 st.2.2
 nb:aq W a 106 nm
 ub:aq W c 189 us
 rb:aq W b 106 (jg 0 ByteArray.empty 0 0 ByteArray.empty)
 fr:Fr ah w W
structure Bs(w:World)(g a c b:Nat)(S:Nat→Prop):Prop where
 g_:w.heap.size≤g
 n_:w.heap.size≤a
 ne:a≠b
 sn:¬S a
theorem RS.step{w W W':World}{g d j f:Nat}{S:Nat→Prop}{us nm:Array Value}{st b:List UInt8×Nat×Int}(h:RS w W g d j f S us nm st)(a:Bs w g d j f S)(k:fY W g S W' b.1 b.2.1 b.2.2):RS w W' g d j f S us nm b:=by
 obtain⟨⟨A,n,c,l,_,_⟩,_,_⟩:=h.rr;have ne:∀{x:Nat}{t:TypeId}{cs:Array Value},aq W x t cs→t≠193→¬eI g x:=fun o m e=>ey o l m e;exact⟨k.rr,h.nb.fr k.fr (ne h.nb (by decide)),h.ub.fr k.fr (ne h.ub (by decide)),h.rb.fr k.fr (ne h.rb (by decide)),h.fr.au k.fr (fun i q e=>by have p:i=g:=e;have:=a.g_;omega)⟩
theorem RS.put{w W W':World}{g b l j:Nat}{S:Nat→Prop}{us nm d:Array Value}{st:List UInt8×Nat×Int}(h:RS w W g b l j S us nm st)(a:Bs w g b l j S)(r:aq W' b 106 d)(f:Fr (fun k=>k=b) W W'):RS w W' g b l j S us d st:=by
 have q:=h.rr;obtain⟨⟨A,n,c,m,_,_⟩,_,_⟩:=h.rr;refine⟨q.kK f (fun e=>ey h.nb m (by decide) e.symm) (fun k p e=>?_),r,h.ub.fr f (fun e=>ey h.nb h.ub (by decide) e.symm),h.rb.fr f (fun e=>a.ne e.symm),h.fr.au f (fun i s e=>by have o:i=b:=e;have:=a.n_;omega)⟩;have o:k=b:=e;rw[o]at p;exact a.sn p
def Fi(w:World)(nm:aI)(st:List UInt8×Nat×Int)(e:Ending)(w':World):Prop:=∃n k,e= .returned (.tuple #[.agg n, .int .i64 k])∧Fr ah w w'∧
 ((gg st=0∧dD nm=true∧n=nm.cells.toArray∧k=0)∨(¬(gg st=0∧dD nm=true)∧n=jg 0 ByteArray.empty 0 0 ByteArray.empty∧k=3))
theorem BU(s:ByteArray)(u:gX)(w:World)(bY:ed w)(cd:s.size≤16777216)(hu:ik[(dX (aS s)).1.toNat]? =some u):
  Calls Tryz.prog 118 #[.string s] w (Fi w (fH u (aS s)).1 (fH u (aS s)).2):=by
 have bM:=af (uI (aS s));obtain⟨l,bf⟩:∃l,aS s=l:=⟨_,rfl⟩;have bo:Hid (l.length≤16777216):=by rw[←bf];simp only[Hid];rw[aQ];exact cd
 rw[bf]at hu bM;rw[bf];obtain⟨k,N⟩:∃k:Nat,(dX l).1=(k:Int):=⟨(dX l).1.toNat,by have:=bM.out;omega⟩;rw[N,Int.toNat_natCast]at hu;have cb:Hid (∀j v,u.cells[j]? =some v→w.cell? ⟨0,k*6+j,none⟩=some v):=bY.row k _ hu;have bn:Hid (dX l=((k:Int),(dX l).2)):=by simp only[Hid];rw[←N]
 have K:(k:Int)<21:=by have:=bM.out;rw[N]at this;omega
 have cu:k<21:=by omega
 have cv:(0:Int)≤(k:Int):=by omega
 have aJ:Hid (s.size=l.length∧aS s=l):=⟨by rw[←bf,aQ],bf⟩;have b4:Hid (∀n:aI,n.owner.size≤1099511627776→n.text.size≤1099511627776→∀w',Fr ah w w'→Calls Tryz.prog 115 #[.agg n.cells.toArray] w' (Checked w' n)):=fun n bc bd w' f=>lA n w' (bY.ao f) bc bd;have aH:Hid (∀(st:List UInt8×Nat×Int)(aP:Int),(aO [] (cq aP) st).1.length≤16777216):=fun st aP=>by
  unfold aO;split;·simp
  ·split;·simp
   next h=>
    simp only[cq]at h⊢;split;·simp
    ·split;·simp
     ·split;·simp
      next bc bd cj=>
       simp only[List.length_take];omega
 obtain⟨wd,I,H,bi,J,D⟩:=u;obtain⟨G,ab⟩:∃a,ks ⟨wd,I,H,bi,J,D⟩ (dX l).2=a:=⟨_,rfl⟩;obtain⟨a2,aX⟩:∃a,mO ⟨wd,I,H,bi,J,D⟩ G.2=a:=⟨_,rfl⟩;obtain⟨a3,aY⟩:∃a,oP ⟨wd,I,H,bi,J,D⟩ a2.2=a:=⟨_,rfl⟩;obtain⟨a4,ac⟩:∃a,pU ⟨wd,I,H,bi,J,D⟩ a3.2=a:=⟨_,rfl⟩;have bK:fH ⟨wd,I,H,bi,J,D⟩ l=(⟨(k:Int),⟨G.1.toArray⟩,a2.1,a3.1,⟨a4.1.toArray⟩⟩,a4.2):=by
  rw[fH,ab,aX,aY,ac,N]
 rw[bK];obtain⟨nm,C⟩:∃nm:aI,nm=⟨(k:Int),⟨G.1.toArray⟩,a2.1,a3.1,⟨a4.1.toArray⟩⟩:=⟨_,rfl⟩;rw[←C];have bT:=af C;clear C;have ay:=af ab;have aA:=af aX;have aB:=af aY;have aE:=af ac;have b7:Hid (G.1.length≤16777216):=by
  rw[←ab];unfold ks;split;·exact aH.out _ _
  ·simp[Hid]
 have b9:Hid (a4.1.length≤16777216):=by
  rw[←ac];unfold pU;split;·exact aH.out _ _
  ·simp[Hid]
 clear hu bY N bM bK ab aX aY ac aH bf cd;go_enter Tryz.func118,Tryz.ntmps118;go_wp2_with(refine an rfl 106 rfl sf Bp (jg 0 ByteArray.empty 0 0 ByteArray.empty) rfl ?_);intro w1 n1;have b5:=af n1.fr;have bu:=af n1.aD;have aF:Sz w w.heap.size:=Nat.le_refl _;clear n1;generalize w.heap.size=B at*;obtain⟨ch,w2,bZ,a0,bI⟩:=sQ w1 s;have bS:=af (b5.out.trans a0);have bv:=af (bu.out.fr a0 (fun x=>x));have ca:=af bI;clear a0 bI bu b5;generalize w1.heap.size=gc at*;go_wp2_with fail;refine(oE _ _ ch l _ _ (by have h:=ca.out;rw[aJ.out.2]at h;exact h) (by have:=aJ.out.1;have:=bo.out;omega)).mono ?_;rintro e w3⟨g,S,rfl,a5,f3,b0,bA⟩;have bV:=af a5;have b6:=af (bS.out.trans f3);have aN:=af (bv.out.fr f3 (fun x=>x));have Z:Hid (w.heap.size≤g∧g<w3.heap.size):=⟨by have:=bS.out.size;omega,by obtain⟨⟨A,n,c,be,_,_⟩,_,_⟩:=a5;exact be.lt⟩;have aa:Hid (∀k,S k→k<w3.heap.size):=fun k N=>(bA k N).2;clear a5 f3 b0 bA bZ ca bv bS;go_wp2_with fail;refine(ki g S l 0 0 20 _ bV.out).mono ?_;rintro e X⟨rfl,m⟩;rw[show(aO 0 (bj 20) (l,0,0)).1=(k:Int)from congrArg Prod.fst bn.out];have bx:Hid (fY w3 g S X (dX l).2.1 (dX l).2.2.1 (dX l).2.2.2):=m;have cf:=af (Fx (k:Int));have bL:Hid (Fr ah w X):=b6.out.au m.fr (fun i bH e=>by have V:i=g:=e;have:=Z.out;omega);have aU:Hid (aq X B 106 (jg 0 ByteArray.empty 0 0 ByteArray.empty)):=by
  obtain⟨⟨A,n,c,be,_,_⟩,_,_⟩:=bV.out;exact aN.out.fr m.fr (fun e=>ey aN.out be (by decide) e)
 have T:Hid (w3.heap.size≤X.heap.size):=m.fr.size;clear m aN b6 bV;go_wp2_with(refine dL rfl 106 _ rfl (jg (k:Int) ByteArray.empty 0 0 ByteArray.empty) _ (by simp only[List.map_toArray,List.map_cons,List.map_nil];rfl) cf.out (aR.go ?yC));unfold aR;go_wp2_with(refine an rfl 106 rfl sf Bp (jg 0 ByteArray.empty 0 0 ByteArray.empty) rfl ?_);intro cm n5;have ba:=af n5;clear n5;generalize bB:X.heap.size=o at*;have M:=af bB;clear bB;have bt:Hid (aq cm o 106 (jg 0 ByteArray.empty 0 0 ByteArray.empty)):=by have h:=ba.out.aD;rw[M.out]at h;exact h
 refine ak rfl 106 (.tmp 5) _ rfl o (jg (k:Int) ByteArray.empty 0 0 ByteArray.empty) rfl rfl _ _ bt.out lN rfl (by simp[jg,Value.oneCell']) ?_;intro bg cc f6;have bW:Hid (Rr bg g S (dX l).2.1 (dX l).2.2.1 (dX l).2.2.2):=(bx.out.rr.kD ba.out.fr).kK f6 (fun e=>by have V:g=o:=e;have:=Z.out;have:=T.out;omega) (fun k N e=>by have V:k=o:=e;have:=aa.out k N;have:=T.out;omega);have bk:Hid (Fr ah w bg):=(bL.out.trans ba.out.fr).au f6 (fun i bH e=>by have V:i=o:=e;have:=M.out;have:=bL.out.size;omega);have NE:Hid (o≠B):=by have:=aU.out.lt;have:=M.out;simp only[Hid];omega
 have aV:Hid (aq bg B 106 (jg 0 ByteArray.empty 0 0 ByteArray.empty)):=(aU.out.fr ba.out.fr (fun x=>x)).fr f6 (fun e=>NE.out (show B=o from e).symm);have Q:=af cc;have bO:Hid (w.heap.size≤o∧¬S o):=⟨by have:=bL.out.size;have:=M.out;omega,fun N=>by have:=aa.out o N;have:=T.out;omega⟩;have bq:Hid (w3.heap.size≤bg.heap.size):=by have bc:=T.out;have bd:=ba.out.fr.size;have cj:=f6.size;have ct:=M.out;simp only[Hid];omega
 clear cc f6 ba bt aU bL M bx T;have cg:bg.cell? ⟨o,0,none⟩=some (.int .i64 (k:Int)):=Q.out.cell 0;go_wp2_with(refine aC rfl 189 (.tmp 15) rfl ⟨0,k*6,none⟩ rfl (pg wd I H bi J D).toList _ ?zV Tryz.underlying189 rfl jT (aR.go ?yA));case zV=>exact fun j x a6=>by rw[Addr.add_mid];exact bk.out.aj (cb.out j x a6) (fun x=>x)
 unfold aR;go_wp2_with(refine an rfl 189 rfl ET vX #[.string ByteArray.empty, .bool false, .bool false, .bool false, .bool false, .int .i64 0] rfl ?_);intro cn n7;have bb:=af n7;clear n7;generalize bG:bg.heap.size=z at*;have E:=af bG;clear bG;have bz:Hid (aq cn z 189 #[.string ByteArray.empty, .bool false, .bool false, .bool false, .bool false, .int .i64 0]):=by have h:=bb.out.aD;rw[E.out]at h;exact h
 refine ak rfl 189 (.tmp 6) _ rfl z (pg wd I H bi J D) rfl rfl _ _ bz.out jT rfl (gX.one ⟨wd,I,H,bi,J,D⟩) ?_;intro L b8 f8;have ae:Hid (Bs w g o z B S):=⟨Z.out.1,bO.out.1,NE.out,bO.out.2⟩;have ST:Hid (RS w L g o z B S (pg wd I H bi J D) (jg (k:Int) ByteArray.empty 0 0 ByteArray.empty) (dX l).2):=by
  have ck:=bW.out;obtain⟨⟨A,n,c,be,_,_⟩,_,_⟩:=bW.out;refine⟨(ck.kD bb.out.fr).kK f8 (fun e=>?_) (fun k N e=>?_),(Q.out.fr bb.out.fr (fun x=>x)).fr f8 (fun e=>?_),b8,(aV.out.fr bb.out.fr (fun x=>x)).fr f8 (fun e=>?_),(bk.out.trans bb.out.fr).au f8 (fun i bH e=>?_)⟩;·have V:g=z:=e;have:=be.lt;have:=E.out;omega
  ·have V:k=z:=e;have:=aa.out k N;have:=Q.out.lt;have:=E.out;have:=be.lt;have:=bk.out.size;have:=bq.out;omega
  ·have V:o=z:=e;have:=Q.out.lt;have:=E.out;omega
  ·have V:B=z:=e;have:=aV.out.lt;have:=E.out;omega
  ·have V:i=z:=e;have:=E.out;have:=bk.out.size;omega
 clear b8 f8 bb bz bW Q aV bk E cg bO NE Z aa cb;have ub:L.cell? ⟨z,1,none⟩=some (.bool I):=ST.out.ub.cell 1;go_upto_if 18 with fail;clear ub;go_cut[5](fun a7 a9=>a7= .pointer (some ⟨o,0,none⟩)∧RS w a9 g o z B S (pg wd I H bi J D) (jg (k:Int) ⟨G.1.toArray⟩ 0 0 ByteArray.empty) G.2);case first=>
  cases I;·go_wp2;go_meet;refine⟨rfl,?_⟩;rw[←ay.out];exact ST.out
  ·go_wp2_with fail;refine(nY g S _ _ _ 16777216 _ ST.out.rr).mono ?_;rintro e b3⟨rfl,m⟩;have F:=af (ST.out.step ae.out m);clear m;go_wp2_with(refine aM rfl 41 (.tmp 21) (.tmp 20) rfl o 1 (tV (aO [] (cq 16777216) (dX l).2).1) rfl rfl rfl uT _ _ (jg (k:Int) ⟨(aO [] (cq 16777216) (dX l).2).1.toArray⟩ 0 0 ByteArray.empty) F.out.nb (by simp[jg]) rfl ?_);intro ad U W;have aW:=af (F.out.put ae.out U W);clear U W F;go_wp2;go_meet;refine⟨rfl,?_⟩;rw[←ay.out];exact aW.out
 case rest=>
  obtain⟨rfl,t⟩:=hcut;clear ST;have ST:=af t;clear t;generalize wc=L at*;have ub:L.cell? ⟨z,2,none⟩=some (.bool H):=ST.out.ub.cell 2;go_upto_if 23 with fail;clear ub;go_cut[5](fun a7 a9=>a7= .pointer (some ⟨o,0,none⟩)∧RS w a9 g o z B S (pg wd I H bi J D) (jg (k:Int) ⟨G.1.toArray⟩ a2.1 0 ByteArray.empty) a2.2);case first=>
   cases H;·go_wp2;go_meet;refine⟨rfl,?_⟩;rw[←aA.out];exact ST.out
   ·go_wp2_with fail;refine(ki g S _ _ _ 1073741824 _ ST.out.rr).mono ?_;rintro e b3⟨rfl,m⟩;have F:=af (ST.out.step ae.out m);clear m;go_wp2_with(refine aM rfl 3 (.tmp 26) (.tmp 25) rfl o 2 (.int .i64 (aO 0 (bj 1073741824) G.2).1) rfl rfl rfl mR _ _ (jg (k:Int) ⟨G.1.toArray⟩ (aO 0 (bj 1073741824) G.2).1 0 ByteArray.empty) F.out.nb (by simp[jg]) rfl ?_);intro ad U W;have aW:=af (F.out.put ae.out U W);clear U W F;go_wp2;go_meet;refine⟨rfl,?_⟩;rw[←aA.out];exact aW.out
  case rest=>
   obtain⟨rfl,t⟩:=hcut;clear ST;have ST:=af t;clear t;generalize wc=L at*;have ub:L.cell? ⟨z,3,none⟩=some (.bool bi):=ST.out.ub.cell 3;go_upto_if 28 with fail;clear ub;go_cut[5](fun a7 a9=>a7= .pointer (some ⟨o,0,none⟩)∧RS w a9 g o z B S (pg wd I H bi J D) (jg (k:Int) ⟨G.1.toArray⟩ a2.1 a3.1 ByteArray.empty) a3.2);case first=>
    cases bi;·go_wp2;go_meet;refine⟨rfl,?_⟩;rw[←aB.out];exact ST.out
    ·have cl:L.cell? ⟨z,5,none⟩=some (.int .i64 D):=ST.out.ub.cell 5;go_wp2_with fail;refine(ki g S _ _ _ D _ ST.out.rr).mono ?_;rintro e b3⟨rfl,m⟩;have F:=af (ST.out.step ae.out m);clear m cl;go_wp2_with(refine aM rfl 3 (.tmp 33) (.tmp 32) rfl o 3 (.int .i64 (aO 0 (bj D) a2.2).1) rfl rfl rfl mR _ _ (jg (k:Int) ⟨G.1.toArray⟩ a2.1 (aO 0 (bj D) a2.2).1 ByteArray.empty) F.out.nb (by simp[jg]) rfl ?_);intro ad U W;have aW:=af (F.out.put ae.out U W);clear U W F;go_wp2;go_meet;refine⟨rfl,?_⟩;rw[←aB.out];exact aW.out
   case rest=>
    obtain⟨rfl,t⟩:=hcut;clear ST;have ST:=af t;clear t;generalize wc=L at*;have ub:L.cell? ⟨z,4,none⟩=some (.bool J):=ST.out.ub.cell 4;go_upto_if 35 with fail;clear ub;go_cut[5](fun a7 a9=>a7= .pointer (some ⟨o,0,none⟩)∧RS w a9 g o z B S (pg wd I H bi J D) (jg (k:Int) ⟨G.1.toArray⟩ a2.1 a3.1 ⟨a4.1.toArray⟩) a4.2);case first=>
     cases J;·go_wp2;go_meet;refine⟨rfl,?_⟩;rw[←aE.out];exact ST.out
     ·go_wp2_with fail;refine(nY g S _ _ _ 32 _ ST.out.rr).mono ?_;rintro e b3⟨rfl,m⟩;have F:=af (ST.out.step ae.out m);clear m;go_wp2_with(refine aM rfl 9 (.tmp 38) (.tmp 37) rfl o 4 (tV (aO [] (cq 32) a3.2).1) rfl rfl rfl oW _ _ (jg (k:Int) ⟨G.1.toArray⟩ a2.1 a3.1 ⟨(aO [] (cq 32) a3.2).1.toArray⟩) F.out.nb (by simp[jg]) rfl ?_);intro ad U W;have aW:=af (F.out.put ae.out U W);clear U W F;go_wp2;go_meet;refine⟨rfl,?_⟩;rw[←aE.out];exact aW.out
    case rest=>
     obtain⟨rfl,t⟩:=hcut;clear ST;have ST:=af t;clear t;generalize wc=L at*;have C:=bT.out;have aL:Hid (aq L o 106 nm.cells.toArray):=by rw[C];exact ST.out.nb
     have bN:Hid (nm.owner.size≤1099511627776∧nm.text.size≤1099511627776):=by
      have cr:nm.owner.size=G.1.length:=by rw[C,←aQ];rfl
      have cs:nm.text.size=a4.1.length:=by rw[C,←aQ];rfl
      have bc:=b7.out;have bd:=b9.out;simp only[Hid];omega
     have cp:=af Fw;obtain⟨ce,aZ⟩:∃ce,gg a4.2=ce:=⟨_,rfl⟩;have bP:Hid (∀ad,Fr ah L ad→Calls Tryz.prog 72 #[.pointer (some ⟨g,0,none⟩)] ad (aK ad (.int .i64 ce))):=fun ad r=>by
      have h:=tk g S a4.2.1 a4.2.2.1 a4.2.2.2 ad (ST.out.rr.kD r);rw[←aZ];exact h.mono (fun e w'⟨bc,bd⟩=>⟨bc,by rw[bd];exact az⟩)
     have bl:=af aZ;clear aZ C b7 b9 bo aJ bn ay aA aB aE;by_cases b2:ce=0
     ·subst b2;cases O:dD nm
      ·have aG:=af O;have bR:Hid (∀w',Fr ah L w'→Calls Tryz.prog 115 #[.agg nm.cells.toArray] w' (fun e a8=>∃q:Int,e= .returned (.int .i64 q)∧q≠0∧Fr ah w' a8)):=fun w' f=>(b4.out nm bN.out.1 bN.out.2 w' (ST.out.fr.trans f)).mono (fun e a8⟨q,he,a1,r⟩=>⟨q,he,fun bX=>by rw[bX,O]at a1;exact absurd a1 (by decide),r⟩);clear O;go_upto_region 12 with fail;refine gW 8 ah [Is (.pointer (some ⟨g,0,none⟩)),Is (.int .i64 0),Is (.bool false),Is (.bool false),Is (.agg nm.cells.toArray),(fun co _=>∃q:Int,co= .int .i64 q∧q≠0),Is (.bool true),Is (.bool true)] [] (fun _=>True) (fun _ _=>false) (by kernel_rfl) (by kernel_rfl) (by kernel_rfl) ⟨Is.ag _,Is.ag _,Is.ag _,Is.ag _,Is.ag _,fun _ _ _ _ _ h=>h,Is.ag _,Is.ag _,trivial⟩ trivial (fun _ _ _ _ h=>h) trivial ?_ ?_
       ·refine⟨?zY,?zH,?zI,?zJ,?zK,?zL,?zM,?zN,trivial⟩;all_goals intro u w' d r b K P y
        all_goals simp only[bm,bp,bw,bC,ar,Act.put,bD,bE,bF,Nat.reduceAdd,Nat.zero_add]
        case zH=>
         simp only[show u 0=_ from b 0];clear b K P y;refine ai ?_;go_simp;refine(bP.out _ r).mono ?_;rintro e X⟨rfl,f4⟩;exact⟨_,rfl,f4.bJ,rfl,trivial⟩
        case' zI=>simp only[show u 1=_ from b 1]
        case' zJ=>simp only[show u 2=_ from b 2]
        case zK=>
         simp only[show u 3=_ from b 3];clear b K P y;refine ai ?_;exact aw _ _ rfl ⟨o,0,none⟩ rfl nm.cells _ (fun j x a6=>by rw[Addr.add_mid,Nat.zero_add];exact(aL.out.fr r (fun x=>x)).cell j|>.trans (by rw[bQ];exact a6)) Tryz.underlying106 rfl aT ⟨_,rfl,al⟩
        case zL=>
         simp only[show u 4=_ from b 4,show u 3=_ from b 3];clear b K P y;refine ai ?_;go_simp;refine(bR.out _ r).mono ?_;rintro e X⟨q,rfl,a1,f4⟩;exact⟨_,rfl,f4.bJ,⟨q,rfl,a1⟩,trivial⟩
        case zM=>
         obtain⟨q,ci,b1⟩:=b 5;simp only[ci,show u 3=_ from b 3];clear b K P y;refine ai ?_;go_simp;have t0:(q !=0)=true:=by rw[bne_iff_ne];exact b1
         simp only[t0];exact⟨_,rfl,al⟩
        case' zN=>simp only[show u 3=_ from b 3,show u 6=_ from b 6]
        all_goals
         clear b K P y;refine ai ?_;go_simp;exact⟨_,rfl,al⟩
       ·intro u w' r b y;have av:u 7=_:=b 7 (by omega);clear b y;simp only[bm,bp,bw,bC,ar,Act.put,bD,bE,bF,cZ,da,Nat.reduceAdd,Nat.zero_add,av];have Y:=af r;clear r av;have R:=af (ST.out.rb.fr Y.out (fun x=>x));go_wp2_with(refine ak rfl 106 (.tmp 2) _ rfl B (jg 0 ByteArray.empty 0 0 ByteArray.empty) rfl rfl _ _ R.out lN rfl (by simp[jg,Value.oneCell']) ?_);intro ax am ap;have bs:=af am;have br:Hid (Fr ah w ax):=(ST.out.fr.trans Y.out).au ap (fun i bH e=>by have V:i=B:=e;have:=aF;unfold Sz at this;omega);clear am ap;go_wp2;exact bodyPost_ret (bh (fn:=Tryz.f118) (p:=2) (q:=3) (ty:=106) Tryz.results118 _ ax _ 106 (jg 0 ByteArray.empty 0 0 ByteArray.empty) (0,0) _ rfl bs.out Tryz.underlying106 rfl lN _ rfl) rfl ⟨_,_,rfl,br.out, .inr ⟨fun h=>Bool.false_ne_true (aG.out.symm.trans h.2),rfl,rfl⟩⟩
      ·have aG:=af O;have bR:Hid (∀w',Fr ah L w'→Calls Tryz.prog 115 #[.agg nm.cells.toArray] w' (aK w' (.int .i64 0))):=fun w' f=>(b4.out nm bN.out.1 bN.out.2 w' (ST.out.fr.trans f)).mono (fun e a8⟨q,he,a1,r⟩=>by
        have bX:q=0:=by rw[O]at a1;exact beq_iff_eq.1 a1
        subst bX;exact⟨he,r⟩);clear O;go_upto_region 12 with fail;refine gW 8 ah [Is (.pointer (some ⟨g,0,none⟩)),Is (.int .i64 0),Is (.bool false),Is (.bool false),Is (.agg nm.cells.toArray),Is (.int .i64 0),Is (.bool false),Is (.bool false)] [] (fun _=>True) (fun _ _=>false) (by kernel_rfl) (by kernel_rfl) (by kernel_rfl) ⟨Is.ag _,Is.ag _,Is.ag _,Is.ag _,Is.ag _,Is.ag _,Is.ag _,Is.ag _,trivial⟩ trivial (fun _ _ _ _ h=>h) trivial ?_ ?_
       ·refine⟨?zZ,?zO,?zP,?zQ,?zR,?zS,?zT,?zU,trivial⟩;all_goals intro u w' d r b K P y
        all_goals simp only[bm,bp,bw,bC,ar,Act.put,bD,bE,bF,Nat.reduceAdd,Nat.zero_add]
        case zO=>
         simp only[show u 0=_ from b 0];clear b K P y;refine ai ?_;go_simp;refine(bP.out _ r).mono ?_;rintro e X⟨rfl,f4⟩;exact⟨_,rfl,f4.bJ,rfl,trivial⟩
        case' zP=>simp only[show u 1=_ from b 1]
        case' zQ=>simp only[show u 2=_ from b 2]
        case zR=>
         simp only[show u 3=_ from b 3];clear b K P y;refine ai ?_;exact aw _ _ rfl ⟨o,0,none⟩ rfl nm.cells _ (fun j x a6=>by rw[Addr.add_mid,Nat.zero_add];exact(aL.out.fr r (fun x=>x)).cell j|>.trans (by rw[bQ];exact a6)) Tryz.underlying106 rfl aT ⟨_,rfl,al⟩
        case zS=>
         simp only[show u 4=_ from b 4,show u 3=_ from b 3];clear b K P y;refine ai ?_;go_simp;refine(bR.out _ r).mono ?_;rintro e X⟨rfl,f4⟩;exact⟨_,rfl,f4.bJ,rfl,trivial⟩
        case' zT=>simp only[show u 5=_ from b 5,show u 3=_ from b 3]
        case' zU=>simp only[show u 3=_ from b 3,show u 6=_ from b 6]
        all_goals
         clear b K P y;refine ai ?_;go_simp;exact⟨_,rfl,al⟩
       ·intro u w' r b y;have av:u 7=_:=b 7 (by omega);clear b y;simp only[bm,bp,bw,bC,ar,Act.put,bD,bE,bF,cZ,da,Nat.reduceAdd,Nat.zero_add,av];have Y:=af r;clear r av;have bU:=af (aL.out.fr Y.out (fun x=>x));have R:=af (ST.out.rb.fr Y.out (fun x=>x));go_wp2_with(refine aC rfl 106 (.tmp 5) rfl ⟨o,0,none⟩ rfl nm.cells _ ?zW Tryz.underlying106 rfl aT (aR.go ?yB));case zW=>exact fun j x a6=>by rw[Addr.add_mid,Nat.zero_add];exact bU.out.cell j|>.trans (by rw[bQ];exact a6)
        unfold aR;refine ak rfl 106 (.tmp 2) _ rfl B nm.cells.toArray rfl rfl _ _ R.out lN rfl nm.one ?_;intro ax am ap;have bs:=af am;have br:Hid (Fr ah w ax):=(ST.out.fr.trans Y.out).au ap (fun i bH e=>by have V:i=B:=e;have:=aF;unfold Sz at this;omega);clear am ap;go_wp2;exact bodyPost_ret (bh (fn:=Tryz.f118) (p:=2) (q:=3) (ty:=106) Tryz.results118 _ ax _ 106 nm.cells.toArray (0,0) _ rfl bs.out Tryz.underlying106 rfl lN _ rfl) rfl ⟨_,_,rfl,br.out, .inl ⟨bl.out,aG.out,rfl,rfl⟩⟩
     ·have t0:(ce !=0)=true:=by rw[bne_iff_ne];exact b2
      go_upto_region 12 with fail;refine gW 8 ah [Is (.pointer (some ⟨g,0,none⟩)),Is (.int .i64 ce),Is (.bool true),Is (.bool true),Is (undef),Is (undef),Is (undef),Is (.bool true)] [] (fun _=>True) (fun _ _=>false) (by kernel_rfl) (by kernel_rfl) (by kernel_rfl) ⟨Is.ag _,Is.ag _,Is.ag _,Is.ag _,Is.ag _,Is.ag _,Is.ag _,Is.ag _,trivial⟩ trivial (fun _ _ _ _ h=>h) trivial ?_ ?_
      ·refine⟨?zX,?zA,?zB,?zC,?zD,?zE,?zF,?zG,trivial⟩;all_goals intro u w' d r b K P y
       all_goals simp only[bm,bp,bw,bC,ar,Act.put,bD,bE,bF,Nat.reduceAdd,Nat.zero_add]
       case zA=>
        simp only[show u 0=_ from b 0];clear b K P y;refine ai ?_;go_simp;refine(bP.out _ r).mono ?_;rintro e X⟨rfl,f4⟩;exact⟨_,rfl,f4.bJ,rfl,trivial⟩
       case' zB=>simp only[show u 1=_ from b 1]
       case' zC=>simp only[show u 2=_ from b 2]
       case zD=>simp only[show u 3=_ from b 3];exact .inr ⟨by kernel_rfl,_,rfl,az,rfl,trivial⟩
       case zE=>simp only[show u 3=_ from b 3];exact .inr ⟨by kernel_rfl,_,rfl,az,rfl,trivial⟩
       case zF=>simp only[show u 3=_ from b 3];exact .inr ⟨by kernel_rfl,_,rfl,az,rfl,trivial⟩
       case' zG=>simp only[show u 3=_ from b 3,show u 6=_ from b 6]
       all_goals
        clear b K P y;refine ai ?_;go_simp;exact⟨_,rfl,al⟩
      ·intro u w' r b y;have av:u 7=_:=b 7 (by omega);clear b y;simp only[bm,bp,bw,bC,ar,Act.put,bD,bE,bF,cZ,da,Nat.reduceAdd,Nat.zero_add,av];have Y:=af r;clear r av;have R:=af (ST.out.rb.fr Y.out (fun x=>x));go_wp2_with(refine ak rfl 106 (.tmp 2) _ rfl B (jg 0 ByteArray.empty 0 0 ByteArray.empty) rfl rfl _ _ R.out lN rfl (by simp[jg,Value.oneCell']) ?_);intro ax am ap;have bs:=af am;have br:Hid (Fr ah w ax):=(ST.out.fr.trans Y.out).au ap (fun i bH e=>by have V:i=B:=e;have:=aF;unfold Sz at this;omega);clear am ap;go_wp2;exact bodyPost_ret (bh (fn:=Tryz.f118) (p:=2) (q:=3) (ty:=106) Tryz.results118 _ ax _ 106 (jg 0 ByteArray.empty 0 0 ByteArray.empty) (0,0) _ rfl bs.out Tryz.underlying106 rfl lN _ rfl) rfl ⟨_,_,rfl,br.out, .inr ⟨fun h=>b2 (bl.out.symm.trans h.1),rfl,rfl⟩⟩
end Go.Proofs.YtphjagkehiklkaaGreatDoor
namespace Go.Proofs.YtphjagkehiklkaaGreatDoor
open Go.ChangeShapes Go.WideShapes Go.ChangeAt Go.RowKit Go.Deep
def Dc:List Int:=[1779033703,3144134277,1013904242,2773480762,1359893119,2600822924,528734635,1541459225]
def An:List Int:=sZ.map (fun n:Nat=>(n:Int))
structure aI.jK(n:aI):Prop where
 kind:-9223372036854775808≤n.kind∧n.kind≤9223372036854775807
 number:-9223372036854775808≤n.number∧n.number≤9223372036854775807
 index:-9223372036854775808≤n.index∧n.index≤9223372036854775807
 owner:n.owner.size≤9223372036854775807
 text:n.text.size≤9223372036854775807
structure CV.jK(c:CV):Prop where
 nm:c.nm.jK
 value:c.value.size≤9223372036854775807
theorem Dx{H:Type}{enc:TypeId×Value→H}{w:World}{base:Nat}{sp:Nat→Bool}{held:Bool}{fuel:Nat}{l:List Value}{x:DataW H×List MemPlace}
  (h:DataW.trod enc Tryz.prog w base sp held fuel 245 l=some x):∃n:aI,n.jK∧l=n.cells:=by
 obtain⟨p,q,_,rfl,a,c,b⟩:=DataW.trod_struct Tryz.underlying245 h;rw[zJ]at a;match l,a with
 |[r,s,t,x3,u],_=>
  have g0:=b 0 _ rfl;have g1:=b 1 _ rfl;have g2:=b 2 _ rfl;have g3:=b 3 _ rfl;have g4:=b 4 _ rfl;match p,c with
  |[v,y,z,y3,y4],_=>
   simp[rS,rT]at g0 g1 g2 g3 g4;obtain⟨a0,d,rfl,b0⟩:=DataW.trod_int Tryz.underlying3 g0;obtain⟨o,e,rfl,b1⟩:=DataW.trod_string Tryz.underlying9 g1;obtain⟨a2,f,rfl,b2⟩:=DataW.trod_int Tryz.underlying3 g2;obtain⟨a3,g,rfl,b3⟩:=DataW.trod_int Tryz.underlying3 g3;obtain⟨a4,i,rfl,b4⟩:=DataW.trod_string Tryz.underlying9 g4;simp only[List.cons.injEq,and_true]at d e f g i;subst d e f g i;have j:=bounds_i64 b0;have k:=bounds_i64 b2;have m:=bounds_i64 b3;unfold maxLen at b1 b4;exact⟨⟨a0,o,a2,a3,a4⟩,⟨⟨j.1,j.2⟩,⟨k.1,k.2⟩,⟨m.1,m.2⟩,b1,b4⟩,rfl⟩
theorem Kc{H:Type}{enc:TypeId×Value→H}{w:World}{base:Nat}{sp:Nat→Bool}{held:Bool}{fuel:Nat}{l:List Value}{x:DataW H×List MemPlace}
  (h:DataW.trod enc Tryz.prog w base sp held fuel 247 l=some x):∃c:CV,c.jK∧l=c.cells:=by
 obtain⟨k,m,_,rfl,a,d,b⟩:=DataW.trod_struct Tryz.underlying247 h;rw[Eu]at a;match l,a with
 |[o,p,q,x3,r,s,t],_=>
  have g0:=b 0 _ rfl;have g1:=b 1 _ rfl;have g2:=b 2 _ rfl;match k,d with
  |[u,v,y],_=>
   simp[zJ,rT,uA]at g0 g1 g2;obtain⟨n,j,i⟩:=Dx g0;obtain⟨g,e,rfl,b1⟩:=DataW.trod_string Tryz.underlying9 g1;obtain⟨a2,f,rfl⟩:=DataW.trod_bool Tryz.underlying4 g2;simp only[List.cons.injEq,and_true]at e f;subst e f;unfold maxLen at b1;refine⟨⟨n,g,a2⟩,⟨j,b1⟩,?_⟩;rw[CV.cells,←i];rfl
theorem AD{H:Type}{enc:TypeId×Value→H}{w:World}{fuel:Nat}{a:Option Addr}{len cap:Nat}{x:DataW H×List MemPlace}
  (h:DataW.trod enc Tryz.prog w 0 (fun _=>true) true fuel 55 [.slice a len cap]=some x):
  ∃cs:List CV,CL w (Old w) a len cs∧(∀c∈cs,c.jK)∧len≤cap∧cap≤9223372036854775807:=by
 rcases open_slice Tryz.underlying55 h with⟨b,_⟩|⟨p,F,E,m,n,D,C,b,_,B,hm,g,_,o⟩;·simp only[List.cons.injEq,Value.slice.injEq,and_true]at b;obtain⟨rfl,rfl,rfl⟩:=b;exact⟨[],⟨Rd.none_,rfl⟩,by simp,Nat.le_refl _,Nat.zero_le _⟩
 ·simp only[List.cons.injEq,Value.slice.injEq,and_true]at b;obtain⟨rfl,rfl,rfl⟩:=b;simp only[if_true]at g;rw[Eu]at o;have f:∀i,i<len→∃c:CV,c.jK∧∀j u,c.cells[j]? =some u→w.cell? ((p.add (i*7)).add j)=some u:=by
   intro i z;obtain⟨cs',t,k⟩:=o i (by omega);obtain⟨c,y,e⟩:=Kc k;obtain⟨_,v,d⟩:=World.cells?_some t;refine⟨c,y,fun j u hu=>?_⟩;have A:j<7:=by
    have:=(List.getElem?_eq_some_iff.1 hu).1;simpa[CV.cells,aI.cells]using this
   rw[d j A,←hu,←e]
  obtain⟨l,q,r,s⟩:=yO CV.cells 7 CV.jK (fun c=>c.eF) (by omega) f;exact⟨l,⟨s,q⟩,r,B,by unfold maxLen at hm;exact hm⟩
end Go.Proofs.YtphjagkehiklkaaGreatDoor
