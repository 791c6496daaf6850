/- Texts. -/
import Derived.Test.YtphjagkehiklkaaGreatDoorCards
import Derived.Test.YtphjagkehiklkaaGreatDoorYK02
import Derived.Test.YtphjagkehiklkaaGreatDoorYK10
set_option linter.unusedVariables false
set_option linter.unusedSimpArgs false
set_option maxRecDepth 100000
set_option maxHeartbeats 4000000
namespace Go.Proofs.YtphjagkehiklkaaGreatDoor
open Go.RowKit Go.Shelf
def bF(l:List UInt8):List UInt8:=enc l.length++l
def nJ(u:gX)(n:aI):List UInt8:=enc n.kind.toNat++((if u.owner then bF (aJ n.owner)else[])++((if u.number then enc n.number.toNat else[])++((if u.index then enc n.index.toNat else[])++(if u.text then bF (aJ n.text)else[]))))
def cI(n:aI):List UInt8:=match ij[n.kind.toNat]? with
 |some u=>nJ u n
 |none=>[]
def oF(x:Ent):List UInt8:=bF (cI x.1)++bF (aJ x.2)
def fE(L:List Ent):List UInt8:=enc L.length++L.flatMap oF
theorem xk{s:ByteArray}(h:s.toList.isEmpty=true):s=ByteArray.empty:=by
 rw[ByteArray.toList_eq,List.isEmpty_iff]at h;exact ByteArray.ext (Array.toList_inj.1 h)
structure zh(u:gX)(n:aI):Prop where
 o0:u.owner=false→n.owner=ByteArray.empty
 n0:u.number=false→n.number=0
 i0:u.index=false→n.index=0
 t0:u.text=false→n.text=ByteArray.empty
 n1:u.number=true→0≤n.number∧n.number≤1073741824
 i1:u.index=true→0≤n.index∧n.index≤u.aO
theorem sY{u:gX}{n:aI}(h:pP u n=true):zh u n:=by
 simp only[pP,Bool.and_eq_true,Bool.or_eq_true,Bool.not_eq_true',decide_eq_true_eq]at h;obtain⟨⟨⟨⟨⟨⟨⟨a,b⟩,c⟩,d⟩,_⟩,f⟩,g⟩,_⟩:=h;refine⟨fun e=>?_,fun e=>?_,fun e=>?_,fun e=>?_,fun e=>?_,fun e=>?_⟩
 ·rcases a with h|h;·rw[e]at h;cases h
  ·exact xk h
 ·rcases b with h|h;·rw[e]at h;cases h
  ·exact beq_iff_eq.1 h
 ·rcases c with h|h;·rw[e]at h;cases h
  ·exact beq_iff_eq.1 h
 ·rcases d with h|h;·rw[e]at h;cases h
  ·exact xk h
 ·rcases f with h|h;·rw[e]at h;cases h
  ·exact h
 ·rcases g with h|h;·rw[e]at h;cases h
  ·exact h
theorem rm{n:aI}(h:dD n=true):(1≤n.kind∧n.kind≤20)∧∃u,ij[n.kind.toNat]? =some u∧pP u n=true:=by
 simp only[dD,Bool.and_eq_true,decide_eq_true_eq]at h;obtain⟨⟨b,c⟩,a⟩:=h;refine⟨⟨b,c⟩,?_⟩;cases hu:ij[n.kind.toNat]? with
 |none=>rw[hu]at a;cases a
 |some u=>rw[hu]at a;exact⟨u,rfl,a⟩
theorem Ah{k:Nat}{u:gX}(h:ij[k]? =some u):u.aO≤1073741824:=by
 have hm:∀x∈ij,x.aO≤1073741824:=by decide
 exact hm u (List.mem_of_getElem? h)
theorem rX{n:aI}{u:gX}(h:ij[n.kind.toNat]? =some u):cI n=nJ u n:=by
 unfold cI;rw[h]
theorem pO(u:gX)(n:aI):(nJ u n).length≤50+n.owner.size+n.text.size:=by
 have a:=aV n.kind.toNat;have b:=aV n.number.toNat;have c:=aV n.index.toNat;have d:=aV (aJ n.owner).length;have e:=aV (aJ n.text).length;have f:=aL n.owner;have g:=aL n.text;simp only[nJ,aY,bF];split<;>split<;>split<;>split<;>simp only[aY,List.length_nil]<;>omega
theorem fo(n:aI):(cI n).length≤50+n.owner.size+n.text.size:=by
 unfold cI;split;·exact pO _ n
 ·simp
structure Lw(L:List Ent):Prop where
 ok:∀x∈L,dD x.1=true
 name:∀x∈L,tY x.1
 value:∀x∈L,x.2.size≤1099511627776
end Go.Proofs.YtphjagkehiklkaaGreatDoor
namespace Go.Proofs.YtphjagkehiklkaaGreatDoor
open Go.RowKit Go.Shelf
theorem fT{P:Program}{op:Oper}{a:Act}{w:World}{K:Act→World→Prop}{Q:Exit→Act→World→Prop}(t:TypeId)(c:op.op= .alloc t)(z:Value)(d:∀w,(zeroValue t).run P w= .ok z w)(cells:Array Value)(b:z.cells=cells)
  (h:∀w',dN w w' t cells→K (a.put op.dst (.pointer (some ⟨w.heap.size,0,none⟩))) w'):op.wp P a w K Q:=by
 subst b;unfold Oper.wp execOp;simp only[c,Instr.alloc,Sem.run_bind,d,newVar,newRow,run_newObj_alloc,Sem.run_pure,Result.andThen_ok];exact h _ (dN.alloc w t z.cells)
theorem ev{w:World}{g b:Nat}{t c:TypeId}{cs cs':Array Value}(h:ao w g t cs)(d:ao w b c cs')(a:t≠c):g≠b:=by
 rintro rfl;have e:=h.symm.trans d;simp only[Option.some.injEq,Obj.cells.injEq]at e;exact a e.2.1
theorem rE{a k:Nat}(h:Jw a (.slice none 0 0) k):k=a:=by
 rcases h with h|h;·exact h
 ·simp[Value.ownBlock]at h
def Ai(k:Nat)(c:ByteArray)(b a:Int)(d:ByteArray):Array Value:=#[.int .i64 (k:Int), .string c, .int .i64 b, .int .i64 a, .string d]
def oV(wd:ByteArray)(b a bi c:Bool)(d:Int):Array Value:=#[.string wd, .bool b, .bool a, .bool bi, .bool c, .int .i64 d]
structure WN(w2 w:World)(a:Nat)(v:Value)(l:List UInt8):Prop where
 step:∃b,dk b a (.slice none 0 0) w v (l,0)∧Fr ag w2 b
 new:w2.heap.size≤a
theorem WN.next{w2 w w':World}{b:Nat}{v:Value}{l c:List UInt8}(h:WN w2 w b v l)(k:∃a,dk w b v w' a (c,0)):∃a,WN w2 w' b a c:=by
 obtain⟨a,f⟩:=k;obtain⟨g,d,e⟩:=h.step;exact⟨a,⟨g,d.trans f,e⟩,h.new⟩
theorem WN.fr{w2 w:World}{a:Nat}{v:Value}{l:List UInt8}(h:WN w2 w a v l):Fr ag w2 w:=by
 obtain⟨f,b,c⟩:=h.step;exact c.aw b.fr (fun i d e=>by have:=rE e;have:=h.new;omega)
theorem WN.kF{w2 w w':World}{b g:Nat}{v m:Value}{l k:List UInt8}{t:TypeId}{cs:Array Value}(h:WN w2 w b v l)(f:dk w b v w' m (k,0))(a:ao w g t cs)(i:t≠185)(j:t≠5):ao w' g t cs:=by
 obtain⟨o,c,n⟩:=h.step;refine a.fr f.fr (fun e=>?_);rcases e with e|e;·exact ev a c.wr.aF i e
 ·exact bE c.wr.own a (fun d=>j d.symm) e
def NS(w2 W:World)(c b a:Nat)(us nm:Array Value)(l:List UInt8):Prop:=∃v,WN w2 W c v l∧ao W b 189 us∧ao W a 106 nm
theorem WN.wr{w2 w:World}{a:Nat}{v:Value}{l:List UInt8}(h:WN w2 w a v l):Wr w a v l 0:=by
 obtain⟨c,b,_⟩:=h.step;exact b.wr
theorem WN.ns{w2 w w':World}{a c b:Nat}{us nm:Array Value}{v e:Value}{l d:List UInt8}(h:WN w2 w a v l)(hu:ao w c 189 us)(g:ao w b 106 nm)(k:dk w a v w' e (d,0)):NS w2 w' a c b us nm d:=by
 obtain⟨v2,f⟩:=h.next ⟨e,k⟩;exact⟨v2,f,h.kF k hu (by decide) (by decide),h.kF k g (by decide) (by decide)⟩
theorem ET(k:Nat)(n:ByteArray)(m c:Int)(o wd:ByteArray)(s r bi t:Bool)(B:Int)(w:World)(a0:eG w)(bw:1≤k∧k≤20)(hu:ij[k]? =some ⟨wd,s,r,bi,t,B⟩)(bc:n.size≤16777216)(bd:o.size≤16777216)(Z:dD ⟨(k:Int),n,m,c,o⟩=true):
  Calls Tryz.prog 64 #[.agg #[.int .i64 (k:Int), .string n, .int .i64 m, .int .i64 c, .string o]] w (aK w (.tuple #[.string ⟨(nJ ⟨wd,s,r,bi,t,B⟩ ⟨(k:Int),n,m,c,o⟩).toArray⟩, .int .i64 0])):=by
 have a1:zh ⟨wd,s,r,bi,t,B⟩ ⟨(k:Int),n,m,c,o⟩:=by
  obtain⟨_,u,ae,bb⟩:=rm Z;simp only[Int.toNat_natCast]at ae;rw[hu]at ae;cases ae;exact sY bb
 have aO:=Ah hu;simp only at aO;have aC:Hid (r=true→m=(m.toNat:Int)∧m.toNat≤1073741824):=fun h=>by
  have:=a1.n1 h;simp only at this;omega
 have ap:Hid (bi=true→c=(c.toNat:Int)∧c.toNat≤1073741824):=fun h=>by
  have:=a1.i1 h;simp only at this;omega
 have M:Hid (enc k++(if s then bF (aJ n)else[])++(if r then enc m.toNat else[])++(if bi then enc c.toNat else[])++(if t then bF (aJ o)else[])=nJ ⟨wd,s,r,bi,t,B⟩ ⟨(k:Int),n,m,c,o⟩):=by
  simp[Hid,nJ]
 have a5:Hid (∀w',Fr ag w w'→Calls Tryz.prog 115 #[.agg #[.int .i64 (k:Int), .string n, .int .i64 m, .int .i64 c, .string o]] w' (Checked w' ⟨(k:Int),n,m,c,o⟩)):=fun w' f=>kY ⟨(k:Int),n,m,c,o⟩ w' (a0.aq f) (by simp only;omega) (by simp only;omega);have Q:Hid ((nJ ⟨wd,s,r,bi,t,B⟩ ⟨(k:Int),n,m,c,o⟩).length≤50+n.size+o.size):=pO _ _;have aD:=af Z;have G:Hid (n.size≤16777216∧o.size≤16777216):=⟨bc,bd⟩;have bl:Hid (∀j v,(oV wd s r bi t B).toList[j]? =some v→w.cell? ⟨0,k*6+j,none⟩=some v):=a0.row k _ hu;have ak:(k:Int)<21:=by omega
 have bx:k<21:=by omega
 have bz:(0:Int)≤(k:Int):=by omega
 clear a0 hu Z a1 aO bc bd;obtain⟨aT,X⟩:∃L,enc k++(if s then bF (aJ n)else[])=L:=⟨_,rfl⟩;obtain⟨aU,H⟩:∃L,aT++(if r then enc m.toNat else[])=L:=⟨_,rfl⟩;obtain⟨aX,I⟩:∃L,aU++(if bi then enc c.toNat else[])=L:=⟨_,rfl⟩;obtain⟨a8,J⟩:∃L,aX++(if t then bF (aJ o)else[])=L:=⟨_,rfl⟩;rw[X,H,I,J]at M;rw[←M.out]at Q;rw[←M.out];have ar:=af X;have av:=af H;have ax:=af I;have aA:=af J;have N:Hid (aT.length≤100000000∧aU.length≤100000000∧aX.length≤100000000∧a8.length≤100000000):=by
  have ae:=Q.out;have bb:=G.out;rw[←J,←I,←H]at ae;simp only[aY]at ae;simp only[Hid];rw[←J,←I,←H];simp only[aY];omega
 clear X H I J M Q;go_enter Tryz.func64,Tryz.ntmps64;go_wp2_with(refine ay rfl 106 (.tmp 0) rfl (Ai k n m c o) rfl ?_);intro w1 n1;have aS:=af n1.fr;have aN:=af n1.aF;clear n1;generalize w.heap.size=A at*;have U:Hid (ao w1 A 106 (Ai k n m c o)):=aN.out;clear aN;go_wp2_with(refine aB rfl 106 (.tmp 1) rfl ⟨A,0,none⟩ rfl (aI.cells ⟨(k:Int),n,m,c,o⟩) _ ?zF Tryz.underlying106 rfl bB (bh.go ?zH));case zF=>exact fun j x aa=>by rw[Addr.add_mid,Nat.zero_add];exact U.out.cell j|>.trans (by rw[←bD]at aa;exact aa)
 unfold bh;go_wp2_with fail;refine(a5.out _ aS.out).mono ?_;rintro e w2⟨q,rfl,a2,f2⟩;obtain rfl:q=0:=by
  rw[aD.out]at a2;exact beq_iff_eq.1 a2
 have a6:=af (aS.out.trans f2);have V:=af (U.out.fr f2 (fun x=>x));clear a2 f2 a5 aD U aS;go_upto_region 4 with fail;refine aE 6 ag [Is (.pointer (some ⟨A,0,none⟩)),Is (.int .i64 (k:Int)),Is (.pointer (some ⟨0,k*6,none⟩)),Is (.agg (oV wd s r bi t B)),(fun a4 a3=>∃g,a4= .pointer (some ⟨g,0,none⟩)∧w2.heap.size≤g∧Wr a3 g (.slice none 0 0) [] 0),(fun a4 a3=>∃g,a4= .pointer (some ⟨g,0,none⟩)∧w2.heap.size≤g∧ao a3 g 189 #[.string ByteArray.empty, .bool false, .bool false, .bool false, .bool false, .int .i64 0])] [] (fun _=>True) (fun _ _=>false) (by kernel_rfl) (by kernel_rfl) (by kernel_rfl) (by kernel_rfl) ⟨Is.ah _,Is.ah _,Is.ah _,Is.ah _,fun _ _ _ _ f h=>by obtain⟨g,e,l,b⟩:=h;exact⟨g,e,l,b.cC f (fun _ _ x=>x)⟩,fun _ _ _ _ f h=>by obtain⟨g,e,l,b⟩:=h;exact⟨g,e,l,b.fr f (fun x=>x)⟩,trivial⟩ trivial (fun _ _ _ _ h=>h) trivial ?_ ?_
 ·refine⟨?zG,?zA,?zB,?zC,?zD,?zE,trivial⟩;all_goals intro u w' d Y F ak aP ab
  all_goals simp only[bJ,bK,bL,bM,au,Act.put,bN,bO,bP,Nat.reduceAdd,Nat.zero_add]
  case zA=>
   simp only[show u 0=_ from F 0];clear F ak aP ab;refine aj ?_;have q:_=some (Value.int .i64 (k:Int)):=(V.out.fr Y (fun x=>x)).cell 0;go_simp;exact⟨_,rfl,al⟩
  case' zB=>simp only[show u 1=_ from F 1]
  case zC=>
   simp only[show u 2=_ from F 2];clear F ak aP ab;refine aj ?_;exact az _ _ rfl ⟨0,k*6,none⟩ rfl (oV wd s r bi t B).toList _ (fun br v bq=>by rw[Addr.add_mid];exact(a6.out.trans Y).an (bl.out br v bq) (fun x=>x)) Tryz.underlying189 rfl jQ ⟨_,rfl,al⟩
  case zD=>
   clear F ak aP ab;refine aj ?_;go_simp;refine(ld _).mono ?_;rintro e bs⟨rfl,hw,f4⟩;exact⟨_,rfl,f4.bI,⟨_,rfl,Y.size,hw⟩,trivial⟩
  case zE=>
   clear F ak aP ab;refine aj ?_;refine fT 189 rfl EE vS #[.string ByteArray.empty, .bool false, .bool false, .bool false, .bool false, .int .i64 0] rfl ?_;intro bs n4;exact⟨_,rfl,n4.fr,⟨_,rfl,Y.size,n4.aF⟩,trivial⟩
  all_goals
   clear F ak aP ab;refine aj ?_;go_simp;exact⟨_,rfl,al⟩
 ·intro u w' Y F ab;have aQ:u 3=_:=F 3 (by omega);obtain⟨E,be,lw,aH⟩:=F 4 (by omega);obtain⟨D,bf,bg,aG⟩:=F 5 (by omega);clear F ab;simp only[bJ,bK,bL,bM,au,Act.put,bN,bO,bP,dL,dM,Nat.reduceAdd,Nat.zero_add,aQ,be,bf];have T:=af aH;have S:=af aG;have a9:Hid (w2.heap.size≤E∧w2.heap.size≤D):=⟨lw,bg⟩;have a7:=af Y;clear Y aQ be bf lw bg aH aG;refine ai rfl 189 (.tmp 5) _ rfl D (oV wd s r bi t B) rfl rfl _ _ S.out jQ rfl (gX.one ⟨wd,s,r,bi,t,B⟩) ?_;intro y ba aZ;have NE:Hid (E≠D):=ev T.out.aF S.out (by decide);have aM:Hid (Wr y E (.slice none 0 0) [] 0):=T.out.cC aZ (fun x aa e=>by have bo:x=D:=e;have:=rE aa;have:=NE.out;omega);have P:Hid (Fr ag w2 y):=a7.out.aw aZ (fun i bv e=>by have bo:i=D:=e;have:=a9.out;omega);have a:Hid (WN w2 y E (.slice none 0 0) []):=⟨⟨y,dk.start aM.out,P.out⟩,a9.out.1⟩;have K:Hid (ao y D 189 (oV wd s r bi t B)):=ba;have C:Hid (ao y A 106 (Ai k n m c o)):=V.out.fr P.out (fun x=>x);clear aZ ba T S a7 V aM NE P;have bm:y.cell? ⟨A,0,none⟩=some (.int .i64 (k:Int)):=C.out.cell 0;go_wp2_with fail;refine(jD E _ _ 0 (k:Int) _ a.out.wr (by simp) (by omega)).mono ?_;rintro e am⟨rfl,aR,z⟩;rw[iK,List.nil_append]at z;have ST:Hid (NS w2 am E D A (oV wd s r bi t B) (Ai k n m c o) (enc k)):=a.out.ns K.out C.out z;clear z bm a K C;generalize am=y at*;have ub:y.cell? ⟨D,1,none⟩=some (.bool s):=by obtain⟨_,_,h,_⟩:=ST.out;exact h.cell 1
  go_upto_if 24 with fail;clear ub;go_cut[1](fun ac ad=>ac= .pointer (some ⟨A,0,none⟩)∧NS w2 ad E D A (oV wd s r bi t B) (Ai k n m c o) aT);case first=>
   cases s;·go_wp2;go_meet;refine⟨rfl,?_⟩;have h:=ST.out;rw[←ar.out];simpa using h
   ·obtain⟨v,wn,ub,nb⟩:=ST.out;have a:=af wn;have K:=af ub;have C:=af nb;clear wn ub nb;have W:y.cell? ⟨A,1,none⟩=some (.string n):=C.out.cell 1;go_wp2_with fail;refine(lT E v _ 0 n _ a.out.wr (by have:=aV k;omega) (by have:=G.out;omega)).mono ?_;rintro e am⟨rfl,aR,z⟩;rw[iL _ _ (by have:=G.out;omega)]at z;have h:=a.out.ns K.out C.out z;have R:=af h;clear z h W;go_wp2;go_meet;refine⟨rfl,?_⟩;have h:=R.out;rw[←ar.out];simpa[bF,aL]using h
  case rest=>
   obtain⟨rfl,p⟩:=hcut;clear ST;have ST:=af p;clear p;generalize wc=y at*;have ub:y.cell? ⟨D,2,none⟩=some (.bool r):=by obtain⟨_,_,h,_⟩:=ST.out;exact h.cell 2
   go_upto_if 30 with fail;clear ub;go_cut[1](fun ac ad=>ac= .pointer (some ⟨A,0,none⟩)∧NS w2 ad E D A (oV wd s r bi t B) (Ai k n m c o) aU);case first=>
    cases r;·go_wp2;go_meet;refine⟨rfl,?_⟩;have h:=ST.out;rw[←av.out];simpa using h
    ·obtain⟨v,wn,ub,nb⟩:=ST.out;have a:=af wn;have K:=af ub;have C:=af nb;clear wn ub nb;have W:y.cell? ⟨A,2,none⟩=some (.int .i64 m):=C.out.cell 2;go_wp2_with fail;refine(jD E v _ 0 m _ a.out.wr (by have:=N.out;omega) (by have:=aC.out (by first|rfl|trivial);omega)).mono ?_;rintro e am⟨rfl,aR,z⟩;rw[(aC.out (by first|rfl|trivial)).1,iK]at z;have h:=a.out.ns K.out C.out z;have R:=af h;clear z h W;go_wp2;go_meet;refine⟨rfl,?_⟩;have h:=R.out;rw[←av.out];simpa[bF,aL]using h
   case rest=>
    obtain⟨rfl,p⟩:=hcut;clear ST;have ST:=af p;clear p;generalize wc=y at*;have ub:y.cell? ⟨D,3,none⟩=some (.bool bi):=by obtain⟨_,_,h,_⟩:=ST.out;exact h.cell 3
    go_upto_if 36 with fail;clear ub;go_cut[1](fun ac ad=>ac= .pointer (some ⟨A,0,none⟩)∧NS w2 ad E D A (oV wd s r bi t B) (Ai k n m c o) aX);case first=>
     cases bi;·go_wp2;go_meet;refine⟨rfl,?_⟩;have h:=ST.out;rw[←ax.out];simpa using h
     ·obtain⟨v,wn,ub,nb⟩:=ST.out;have a:=af wn;have K:=af ub;have C:=af nb;clear wn ub nb;have W:y.cell? ⟨A,3,none⟩=some (.int .i64 c):=C.out.cell 3;go_wp2_with fail;refine(jD E v _ 0 c _ a.out.wr (by have:=N.out;omega) (by have:=ap.out (by first|rfl|trivial);omega)).mono ?_;rintro e am⟨rfl,aR,z⟩;rw[(ap.out (by first|rfl|trivial)).1,iK]at z;have h:=a.out.ns K.out C.out z;have R:=af h;clear z h W;go_wp2;go_meet;refine⟨rfl,?_⟩;have h:=R.out;rw[←ax.out];simpa[bF,aL]using h
    case rest=>
     obtain⟨rfl,p⟩:=hcut;clear ST;have ST:=af p;clear p;generalize wc=y at*;have ub:y.cell? ⟨D,4,none⟩=some (.bool t):=by obtain⟨_,_,h,_⟩:=ST.out;exact h.cell 4
     go_upto_if 42 with fail;clear ub;go_cut[1](fun ac ad=>ac= .pointer (some ⟨A,0,none⟩)∧NS w2 ad E D A (oV wd s r bi t B) (Ai k n m c o) a8);case first=>
      cases t;·go_wp2;go_meet;refine⟨rfl,?_⟩;have h:=ST.out;rw[←aA.out];simpa using h
      ·obtain⟨v,wn,ub,nb⟩:=ST.out;have a:=af wn;have K:=af ub;have C:=af nb;clear wn ub nb;have W:y.cell? ⟨A,4,none⟩=some (.string o):=C.out.cell 4;go_wp2_with fail;refine(lT E v _ 0 o _ a.out.wr (by have:=N.out;omega) (by have:=G.out;omega)).mono ?_;rintro e am⟨rfl,aR,z⟩;rw[iL _ _ (by have:=G.out;omega)]at z;have h:=a.out.ns K.out C.out z;have R:=af h;clear z h W;go_wp2;go_meet;refine⟨rfl,?_⟩;have h:=R.out;rw[←aA.out];simpa[bF,aL]using h
     case rest=>
      obtain⟨rfl,p⟩:=hcut;clear ST;have ST:=af p;clear p;generalize wc=y at*;obtain⟨v,wn,ub,nb⟩:=ST.out;have a:=af wn;clear wn ub nb ST;go_wp2_with fail;refine(oX E _ _ _ _ a.out.wr (by have:=N.out;omega)).mono ?_;rintro e bt⟨_,aa⟩;obtain⟨bC,rfl,O⟩:=aa rfl;obtain⟨bu,bA,bn,rfl,bk,_⟩:=aW O.own;have bp:=mW bt _ _ _ bn _ (pG.rd O.own bk.out);have bj:=af ((a6.out.trans a.out.fr).trans O.aq);clear O aa;go_wp2;go_ret2;exact⟨rfl,bj.out⟩
theorem wY(n:aI)(w:World)(h:eG w)(b:n.owner.size≤16777216)(c:n.text.size≤16777216)(a:dD n=true):
  Calls Tryz.prog 64 #[.agg n.cells.toArray] w (aK w (.tuple #[.string ⟨(cI n).toArray⟩, .int .i64 0])):=by
 obtain⟨i,u,hu,_⟩:=rm a;rw[rX hu];obtain⟨d,o,m,j,p⟩:=n;obtain⟨wd,f,e,bi,g,l⟩:=u;simp only at b c i hu;obtain⟨k,rfl⟩:∃k:Nat,d=(k:Int):=⟨d.toNat,by omega⟩;rw[Int.toNat_natCast]at hu;exact ET k o m j p wd f e bi g l w h (by omega) hu b c a
end Go.Proofs.YtphjagkehiklkaaGreatDoor
namespace Go.Proofs.YtphjagkehiklkaaGreatDoor
open Go.RowKit Go.Shelf
attribute[local go_sem]Oper.semAt_some
abbrev kK(w:World)(P:Nd→Prop):={x:Nd//nZ w x∧P x}
def yE{w:World}{P:Nd→Prop}(x:kK w P):Array Value:=#[.pointer (some ⟨x.1.g,0,none⟩)]
def xw{w:World}{P:Nd→Prop}(x:kK w P):aI×ByteArray:=(x.1.nm,x.1.v)
def Hj(w:World)(P:Nd→Prop)(b a:List (kK w P)→World→Prop)(pre xs:List (kK w P))(e:Ending)(W':World):Prop:=
 (e= .returned (.bool true)∧b (pre++xs) W'∧KN w W')∨(e= .returned (.bool false)∧∃q,q<+:xs∧a (pre++q) W')
inductive mM(w:World)(P:Nd→Prop):Option Addr→Tr→List (kK w P)→Prop where
 |leaf:mM w P none .leaf []
 |node{l r:Tr}{nm:aI}{v:ByteArray}{g:Nat}{a b:Option Addr}{L h:List (kK w P)}(d:mM w P a l L)(e:mM w P b r h)
   (c:ao w g 177 (rZ a b (.node l nm v r)).toArray)(x:kK w P)(f:x.1=⟨g,nm,v⟩):mM w P (some ⟨g,0,none⟩) (.node l nm v r) (L++x::h)
theorem mM.of{w:World}{P:Nd→Prop}:∀{a:Option Addr}{t:Tr},cq w a t→(∀g e,e∈t.bA→P ⟨g,e.1,e.2⟩)→∃L,mM w P a t L
 |_, .leaf,h,_=>by
  obtain rfl:_=none:=h;exact⟨[], .leaf⟩
 |_, .node l nm v r,⟨g,k,m,e,d,f,c⟩,b=>by
  subst e;obtain⟨L,i⟩:=mM.of d (fun g e he=>b g e (by rw[Tr.bA];simp[he]));obtain⟨n,j⟩:=mM.of f (fun g e he=>b g e (by rw[Tr.bA];simp[he]));exact⟨_, .node i j c ⟨⟨g,nm,v⟩,⟨_,_,_,_,_,c⟩,b g (nm,v) (by rw[Tr.bA];simp)⟩ rfl⟩
theorem mM.bA{w:World}{P:Nd→Prop}{a:Option Addr}{t:Tr}{L:List (kK w P)}(h:mM w P a t L):L.map xw=t.bA:=by
 induction h with
 |leaf=>rfl
 |node _ _ _ x d b c=>
  rw[List.map_append,List.map_cons,b,c,Tr.bA];simp only[xw,d]
theorem FM(l N:Nat)(w:World)(P:Nd→Prop)(J p:List (kK w P)→World→Prop)
  (S:∀m pre x W,J pre W→KN w W→pre.length<N→YieldAt Fence.wide m Tryz.prog l (yE x) W fun e W'=>(e= .returned (.bool true)∧J (pre++[x]) W'∧KN W W')∨(e= .returned (.bool false)∧p (pre++[x]) W'))
  {a:Option Addr}{t:Tr}{L:List (kK w P)}(h:mM w P a t L):
  ∀(m:Nat)(pre:List (kK w P))(W:World),J pre W→KN w W→pre.length+L.length≤N→
   CallsIn Fence.wide m Tryz.prog 170 #[.pointer a, .func (.yield l) #[] #[]] W (Hj w P J p pre L):=by
 induction h with
 |leaf=>
  intro m pre W r i _;refine callsIn_of_wp Tryz.func170 rfl trivial ?_ rfl;simp only[Tryz.ntmps170,List.size_toArray,List.length_cons,List.length_nil,Nat.reduceAdd,Nat.reduceSub,Array.replicate_succ,Array.replicate_zero,List.push_toArray,List.append_toArray,List.nil_append,List.cons_append];gi_wp2_with(refine kt rfl ?_);go_ret;exact .inl ⟨rfl,by simpa using r,i⟩
 |@node ag ah nm v g aa T L R ac ad I x Z C D=>
  intro m pre W r i Q;have d:∀k:Nat,(Fence.wide.depth.isSome=true→1≤k):=fun k h=>by cases h
  rw[aY,List.length_cons]at Q;have n:yE x=#[Value.pointer (some ⟨g,0,none⟩)]:=by rw[yE,Z]
  have y:∀b,J (pre++L) b→KN w b→YieldAt Fence.wide (m-1) Tryz.prog l #[.pointer (some ⟨g,0,none⟩)] b fun e c=>
    (e= .returned (.bool true)∧J (pre++L++[x]) c∧KN b c)∨(e= .returned (.bool false)∧p (pre++L++[x]) c):=fun b F H=>by
   have:=S (m-1) (pre++L) x b F H (by simp;omega);rw[n]at this;exact this
  have A:=af ((C (m-1) pre W r i (by omega)).mono (R':=fun e b=>
    (e= .returned (.bool true)∧KN w b∧YieldAt Fence.wide (m-1) Tryz.prog l #[.pointer (some ⟨g,0,none⟩)] b fun e c=>
     (e= .returned (.bool true)∧J (pre++L++[x]) c∧KN b c)∨(e= .returned (.bool false)∧p (pre++L++[x]) c))∨
    (e= .returned (.bool false)∧∃q,q<+:L∧p (pre++q) b))
   (fun e b h=>h.elim (fun⟨he,Y,j⟩=> .inl ⟨he,j,y b Y j⟩) .inr));have B:=af (fun W r i=>D (m-1) (pre++L++[x]) W r i (by simp;omega));have V:W.cell? ⟨g,0,none⟩=some (.pointer aa):=(i _ _ I).cell 0;have HB:=af I;clear y C D S Q I n;refine callsIn_of_wp Tryz.func170 rfl trivial ?_ rfl;simp only[Tryz.ntmps170,List.size_toArray,List.length_cons,List.length_nil,Nat.reduceAdd,Nat.reduceSub,Array.replicate_succ,Array.replicate_zero,List.push_toArray,List.append_toArray,List.nil_append,List.cons_append];gi_wp2_with((try refine⟨trivial,d _,?_⟩);gi_at_call 170;refine A.out.mono ?_;clear A;rintro e b(⟨rfl,f,fn,tmps,assign,body,ae,hR⟩|⟨rfl,q,n,K⟩))
  ·have o:=af f;have X:b.cell? ⟨g,1,none⟩=some (.pointer T):=(f _ _ HB.out).cell 1;clear f V;refine⟨d _,?_⟩;refine hR.mono ?_;clear hR;rintro e c(⟨rfl,s,u⟩|⟨rfl,M⟩)
   ·have j:=o.out.trans u;have U:=af j;have E:=af s;have X:c.cell? ⟨g,1,none⟩=some (.pointer T):=(j _ _ HB.out).cell 1;clear j u s o;gi_wp2_with((try refine⟨trivial,d _,?_⟩);gi_at_call 170;refine(B.out _ E.out U.out).mono ?_;clear B;rintro e ab(⟨rfl,G,hk3⟩|⟨rfl,q,n,O⟩));·go_ret;exact .inl ⟨rfl,by simpa[List.append_assoc]using G,hk3⟩
    ·go_ret;exact .inr ⟨rfl,L++x::q,by
      obtain⟨z,rfl⟩:=n;exact⟨z,by simp⟩,by simpa[List.append_assoc]using O⟩
   ·gi_wp2_with(refine kt rfl ?_);go_ret;exact .inr ⟨rfl,L++[x],by exact⟨R,by simp⟩,by simpa[List.append_assoc]using M⟩
  ·refine⟨fun _ h=>(by cases h),?_⟩;gi_wp2_with(refine kt rfl ?_);go_ret;exact .inr ⟨rfl,q,n.trans (List.prefix_append _ _),K⟩
theorem wF(m B s:Nat)(a:Option Addr)(t:Tr)(w:World)(P:Nd→Prop)(L:List (kK w P))(r:mM w P a t L)(f:ao w B 25 #[.pointer (some ⟨s,0,none⟩)])(i:ao w s 174 #[.pointer a]):
  SeqStopsK Fence.wide m Tryz.prog 169 #[.pointer (some ⟨B,0,none⟩)] (fun x:kK w P=>#[Value.pointer (some ⟨x.1.g,0,none⟩)]) KN (fun C=>C=L) (fun pre=>pre<+:L) L.length w:=by
 intro l G n W c _ _ u o;have d:∀k:Nat,(Fence.wide.depth.isSome=true→1≤k):=fun k h=>by cases h
 have j:=FM l L.length w P G n (fun m pre x W v _ y=>YieldAt.jM rfl m (u pre x W v y)) r (m-1) [] W o (KN.below c) (by simp);have E:W.cell? ⟨B,0,none⟩=some (.pointer (some ⟨s,0,none⟩)):=(c.cell (p:=⟨B,0,none⟩) f.lt).trans (f.cell 0);have F:W.cell? ⟨s,0,none⟩=some (.pointer a):=(c.cell (p:=⟨s,0,none⟩) i.lt).trans (i.cell 0);refine callsIn_of_wp Tryz.func169 rfl trivial ?_ rfl;simp only[Tryz.ntmps169,List.size_toArray,List.length_cons,List.length_nil,Nat.reduceAdd,Nat.reduceSub,Array.replicate_succ,Array.replicate_zero,List.push_toArray,List.append_toArray,List.nil_append,List.cons_append];gi_wp2_with((try refine⟨trivial,d _,?_⟩);gi_at_call 170;refine j.mono ?_;clear j;rintro e D(⟨rfl,b,_⟩|⟨rfl,q,z,A⟩));·go_end0;exact⟨⟨_,rfl⟩, .inl ⟨_,rfl,by simpa using b⟩⟩
 ·go_end0;exact⟨⟨_,rfl⟩, .inr ⟨q,z,by simpa using A⟩⟩
end Go.Proofs.YtphjagkehiklkaaGreatDoor
namespace Go.Proofs.YtphjagkehiklkaaGreatDoor
open Go.RowKit Go.Shelf
attribute[local go_sem]Oper.semAt_some
theorem JU:(Tryz.prog.info? 113).map (·.size)=some 1:=by kernel_rfl
theorem Ls(w:World):(zeroValue 113).run Tryz.prog w= .ok (.pointer none) w:=by kernel_rfl
structure zi{α:Type}(b c:World)(g2 a:Nat)(lw:List α→List UInt8)(pre:List α)(W:World):Prop where
 fr:Fr ag b W
 kn:KN c W
 box:ao W g2 113 #[.pointer (some ⟨a,0,none⟩)]
 wr:∃v,Wr W a v (lw pre) 0∧∀k,v.ownBlock=some k→b.heap.size≤k
theorem ph{X:World}{g k:Nat}{t:TypeId}{cs:Array Value}{d:Obj}(a:ao X g t cs)(b:X.heap[k]? =some d)(c:d.isCells=false):g≠k:=by
 rintro rfl;unfold ao at a;rw[a]at b;cases b;simp[Obj.isCells]at c
theorem mG{X:World}{e:TypeId}{sz n k:Nat}{v:Value}{xs:List Value}{i:Obj}(h:X.ownsRow 0 e sz v n xs)(b:X.heap[k]? =some i)(d:i.isCells=false):v.ownBlock≠some k:=by
 intro g;obtain⟨c,f,a⟩:=cM h g;rw[a]at b;cases b;simp[Obj.isCells]at d
theorem zi.iX{α:Type}{j p:World}{g2 l B:Nat}{lw:List α→List UInt8}(q:j.heap.size≤B):OwnFrom B (zi j p g2 l lw):=by
 intro pre X Y row h n f;have d:Fr (fun k=>some k=row) X Y:=Fr.grown n;obtain⟨v,hw,o⟩:=h.wr;refine⟨h.fr.aw d (fun i r e=>(by have:=(f i e.symm).1;omega)),h.kn.trans (KN.fr d (fun g cs m e=>?_)),h.box.fr d (fun e=>?_),⟨v,hw.cC d (fun k c e=>?_),o⟩⟩;·obtain⟨_,s,b,a⟩:=f g e.symm;exact ph m b a rfl
 ·obtain⟨_,s,b,a⟩:=f g2 e.symm;exact ph h.box b a rfl
 ·obtain⟨_,s,b,a⟩:=f k e.symm;rcases c with c|c;·exact ph hw.aF b a c.symm
  ·exact mG hw.own b a c
theorem zi.step{α:Type}{e o W j X:World}{g2 b B:Nat}{lw:List α→List UInt8}{pre a:List α}{v v3:Value}(c:zi e o g2 b lw pre W)(p:e.heap.size≤b)
  (hw:Wr W b v (lw pre) 0)(n:∀k,v.ownBlock=some k→e.heap.size≤k)(f:Fr ag W j)(st:dk j b v X v3 (lw a,0)):KeepsFrom B W X∧KN W X∧zi e o g2 b lw a X:=by
 have F:Fr (Jw b v) W X:=f.bI.trans st.fr;have K:KN W X:=KN.fr F (fun g cs l h=>by
  rcases h with h|h;·exact ev l hw.aF (by decide) h
  ·exact bE hw.own l (by decide) h);refine⟨⟨F.size,fun k s _ d m=>?_⟩,K,?_,c.kn.trans K,c.box.fr F (fun h=>?_),⟨v3,st.wr,fun k q=>?_⟩⟩
 ·refine(F.block k (Array.getElem?_eq_some_iff.1 d).1 ?_).trans d;rintro(h|h);·exact ph hw.aF d m h.symm
  ·exact mG hw.own d m h
 ·refine c.fr.aw F (fun i r h=>?_);rcases h with h|h;·omega
  ·have:=n i h;omega
 ·rcases h with h|h;·exact ev c.box hw.aF (by decide) h
  ·exact bE hw.own c.box (by decide) h
 ·rcases st.ez k q with h|h;·exact n k h
  ·have:=c.fr.size;have:=f.size;omega
def Bm(LE:List Ent)(x:Nd):Prop:=(x.nm,x.v)∈LE
def lB{w:World}{P:Nd→Prop}(n:Nat)(a:List (kK w P)):List UInt8:=enc n++(a.map xw).flatMap oF
theorem uH{w:World}{P:Nd→Prop}(n:Nat)(a:List (kK w P))(y:kK w P):lB n (a++[y])=lB n a++bF (cI y.1.nm)++bF (aJ y.1.v):=by
 simp[lB,oF,xw,List.flatMap_append,List.append_assoc]
theorem vN(s:ByteArray):enc s.size++aJ s=bF (aJ s):=by rw[bF,aL]
theorem GU(l:List UInt8):enc (⟨l.toArray⟩:ByteArray).size++aJ ⟨l.toArray⟩=bF l:=by
 rw[←aL];rfl
structure xX(L:List Ent):Prop where
 ok:∀x∈L,dD x.1=true
 owner:∀x∈L,x.1.owner.size≤1048576
 text:∀x∈L,x.1.text.size≤1048576
 value:∀x∈L,x.2.size≤1048576
 len:L.length≤60000
theorem nA:∀(L:List Ent),(∀x∈L,x.1.owner.size≤1048576)→(∀x∈L,x.1.text.size≤1048576)→(∀x∈L,x.2.size≤1048576)→(L.flatMap oF).length≤L.length*4000000
 |[],_,_,_=>by simp
 |x::L,b,c,d=>by
  have e:=nA L (fun y a=>b y (by simp[a])) (fun y a=>c y (by simp[a])) (fun y a=>d y (by simp[a]));have f:=b x (by simp);have a2:=c x (by simp);have a3:=d x (by simp);have b1:=fo x.1;have b2:=aV (cI x.1).length;have b3:=aV (aJ x.2).length;have b4:=aL x.2;simp only[List.flatMap_cons,oF,bF,aY,List.length_cons]at e⊢;omega
theorem Io{w:World}{P:Nd→Prop}(n:Nat)(b:List (kK w P))(c:∀y:kK w P,y.1.nm.owner.size≤1048576)(d:∀y:kK w P,y.1.nm.text.size≤1048576)(e:∀y:kK w P,y.1.v.size≤1048576):(lB n b).length≤10+b.length*4000000:=by
 have h:=nA (b.map xw) (fun x a=>by obtain⟨y,_,rfl⟩:=List.mem_map.1 a;exact c y) (fun x a=>by obtain⟨y,_,rfl⟩:=List.mem_map.1 a;exact d y) (fun x a=>by obtain⟨y,_,rfl⟩:=List.mem_map.1 a;exact e y);have f:=aV n;rw[List.length_map]at h;simp only[lB,aY];omega
def qz(w:World)(l:List UInt8)(e:Ending)(w':World):Prop:=∃v,e= .returned v∧gW w (.slice none 0 0) w' v l
theorem EV(LE:List Ent)(s:Nat)(w:World)(bm:fD w s LE)(bW:eG w)(aa:xX LE):Calls Tryz.prog 102 #[.pointer (some ⟨s,0,none⟩)] w (qz w (fE LE)):=by
  obtain⟨t,aD,het⟩:=bm;have aR:t.size=LE.length:=by rw[←t.cJ,het]
  have b6:=af (fun w=>lJ (some ⟨s,0,none⟩) w);have z:=af aa;have am:=af het;have cd:=af aR;have cc:=af bW;have bv:=af aD;have ar:Hid ((fE LE).length≤250000000000):=by
    have a2:=nA LE aa.owner aa.text aa.value;have a4:=aV LE.length;have bU:=aa.len;simp only[Hid,fE,aY];omega
  clear aD het aR aa bW;refine(callsIn_wide (n:=6)).1 (callsIn_of_wp_marks Tryz.func102 rfl trivial (wpIn_wide.2 ?_) rfl);simp only[Tryz.ntmps102,List.size_toArray,List.length_cons,List.length_nil,Nat.reduceAdd,Nat.reduceSub,Array.replicate_succ,Array.replicate_zero,List.push_toArray,List.append_toArray,List.nil_append,List.cons_append];go_wp2_with fail;refine(ld _).mono ?_;rintro r w1⟨rfl,aO,f1⟩;have ap:Sz w w.heap.size:=Nat.le_refl _;generalize w.heap.size=a at*;have bH:=af aO;have a8:=af f1;clear aO f1;go_wp2_with(refine ak rfl 113 rfl (.pointer none) Ls #[.pointer none] rfl ?_);intro w2 b4;have bg:=af b4;clear b4;have b9:Sz w w1.heap.size:=a8.out.size;generalize aG:w1.heap.size=g2 at*;have an:=af aG;clear aG;have bq:Hid (ao w2 g2 113 #[.pointer none]):=by have h:=bg.out.aF;rw[an.out]at h;exact h
  go_wp2_with(refine bV rfl 113 (.tmp 3) _ rfl g2 (.pointer (some ⟨a,0,none⟩)) rfl rfl rfl _ _ bq.out JU ?_);intro bo b3 f3;have S:Hid (Fr ag w1 bo):=bg.out.fr.aw f3 (fun i bY e=>by have a1:i=g2:=e;have:=an.out;omega);have a9:=af (a8.out.trans S.out);have a6:=af b3;have bQ:Hid (Wr bo a (.slice none 0 0) [] 0):=bH.out.cC S.out (fun _ _ x=>x);clear b3 f3 bg bq bH a8 S;have CL:Hid (∀w',Fr ag bo w'→Calls Tryz.prog 94 #[.pointer (some ⟨s,0,none⟩)] w' (bG w' (.int .i64 (LE.length:Int)))):=fun w' f=>by
    rw[←cd.out];exact zf w' s t (bv.out.aq (a9.out.trans f))
  go_upto_region 4 with fail;refine aE 3 ag [Is (.pointer (some ⟨a,0,none⟩)),Is (.pointer (some ⟨s,0,none⟩)),Is (.int .i64 (LE.length:Int))] [] (fun _=>True) (fun _ _=>false) (by kernel_rfl) (by kernel_rfl) (by kernel_rfl) (by kernel_rfl) ⟨Is.ah _,Is.ah _,Is.ah _,trivial⟩ trivial (fun _ _ _ _ h=>h) trivial ?_ ?_
  · refine⟨?zA,?zG,?zB,trivial⟩;all_goals intro u w' d hf b X B G
    all_goals simp only[bJ,bK,bL,bM,au,Act.put,bN,bO,bP,Nat.reduceAdd,Nat.zero_add]
    case zA=>
      clear b X B G;refine aj ?_;have q:_=some (Value.pointer (some ⟨a,0,none⟩)):=(a6.out.fr hf (fun x=>x)).cell 0;go_simp;exact⟨_,rfl,al⟩
    case zB=>
      simp only[show u 1=_ from b 1];clear b X B G;refine aj ?_;go_simp;refine(CL.out _ hf).mono ?_;rintro e cu⟨rfl,rfl⟩;exact⟨_,rfl,al⟩
    all_goals
      clear b X B G;refine aj ?_;go_simp;exact⟨_,rfl,al⟩
  · intro u w' hf b G;have B:u 0=_:=b 0 (by omega);have b0:u 2=_:=b 2 (by omega);clear b G;simp only[bJ,bK,bL,bM,au,Act.put,bN,bO,bP,dL,dM,Nat.reduceAdd,Nat.zero_add,B,b0];have bj:Hid (Wr w' a (.slice none 0 0) [] 0):=bQ.out.cC hf (fun _ _ x=>x);have a7:=af (a6.out.fr hf (fun x=>x));have ba:=af (a9.out.trans hf);have av:Hid (LE.length≤60000):=z.out.len;clear hf B b0 CL bQ a6 a9;generalize w'=cu at*;go_wp2_with fail;refine(jD a _ _ 0 (LE.length:Int) _ bj.out (by simp) (by have:=av.out;omega)).mono ?_;rintro e bp⟨rfl,v5,C⟩;rw[iK,List.nil_append]at C;have ad:Hid (Fr ag w bp):=ba.out.aw C.fr (fun i bY e=>by have a1:=rE e;have:=ap;unfold Sz at this;omega);have br:Hid (ao bp g2 113 #[.pointer (some ⟨a,0,none⟩)]):=a7.out.fr C.fr (fun e=>ev a7.out bj.out.aF (by decide) (rE e));have bR:=af C.wr;have bw:Hid (∀k,v5.ownBlock=some k→w.heap.size≤k):=fun k aH=>by
      rcases C.ez k aH with h|h;· simp[Value.ownBlock]at h
      · have:=ba.out.size;omega
    clear C ba a7 bj;go_wp2_with fail;refine(b6.out _).mono ?_;rintro r Z⟨rfl,f6,bT⟩;have aT:=af (ad.out.trans f6);have b5:=af (br.out.fr f6 (fun x=>x));have cj:Hid (Wr Z a v5 (enc LE.length) 0):=bR.out.cC f6 (fun _ _ x=>x);have b7:=af bT;have ch:Hid (∀k,v5.ownBlock=some k→w.heap.size≤k):=bw.out;clear f6 bT ad br bR bw;generalize bp.heap.size=gs at*;obtain⟨a3,aN,aM⟩:=bv.out.aq aT.out;obtain⟨L,bl⟩:=mM.of (P:=Bm LE) aM (fun g e he=>by unfold Bm;rw[←am.out];exact he);have bx:Hid (L.map xw=LE):=bl.bA.trans am.out;have ci:Hid (L.length=LE.length):=by simp only[Hid];have h:=congrArg List.length bx.out;simpa using h
    have cb:=af bl;have bd:=af aN;clear aN aM bl;go_wp2_with fail;refine(wpIn_wide (n:=6)).1 ?_;refine wpIn_rangeFunc_ownG rfl (by omega) (gf:=169) (lb:=#[.pointer (some ⟨gs,0,none⟩)]) rfl trivial (enters_of Tryz.func169 (by kernel_rfl) rfl)
      (wF 5 gs s a3 t Z (Bm LE) L cb.out b7.out bd.out) (fun h k=>h.trans k) (fun W l o ct _ cq co _=>KN.put W l o ct cq co) (Below.refl _ _) (fun _=>rfl)
      (zi w Z g2 a (fun cv:List (kK Z (Bm LE))=>lB LE.length cv)) (fun _ _ _=>False) (zi.iX aT.out.size) (fun _ _ _ _ _ h _ _=>h.elim)
      ⟨aT.out,KN.refl _,b5.out,v5,by simpa[lB]using cj.out,ch.out⟩ ?zJ ?assign ?body ?done ?stop;case assign=>
      intro l x W K aC;gi_wp2;exact aC
    case body=>
      rintro b2 pre x W a5 aI;have bu:=af a5;have ca:=af aI;obtain⟨V,R,m,⟨v,F,c⟩⟩:=a5;have b8:=af V;have ax:=af F;have bc:=af c;have bb:=af m;have aX:=af (x.2.1.kn R).lI;have H:Hid ((x.1.nm,x.1.v)∈LE):=x.2.2;have A:=af (uH LE.length pre x);have J:Hid ((lB LE.length (pre++[x])).length≤250000000000+3000000):=by
        have a2:=z.out.owner _ H.out;have a4:=z.out.text _ H.out;have bU:=z.out.value _ H.out;have cn:=fo x.1.nm;have cz:=aV (cI x.1.nm).length;have cA:=aV (aJ x.1.v).length;have cB:=aL x.1.v;have cD:=Io LE.length pre (fun y=>z.out.owner _ y.2.2) (fun y=>z.out.text _ y.2.2) (fun y=>z.out.value _ y.2.2);have cE:=ca.out;have cl:=ci.out;have cm:=av.out;simp only at a2 a4 bU;simp only[Hid];rw[uH];simp only[bF,aY];omega
      have bz:Hid (eG W):=cc.out.aq V;obtain⟨y,bn⟩:∃y:kK Z (Bm LE),y=x:=⟨x,rfl⟩;have be:=af bn;rw[←bn]at A J;obtain⟨⟨U,p,ab⟩,aP,bZ⟩:=x;rw[be.out]at A J;simp only at aX H A⊢;have bs:Hid (Calls Tryz.prog 64 #[.agg p.cells.toArray] W (aK W (.tuple #[.string ⟨(cI p).toArray⟩, .int .i64 0]))):=wY p W bz.out (by have:=z.out.owner _ H.out;simp only at this;omega) (by have:=z.out.text _ H.out;simp only at this;omega) (z.out.ok _ H.out);have bC:Hid (ab.size≤1048576):=z.out.value _ H.out;have az:Hid ((cI p).length≤3000000):=by
        have a2:=z.out.owner _ H.out;have a4:=z.out.text _ H.out;have cn:=fo p;simp only at a2 a4;simp only[Hid];omega
      clear V R m F c bn bz aI;gi_wp2_with(refine cp (lL 106) rfl (by kernel_rfl) ?_);refine aB rfl 106 (.tmp 22) rfl ⟨U,2,none⟩ rfl p.cells _ ?zI Tryz.underlying106 rfl bB (bh.go ?hold);case zI=>exact fun j v cr=>by rw[Addr.add_mid];exact aX.out.name j v cr
      unfold bh;go_wp2_with fail;refine bs.out.mono ?_;rintro e a0⟨rfl,f1⟩;have E:Hid (Wr a0 a v (lB LE.length pre) 0):=ax.out.cC f1 (fun _ _ x=>x);have I:=af (bb.out.fr f1 (fun x=>x));have bf:=af (aX.out.aq f1);have ae:=af f1;clear f1 bs;go_wp2;show Code.wpIn (Fence.wide.inRound b2) (6-1-1) Tryz.prog _ _ _ _;have O:a0.cell? ⟨g2,0,none⟩=some (.pointer (some ⟨a,0,none⟩)):=I.out.cell 0;gi_wp2_with(refine cp (lL 113) rfl (by kernel_rfl) ?_);have M:Hid ((lB LE.length pre).length≤260000000000):=by
        have h:=J.out;rw[A.out]at h;simp only[aY]at h;simp only[Hid];omega
      go_wp2_with fail;refine(lT a v _ 0 ⟨(cI p).toArray⟩ _ E.out (by have:=M.out;omega) (by have:=az.out;rw[←aL];exact Nat.le_trans this (by decide))).mono ?_;rintro e bS⟨rfl,v2,st2⟩
      rw[iL _ _ (by have h:=az.out;have e:(⟨(cI p).toArray⟩:ByteArray).size=(cI p).length:=by rw[←aL];rfl
                    omega),GU]at st2;have N:=af st2;have ac:Hid (ao bS g2 113 #[.pointer (some ⟨a,0,none⟩)]):=I.out.fr st2.fr (fun h=>by
        rcases h with h|h;· exact ev I.out E.out.aF (by decide) h
        · exact bE E.out.own I.out (by decide) h);have ay:Hid (Mid bS U p ab):=((⟨⟨U,p,ab⟩,aP,bZ⟩:kK Z (Bm LE)).2.1.kn ((bu.out.kn.trans (KN.fr ae.out (fun _ _ _ x=>x))).trans (KN.fr st2.fr (fun g cs bX h=>by
        rcases h with h|h;· exact ev bX E.out.aF (by decide) h
        · exact bE E.out.own bX (by decide) h)))).lI;clear st2 O aX bf M;go_wp2;show Code.wpIn (Fence.wide.inRound b2) (6-1-1) Tryz.prog _ _ _ _;gi_wp2;refine oZ 5 ag [Is (.pointer (some ⟨a,0,none⟩)),Is (.pointer (some ⟨U,0,none⟩)),Is (.pointer (some ⟨U,0,none⟩)),Is (.pointer (some ⟨U,7,none⟩)),Is (.string ab)] [] (fun _=>True) (fun _ _=>false) (by kernel_rfl) (by kernel_rfl) (by kernel_rfl) (by kernel_rfl) (by kernel_rfl) ⟨Is.ah _,Is.ah _,Is.ah _,Is.ah _,Is.ah _,trivial⟩ trivial (fun _ _ _ _ h=>h) trivial ?_ ?_
      · refine⟨?zC,?zH,?zD,?zE,?zF,trivial⟩;all_goals intro u w' d hf b X B G
        all_goals simp only[bJ,bK,bL,bM,au,Act.put,bN,bO,bP,Nat.reduceAdd,Nat.zero_add]
        case zC=>
          clear b X B G;refine aj ?_;have q:_=some (Value.pointer (some ⟨a,0,none⟩)):=(ac.out.fr hf (fun x=>x)).cell 0;go_simp;exact⟨_,rfl,al⟩
        case' zD=>simp only[show u 1=_ from b 1]
        case' zE=>simp only[show u 2=_ from b 2]
        case zF=>
          simp only[show u 3=_ from b 3];clear b X B G;refine aj ?_;have q:=(ay.out.aq hf).val;go_simp;exact⟨_,rfl,al⟩
        all_goals
          clear b X B G;refine aj ?_;go_simp;exact⟨_,rfl,al⟩
      · intro u w' hf b G;have B:u 0=_:=b 0 (by omega);have b1:u 4=_:=b 4 (by omega);clear b G;simp only[bJ,bK,bL,bM,au,Act.put,bN,bO,bP,dL,dM,Nat.reduceAdd,Nat.zero_add,B,b1];have aA:Hid (dk a0 a v w' v2 (lB LE.length pre++bF (cI p),0)):=⟨N.out.wr.cC hf (fun _ _ x=>x),N.out.fr.trans hf.bI,N.out.ez⟩;have M:Hid ((lB LE.length pre++bF (cI p)).length≤260000000000):=by
          have h:=J.out;rw[A.out]at h;simp only[aY]at h⊢;simp only[Hid];omega
        clear hf B b1 N ac ay;go_wp2_with fail;refine(lT a v2 _ 0 ab _ aA.out.wr (by have:=M.out;simp only;omega) (by have:=bC.out;omega)).mono ?_;rintro e ck⟨rfl,v3,Y⟩;rw[iL _ _ (by have:=bC.out;omega),vN]at Y;have ST:=af (aA.out.trans Y);clear Y;go_wp2;have bi:dk a0 a v ck v3 (lB LE.length (pre++[(⟨⟨U,p,ab⟩,aP,bZ⟩:kK Z (Bm LE))]),0):=by
          rw[A.out];exact ST.out
        exact zi.step bu.out ap ax.out bc.out ae.out bi
    case done=>
      rintro D xs W bk rfl a5 aC;obtain⟨hf,R,m,⟨v,F,c⟩⟩:=a5;have aZ:Fr (fun k=>some k=some D) W (W.putObj D (.deferred none)):=Fr.grown (grownBy_putObj' W D _);have cg:=af aC;have bt:=af hf;have cf:Hid (Wr W a v (fE LE) 0):=by
        have h:lB LE.length xs=fE LE:=by rw[lB,bx.out];rfl
        rw[←h];exact F
      have ai:Hid (w.heap.size≤D∧D<W.heap.size):=⟨by have:=aT.out.size;have:=bk;omega,(Array.getElem?_eq_some_iff.1 aC).1⟩;have O:=m.cell 0;simp only[bD,List.getElem?_cons_zero]at O;clear aZ hf m F c bk aC R;go_wp2_with fail;refine(oX a _ _ _ _ cf.out (by have:=ar.out;omega)).mono ?_;rintro e aS⟨_,aP⟩;obtain⟨cG,rfl,Q⟩:=aP rfl;have T:Hid (aS.heap[D]? =W.heap[D]?):=Q.aq.block D ai.out.2 (fun x=>x);have aU:=af Q;obtain⟨cw,cF,cx,rfl,_,_⟩:=aW Q.own;clear Q aP O;go_wp2;rw[cg.out]at T;refine⟨by simp, .inl ⟨_,_,rfl,run_takeDeferred T.out,?_⟩⟩;refine⟨_,results_tmp Tryz.results102 _ _ _,?_⟩;have aZ:Fr (fun k=>some k=some D) aS (aS.putObj D (.deferred none)):=Fr.grown (grownBy_putObj' aS D _);have ce:Fr ag w (aS.putObj D (.deferred none)):=(bt.out.trans aU.out.aq).aw aZ (fun i bY e=>by have a1:i=D:=(by simpa using e);have:=ai.out.1;omega);refine⟨_,rfl,⟨aQ aU.out.own aZ (fun k aH e=>?_),ce.bI,fun k aH=> .inr ?_⟩⟩
      · have a1:k=D:=by simpa using e
        exact mG aU.out.own T.out rfl (by rw[←a1];exact aH)
      · have:=aU.out.new k aH;have:=bt.out.size;omega
    case stop=>
      rintro D cy pre W bk _ h;exact h.elim
theorem cY.small{k:Nat}{L:List Ent}(h:cY k L)(b:k≤60000):xX L:=⟨h.ok,fun x a=>by have:=h.owner x a;omega,fun x a=>by have:=h.text x a;omega,fun x a=>by have:=h.value x a;omega,by have:=h.len;omega⟩
def tD(l:List UInt8)(v:Value)(w:World):Prop:=∃A n c,v= .slice A n c∧pG w (.slice A n c) l∧n=l.length
theorem tD.aq{l:List UInt8}{v:Value}{w w':World}(h:tD l v w)(a:Fr ag w w'):tD l v w':=by
 obtain⟨A,n,c,e,d,b⟩:=h;exact⟨A,n,c,e,aQ d a (fun _ _ x=>x),b⟩
theorem qz.bytes{w w':World}{l:List UInt8}{e:Ending}(h:qz w l e w'):∃v,e= .returned v∧tD l v w'∧Fr ag w w':=by
 obtain⟨v,rfl,a⟩:=h;obtain⟨A,n,c,rfl,b,_⟩:=aW a.own;exact⟨_,rfl,⟨A,n,c,rfl,a.own,b.out⟩,a.aq⟩
end Go.Proofs.YtphjagkehiklkaaGreatDoor
namespace Go.Proofs.YtphjagkehiklkaaGreatDoor
open Go.RowKit Go.Shelf
theorem sL(w:World)(s:ByteArray):∃c w1,(convert 9 61 (.string s)).run Tryz.prog w= .ok (.slice (some ⟨w.heap.size,0,none⟩) s.size c) w1∧Fr ag w w1∧Rd w1 (fun k=>k=w.heap.size) 1 (some ⟨w.heap.size,0,none⟩) s.size ((aJ s).map bv):=by
 refine⟨_,_,Lib.run_convert_string_bytes w 9 61 5 s Tryz.underlying9 Tryz.underlying61 Tryz.underlying5,⟨rfl,rfl,rfl,?_,fun k d _=>Lib.bytesWorld_at_old w _ s k d⟩,?_,fun _=>⟨_,rfl,rfl,fun j u hu=>?_⟩⟩;·rw[Lib.bytesWorld_size];omega
 ·rw[List.length_map,aL,Nat.mul_one]
 ·rw[List.getElem?_map]at hu;cases a:(aJ s)[j]? with
  |none=>rw[a]at hu;cases hu
  |some x=>
   rw[a]at hu;simp only[Option.map_some,Option.some.injEq]at hu;have b:j<s.size:=by rw[←aL];exact(List.getElem?_eq_some_iff.1 a).1
   rw[show(⟨w.heap.size,0,none⟩:Addr).add j=⟨w.heap.size,j,none⟩by unfold Addr.add;split<;>simp_all,Lib.bytesWorld_cell w _ s j b];unfold aJ at a;rw[List.getD_eq_getElem?_getD,a,←hu];rfl
theorem aX{P:Program}{fn:Func}{p q:Tmp}{ty:TypeId}(h:fn.results=#[.cell p ty, .tmp q])(tmps:Array Value)(w:World)(g:Nat)(t:TypeId)(cs:Array Value)(fr:Nat×Nat)(d:TypeDesc)
  (i:tmps.getD p undef= .pointer (some ⟨g,0,none⟩))(e:w.heap[g]? =some (.cells cs t fr))
  (hu:P.underlying ty=some d)(c:(match d with| .struct _| .array _ _=>true|_=>false)=true)(f:(P.info? ty).map (·.size)=some cs.size)(v:Value)(j:tmps.getD q undef=v):
  (results fn tmps).run P w= .ok (.tuple #[.agg cs,v]) w:=by
 have a:tmps[p]?.getD undef= .pointer (some ⟨g,0,none⟩):=by simpa using i
 have b:tmps[q]?.getD undef=v:=by simpa using j
 simp[results,h,a,b,asAddr,run_loadVar_row w g t ty cs fr d e hu c f]
def dZ(l:List UInt8):Int×(List UInt8×Nat×Int):=aN 0 (aZ 20) (l,0,0)
def kh(u:gX)(st:List UInt8×Nat×Int):List UInt8×(List UInt8×Nat×Int):=if u.owner then aN [] (cj 16777216) st else([],st)
def mP(u:gX)(st:List UInt8×Nat×Int):Int×(List UInt8×Nat×Int):=if u.number then aN 0 (aZ 1073741824) st else(0,st)
def oC(u:gX)(st:List UInt8×Nat×Int):Int×(List UInt8×Nat×Int):=if u.index then aN 0 (aZ u.aO) st else(0,st)
def pK(u:gX)(st:List UInt8×Nat×Int):List UInt8×(List UInt8×Nat×Int):=if u.text then aN [] (cj 32) st else([],st)
def gh(st:List UInt8×Nat×Int):Int:=if st.2.2=0 then(if 0<st.1.length then 5 else 0)else st.2.2
def fI(u:gX)(l:List UInt8):aI×(List UInt8×Nat×Int):=
 (⟨(dZ l).1,⟨(kh u (dZ l).2).1.toArray⟩,(mP u (kh u (dZ l).2).2).1,(oC u (mP u (kh u (dZ l).2).2).2).1,⟨(pK u (oC u (mP u (kh u (dZ l).2).2).2).2).1.toArray⟩⟩,(pK u (oC u (mP u (kh u (dZ l).2).2).2).2).2)
theorem uF(l:List UInt8):0≤(dZ l).1∧(dZ l).1≤20:=by
 unfold dZ aN;simp only[ne_eq,not_true_eq_false,if_false];split;·omega
 next h=>
  simp only[aZ]at h⊢;split at h;·omega
  next a=>
   have b:(pn l 9).2.2=0:=by omega
   have:¬(20:Int)<((pn l 9).1:Int):=fun e=>a ⟨b,e⟩;omega
def jg(k:Int)(c:ByteArray)(b a:Int)(d:ByteArray):Array Value:=#[.int .i64 k, .string c, .int .i64 b, .int .i64 a, .string d]
theorem Fj(k:Int):Tryz.prog.built 106 [(0, .int .i64 k)]=some (jg k ByteArray.empty 0 0 ByteArray.empty):=by kernel_rfl
theorem Fi:Tryz.prog.built 106 []=some (jg 0 ByteArray.empty 0 0 ByteArray.empty):=by kernel_rfl
theorem lF:(Tryz.prog.info? 106).map (·.size)=some 5:=by kernel_rfl
theorem uS:(Tryz.prog.info? 41).map (·.size)=some 1:=by kernel_rfl
theorem mS:(Tryz.prog.info? 3).map (·.size)=some 1:=by kernel_rfl
theorem Bd(w:World):(zeroValue 106).run Tryz.prog w= .ok rY w:=by kernel_rfl
structure RS(w W:World)(g a c b:Nat)(S:Nat→Prop)(us nm:Array Value)(st:List UInt8×Nat×Int):Prop where
 rr:Rr W g S st.1 st.2.1 st.2.2
 nb:ao W a 106 nm
 ub:ao W c 189 us
 rb:ao W b 106 (jg 0 ByteArray.empty 0 0 ByteArray.empty)
 fr:Fr ag w W
structure Be(w:World)(g a c b:Nat)(S:Nat→Prop):Prop where
 g_:w.heap.size≤g
 n_:w.heap.size≤a
 ne:a≠b
 sn:¬S a
theorem RS.step{w W W':World}{g d j f:Nat}{S:Nat→Prop}{us nm:Array Value}{st b:List UInt8×Nat×Int}(h:RS w W g d j f S us nm st)(a:Be w g d j f S)(k:gd W g S W' b.1 b.2.1 b.2.2):RS w W' g d j f S us nm b:=by
 obtain⟨⟨A,n,c,l,_,_⟩,_,_⟩:=h.rr;have ne:∀{x:Nat}{t:TypeId}{cs:Array Value},ao W x t cs→t≠193→¬eF g x:=fun o m e=>ev o l m e;exact⟨k.rr,h.nb.fr k.fr (ne h.nb (by decide)),h.ub.fr k.fr (ne h.ub (by decide)),h.rb.fr k.fr (ne h.rb (by decide)),h.fr.aw k.fr (fun i q e=>by have p:i=g:=e;have:=a.g_;omega)⟩
theorem RS.put{w W W':World}{g b l j:Nat}{S:Nat→Prop}{us nm d:Array Value}{st:List UInt8×Nat×Int}(h:RS w W g b l j S us nm st)(a:Be w g b l j S)(r:ao W' b 106 d)(f:Fr (fun k=>k=b) W W'):RS w W' g b l j S us d st:=by
 have q:=h.rr;obtain⟨⟨A,n,c,m,_,_⟩,_,_⟩:=h.rr;refine⟨q.kF f (fun e=>ev h.nb m (by decide) e.symm) (fun k p e=>?_),r,h.ub.fr f (fun e=>ev h.nb h.ub (by decide) e.symm),h.rb.fr f (fun e=>a.ne e.symm),h.fr.aw f (fun i s e=>by have o:i=b:=e;have:=a.n_;omega)⟩;have o:k=b:=e;rw[o]at p;exact a.sn p
def ES(w:World)(nm:aI)(st:List UInt8×Nat×Int)(e:Ending)(w':World):Prop:=∃n k,e= .returned (.tuple #[.agg n, .int .i64 k])∧Fr ag w w'∧
 ((gh st=0∧dD nm=true∧n=nm.cells.toArray∧k=0)∨(¬(gh st=0∧dD nm=true)∧n=jg 0 ByteArray.empty 0 0 ByteArray.empty∧k=3))
theorem Bu(s:ByteArray)(u:gX)(w:World)(bZ:eG w)(cf:s.size≤16777216)(hu:ij[(dZ (aJ s)).1.toNat]? =some u):
  Calls Tryz.prog 118 #[.string s] w (ES w (fI u (aJ s)).1 (fI u (aJ s)).2):=by
 have bG:=af (uF (aJ s));obtain⟨l,bf⟩:∃l,aJ s=l:=⟨_,rfl⟩;have bm:Hid (l.length≤16777216):=by rw[←bf];simp only[Hid];rw[aL];exact cf
 rw[bf]at hu bG;rw[bf];obtain⟨k,N⟩:∃k:Nat,(dZ l).1=(k:Int):=⟨(dZ l).1.toNat,by have:=bG.out;omega⟩;rw[N,Int.toNat_natCast]at hu;have cc:Hid (∀j v,u.cells[j]? =some v→w.cell? ⟨0,k*6+j,none⟩=some v):=bZ.row k _ hu;have bl:Hid (dZ l=((k:Int),(dZ l).2)):=by simp only[Hid];rw[←N]
 have K:(k:Int)<21:=by have:=bG.out;rw[N]at this;omega
 have cv:k<21:=by omega
 have cw:(0:Int)≤(k:Int):=by omega
 have aM:Hid (s.size=l.length∧aJ s=l):=⟨by rw[←bf,aL],bf⟩;have b5:Hid (∀n:aI,n.owner.size≤1099511627776→n.text.size≤1099511627776→∀w',Fr ag w w'→Calls Tryz.prog 115 #[.agg n.cells.toArray] w' (Checked w' n)):=fun n bc bd w' f=>kY n w' (bZ.aq f) bc bd;have aH:Hid (∀(st:List UInt8×Nat×Int)(aO:Int),(aN [] (cj aO) st).1.length≤16777216):=fun st aO=>by
  unfold aN;split;·simp
  ·split;·simp
   next h=>
    simp only[cj]at h⊢;split;·simp
    ·split;·simp
     ·split;·simp
      next bc bd cl=>
       simp only[List.length_take];omega
 obtain⟨wd,I,H,bi,J,D⟩:=u;obtain⟨G,ab⟩:∃a,kh ⟨wd,I,H,bi,J,D⟩ (dZ l).2=a:=⟨_,rfl⟩;obtain⟨a2,aV⟩:∃a,mP ⟨wd,I,H,bi,J,D⟩ G.2=a:=⟨_,rfl⟩;obtain⟨a3,aW⟩:∃a,oC ⟨wd,I,H,bi,J,D⟩ a2.2=a:=⟨_,rfl⟩;obtain⟨a4,ac⟩:∃a,pK ⟨wd,I,H,bi,J,D⟩ a3.2=a:=⟨_,rfl⟩;have bC:fI ⟨wd,I,H,bi,J,D⟩ l=(⟨(k:Int),⟨G.1.toArray⟩,a2.1,a3.1,⟨a4.1.toArray⟩⟩,a4.2):=by
  rw[fI,ab,aV,aW,ac,N]
 rw[bC];obtain⟨nm,C⟩:∃nm:aI,nm=⟨(k:Int),⟨G.1.toArray⟩,a2.1,a3.1,⟨a4.1.toArray⟩⟩:=⟨_,rfl⟩;rw[←C];have bU:=af C;clear C;have ax:=af ab;have ay:=af aV;have aC:=af aW;have aD:=af ac;have b9:Hid (G.1.length≤16777216):=by
  rw[←ab];unfold kh;split;·exact aH.out _ _
  ·simp[Hid]
 have ca:Hid (a4.1.length≤16777216):=by
  rw[←ac];unfold pK;split;·exact aH.out _ _
  ·simp[Hid]
 clear hu bZ N bG bC ab aV aW ac aH bf cf;go_enter Tryz.func118,Tryz.ntmps118;go_wp2_with(refine ak rfl 106 rfl rY Bd (jg 0 ByteArray.empty 0 0 ByteArray.empty) rfl ?_);intro w1 n1;have b6:=af n1.fr;have br:=af n1.aF;have aE:Sz w w.heap.size:=Nat.le_refl _;clear n1;generalize w.heap.size=B at*;obtain⟨ci,w2,b0,a0,bA⟩:=sL w1 s;have bT:=af (b6.out.trans a0);have bs:=af (br.out.fr a0 (fun x=>x));have cb:=af bA;clear a0 bA br b6;generalize w1.heap.size=gc at*;go_wp2_with fail;refine(oq _ _ ci l _ _ (by have h:=cb.out;rw[aM.out.2]at h;exact h) (by have:=aM.out.1;have:=bm.out;omega)).mono ?_;rintro e bE⟨g,S,rfl,a5,f3,b1,bv⟩;have bW:=af a5;have b7:=af (bT.out.trans f3);have aQ:=af (bs.out.fr f3 (fun x=>x));have Z:Hid (w.heap.size≤g∧g<bE.heap.size):=⟨by have:=bT.out.size;omega,by obtain⟨⟨A,n,c,be,_,_⟩,_,_⟩:=a5;exact be.lt⟩;have aa:Hid (∀k,S k→k<bE.heap.size):=fun k N=>(bv k N).2;clear a5 f3 b1 bv b0 cb bs bT;go_wp2_with fail;refine(j5 g S l 0 0 20 _ bW.out).mono ?_;rintro e X⟨rfl,m⟩;rw[show(aN 0 (aZ 20) (l,0,0)).1=(k:Int)from congrArg Prod.fst bl.out];have bt:Hid (gd bE g S X (dZ l).2.1 (dZ l).2.2.1 (dZ l).2.2.2):=m;have cg:=af (Fj (k:Int));have bF:Hid (Fr ag w X):=b7.out.aw m.fr (fun i bz e=>by have V:i=g:=e;have:=Z.out;omega);have aR:Hid (ao X B 106 (jg 0 ByteArray.empty 0 0 ByteArray.empty)):=by
  obtain⟨⟨A,n,c,be,_,_⟩,_,_⟩:=bW.out;exact aQ.out.fr m.fr (fun e=>ev aQ.out be (by decide) e)
 have T:Hid (bE.heap.size≤X.heap.size):=m.fr.size;clear m aQ b7 bW;go_wp2_with(refine eD rfl 106 _ rfl (jg (k:Int) ByteArray.empty 0 0 ByteArray.empty) _ (by simp only[List.map_toArray,List.map_cons,List.map_nil];rfl) cg.out (bh.go ?yC));unfold bh;go_wp2_with(refine ak rfl 106 rfl rY Bd (jg 0 ByteArray.empty 0 0 ByteArray.empty) rfl ?_);intro co n5;have ba:=af n5;clear n5;generalize bw:X.heap.size=o at*;have M:=af bw;clear bw;have bq:Hid (ao co o 106 (jg 0 ByteArray.empty 0 0 ByteArray.empty)):=by have h:=ba.out.aF;rw[M.out]at h;exact h
 refine ai rfl 106 (.tmp 5) _ rfl o (jg (k:Int) ByteArray.empty 0 0 ByteArray.empty) rfl rfl _ _ bq.out lF rfl (by simp[jg,Value.oneCell']) ?_;intro bg cd f6;have bX:Hid (Rr bg g S (dZ l).2.1 (dZ l).2.2.1 (dZ l).2.2.2):=(bt.out.rr.kq ba.out.fr).kF f6 (fun e=>by have V:g=o:=e;have:=Z.out;have:=T.out;omega) (fun k N e=>by have V:k=o:=e;have:=aa.out k N;have:=T.out;omega);have bj:Hid (Fr ag w bg):=(bF.out.trans ba.out.fr).aw f6 (fun i bz e=>by have V:i=o:=e;have:=M.out;have:=bF.out.size;omega);have NE:Hid (o≠B):=by have:=aR.out.lt;have:=M.out;simp only[Hid];omega
 have aT:Hid (ao bg B 106 (jg 0 ByteArray.empty 0 0 ByteArray.empty)):=(aR.out.fr ba.out.fr (fun x=>x)).fr f6 (fun e=>NE.out (show B=o from e).symm);have Q:=af cd;have bQ:Hid (w.heap.size≤o∧¬S o):=⟨by have:=bF.out.size;have:=M.out;omega,fun N=>by have:=aa.out o N;have:=T.out;omega⟩;have bn:Hid (bE.heap.size≤bg.heap.size):=by have bc:=T.out;have bd:=ba.out.fr.size;have cl:=f6.size;have cu:=M.out;simp only[Hid];omega
 clear cd f6 ba bq aR bF M bt T;have ch:bg.cell? ⟨o,0,none⟩=some (.int .i64 (k:Int)):=Q.out.cell 0;go_wp2_with(refine aB rfl 189 (.tmp 15) rfl ⟨0,k*6,none⟩ rfl (oV wd I H bi J D).toList _ ?zV Tryz.underlying189 rfl jQ (bh.go ?yA));case zV=>exact fun j x a6=>by rw[Addr.add_mid];exact bj.out.an (cc.out j x a6) (fun x=>x)
 unfold bh;go_wp2_with(refine ak rfl 189 rfl EE vS #[.string ByteArray.empty, .bool false, .bool false, .bool false, .bool false, .int .i64 0] rfl ?_);intro cp n7;have bb:=af n7;clear n7;generalize bx:bg.heap.size=z at*;have E:=af bx;clear bx;have bu:Hid (ao cp z 189 #[.string ByteArray.empty, .bool false, .bool false, .bool false, .bool false, .int .i64 0]):=by have h:=bb.out.aF;rw[E.out]at h;exact h
 refine ai rfl 189 (.tmp 6) _ rfl z (oV wd I H bi J D) rfl rfl _ _ bu.out jQ rfl (gX.one ⟨wd,I,H,bi,J,D⟩) ?_;intro L b8 f8;have ae:Hid (Be w g o z B S):=⟨Z.out.1,bQ.out.1,NE.out,bQ.out.2⟩;have ST:Hid (RS w L g o z B S (oV wd I H bi J D) (jg (k:Int) ByteArray.empty 0 0 ByteArray.empty) (dZ l).2):=by
  have cm:=bX.out;obtain⟨⟨A,n,c,be,_,_⟩,_,_⟩:=bX.out;refine⟨(cm.kq bb.out.fr).kF f8 (fun e=>?_) (fun k N e=>?_),(Q.out.fr bb.out.fr (fun x=>x)).fr f8 (fun e=>?_),b8,(aT.out.fr bb.out.fr (fun x=>x)).fr f8 (fun e=>?_),(bj.out.trans bb.out.fr).aw f8 (fun i bz e=>?_)⟩;·have V:g=z:=e;have:=be.lt;have:=E.out;omega
  ·have V:k=z:=e;have:=aa.out k N;have:=Q.out.lt;have:=E.out;have:=be.lt;have:=bj.out.size;have:=bn.out;omega
  ·have V:o=z:=e;have:=Q.out.lt;have:=E.out;omega
  ·have V:B=z:=e;have:=aT.out.lt;have:=E.out;omega
  ·have V:i=z:=e;have:=E.out;have:=bj.out.size;omega
 clear b8 f8 bb bu bX Q aT bj E ch bQ NE Z aa cc;have ub:L.cell? ⟨z,1,none⟩=some (.bool I):=ST.out.ub.cell 1;go_upto_if 18 with fail;clear ub;go_cut[5](fun a7 a9=>a7= .pointer (some ⟨o,0,none⟩)∧RS w a9 g o z B S (oV wd I H bi J D) (jg (k:Int) ⟨G.1.toArray⟩ 0 0 ByteArray.empty) G.2);case first=>
  cases I;·go_wp2;go_meet;refine⟨rfl,?_⟩;rw[←ax.out];exact ST.out
  ·go_wp2_with fail;refine(nO g S _ _ _ 16777216 _ ST.out.rr).mono ?_;rintro e b4⟨rfl,m⟩;have F:=af (ST.out.step ae.out m);clear m;go_wp2_with(refine aS rfl 41 (.tmp 21) (.tmp 20) rfl o 1 (tV (aN [] (cj 16777216) (dZ l).2).1) rfl rfl rfl uS _ _ (jg (k:Int) ⟨(aN [] (cj 16777216) (dZ l).2).1.toArray⟩ 0 0 ByteArray.empty) F.out.nb (by simp[jg]) rfl ?_);intro ad U W;have aU:=af (F.out.put ae.out U W);clear U W F;go_wp2;go_meet;refine⟨rfl,?_⟩;rw[←ax.out];exact aU.out
 case rest=>
  obtain⟨rfl,t⟩:=hcut;clear ST;have ST:=af t;clear t;generalize wc=L at*;have ub:L.cell? ⟨z,2,none⟩=some (.bool H):=ST.out.ub.cell 2;go_upto_if 23 with fail;clear ub;go_cut[5](fun a7 a9=>a7= .pointer (some ⟨o,0,none⟩)∧RS w a9 g o z B S (oV wd I H bi J D) (jg (k:Int) ⟨G.1.toArray⟩ a2.1 0 ByteArray.empty) a2.2);case first=>
   cases H;·go_wp2;go_meet;refine⟨rfl,?_⟩;rw[←ay.out];exact ST.out
   ·go_wp2_with fail;refine(j5 g S _ _ _ 1073741824 _ ST.out.rr).mono ?_;rintro e b4⟨rfl,m⟩;have F:=af (ST.out.step ae.out m);clear m;go_wp2_with(refine aS rfl 3 (.tmp 26) (.tmp 25) rfl o 2 (.int .i64 (aN 0 (aZ 1073741824) G.2).1) rfl rfl rfl mS _ _ (jg (k:Int) ⟨G.1.toArray⟩ (aN 0 (aZ 1073741824) G.2).1 0 ByteArray.empty) F.out.nb (by simp[jg]) rfl ?_);intro ad U W;have aU:=af (F.out.put ae.out U W);clear U W F;go_wp2;go_meet;refine⟨rfl,?_⟩;rw[←ay.out];exact aU.out
  case rest=>
   obtain⟨rfl,t⟩:=hcut;clear ST;have ST:=af t;clear t;generalize wc=L at*;have ub:L.cell? ⟨z,3,none⟩=some (.bool bi):=ST.out.ub.cell 3;go_upto_if 28 with fail;clear ub;go_cut[5](fun a7 a9=>a7= .pointer (some ⟨o,0,none⟩)∧RS w a9 g o z B S (oV wd I H bi J D) (jg (k:Int) ⟨G.1.toArray⟩ a2.1 a3.1 ByteArray.empty) a3.2);case first=>
    cases bi;·go_wp2;go_meet;refine⟨rfl,?_⟩;rw[←aC.out];exact ST.out
    ·have cn:L.cell? ⟨z,5,none⟩=some (.int .i64 D):=ST.out.ub.cell 5;go_wp2_with fail;refine(j5 g S _ _ _ D _ ST.out.rr).mono ?_;rintro e b4⟨rfl,m⟩;have F:=af (ST.out.step ae.out m);clear m cn;go_wp2_with(refine aS rfl 3 (.tmp 33) (.tmp 32) rfl o 3 (.int .i64 (aN 0 (aZ D) a2.2).1) rfl rfl rfl mS _ _ (jg (k:Int) ⟨G.1.toArray⟩ a2.1 (aN 0 (aZ D) a2.2).1 ByteArray.empty) F.out.nb (by simp[jg]) rfl ?_);intro ad U W;have aU:=af (F.out.put ae.out U W);clear U W F;go_wp2;go_meet;refine⟨rfl,?_⟩;rw[←aC.out];exact aU.out
   case rest=>
    obtain⟨rfl,t⟩:=hcut;clear ST;have ST:=af t;clear t;generalize wc=L at*;have ub:L.cell? ⟨z,4,none⟩=some (.bool J):=ST.out.ub.cell 4;go_upto_if 35 with fail;clear ub;go_cut[5](fun a7 a9=>a7= .pointer (some ⟨o,0,none⟩)∧RS w a9 g o z B S (oV wd I H bi J D) (jg (k:Int) ⟨G.1.toArray⟩ a2.1 a3.1 ⟨a4.1.toArray⟩) a4.2);case first=>
     cases J;·go_wp2;go_meet;refine⟨rfl,?_⟩;rw[←aD.out];exact ST.out
     ·go_wp2_with fail;refine(nO g S _ _ _ 32 _ ST.out.rr).mono ?_;rintro e b4⟨rfl,m⟩;have F:=af (ST.out.step ae.out m);clear m;go_wp2_with(refine aS rfl 9 (.tmp 38) (.tmp 37) rfl o 4 (tV (aN [] (cj 32) a3.2).1) rfl rfl rfl oK _ _ (jg (k:Int) ⟨G.1.toArray⟩ a2.1 a3.1 ⟨(aN [] (cj 32) a3.2).1.toArray⟩) F.out.nb (by simp[jg]) rfl ?_);intro ad U W;have aU:=af (F.out.put ae.out U W);clear U W F;go_wp2;go_meet;refine⟨rfl,?_⟩;rw[←aD.out];exact aU.out
    case rest=>
     obtain⟨rfl,t⟩:=hcut;clear ST;have ST:=af t;clear t;generalize wc=L at*;have C:=bU.out;have aP:Hid (ao L o 106 nm.cells.toArray):=by rw[C];exact ST.out.nb
     have bH:Hid (nm.owner.size≤1099511627776∧nm.text.size≤1099511627776):=by
      have cs:nm.owner.size=G.1.length:=by rw[C,←aL];rfl
      have ct:nm.text.size=a4.1.length:=by rw[C,←aL];rfl
      have bc:=b9.out;have bd:=ca.out;simp only[Hid];omega
     have cr:=af Fi;obtain⟨ce,aY⟩:∃ce,gh a4.2=ce:=⟨_,rfl⟩;have bR:Hid (∀ad,Fr ag L ad→Calls Tryz.prog 72 #[.pointer (some ⟨g,0,none⟩)] ad (aK ad (.int .i64 ce))):=fun ad r=>by
      have h:=tf g S a4.2.1 a4.2.2.1 a4.2.2.2 ad (ST.out.rr.kq r);rw[←aY];exact h.mono (fun e w'⟨bc,bd⟩=>⟨bc,by rw[bd];exact aA⟩)
     have bk:=af aY;clear aY C b9 ca bm aM bl ax ay aC aD;by_cases b3:ce=0
     ·subst b3;cases O:dD nm
      ·have aG:=af O;have bS:Hid (∀w',Fr ag L w'→Calls Tryz.prog 115 #[.agg nm.cells.toArray] w' (fun e a8=>∃q:Int,e= .returned (.int .i64 q)∧q≠0∧Fr ag w' a8)):=fun w' f=>(b5.out nm bH.out.1 bH.out.2 w' (ST.out.fr.trans f)).mono (fun e a8⟨q,he,a1,r⟩=>⟨q,he,fun bY=>by rw[bY,O]at a1;exact absurd a1 (by decide),r⟩);clear O;go_upto_region 12 with fail;refine ft 8 ag [Is (.pointer (some ⟨g,0,none⟩)),Is (.int .i64 0),Is (.bool false),Is (.bool false),Is (.agg nm.cells.toArray),(fun cq _=>∃q:Int,cq= .int .i64 q∧q≠0),Is (.bool true),Is (.bool true)] [] (fun _=>True) (fun _ _=>false) (by kernel_rfl) (by kernel_rfl) (by kernel_rfl) ⟨Is.ah _,Is.ah _,Is.ah _,Is.ah _,Is.ah _,fun _ _ _ _ _ h=>h,Is.ah _,Is.ah _,trivial⟩ trivial (fun _ _ _ _ h=>h) trivial ?_ ?_
       ·refine⟨?zY,?zH,?zI,?zJ,?zK,?zL,?zM,?zN,trivial⟩;all_goals intro u w' d r b K P y
        all_goals simp only[bJ,bK,bL,bM,au,Act.put,bN,bO,bP,Nat.reduceAdd,Nat.zero_add]
        case zH=>
         simp only[show u 0=_ from b 0];clear b K P y;refine aj ?_;go_simp;refine(bR.out _ r).mono ?_;rintro e X⟨rfl,f4⟩;exact⟨_,rfl,f4.bI,rfl,trivial⟩
        case' zI=>simp only[show u 1=_ from b 1]
        case' zJ=>simp only[show u 2=_ from b 2]
        case zK=>
         simp only[show u 3=_ from b 3];clear b K P y;refine aj ?_;exact az _ _ rfl ⟨o,0,none⟩ rfl nm.cells _ (fun j x a6=>by rw[Addr.add_mid,Nat.zero_add];exact(aP.out.fr r (fun x=>x)).cell j|>.trans (by rw[bD];exact a6)) Tryz.underlying106 rfl bB ⟨_,rfl,al⟩
        case zL=>
         simp only[show u 4=_ from b 4,show u 3=_ from b 3];clear b K P y;refine aj ?_;go_simp;refine(bS.out _ r).mono ?_;rintro e X⟨q,rfl,a1,f4⟩;exact⟨_,rfl,f4.bI,⟨q,rfl,a1⟩,trivial⟩
        case zM=>
         obtain⟨q,ck,b2⟩:=b 5;simp only[ck,show u 3=_ from b 3];clear b K P y;refine aj ?_;go_simp;have t0:(q !=0)=true:=by rw[bne_iff_ne];exact b2
         simp only[t0];exact⟨_,rfl,al⟩
        case' zN=>simp only[show u 3=_ from b 3,show u 6=_ from b 6]
        all_goals
         clear b K P y;refine aj ?_;go_simp;exact⟨_,rfl,al⟩
       ·intro u w' r b y;have ar:u 7=_:=b 7 (by omega);clear b y;simp only[bJ,bK,bL,bM,au,Act.put,bN,bO,bP,dL,dM,Nat.reduceAdd,Nat.zero_add,ar];have Y:=af r;clear r ar;have R:=af (ST.out.rb.fr Y.out (fun x=>x));go_wp2_with(refine ai rfl 106 (.tmp 2) _ rfl B (jg 0 ByteArray.empty 0 0 ByteArray.empty) rfl rfl _ _ R.out lF rfl (by simp[jg,Value.oneCell']) ?_);intro av am ap;have bp:=af am;have bo:Hid (Fr ag w av):=(ST.out.fr.trans Y.out).aw ap (fun i bz e=>by have V:i=B:=e;have:=aE;unfold Sz at this;omega);clear am ap;go_wp2;exact bodyPost_ret (aX (fn:=Tryz.f118) (p:=2) (q:=3) (ty:=106) Tryz.results118 _ av _ 106 (jg 0 ByteArray.empty 0 0 ByteArray.empty) (0,0) _ rfl bp.out Tryz.underlying106 rfl lF _ rfl) rfl ⟨_,_,rfl,bo.out, .inr ⟨fun h=>Bool.false_ne_true (aG.out.symm.trans h.2),rfl,rfl⟩⟩
      ·have aG:=af O;have bS:Hid (∀w',Fr ag L w'→Calls Tryz.prog 115 #[.agg nm.cells.toArray] w' (aK w' (.int .i64 0))):=fun w' f=>(b5.out nm bH.out.1 bH.out.2 w' (ST.out.fr.trans f)).mono (fun e a8⟨q,he,a1,r⟩=>by
        have bY:q=0:=by rw[O]at a1;exact beq_iff_eq.1 a1
        subst bY;exact⟨he,r⟩);clear O;go_upto_region 12 with fail;refine ft 8 ag [Is (.pointer (some ⟨g,0,none⟩)),Is (.int .i64 0),Is (.bool false),Is (.bool false),Is (.agg nm.cells.toArray),Is (.int .i64 0),Is (.bool false),Is (.bool false)] [] (fun _=>True) (fun _ _=>false) (by kernel_rfl) (by kernel_rfl) (by kernel_rfl) ⟨Is.ah _,Is.ah _,Is.ah _,Is.ah _,Is.ah _,Is.ah _,Is.ah _,Is.ah _,trivial⟩ trivial (fun _ _ _ _ h=>h) trivial ?_ ?_
       ·refine⟨?zZ,?zO,?zP,?zQ,?zR,?zS,?zT,?zU,trivial⟩;all_goals intro u w' d r b K P y
        all_goals simp only[bJ,bK,bL,bM,au,Act.put,bN,bO,bP,Nat.reduceAdd,Nat.zero_add]
        case zO=>
         simp only[show u 0=_ from b 0];clear b K P y;refine aj ?_;go_simp;refine(bR.out _ r).mono ?_;rintro e X⟨rfl,f4⟩;exact⟨_,rfl,f4.bI,rfl,trivial⟩
        case' zP=>simp only[show u 1=_ from b 1]
        case' zQ=>simp only[show u 2=_ from b 2]
        case zR=>
         simp only[show u 3=_ from b 3];clear b K P y;refine aj ?_;exact az _ _ rfl ⟨o,0,none⟩ rfl nm.cells _ (fun j x a6=>by rw[Addr.add_mid,Nat.zero_add];exact(aP.out.fr r (fun x=>x)).cell j|>.trans (by rw[bD];exact a6)) Tryz.underlying106 rfl bB ⟨_,rfl,al⟩
        case zS=>
         simp only[show u 4=_ from b 4,show u 3=_ from b 3];clear b K P y;refine aj ?_;go_simp;refine(bS.out _ r).mono ?_;rintro e X⟨rfl,f4⟩;exact⟨_,rfl,f4.bI,rfl,trivial⟩
        case' zT=>simp only[show u 5=_ from b 5,show u 3=_ from b 3]
        case' zU=>simp only[show u 3=_ from b 3,show u 6=_ from b 6]
        all_goals
         clear b K P y;refine aj ?_;go_simp;exact⟨_,rfl,al⟩
       ·intro u w' r b y;have ar:u 7=_:=b 7 (by omega);clear b y;simp only[bJ,bK,bL,bM,au,Act.put,bN,bO,bP,dL,dM,Nat.reduceAdd,Nat.zero_add,ar];have Y:=af r;clear r ar;have bV:=af (aP.out.fr Y.out (fun x=>x));have R:=af (ST.out.rb.fr Y.out (fun x=>x));go_wp2_with(refine aB rfl 106 (.tmp 5) rfl ⟨o,0,none⟩ rfl nm.cells _ ?zW Tryz.underlying106 rfl bB (bh.go ?yB));case zW=>exact fun j x a6=>by rw[Addr.add_mid,Nat.zero_add];exact bV.out.cell j|>.trans (by rw[bD];exact a6)
        unfold bh;refine ai rfl 106 (.tmp 2) _ rfl B nm.cells.toArray rfl rfl _ _ R.out lF rfl nm.one ?_;intro av am ap;have bp:=af am;have bo:Hid (Fr ag w av):=(ST.out.fr.trans Y.out).aw ap (fun i bz e=>by have V:i=B:=e;have:=aE;unfold Sz at this;omega);clear am ap;go_wp2;exact bodyPost_ret (aX (fn:=Tryz.f118) (p:=2) (q:=3) (ty:=106) Tryz.results118 _ av _ 106 nm.cells.toArray (0,0) _ rfl bp.out Tryz.underlying106 rfl lF _ rfl) rfl ⟨_,_,rfl,bo.out, .inl ⟨bk.out,aG.out,rfl,rfl⟩⟩
     ·have t0:(ce !=0)=true:=by rw[bne_iff_ne];exact b3
      go_upto_region 12 with fail;refine ft 8 ag [Is (.pointer (some ⟨g,0,none⟩)),Is (.int .i64 ce),Is (.bool true),Is (.bool true),Is (undef),Is (undef),Is (undef),Is (.bool true)] [] (fun _=>True) (fun _ _=>false) (by kernel_rfl) (by kernel_rfl) (by kernel_rfl) ⟨Is.ah _,Is.ah _,Is.ah _,Is.ah _,Is.ah _,Is.ah _,Is.ah _,Is.ah _,trivial⟩ trivial (fun _ _ _ _ h=>h) trivial ?_ ?_
      ·refine⟨?zX,?zA,?zB,?zC,?zD,?zE,?zF,?zG,trivial⟩;all_goals intro u w' d r b K P y
       all_goals simp only[bJ,bK,bL,bM,au,Act.put,bN,bO,bP,Nat.reduceAdd,Nat.zero_add]
       case zA=>
        simp only[show u 0=_ from b 0];clear b K P y;refine aj ?_;go_simp;refine(bR.out _ r).mono ?_;rintro e X⟨rfl,f4⟩;exact⟨_,rfl,f4.bI,rfl,trivial⟩
       case' zB=>simp only[show u 1=_ from b 1]
       case' zC=>simp only[show u 2=_ from b 2]
       case zD=>simp only[show u 3=_ from b 3];exact .inr ⟨by kernel_rfl,_,rfl,aA,rfl,trivial⟩
       case zE=>simp only[show u 3=_ from b 3];exact .inr ⟨by kernel_rfl,_,rfl,aA,rfl,trivial⟩
       case zF=>simp only[show u 3=_ from b 3];exact .inr ⟨by kernel_rfl,_,rfl,aA,rfl,trivial⟩
       case' zG=>simp only[show u 3=_ from b 3,show u 6=_ from b 6]
       all_goals
        clear b K P y;refine aj ?_;go_simp;exact⟨_,rfl,al⟩
      ·intro u w' r b y;have ar:u 7=_:=b 7 (by omega);clear b y;simp only[bJ,bK,bL,bM,au,Act.put,bN,bO,bP,dL,dM,Nat.reduceAdd,Nat.zero_add,ar];have Y:=af r;clear r ar;have R:=af (ST.out.rb.fr Y.out (fun x=>x));go_wp2_with(refine ai rfl 106 (.tmp 2) _ rfl B (jg 0 ByteArray.empty 0 0 ByteArray.empty) rfl rfl _ _ R.out lF rfl (by simp[jg,Value.oneCell']) ?_);intro av am ap;have bp:=af am;have bo:Hid (Fr ag w av):=(ST.out.fr.trans Y.out).aw ap (fun i bz e=>by have V:i=B:=e;have:=aE;unfold Sz at this;omega);clear am ap;go_wp2;exact bodyPost_ret (aX (fn:=Tryz.f118) (p:=2) (q:=3) (ty:=106) Tryz.results118 _ av _ 106 (jg 0 ByteArray.empty 0 0 ByteArray.empty) (0,0) _ rfl bp.out Tryz.underlying106 rfl lF _ rfl) rfl ⟨_,_,rfl,bo.out, .inr ⟨fun h=>b3 (bk.out.symm.trans h.1),rfl,rfl⟩⟩
end Go.Proofs.YtphjagkehiklkaaGreatDoor
namespace Go.Proofs.YtphjagkehiklkaaGreatDoor
open Go.ChangeShapes Go.WideShapes Go.ChangeAt Go.RowKit
theorem pf:Tryz.prog.cellsOf 3=1:=by kernel_rfl
theorem pg:Tryz.prog.cellsOf 9=1:=by kernel_rfl
theorem ux:Tryz.prog.cellsOf 4=1:=by kernel_rfl
theorem zB:Tryz.prog.cellsOf 245=5:=by kernel_rfl
theorem Ei:Tryz.prog.cellsOf 247=7:=by kernel_rfl
theorem xh:Tryz.prog.cellsOf 189=6:=by kernel_rfl
theorem BY:Tryz.prog.cellsOf 190=126:=by kernel_rfl
theorem xo:Tryz.prog.globalNamed "replevin/object.usages"=some 0:=by kernel_rfl
theorem DK:(Tryz.prog.globals[0]?).map (·.type)=some 190:=by kernel_rfl
def gX.datum{H:Type}(u:gX):DataW H:= .agg [.lit (.string u.word.data.toList), .lit (.bool u.owner), .lit (.bool u.number), .lit (.bool u.index), .lit (.bool u.text), .lit (.int .i64 u.aO)]
theorem Ha:(Rows.laid_replevin_object_usages:DataW Unit)= .agg (ij.map gX.datum):=by kernel_rfl
theorem Gw{H:Type}{enc:TypeId×Value→H}{w:World}{base:Nat}{sp:Nat→Bool}{held:Bool}{fuel:Nat}{l:List Value}{u:gX}{x:DataW H×List MemPlace}(m:x.1=u.datum)
  (h:DataW.trod enc Tryz.prog w base sp held fuel 189 l=some x):l=u.cells:=by
 obtain⟨s,v,_,rfl,b,c,a⟩:=DataW.trod_struct Tryz.underlying189 h;rw[xh]at b;match l,b with
 |[y,z,A,x3,B,C],_=>
  have g0:=a 0 _ rfl;have g1:=a 1 _ rfl;have g2:=a 2 _ rfl;have g3:=a 3 _ rfl;have g4:=a 4 _ rfl;have g5:=a 5 _ rfl;match s,c with
  |[D,E,F,y3,y4,G],_=>
   simp[pf,pg,ux]at g0 g1 g2 g3 g4 g5;obtain⟨a0,d,rfl,_⟩:=DataW.trod_string Tryz.underlying9 g0;obtain⟨t,e,rfl⟩:=DataW.trod_bool Tryz.underlying4 g1;obtain⟨a2,f,rfl⟩:=DataW.trod_bool Tryz.underlying4 g2;obtain⟨a3,g,rfl⟩:=DataW.trod_bool Tryz.underlying4 g3;obtain⟨a4,i,rfl⟩:=DataW.trod_bool Tryz.underlying4 g4;obtain⟨a5,j,rfl,_⟩:=DataW.trod_int Tryz.underlying3 g5;simp only[List.cons.injEq,and_true]at d e f g i j;subst d e f g i j;simp only[gX.datum,List.map_cons,List.map_nil,DataW.agg.injEq,List.cons.injEq,DataW.lit.injEq,Lit.string.injEq,Lit.bool.injEq,Lit.int.injEq,and_true,true_and]at m;obtain⟨k,n,o,p,q,r⟩:=m;have hw:a0=u.word:=by
    cases a0;cases hu:u.word;rw[hu]at k;simpa[Array.toList_inj]using k
   rw[gX.cells,hw,n,o,p,q,r]
theorem Kf{W:World}{rest:List (String×DataW Unit)}(h:laidMet Tryz.prog (("replevin/object.usages",Rows.laid_replevin_object_usages)::rest) W):eG W:=by
 obtain⟨z,⟨y,A,cs,fuel,p,q,c,e,b,r,_,_⟩,_⟩:=h;obtain rfl:=Option.some.inj (xo.symm.trans c);obtain rfl:=Option.some.inj (DK.symm.trans e);obtain⟨xs,m,_,i,w,x,s⟩:=DataW.trod_array Tryz.underlying190 r;rw[BY]at w;refine⟨fun k u n j v f=>?_⟩;have d:k<21:=by
  have:=(List.getElem?_eq_some_iff.1 n).1;simpa[ij]using this
 have g:=s k d;rw[xh,List.getElem?_eq_getElem (by omega)]at g;have a:(xs[k]).1=u.datum:=by
  rw[Ha]at i;simp only[Prod.mk.injEq,DataW.agg.injEq]at i;have l:=congrArg (·[k]?) i.1;simp only[List.getElem?_map,n,Option.map_some,List.getElem?_eq_getElem (show k<xs.length by omega),Option.some.injEq]at l;exact l.symm
 have o:=Gw a g;have t:j<6:=by
  have:=(List.getElem?_eq_some_iff.1 f).1;simpa[gX.cells]using this
 refine World.var?_cell xo b (k*6+j)|>.trans ?_;rw[←o,List.getElem?_take_of_lt t,List.getElem?_drop]at f;simpa using f
end Go.Proofs.YtphjagkehiklkaaGreatDoor
namespace Go.Proofs.YtphjagkehiklkaaGreatDoor
open Go.RowKit Go.Shelf
theorem FQ(a b:aI)(w:World):(binOp .eql 106 (.agg a.cells.toArray) (.agg b.cells.toArray)).run Tryz.prog w= .ok (.bool (ym a b)) w:=by
 by_cases h:a=b
 ·subst h;have e:ym a a=true:=by unfold ym;exact beq_iff_eq.2 (cm.refl _)
  rw[e];obtain⟨k,q,n,i,t⟩:=a;simp only[aI.cells];go_simp
 ·have e:ym a b=false:=by unfold ym;exact kI (fun e=>h (cm.eq _ _ e))
  rw[e];obtain⟨k,q,n,i,t⟩:=a;obtain⟨l,o,m,i',p⟩:=b;simp only[aI.cells];go_simp;intro c d f g j;exact h (by rw[c,toList_inj d,f,g,toList_inj j])
theorem tU(c:CV):∀u∈c.cells,u.oneCell'=true:=fun u hu=>by
 have h:=c.one;rw[Array.all_eq_true_iff_forall_mem]at h;exact h u (by simpa using hu)
end Go.Proofs.YtphjagkehiklkaaGreatDoor
