/- Texts. -/
import Derived.Test.YtphjagkehiklkaaGreatDoorWK02
import Derived.Test.YtphjagkehiklkaaGreatDoorWK16
set_option linter.unusedVariables false
set_option linter.unusedSimpArgs false
set_option maxRecDepth 100000
set_option maxHeartbeats 4000000
namespace Go.Proofs.YtphjagkehiklkaaGreatDoor
open Go.RowKit Go.Shelf
def bO(l:List UInt8):List UInt8:=enc l.length++l
def nK(u:gT)(n:aK):List UInt8:=enc n.kind.toNat++((if u.owner then bO (aR n.owner)else[])++((if u.number then enc n.number.toNat else[])++((if u.index then enc n.index.toNat else[])++(if u.text then bO (aR n.text)else[]))))
def cL(n:aK):List UInt8:=match ig[n.kind.toNat]? with
 |some u=>nK u n
 |none=>[]
def oF(x:Ent):List UInt8:=bO (cL x.1)++bO (aR x.2)
def fw(L:List Ent):List UInt8:=enc L.length++L.flatMap oF
theorem wI{s:ByteArray}(h:s.toList.isEmpty=true):s=ByteArray.empty:=by
 rw[ByteArray.toList_eq,List.isEmpty_iff]at h;exact ByteArray.ext (Array.toList_inj.1 h)
structure yI(u:gT)(n:aK):Prop where
 o0:u.owner=false→n.owner=ByteArray.empty
 n0:u.number=false→n.number=0
 i0:u.index=false→n.index=0
 t0:u.text=false→n.text=ByteArray.empty
 n1:u.number=true→0≤n.number∧n.number≤1073741824
 i1:u.index=true→0≤n.index∧n.index≤u.aP
theorem sH{u:gT}{n:aK}(h:pN u n=true):yI u n:=by
 simp only[pN,Bool.and_eq_true,Bool.or_eq_true,Bool.not_eq_true',decide_eq_true_eq]at h;obtain⟨⟨⟨⟨⟨⟨⟨a,b⟩,c⟩,d⟩,_⟩,f⟩,g⟩,_⟩:=h;refine⟨fun e=>?_,fun e=>?_,fun e=>?_,fun e=>?_,fun e=>?_,fun e=>?_⟩
 ·rcases a with h|h;·rw[e]at h;cases h
  ·exact wI h
 ·rcases b with h|h;·rw[e]at h;cases h
  ·exact beq_iff_eq.1 h
 ·rcases c with h|h;·rw[e]at h;cases h
  ·exact beq_iff_eq.1 h
 ·rcases d with h|h;·rw[e]at h;cases h
  ·exact wI h
 ·rcases f with h|h;·rw[e]at h;cases h
  ·exact h
 ·rcases g with h|h;·rw[e]at h;cases h
  ·exact h
theorem qZ{n:aK}(h:dA n=true):(1≤n.kind∧n.kind≤20)∧∃u,ig[n.kind.toNat]? =some u∧pN u n=true:=by
 simp only[dA,Bool.and_eq_true,decide_eq_true_eq]at h;obtain⟨⟨b,c⟩,a⟩:=h;refine⟨⟨b,c⟩,?_⟩;cases hu:ig[n.kind.toNat]? with
 |none=>rw[hu]at a;cases a
 |some u=>rw[hu]at a;exact⟨u,rfl,a⟩
theorem zE{k:Nat}{u:gT}(h:ig[k]? =some u):u.aP≤1073741824:=by
 have hm:∀x∈ig,x.aP≤1073741824:=by decide
 exact hm u (List.mem_of_getElem? h)
theorem rM{n:aK}{u:gT}(h:ig[n.kind.toNat]? =some u):cL n=nK u n:=by
 unfold cL;rw[h]
theorem pM(u:gT)(n:aK):(nK u n).length≤50+n.owner.size+n.text.size:=by
 have a:=aW n.kind.toNat;have b:=aW n.number.toNat;have c:=aW n.index.toNat;have d:=aW (aR n.owner).length;have e:=aW (aR n.text).length;have f:=aO n.owner;have g:=aO n.text;simp only[nK,bh,bO];split<;>split<;>split<;>split<;>simp only[bh,List.length_nil]<;>omega
theorem fi(n:aK):(cL n).length≤50+n.owner.size+n.text.size:=by
 unfold cL;split;·exact pM _ n
 ·simp
structure Kj(L:List Ent):Prop where
 ok:∀x∈L,dA x.1=true
 name:∀x∈L,tF x.1
 value:∀x∈L,x.2.size≤1099511627776
end Go.Proofs.YtphjagkehiklkaaGreatDoor
namespace Go.Proofs.YtphjagkehiklkaaGreatDoor
open Go.RowKit Go.Shelf
theorem kL{P:Program}{op:Oper}{a:Act}{w:World}{K:Act→World→Prop}{Q:Exit→Act→World→Prop}(t:TypeId)(c:op.op= .alloc t)(z:Value)(d:∀w,(zeroValue t).run P w= .ok z w)(cells:Array Value)(b:z.cells=cells)
  (h:∀w',dF w w' t cells→K (a.put op.dst (.pointer (some ⟨w.heap.size,0,none⟩))) w'):op.wp P a w K Q:=by
 subst b;unfold Oper.wp execOp;simp only[c,Instr.alloc,Sem.run_bind,d,newVar,newRow,run_newObj_alloc,Sem.run_pure,Result.andThen_ok];exact h _ (dF.alloc w t z.cells)
theorem eo{w:World}{g b:Nat}{t c:TypeId}{cs cs':Array Value}(h:aq w g t cs)(d:aq w b c cs')(a:t≠c):g≠b:=by
 rintro rfl;have e:=h.symm.trans d;simp only[Option.some.injEq,Obj.cells.injEq]at e;exact a e.2.1
theorem rn{a k:Nat}(h:ID a (.slice none 0 0) k):k=a:=by
 rcases h with h|h;·exact h
 ·simp[Value.ownBlock]at h
def zF(k:Nat)(c:ByteArray)(b a:Int)(d:ByteArray):Array Value:=#[.int .i64 (k:Int), .string c, .int .i64 b, .int .i64 a, .string d]
def oY(wd:ByteArray)(b a bi c:Bool)(d:Int):Array Value:=#[.string wd, .bool b, .bool a, .bool bi, .bool c, .int .i64 d]
structure WN(w2 w:World)(a:Nat)(v:Value)(l:List UInt8):Prop where
 step:∃b,dj b a (.slice none 0 0) w v (l,0)∧Fr ag w2 b
 new:w2.heap.size≤a
theorem WN.next{w2 w w':World}{b:Nat}{v:Value}{l c:List UInt8}(h:WN w2 w b v l)(k:∃a,dj w b v w' a (c,0)):∃a,WN w2 w' b a c:=by
 obtain⟨a,f⟩:=k;obtain⟨g,d,e⟩:=h.step;exact⟨a,⟨g,d.trans f,e⟩,h.new⟩
theorem WN.fr{w2 w:World}{a:Nat}{v:Value}{l:List UInt8}(h:WN w2 w a v l):Fr ag w2 w:=by
 obtain⟨f,b,c⟩:=h.step;exact c.aw b.fr (fun i d e=>by have:=rn e;have:=h.new;omega)
theorem WN.ks{w2 w w':World}{b g:Nat}{v m:Value}{l k:List UInt8}{t:TypeId}{cs:Array Value}(h:WN w2 w b v l)(f:dj w b v w' m (k,0))(a:aq w g t cs)(i:t≠185)(j:t≠5):aq w' g t cs:=by
 obtain⟨o,c,n⟩:=h.step;refine a.fr f.fr (fun e=>?_);rcases e with e|e;·exact eo a c.wr.aH i e
 ·exact bG c.wr.own a (fun d=>j d.symm) e
def NS(w2 W:World)(c b a:Nat)(us nm:Array Value)(l:List UInt8):Prop:=∃v,WN w2 W c v l∧aq W b 189 us∧aq W a 106 nm
theorem WN.wr{w2 w:World}{a:Nat}{v:Value}{l:List UInt8}(h:WN w2 w a v l):Wr w a v l 0:=by
 obtain⟨c,b,_⟩:=h.step;exact b.wr
theorem WN.ns{w2 w w':World}{a c b:Nat}{us nm:Array Value}{v e:Value}{l d:List UInt8}(h:WN w2 w a v l)(hu:aq w c 189 us)(g:aq w b 106 nm)(k:dj w a v w' e (d,0)):NS w2 w' a c b us nm d:=by
 obtain⟨v2,f⟩:=h.next ⟨e,k⟩;exact⟨v2,f,h.ks k hu (by decide) (by decide),h.ks k g (by decide) (by decide)⟩
theorem Ef(k:Nat)(n:ByteArray)(m c:Int)(o wd:ByteArray)(s r bi t:Bool)(B:Int)(w:World)(aZ:eE w)(bw:1≤k∧k≤20)(hu:ig[k]? =some ⟨wd,s,r,bi,t,B⟩)(bb:n.size≤16777216)(bc:o.size≤16777216)(Z:dA ⟨(k:Int),n,m,c,o⟩=true):
  Calls Tryz.prog 64 #[.agg #[.int .i64 (k:Int), .string n, .int .i64 m, .int .i64 c, .string o]] w (aJ w (.tuple #[.string ⟨(nK ⟨wd,s,r,bi,t,B⟩ ⟨(k:Int),n,m,c,o⟩).toArray⟩, .int .i64 0])):=by
 have a0:yI ⟨wd,s,r,bi,t,B⟩ ⟨(k:Int),n,m,c,o⟩:=by
  obtain⟨_,u,ae,ba⟩:=qZ Z;simp only[Int.toNat_natCast]at ae;rw[hu]at ae;cases ae;exact sH ba
 have aM:=zE hu;simp only at aM;have aB:Hid (r=true→m=(m.toNat:Int)∧m.toNat≤1073741824):=fun h=>by
  have:=a0.n1 h;simp only at this;omega
 have ao:Hid (bi=true→c=(c.toNat:Int)∧c.toNat≤1073741824):=fun h=>by
  have:=a0.i1 h;simp only at this;omega
 have M:Hid (enc k++(if s then bO (aR n)else[])++(if r then enc m.toNat else[])++(if bi then enc c.toNat else[])++(if t then bO (aR o)else[])=nK ⟨wd,s,r,bi,t,B⟩ ⟨(k:Int),n,m,c,o⟩):=by
  simp[Hid,nK]
 have a4:Hid (∀w',Fr ag w w'→Calls Tryz.prog 115 #[.agg #[.int .i64 (k:Int), .string n, .int .i64 m, .int .i64 c, .string o]] w' (Checked w' ⟨(k:Int),n,m,c,o⟩)):=fun w' f=>kS ⟨(k:Int),n,m,c,o⟩ w' (aZ.ar f) (by simp only;omega) (by simp only;omega);have Q:Hid ((nK ⟨wd,s,r,bi,t,B⟩ ⟨(k:Int),n,m,c,o⟩).length≤50+n.size+o.size):=pM _ _;have aD:=af Z;have G:Hid (n.size≤16777216∧o.size≤16777216):=⟨bb,bc⟩;have bl:Hid (∀j v,(oY wd s r bi t B).toList[j]? =some v→w.cell? ⟨0,k*6+j,none⟩=some v):=aZ.row k _ hu;have ak:(k:Int)<21:=by omega
 have bx:k<21:=by omega
 have bz:(0:Int)≤(k:Int):=by omega
 clear aZ hu Z a0 aM bb bc;obtain⟨aT,X⟩:∃L,enc k++(if s then bO (aR n)else[])=L:=⟨_,rfl⟩;obtain⟨aV,H⟩:∃L,aT++(if r then enc m.toNat else[])=L:=⟨_,rfl⟩;obtain⟨aX,I⟩:∃L,aV++(if bi then enc c.toNat else[])=L:=⟨_,rfl⟩;obtain⟨a7,J⟩:∃L,aX++(if t then bO (aR o)else[])=L:=⟨_,rfl⟩;rw[X,H,I,J]at M;rw[←M.out]at Q;rw[←M.out];have ap:=af X;have au:=af H;have av:=af I;have ax:=af J;have N:Hid (aT.length≤100000000∧aV.length≤100000000∧aX.length≤100000000∧a7.length≤100000000):=by
  have ae:=Q.out;have ba:=G.out;rw[←J,←I,←H]at ae;simp only[bh]at ae;simp only[Hid];rw[←J,←I,←H];simp only[bh];omega
 clear X H I J M Q;go_enter Tryz.func64,Tryz.ntmps64;go_wp2_with(refine aA rfl 106 (.tmp 0) rfl (zF k n m c o) rfl ?_);intro w1 n1;have aS:=af n1.fr;have aL:=af n1.aH;clear n1;generalize w.heap.size=A at*;have U:Hid (aq w1 A 106 (zF k n m c o)):=aL.out;clear aL;go_wp2_with(refine aF rfl 106 (.tmp 1) rfl ⟨A,0,none⟩ rfl (aK.cells ⟨(k:Int),n,m,c,o⟩) _ ?zH Tryz.underlying106 rfl bD (bj.go ?zJ));case zH=>exact fun j x aa=>by rw[Addr.add_mid,Nat.zero_add];exact U.out.cell j|>.trans (by rw[←bR]at aa;exact aa)
 unfold bj;go_wp2_with fail;refine(a4.out _ aS.out).mono ?_;rintro e w2⟨q,rfl,a1,f2⟩;obtain rfl:q=0:=by
  rw[aD.out]at a1;exact beq_iff_eq.1 a1
 have a5:=af (aS.out.trans f2);have V:=af (U.out.fr f2 (fun x=>x));clear a1 f2 a4 aD U aS;go_upto_region 4 with fail;refine aC 6 ag [Is (.pointer (some ⟨A,0,none⟩)),Is (.int .i64 (k:Int)),Is (.pointer (some ⟨0,k*6,none⟩)),Is (.agg (oY wd s r bi t B)),(fun a3 a2=>∃g,a3= .pointer (some ⟨g,0,none⟩)∧w2.heap.size≤g∧Wr a2 g (.slice none 0 0) [] 0),(fun a3 a2=>∃g,a3= .pointer (some ⟨g,0,none⟩)∧w2.heap.size≤g∧aq a2 g 189 #[.string ByteArray.empty, .bool false, .bool false, .bool false, .bool false, .int .i64 0])] [] (fun _=>True) (fun _ _=>false) (by kernel_rfl) (by kernel_rfl) (by kernel_rfl) (by kernel_rfl) ⟨Is.ah _,Is.ah _,Is.ah _,Is.ah _,fun _ _ _ _ f h=>by obtain⟨g,e,l,b⟩:=h;exact⟨g,e,l,b.cN f (fun _ _ x=>x)⟩,fun _ _ _ _ f h=>by obtain⟨g,e,l,b⟩:=h;exact⟨g,e,l,b.fr f (fun x=>x)⟩,trivial⟩ trivial (fun _ _ _ _ h=>h) trivial ?_ ?_
 ·refine⟨?zI,?zA,?zB,?zC,?zD,?zG,trivial⟩;all_goals intro u w' d Y F ak aN ab
  all_goals simp only[bH,bI,bJ,bK,ay,Act.put,bL,bM,bN,Nat.reduceAdd,Nat.zero_add]
  case zA=>
   simp only[show u 0=_ from F 0];clear F ak aN ab;refine aj ?_;have q:_=some (Value.int .i64 (k:Int)):=(V.out.fr Y (fun x=>x)).cell 0;go_simp;exact⟨_,rfl,al⟩
  case' zB=>simp only[show u 1=_ from F 1]
  case zC=>
   simp only[show u 2=_ from F 2];clear F ak aN ab;refine aj ?_;exact az _ _ rfl ⟨0,k*6,none⟩ rfl (oY wd s r bi t B).toList _ (fun br v bq=>by rw[Addr.add_mid];exact(a5.out.trans Y).an (bl.out br v bq) (fun x=>x)) Tryz.underlying189 rfl jJ ⟨_,rfl,al⟩
  case zD=>
   clear F ak aN ab;refine aj ?_;go_simp;refine(kU _).mono ?_;rintro e bs⟨rfl,hw,f4⟩;exact⟨_,rfl,f4.bP,⟨_,rfl,Y.size,hw⟩,trivial⟩
  case zG=>
   clear F ak aN ab;refine aj ?_;refine kL 189 rfl DT vz #[.string ByteArray.empty, .bool false, .bool false, .bool false, .bool false, .int .i64 0] rfl ?_;intro bs n4;exact⟨_,rfl,n4.fr,⟨_,rfl,Y.size,n4.aH⟩,trivial⟩
  all_goals
   clear F ak aN ab;refine aj ?_;go_simp;exact⟨_,rfl,al⟩
 ·intro u w' Y F ab;have aP:u 3=_:=F 3 (by omega);obtain⟨E,bd,lw,aG⟩:=F 4 (by omega);obtain⟨D,be,bf,aE⟩:=F 5 (by omega);clear F ab;simp only[bH,bI,bJ,bK,ay,Act.put,bL,bM,bN,dD,dE,Nat.reduceAdd,Nat.zero_add,aP,bd,be];have T:=af aG;have S:=af aE;have a8:Hid (w2.heap.size≤E∧w2.heap.size≤D):=⟨lw,bf⟩;have a6:=af Y;clear Y aP bd be lw bf aG aE;refine ai rfl 189 (.tmp 5) _ rfl D (oY wd s r bi t B) rfl rfl _ _ S.out jJ rfl (gT.one ⟨wd,s,r,bi,t,B⟩) ?_;intro y a9 aY;have NE:Hid (E≠D):=eo T.out.aH S.out (by decide);have aI:Hid (Wr y E (.slice none 0 0) [] 0):=T.out.cN aY (fun x aa e=>by have bo:x=D:=e;have:=rn aa;have:=NE.out;omega);have P:Hid (Fr ag w2 y):=a6.out.aw aY (fun i bv e=>by have bo:i=D:=e;have:=a8.out;omega);have a:Hid (WN w2 y E (.slice none 0 0) []):=⟨⟨y,dj.start aI.out,P.out⟩,a8.out.1⟩;have K:Hid (aq y D 189 (oY wd s r bi t B)):=a9;have C:Hid (aq y A 106 (zF k n m c o)):=V.out.fr P.out (fun x=>x);clear aY a9 T S a6 V aI NE P;have bm:y.cell? ⟨A,0,none⟩=some (.int .i64 (k:Int)):=C.out.cell 0;go_wp2_with fail;refine(jv E _ _ 0 (k:Int) _ a.out.wr (by simp) (by omega)).mono ?_;rintro e am⟨rfl,aQ,z⟩;rw[iL,List.nil_append]at z;have ST:Hid (NS w2 am E D A (oY wd s r bi t B) (zF k n m c o) (enc k)):=a.out.ns K.out C.out z;clear z bm a K C;generalize am=y at*;have ub:y.cell? ⟨D,1,none⟩=some (.bool s):=by obtain⟨_,_,h,_⟩:=ST.out;exact h.cell 1
  go_upto_if 24 with fail;clear ub;go_cut[1](fun ac ad=>ac= .pointer (some ⟨A,0,none⟩)∧NS w2 ad E D A (oY wd s r bi t B) (zF k n m c o) aT);case first=>
   cases s;·go_wp2;go_meet;refine⟨rfl,?_⟩;have h:=ST.out;rw[←ap.out];simpa using h
   ·obtain⟨v,wn,ub,nb⟩:=ST.out;have a:=af wn;have K:=af ub;have C:=af nb;clear wn ub nb;have W:y.cell? ⟨A,1,none⟩=some (.string n):=C.out.cell 1;go_wp2_with fail;refine(lL E v _ 0 n _ a.out.wr (by have:=aW k;omega) (by have:=G.out;omega)).mono ?_;rintro e am⟨rfl,aQ,z⟩;rw[iM _ _ (by have:=G.out;omega)]at z;have h:=a.out.ns K.out C.out z;have R:=af h;clear z h W;go_wp2;go_meet;refine⟨rfl,?_⟩;have h:=R.out;rw[←ap.out];simpa[bO,aO]using h
  case rest=>
   obtain⟨rfl,p⟩:=hcut;clear ST;have ST:=af p;clear p;generalize wc=y at*;have ub:y.cell? ⟨D,2,none⟩=some (.bool r):=by obtain⟨_,_,h,_⟩:=ST.out;exact h.cell 2
   go_upto_if 30 with fail;clear ub;go_cut[1](fun ac ad=>ac= .pointer (some ⟨A,0,none⟩)∧NS w2 ad E D A (oY wd s r bi t B) (zF k n m c o) aV);case first=>
    cases r;·go_wp2;go_meet;refine⟨rfl,?_⟩;have h:=ST.out;rw[←au.out];simpa using h
    ·obtain⟨v,wn,ub,nb⟩:=ST.out;have a:=af wn;have K:=af ub;have C:=af nb;clear wn ub nb;have W:y.cell? ⟨A,2,none⟩=some (.int .i64 m):=C.out.cell 2;go_wp2_with fail;refine(jv E v _ 0 m _ a.out.wr (by have:=N.out;omega) (by have:=aB.out (by first|rfl|trivial);omega)).mono ?_;rintro e am⟨rfl,aQ,z⟩;rw[(aB.out (by first|rfl|trivial)).1,iL]at z;have h:=a.out.ns K.out C.out z;have R:=af h;clear z h W;go_wp2;go_meet;refine⟨rfl,?_⟩;have h:=R.out;rw[←au.out];simpa[bO,aO]using h
   case rest=>
    obtain⟨rfl,p⟩:=hcut;clear ST;have ST:=af p;clear p;generalize wc=y at*;have ub:y.cell? ⟨D,3,none⟩=some (.bool bi):=by obtain⟨_,_,h,_⟩:=ST.out;exact h.cell 3
    go_upto_if 36 with fail;clear ub;go_cut[1](fun ac ad=>ac= .pointer (some ⟨A,0,none⟩)∧NS w2 ad E D A (oY wd s r bi t B) (zF k n m c o) aX);case first=>
     cases bi;·go_wp2;go_meet;refine⟨rfl,?_⟩;have h:=ST.out;rw[←av.out];simpa using h
     ·obtain⟨v,wn,ub,nb⟩:=ST.out;have a:=af wn;have K:=af ub;have C:=af nb;clear wn ub nb;have W:y.cell? ⟨A,3,none⟩=some (.int .i64 c):=C.out.cell 3;go_wp2_with fail;refine(jv E v _ 0 c _ a.out.wr (by have:=N.out;omega) (by have:=ao.out (by first|rfl|trivial);omega)).mono ?_;rintro e am⟨rfl,aQ,z⟩;rw[(ao.out (by first|rfl|trivial)).1,iL]at z;have h:=a.out.ns K.out C.out z;have R:=af h;clear z h W;go_wp2;go_meet;refine⟨rfl,?_⟩;have h:=R.out;rw[←av.out];simpa[bO,aO]using h
    case rest=>
     obtain⟨rfl,p⟩:=hcut;clear ST;have ST:=af p;clear p;generalize wc=y at*;have ub:y.cell? ⟨D,4,none⟩=some (.bool t):=by obtain⟨_,_,h,_⟩:=ST.out;exact h.cell 4
     go_upto_if 42 with fail;clear ub;go_cut[1](fun ac ad=>ac= .pointer (some ⟨A,0,none⟩)∧NS w2 ad E D A (oY wd s r bi t B) (zF k n m c o) a7);case first=>
      cases t;·go_wp2;go_meet;refine⟨rfl,?_⟩;have h:=ST.out;rw[←ax.out];simpa using h
      ·obtain⟨v,wn,ub,nb⟩:=ST.out;have a:=af wn;have K:=af ub;have C:=af nb;clear wn ub nb;have W:y.cell? ⟨A,4,none⟩=some (.string o):=C.out.cell 4;go_wp2_with fail;refine(lL E v _ 0 o _ a.out.wr (by have:=N.out;omega) (by have:=G.out;omega)).mono ?_;rintro e am⟨rfl,aQ,z⟩;rw[iM _ _ (by have:=G.out;omega)]at z;have h:=a.out.ns K.out C.out z;have R:=af h;clear z h W;go_wp2;go_meet;refine⟨rfl,?_⟩;have h:=R.out;rw[←ax.out];simpa[bO,aO]using h
     case rest=>
      obtain⟨rfl,p⟩:=hcut;clear ST;have ST:=af p;clear p;generalize wc=y at*;obtain⟨v,wn,ub,nb⟩:=ST.out;have a:=af wn;clear wn ub nb ST;go_wp2_with fail;refine(oZ E _ _ _ _ a.out.wr (by have:=N.out;omega)).mono ?_;rintro e bt⟨_,aa⟩;obtain⟨bB,rfl,O⟩:=aa rfl;obtain⟨bu,bA,bn,rfl,bk,_⟩:=aU O.own;have bp:=mR bt _ _ _ bn _ (pF.rd O.own bk.out);have bg:=af ((a5.out.trans a.out.fr).trans O.ar);clear O aa;go_wp2;go_ret2;exact⟨rfl,bg.out⟩
theorem v7(n:aK)(w:World)(h:eE w)(b:n.owner.size≤16777216)(c:n.text.size≤16777216)(a:dA n=true):
  Calls Tryz.prog 64 #[.agg n.cells.toArray] w (aJ w (.tuple #[.string ⟨(cL n).toArray⟩, .int .i64 0])):=by
 obtain⟨i,u,hu,_⟩:=qZ a;rw[rM hu];obtain⟨d,o,m,j,p⟩:=n;obtain⟨wd,f,e,bi,g,l⟩:=u;simp only at b c i hu;obtain⟨k,rfl⟩:∃k:Nat,d=(k:Int):=⟨d.toNat,by omega⟩;rw[Int.toNat_natCast]at hu;exact Ef k o m j p wd f e bi g l w h (by omega) hu b c a
end Go.Proofs.YtphjagkehiklkaaGreatDoor
namespace Go.Proofs.YtphjagkehiklkaaGreatDoor
open Go.RowKit Go.Shelf
attribute[local go_sem]Oper.semAt_some
abbrev ky(w:World)(P:Nd→Prop):={x:Nd//oe w x∧P x}
def yc{w:World}{P:Nd→Prop}(x:ky w P):Array Value:=#[.pointer (some ⟨x.1.g,0,none⟩)]
def wU{w:World}{P:Nd→Prop}(x:ky w P):aK×ByteArray:=(x.1.nm,x.1.v)
def Gh(w:World)(P:Nd→Prop)(b a:List (ky w P)→World→Prop)(pre xs:List (ky w P))(e:Ending)(W':World):Prop:=
 (e= .returned (.bool true)∧b (pre++xs) W'∧KN w W')∨(e= .returned (.bool false)∧∃q,q<+:xs∧a (pre++q) W')
inductive mG(w:World)(P:Nd→Prop):Option Addr→Tr→List (ky w P)→Prop where
 |leaf:mG w P none .leaf []
 |node{l r:Tr}{nm:aK}{v:ByteArray}{g:Nat}{a ra:Option Addr}{L f:List (ky w P)}(c:mG w P a l L)(d:mG w P ra r f)
   (b:aq w g 177 (rO a ra (.node l nm v r)).toArray)(x:ky w P)(e:x.1=⟨g,nm,v⟩):mG w P (some ⟨g,0,none⟩) (.node l nm v r) (L++x::f)
theorem mG.of{w:World}{P:Nd→Prop}:∀{a:Option Addr}{t:Tr},cE w a t→(∀g e,e∈t.bC→P ⟨g,e.1,e.2⟩)→∃L,mG w P a t L
 |_, .leaf,h,_=>by
  obtain rfl:_=none:=h;exact⟨[], .leaf⟩
 |_, .node l nm v r,⟨g,k,ra,e,d,f,c⟩,b=>by
  subst e;obtain⟨L,i⟩:=mG.of d (fun g e he=>b g e (by rw[Tr.bC];simp[he]));obtain⟨m,j⟩:=mG.of f (fun g e he=>b g e (by rw[Tr.bC];simp[he]));exact⟨_, .node i j c ⟨⟨g,nm,v⟩,⟨_,_,_,_,_,c⟩,b g (nm,v) (by rw[Tr.bC];simp)⟩ rfl⟩
theorem mG.bC{w:World}{P:Nd→Prop}{a:Option Addr}{t:Tr}{L:List (ky w P)}(h:mG w P a t L):L.map wU=t.bC:=by
 induction h with
 |leaf=>rfl
 |node _ _ _ x d b c=>
  rw[List.map_append,List.map_cons,b,c,Tr.bC];simp only[wU,d]
theorem EE(l N:Nat)(w:World)(P:Nd→Prop)(J p:List (ky w P)→World→Prop)
  (S:∀m pre x W,J pre W→KN w W→pre.length<N→YieldAt Fence.wide m Tryz.prog l (yc x) W fun e W'=>(e= .returned (.bool true)∧J (pre++[x]) W'∧KN W W')∨(e= .returned (.bool false)∧p (pre++[x]) W'))
  {a:Option Addr}{t:Tr}{L:List (ky w P)}(h:mG w P a t L):
  ∀(m:Nat)(pre:List (ky w P))(W:World),J pre W→KN w W→pre.length+L.length≤N→
   CallsIn Fence.wide m Tryz.prog 170 #[.pointer a, .func (.yield l) #[] #[]] W (Gh w P J p pre L):=by
 induction h with
 |leaf=>
  intro m pre W r i _;refine callsIn_of_wp Tryz.func170 rfl trivial ?_ rfl;simp only[Tryz.ntmps170,List.size_toArray,List.length_cons,List.length_nil,Nat.reduceAdd,Nat.reduceSub,Array.replicate_succ,Array.replicate_zero,List.push_toArray,List.append_toArray,List.nil_append,List.cons_append];gi_wp2_with(refine kl rfl ?_);go_ret;exact .inl ⟨rfl,by simpa using r,i⟩
 |@node ae ag nm v g Z ra L R ab ac I x Y C D=>
  intro m pre W r i Q;have d:∀k:Nat,(Fence.wide.depth.isSome=true→1≤k):=fun k h=>by cases h
  rw[bh,List.length_cons]at Q;have n:yc x=#[Value.pointer (some ⟨g,0,none⟩)]:=by rw[yc,Y]
  have y:∀b,J (pre++L) b→KN w b→YieldAt Fence.wide (m-1) Tryz.prog l #[.pointer (some ⟨g,0,none⟩)] b fun e c=>
    (e= .returned (.bool true)∧J (pre++L++[x]) c∧KN b c)∨(e= .returned (.bool false)∧p (pre++L++[x]) c):=fun b F H=>by
   have:=S (m-1) (pre++L) x b F H (by simp;omega);rw[n]at this;exact this
  have A:=af ((C (m-1) pre W r i (by omega)).mono (R':=fun e b=>
    (e= .returned (.bool true)∧KN w b∧YieldAt Fence.wide (m-1) Tryz.prog l #[.pointer (some ⟨g,0,none⟩)] b fun e c=>
     (e= .returned (.bool true)∧J (pre++L++[x]) c∧KN b c)∨(e= .returned (.bool false)∧p (pre++L++[x]) c))∨
    (e= .returned (.bool false)∧∃q,q<+:L∧p (pre++q) b))
   (fun e b h=>h.elim (fun⟨he,X,j⟩=> .inl ⟨he,j,y b X j⟩) .inr));have B:=af (fun W r i=>D (m-1) (pre++L++[x]) W r i (by simp;omega));have U:W.cell? ⟨g,0,none⟩=some (.pointer Z):=(i _ _ I).cell 0;have HB:=af I;clear y C D S Q I n;refine callsIn_of_wp Tryz.func170 rfl trivial ?_ rfl;simp only[Tryz.ntmps170,List.size_toArray,List.length_cons,List.length_nil,Nat.reduceAdd,Nat.reduceSub,Array.replicate_succ,Array.replicate_zero,List.push_toArray,List.append_toArray,List.nil_append,List.cons_append];gi_wp2_with((try refine⟨trivial,d _,?_⟩);gi_at_call 170;refine A.out.mono ?_;clear A;rintro e b(⟨rfl,f,fn,tmps,assign,body,ad,hR⟩|⟨rfl,q,n,K⟩))
  ·have o:=af f;have V:b.cell? ⟨g,1,none⟩=some (.pointer ra):=(f _ _ HB.out).cell 1;clear f U;refine⟨d _,?_⟩;refine hR.mono ?_;clear hR;rintro e c(⟨rfl,s,u⟩|⟨rfl,M⟩)
   ·have j:=o.out.trans u;have T:=af j;have E:=af s;have V:c.cell? ⟨g,1,none⟩=some (.pointer ra):=(j _ _ HB.out).cell 1;clear j u s o;gi_wp2_with((try refine⟨trivial,d _,?_⟩);gi_at_call 170;refine(B.out _ E.out T.out).mono ?_;clear B;rintro e aa(⟨rfl,G,hk3⟩|⟨rfl,q,n,O⟩));·go_ret;exact .inl ⟨rfl,by simpa[List.append_assoc]using G,hk3⟩
    ·go_ret;exact .inr ⟨rfl,L++x::q,by
      obtain⟨z,rfl⟩:=n;exact⟨z,by simp⟩,by simpa[List.append_assoc]using O⟩
   ·gi_wp2_with(refine kl rfl ?_);go_ret;exact .inr ⟨rfl,L++[x],by exact⟨R,by simp⟩,by simpa[List.append_assoc]using M⟩
  ·refine⟨fun _ h=>(by cases h),?_⟩;gi_wp2_with(refine kl rfl ?_);go_ret;exact .inr ⟨rfl,q,n.trans (List.prefix_append _ _),K⟩
theorem vN(m B s:Nat)(a:Option Addr)(t:Tr)(w:World)(P:Nd→Prop)(L:List (ky w P))(r:mG w P a t L)(f:aq w B 25 #[.pointer (some ⟨s,0,none⟩)])(i:aq w s 174 #[.pointer a]):
  SeqStopsK Fence.wide m Tryz.prog 169 #[.pointer (some ⟨B,0,none⟩)] (fun x:ky w P=>#[Value.pointer (some ⟨x.1.g,0,none⟩)]) KN (fun C=>C=L) (fun pre=>pre<+:L) L.length w:=by
 intro l G n W c _ _ u o;have d:∀k:Nat,(Fence.wide.depth.isSome=true→1≤k):=fun k h=>by cases h
 have j:=EE l L.length w P G n (fun m pre x W v _ y=>YieldAt.jF rfl m (u pre x W v y)) r (m-1) [] W o (KN.below c) (by simp);have E:W.cell? ⟨B,0,none⟩=some (.pointer (some ⟨s,0,none⟩)):=(c.cell (p:=⟨B,0,none⟩) f.lt).trans (f.cell 0);have F:W.cell? ⟨s,0,none⟩=some (.pointer a):=(c.cell (p:=⟨s,0,none⟩) i.lt).trans (i.cell 0);refine callsIn_of_wp Tryz.func169 rfl trivial ?_ rfl;simp only[Tryz.ntmps169,List.size_toArray,List.length_cons,List.length_nil,Nat.reduceAdd,Nat.reduceSub,Array.replicate_succ,Array.replicate_zero,List.push_toArray,List.append_toArray,List.nil_append,List.cons_append];gi_wp2_with((try refine⟨trivial,d _,?_⟩);gi_at_call 170;refine j.mono ?_;clear j;rintro e D(⟨rfl,b,_⟩|⟨rfl,q,z,A⟩));·go_end0;exact⟨⟨_,rfl⟩, .inl ⟨_,rfl,by simpa using b⟩⟩
 ·go_end0;exact⟨⟨_,rfl⟩, .inr ⟨q,z,by simpa using A⟩⟩
end Go.Proofs.YtphjagkehiklkaaGreatDoor
namespace Go.Proofs.YtphjagkehiklkaaGreatDoor
open Go.RowKit Go.Shelf
attribute[local go_sem]Oper.semAt_some
theorem I5:(Tryz.prog.info? 113).map (·.size)=some 1:=by kernel_rfl
theorem Kh(w:World):(zeroValue 113).run Tryz.prog w= .ok (.pointer none) w:=by kernel_rfl
structure yJ{α:Type}(b w3:World)(g2 a:Nat)(lw:List α→List UInt8)(pre:List α)(W:World):Prop where
 fr:Fr ag b W
 kn:KN w3 W
 box:aq W g2 113 #[.pointer (some ⟨a,0,none⟩)]
 wr:∃v,Wr W a v (lw pre) 0∧∀k,v.ownBlock=some k→b.heap.size≤k
theorem pg{X:World}{g k:Nat}{t:TypeId}{cs:Array Value}{d:Obj}(a:aq X g t cs)(b:X.heap[k]? =some d)(c:d.isCells=false):g≠k:=by
 rintro rfl;unfold aq at a;rw[a]at b;cases b;simp[Obj.isCells]at c
theorem mC{X:World}{e:TypeId}{sz n k:Nat}{v:Value}{xs:List Value}{i:Obj}(h:X.ownsRow 0 e sz v n xs)(b:X.heap[k]? =some i)(d:i.isCells=false):v.ownBlock≠some k:=by
 intro g;obtain⟨c,f,a⟩:=cX h g;rw[a]at b;cases b;simp[Obj.isCells]at d
theorem yJ.iV{α:Type}{j w3:World}{g2 l B:Nat}{lw:List α→List UInt8}(p:j.heap.size≤B):OwnFrom B (yJ j w3 g2 l lw):=by
 intro pre X Y row h n f;have d:Fr (fun k=>some k=row) X Y:=Fr.grown n;obtain⟨v,hw,o⟩:=h.wr;refine⟨h.fr.aw d (fun i q e=>(by have:=(f i e.symm).1;omega)),h.kn.trans (KN.fr d (fun g cs m e=>?_)),h.box.fr d (fun e=>?_),⟨v,hw.cN d (fun k c e=>?_),o⟩⟩;·obtain⟨_,r,b,a⟩:=f g e.symm;exact pg m b a rfl
 ·obtain⟨_,r,b,a⟩:=f g2 e.symm;exact pg h.box b a rfl
 ·obtain⟨_,r,b,a⟩:=f k e.symm;rcases c with c|c;·exact pg hw.aH b a c.symm
  ·exact mC hw.own b a c
theorem yJ.step{α:Type}{e w3 W j X:World}{g2 b B:Nat}{lw:List α→List UInt8}{pre a:List α}{v v3:Value}(c:yJ e w3 g2 b lw pre W)(o:e.heap.size≤b)
  (hw:Wr W b v (lw pre) 0)(n:∀k,v.ownBlock=some k→e.heap.size≤k)(f:Fr ag W j)(st:dj j b v X v3 (lw a,0)):KeepsFrom B W X∧KN W X∧yJ e w3 g2 b lw a X:=by
 have F:Fr (ID b v) W X:=f.bP.trans st.fr;have K:KN W X:=KN.fr F (fun g cs l h=>by
  rcases h with h|h;·exact eo l hw.aH (by decide) h
  ·exact bG hw.own l (by decide) h);refine⟨⟨F.size,fun k r _ d m=>?_⟩,K,?_,c.kn.trans K,c.box.fr F (fun h=>?_),⟨v3,st.wr,fun k p=>?_⟩⟩
 ·refine(F.block k (Array.getElem?_eq_some_iff.1 d).1 ?_).trans d;rintro(h|h);·exact pg hw.aH d m h.symm
  ·exact mC hw.own d m h
 ·refine c.fr.aw F (fun i q h=>?_);rcases h with h|h;·omega
  ·have:=n i h;omega
 ·rcases h with h|h;·exact eo c.box hw.aH (by decide) h
  ·exact bG hw.own c.box (by decide) h
 ·rcases st.ew k p with h|h;·exact n k h
  ·have:=c.fr.size;have:=f.size;omega
def Ax(LE:List Ent)(x:Nd):Prop:=(x.nm,x.v)∈LE
def lj{w:World}{P:Nd→Prop}(n:Nat)(a:List (ky w P)):List UInt8:=enc n++(a.map wU).flatMap oF
theorem ug{w:World}{P:Nd→Prop}(n:Nat)(a:List (ky w P))(y:ky w P):lj n (a++[y])=lj n a++bO (cL y.1.nm)++bO (aR y.1.v):=by
 simp[lj,oF,wU,List.flatMap_append,List.append_assoc]
theorem vp(s:ByteArray):enc s.size++aR s=bO (aR s):=by rw[bO,aO]
theorem FM(l:List UInt8):enc (⟨l.toArray⟩:ByteArray).size++aR ⟨l.toArray⟩=bO l:=by
 rw[←aO];rfl
structure xv(L:List Ent):Prop where
 ok:∀x∈L,dA x.1=true
 owner:∀x∈L,x.1.owner.size≤1048576
 text:∀x∈L,x.1.text.size≤1048576
 value:∀x∈L,x.2.size≤1048576
 len:L.length≤60000
theorem ny:∀(L:List Ent),(∀x∈L,x.1.owner.size≤1048576)→(∀x∈L,x.1.text.size≤1048576)→(∀x∈L,x.2.size≤1048576)→(L.flatMap oF).length≤L.length*4000000
 |[],_,_,_=>by simp
 |x::L,b,c,d=>by
  have e:=ny L (fun y a=>b y (by simp[a])) (fun y a=>c y (by simp[a])) (fun y a=>d y (by simp[a]));have f:=b x (by simp);have a2:=c x (by simp);have a3:=d x (by simp);have b1:=fi x.1;have b2:=aW (cL x.1).length;have b3:=aW (aR x.2).length;have b4:=aO x.2;simp only[List.flatMap_cons,oF,bO,bh,List.length_cons]at e⊢;omega
theorem GR{w:World}{P:Nd→Prop}(n:Nat)(b:List (ky w P))(c:∀y:ky w P,y.1.nm.owner.size≤1048576)(d:∀y:ky w P,y.1.nm.text.size≤1048576)(e:∀y:ky w P,y.1.v.size≤1048576):(lj n b).length≤10+b.length*4000000:=by
 have h:=ny (b.map wU) (fun x a=>by obtain⟨y,_,rfl⟩:=List.mem_map.1 a;exact c y) (fun x a=>by obtain⟨y,_,rfl⟩:=List.mem_map.1 a;exact d y) (fun x a=>by obtain⟨y,_,rfl⟩:=List.mem_map.1 a;exact e y);have f:=aW n;rw[List.length_map]at h;simp only[lj,bh];omega
def qv(w:World)(l:List UInt8)(e:Ending)(w':World):Prop:=∃v,e= .returned v∧gS w (.slice none 0 0) w' v l
theorem Eh(LE:List Ent)(s:Nat)(w:World)(bn:ft w s LE)(bU:eE w)(aa:xv LE):Calls Tryz.prog 102 #[.pointer (some ⟨s,0,none⟩)] w (qv w (fw LE)):=by
  obtain⟨t,aD,het⟩:=bn;have aP:t.size=LE.length:=by rw[←t.cM,het]
  have b5:=af (fun w=>qg (some ⟨s,0,none⟩) w);have z:=af aa;have am:=af het;have cc:=af aP;have cb:=af bU;have bv:=af aD;have ap:Hid ((fw LE).length≤250000000000):=by
    have a2:=ny LE aa.owner aa.text aa.value;have a4:=aW LE.length;have bT:=aa.len;simp only[Hid,fw,bh];omega
  clear aD het aP aa bU;refine(callsIn_wide (n:=6)).1 (callsIn_of_wp_marks Tryz.func102 rfl trivial (wpIn_wide.2 ?_) rfl);simp only[Tryz.ntmps102,List.size_toArray,List.length_cons,List.length_nil,Nat.reduceAdd,Nat.reduceSub,Array.replicate_succ,Array.replicate_zero,List.push_toArray,List.append_toArray,List.nil_append,List.cons_append];go_wp2_with fail;refine(kU _).mono ?_;rintro r w1⟨rfl,aM,f1⟩;have ao:Sz w w.heap.size:=Nat.le_refl _;generalize w.heap.size=a at*;have bB:=af aM;have a8:=af f1;clear aM f1;go_wp2_with(refine ak rfl 113 rfl (.pointer none) Kh #[.pointer none] rfl ?_);intro w2 b2;have bg:=af b2;clear b2;have b8:Sz w w1.heap.size:=a8.out.size;generalize aE:w1.heap.size=g2 at*;have an:=af aE;clear aE;have bq:Hid (aq w2 g2 113 #[.pointer none]):=by have h:=bg.out.aH;rw[an.out]at h;exact h
  go_wp2_with(refine bY rfl 113 (.tmp 3) _ rfl g2 (.pointer (some ⟨a,0,none⟩)) rfl rfl rfl _ _ bq.out I5 ?_);intro w3 b3 f3;have S:Hid (Fr ag w1 w3):=bg.out.fr.aw f3 (fun i bW e=>by have a1:i=g2:=e;have:=an.out;omega);have a9:=af (a8.out.trans S.out);have a6:=af b3;have bE:Hid (Wr w3 a (.slice none 0 0) [] 0):=bB.out.cN S.out (fun _ _ x=>x);clear b3 f3 bg bq bB a8 S;have CL:Hid (∀w',Fr ag w3 w'→Calls Tryz.prog 94 #[.pointer (some ⟨s,0,none⟩)] w' (aY w' (.int .i64 (LE.length:Int)))):=fun w' f=>by
    rw[←cc.out];exact yF w' s t (bv.out.ar (a9.out.trans f))
  go_upto_region 4 with fail;refine aC 3 ag [Is (.pointer (some ⟨a,0,none⟩)),Is (.pointer (some ⟨s,0,none⟩)),Is (.int .i64 (LE.length:Int))] [] (fun _=>True) (fun _ _=>false) (by kernel_rfl) (by kernel_rfl) (by kernel_rfl) (by kernel_rfl) ⟨Is.ah _,Is.ah _,Is.ah _,trivial⟩ trivial (fun _ _ _ _ h=>h) trivial ?_ ?_
  · refine⟨?zA,?zG,?zB,trivial⟩;all_goals intro u w' d hf b X B G
    all_goals simp only[bH,bI,bJ,bK,ay,Act.put,bL,bM,bN,Nat.reduceAdd,Nat.zero_add]
    case zA=>
      clear b X B G;refine aj ?_;have q:_=some (Value.pointer (some ⟨a,0,none⟩)):=(a6.out.fr hf (fun x=>x)).cell 0;go_simp;exact⟨_,rfl,al⟩
    case zB=>
      simp only[show u 1=_ from b 1];clear b X B G;refine aj ?_;go_simp;refine(CL.out _ hf).mono ?_;rintro e cr⟨rfl,rfl⟩;exact⟨_,rfl,al⟩
    all_goals
      clear b X B G;refine aj ?_;go_simp;exact⟨_,rfl,al⟩
  · intro u w' hf b G;have B:u 0=_:=b 0 (by omega);have bZ:u 2=_:=b 2 (by omega);clear b G;simp only[bH,bI,bJ,bK,ay,Act.put,bL,bM,bN,dD,dE,Nat.reduceAdd,Nat.zero_add,B,bZ];have bk:Hid (Wr w' a (.slice none 0 0) [] 0):=bE.out.cN hf (fun _ _ x=>x);have a7:=af (a6.out.fr hf (fun x=>x));have ba:=af (a9.out.trans hf);have au:Hid (LE.length≤60000):=z.out.len;clear hf B bZ CL bE a6 a9;generalize w'=cr at*;go_wp2_with fail;refine(jv a _ _ 0 (LE.length:Int) _ bk.out (by simp) (by have:=au.out;omega)).mono ?_;rintro e bp⟨rfl,v5,C⟩;rw[iL,List.nil_append]at C;have ad:Hid (Fr ag w bp):=ba.out.aw C.fr (fun i bW e=>by have a1:=rn e;have:=ao;unfold Sz at this;omega);have br:Hid (aq bp g2 113 #[.pointer (some ⟨a,0,none⟩)]):=a7.out.fr C.fr (fun e=>eo a7.out bk.out.aH (by decide) (rn e));have bF:=af C.wr;have bw:Hid (∀k,v5.ownBlock=some k→w.heap.size≤k):=fun k aG=>by
      rcases C.ew k aG with h|h;· simp[Value.ownBlock]at h
      · have:=ba.out.size;omega
    clear C ba a7 bk;go_wp2_with fail;refine(b5.out _).mono ?_;rintro r Z⟨rfl,f6,bS⟩;have aT:=af (ad.out.trans f6);have b4:=af (br.out.fr f6 (fun x=>x));have ci:Hid (Wr Z a v5 (enc LE.length) 0):=bF.out.cN f6 (fun _ _ x=>x);have b6:=af bS;have cg:Hid (∀k,v5.ownBlock=some k→w.heap.size≤k):=bw.out;clear f6 bS ad br bF bw;generalize bp.heap.size=gs at*;obtain⟨a3,aL,aK⟩:=bv.out.ar aT.out;obtain⟨L,bm⟩:=mG.of (P:=Ax LE) aK (fun g e he=>by unfold Ax;rw[←am.out];exact he);have bx:Hid (L.map wU=LE):=bm.bC.trans am.out;have ch:Hid (L.length=LE.length):=by simp only[Hid];have h:=congrArg List.length bx.out;simpa using h
    have ca:=af bm;have bd:=af aL;clear aL aK bm;go_wp2_with fail;refine(wpIn_wide (n:=6)).1 ?_;refine wpIn_rangeFunc_ownG rfl (by omega) (gf:=169) (lb:=#[.pointer (some ⟨gs,0,none⟩)]) rfl trivial (enters_of Tryz.func169 (by kernel_rfl) rfl)
      (vN 5 gs s a3 t Z (Ax LE) L ca.out b6.out bd.out) (fun h k=>h.trans k) (fun W l o cq _ co cn _=>KN.put W l o cq co cn) (Below.refl _ _) (fun _=>rfl)
      (yJ w Z g2 a (fun ct:List (ky Z (Ax LE))=>lj LE.length ct)) (fun _ _ _=>False) (yJ.iV aT.out.size) (fun _ _ _ _ _ h _ _=>h.elim)
      ⟨aT.out,KN.refl _,b4.out,v5,by simpa[lj]using ci.out,cg.out⟩ ?zJ ?assign ?body ?done ?stop;case assign=>
      intro l x W K aB;gi_wp2;exact aB
    case body=>
      rintro b1 pre x W a5 aI;have bu:=af a5;have b9:=af aI;obtain⟨V,R,m,⟨v,F,c⟩⟩:=a5;have b7:=af V;have av:=af F;have bc:=af c;have bb:=af m;have aX:=af (x.2.1.kn R).lA;have H:Hid ((x.1.nm,x.1.v)∈LE):=x.2.2;have A:=af (ug LE.length pre x);have J:Hid ((lj LE.length (pre++[x])).length≤250000000000+3000000):=by
        have a2:=z.out.owner _ H.out;have a4:=z.out.text _ H.out;have bT:=z.out.value _ H.out;have cm:=fi x.1.nm;have cx:=aW (cL x.1.nm).length;have cy:=aW (aR x.1.v).length;have cz:=aO x.1.v;have cA:=GR LE.length pre (fun y=>z.out.owner _ y.2.2) (fun y=>z.out.text _ y.2.2) (fun y=>z.out.value _ y.2.2);have cB:=b9.out;have ck:=ch.out;have cl:=au.out;simp only at a2 a4 bT;simp only[Hid];rw[ug];simp only[bO,bh];omega
      have bz:Hid (eE W):=cb.out.ar V;obtain⟨y,bo⟩:∃y:ky Z (Ax LE),y=x:=⟨x,rfl⟩;have be:=af bo;rw[←bo]at A J;obtain⟨⟨U,p,ab⟩,aN,bX⟩:=x;rw[be.out]at A J;simp only at aX H A⊢;have bs:Hid (Calls Tryz.prog 64 #[.agg p.cells.toArray] W (aJ W (.tuple #[.string ⟨(cL p).toArray⟩, .int .i64 0]))):=v7 p W bz.out (by have:=z.out.owner _ H.out;simp only at this;omega) (by have:=z.out.text _ H.out;simp only at this;omega) (z.out.ok _ H.out);have bA:Hid (ab.size≤1048576):=z.out.value _ H.out;have az:Hid ((cL p).length≤3000000):=by
        have a2:=z.out.owner _ H.out;have a4:=z.out.text _ H.out;have cm:=fi p;simp only at a2 a4;simp only[Hid];omega
      clear V R m F c bo bz aI;gi_wp2_with(refine cD (lC 106) rfl (by kernel_rfl) ?_);refine aF rfl 106 (.tmp 22) rfl ⟨U,2,none⟩ rfl p.cells _ ?zI Tryz.underlying106 rfl bD (bj.go ?hold);case zI=>exact fun j v cp=>by rw[Addr.add_mid];exact aX.out.name j v cp
      unfold bj;go_wp2_with fail;refine bs.out.mono ?_;rintro e a0⟨rfl,f1⟩;have E:Hid (Wr a0 a v (lj LE.length pre) 0):=av.out.cN f1 (fun _ _ x=>x);have I:=af (bb.out.fr f1 (fun x=>x));have bf:=af (aX.out.ar f1);have ae:=af f1;clear f1 bs;go_wp2;show Code.wpIn (Fence.wide.inRound b1) (6-1-1) Tryz.prog _ _ _ _;have O:a0.cell? ⟨g2,0,none⟩=some (.pointer (some ⟨a,0,none⟩)):=I.out.cell 0;gi_wp2_with(refine cD (lC 113) rfl (by kernel_rfl) ?_);have M:Hid ((lj LE.length pre).length≤260000000000):=by
        have h:=J.out;rw[A.out]at h;simp only[bh]at h;simp only[Hid];omega
      go_wp2_with fail;refine(lL a v _ 0 ⟨(cL p).toArray⟩ _ E.out (by have:=M.out;omega) (by have:=az.out;rw[←aO];exact Nat.le_trans this (by decide))).mono ?_;rintro e bQ⟨rfl,v2,st2⟩
      rw[iM _ _ (by have h:=az.out;have e:(⟨(cL p).toArray⟩:ByteArray).size=(cL p).length:=by rw[←aO];rfl
                    omega),FM]at st2;have N:=af st2;have ac:Hid (aq bQ g2 113 #[.pointer (some ⟨a,0,none⟩)]):=I.out.fr st2.fr (fun h=>by
        rcases h with h|h;· exact eo I.out E.out.aH (by decide) h
        · exact bG E.out.own I.out (by decide) h);have ax:Hid (Mid bQ U p ab):=((⟨⟨U,p,ab⟩,aN,bX⟩:ky Z (Ax LE)).2.1.kn ((bu.out.kn.trans (KN.fr ae.out (fun _ _ _ x=>x))).trans (KN.fr st2.fr (fun g cs bV h=>by
        rcases h with h|h;· exact eo bV E.out.aH (by decide) h
        · exact bG E.out.own bV (by decide) h)))).lA;clear st2 O aX bf M;go_wp2;show Code.wpIn (Fence.wide.inRound b1) (6-1-1) Tryz.prog _ _ _ _;gi_wp2;refine pa 5 ag [Is (.pointer (some ⟨a,0,none⟩)),Is (.pointer (some ⟨U,0,none⟩)),Is (.pointer (some ⟨U,0,none⟩)),Is (.pointer (some ⟨U,7,none⟩)),Is (.string ab)] [] (fun _=>True) (fun _ _=>false) (by kernel_rfl) (by kernel_rfl) (by kernel_rfl) (by kernel_rfl) (by kernel_rfl) ⟨Is.ah _,Is.ah _,Is.ah _,Is.ah _,Is.ah _,trivial⟩ trivial (fun _ _ _ _ h=>h) trivial ?_ ?_
      · refine⟨?zC,?zH,?zD,?zE,?zF,trivial⟩;all_goals intro u w' d hf b X B G
        all_goals simp only[bH,bI,bJ,bK,ay,Act.put,bL,bM,bN,Nat.reduceAdd,Nat.zero_add]
        case zC=>
          clear b X B G;refine aj ?_;have q:_=some (Value.pointer (some ⟨a,0,none⟩)):=(ac.out.fr hf (fun x=>x)).cell 0;go_simp;exact⟨_,rfl,al⟩
        case' zD=>simp only[show u 1=_ from b 1]
        case' zE=>simp only[show u 2=_ from b 2]
        case zF=>
          simp only[show u 3=_ from b 3];clear b X B G;refine aj ?_;have q:=(ax.out.ar hf).val;go_simp;exact⟨_,rfl,al⟩
        all_goals
          clear b X B G;refine aj ?_;go_simp;exact⟨_,rfl,al⟩
      · intro u w' hf b G;have B:u 0=_:=b 0 (by omega);have b0:u 4=_:=b 4 (by omega);clear b G;simp only[bH,bI,bJ,bK,ay,Act.put,bL,bM,bN,dD,dE,Nat.reduceAdd,Nat.zero_add,B,b0];have aA:Hid (dj a0 a v w' v2 (lj LE.length pre++bO (cL p),0)):=⟨N.out.wr.cN hf (fun _ _ x=>x),N.out.fr.trans hf.bP,N.out.ew⟩;have M:Hid ((lj LE.length pre++bO (cL p)).length≤260000000000):=by
          have h:=J.out;rw[A.out]at h;simp only[bh]at h⊢;simp only[Hid];omega
        clear hf B b0 N ac ax;go_wp2_with fail;refine(lL a v2 _ 0 ab _ aA.out.wr (by have:=M.out;simp only;omega) (by have:=bA.out;omega)).mono ?_;rintro e cj⟨rfl,v3,Y⟩;rw[iM _ _ (by have:=bA.out;omega),vp]at Y;have ST:=af (aA.out.trans Y);clear Y;go_wp2;have bi:dj a0 a v cj v3 (lj LE.length (pre++[(⟨⟨U,p,ab⟩,aN,bX⟩:ky Z (Ax LE))]),0):=by
          rw[A.out];exact ST.out
        exact yJ.step bu.out ao av.out bc.out ae.out bi
    case done=>
      rintro D xs W bl rfl a5 aB;obtain⟨hf,R,m,⟨v,F,c⟩⟩:=a5;have aZ:Fr (fun k=>some k=some D) W (W.putObj D (.deferred none)):=Fr.grown (grownBy_putObj' W D _);have cf:=af aB;have bt:=af hf;have ce:Hid (Wr W a v (fw LE) 0):=by
        have h:lj LE.length xs=fw LE:=by rw[lj,bx.out];rfl
        rw[←h];exact F
      have ai:Hid (w.heap.size≤D∧D<W.heap.size):=⟨by have:=aT.out.size;have:=bl;omega,(Array.getElem?_eq_some_iff.1 aB).1⟩;have O:=m.cell 0;simp only[bR,List.getElem?_cons_zero]at O;clear aZ hf m F c bl aB R;go_wp2_with fail;refine(oZ a _ _ _ _ ce.out (by have:=ap.out;omega)).mono ?_;rintro e aS⟨_,aN⟩;obtain⟨cE,rfl,Q⟩:=aN rfl;have T:Hid (aS.heap[D]? =W.heap[D]?):=Q.ar.block D ai.out.2 (fun x=>x);have aV:=af Q;obtain⟨cu,cC,cv,rfl,_,_⟩:=aU Q.own;clear Q aN O;go_wp2;rw[cf.out]at T;refine⟨by simp, .inl ⟨_,_,rfl,run_takeDeferred T.out,?_⟩⟩;refine⟨_,results_tmp Tryz.results102 _ _ _,?_⟩;have aZ:Fr (fun k=>some k=some D) aS (aS.putObj D (.deferred none)):=Fr.grown (grownBy_putObj' aS D _);have cd:Fr ag w (aS.putObj D (.deferred none)):=(bt.out.trans aV.out.ar).aw aZ (fun i bW e=>by have a1:i=D:=(by simpa using e);have:=ai.out.1;omega);refine⟨_,rfl,⟨aQ aV.out.own aZ (fun k aG e=>?_),cd.bP,fun k aG=> .inr ?_⟩⟩
      · have a1:k=D:=by simpa using e
        exact mC aV.out.own T.out rfl (by rw[←a1];exact aG)
      · have:=aV.out.new k aG;have:=bt.out.size;omega
    case stop=>
      rintro D cw pre W bl _ h;exact h.elim
theorem cW.small{k:Nat}{L:List Ent}(h:cW k L)(b:k≤60000):xv L:=⟨h.ok,fun x a=>by have:=h.owner x a;omega,fun x a=>by have:=h.text x a;omega,fun x a=>by have:=h.value x a;omega,by have:=h.len;omega⟩
def sY(l:List UInt8)(v:Value)(w:World):Prop:=∃A n c,v= .slice A n c∧pF w (.slice A n c) l∧n=l.length
theorem sY.ar{l:List UInt8}{v:Value}{w w':World}(h:sY l v w)(a:Fr ag w w'):sY l v w':=by
 obtain⟨A,n,c,e,d,b⟩:=h;exact⟨A,n,c,e,aQ d a (fun _ _ x=>x),b⟩
theorem qv.bytes{w w':World}{l:List UInt8}{e:Ending}(h:qv w l e w'):∃v,e= .returned v∧sY l v w'∧Fr ag w w':=by
 obtain⟨v,rfl,a⟩:=h;obtain⟨A,n,c,rfl,b,_⟩:=aU a.own;exact⟨_,rfl,⟨A,n,c,rfl,a.own,b.out⟩,a.ar⟩
end Go.Proofs.YtphjagkehiklkaaGreatDoor
