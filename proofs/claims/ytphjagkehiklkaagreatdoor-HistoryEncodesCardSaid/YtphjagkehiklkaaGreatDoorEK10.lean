/- Texts. -/
import Derived.Test.YtphjagkehiklkaaGreatDoorEK02
import Derived.Test.YtphjagkehiklkaaGreatDoorEK09
set_option linter.unusedVariables false
set_option linter.unusedSimpArgs false
set_option maxRecDepth 100000
set_option maxHeartbeats 4000000
namespace Go.Proofs.YtphjagkehiklkaaGreatDoor
open Proofs.Tryz Go.RowKit Go.Shelf
def aN(l:List UInt8):List UInt8:=enc l.length++l
def mB(u:iE)(n:aG):List UInt8:=enc n.kind.toNat++((if u.owner then aN (aQ n.owner)else[])++((if u.number then enc n.number.toNat else[])++((if u.index then enc n.index.toNat else[])++(if u.text then aN (aQ n.text)else[]))))
def bZ(n:aG):List UInt8:=match iO[n.kind.toNat]? with
 |some u=>mB u n
 |none=>[]
def jy(x:Ent):List UInt8:=aN (bZ x.1)++aN (aQ x.2)
def cq(L:List Ent):List UInt8:=enc L.length++L.flatMap jy
theorem yh{s:ByteArray}(h:s.toList.isEmpty=true):s=ByteArray.empty:=by
 rw[ByteArray.toList_eq,List.isEmpty_iff]at h;exact ByteArray.ext (Array.toList_inj.1 h)
structure As(u:iE)(n:aG):Prop where
 o0:u.owner=false->n.owner=ByteArray.empty
 n0:u.number=false->n.number=0
 i0:u.index=false->n.index=0
 t0:u.text=false->n.text=ByteArray.empty
 n1:u.number=true->0<=n.number/\n.number<=1073741824
 i1:u.index=true->0<=n.index/\n.index<=u.aS
theorem pK{u:iE}{n:aG}(h:qC u n=true):As u n:=by
 simp only[qC,Bool.and_eq_true,Bool.or_eq_true,Bool.not_eq_true',decide_eq_true_eq]at h;obtain⟨⟨⟨⟨⟨⟨⟨a,b⟩,c⟩,d⟩,_⟩,f⟩,g⟩,_⟩:=h;refine⟨λe=>?_,λe=>?_,λe=>?_,λe=>?_,λe=>?_,λe=>?_⟩
 ·rcases a with h|h;·rw[e]at h;cases h
  ·exact yh h
 ·rcases b with h|h;·rw[e]at h;cases h
  ·exact beq_iff_eq.1 h
 ·rcases c with h|h;·rw[e]at h;cases h
  ·exact beq_iff_eq.1 h
 ·rcases d with h|h;·rw[e]at h;cases h
  ·exact yh h
 ·rcases f with h|h;·rw[e]at h;cases h
  ·exact h
 ·rcases g with h|h;·rw[e]at h;cases h
  ·exact h
theorem pJ{n:aG}(h:da n=true):(1<=n.kind/\n.kind<=20)/\∃u,iO[n.kind.toNat]? =some u/\qC u n=true:=by
 simp only[da,Bool.and_eq_true,decide_eq_true_eq]at h;obtain⟨⟨b,c⟩,a⟩:=h;refine⟨⟨b,c⟩,?_⟩;cases hu:iO[n.kind.toNat]? with
 |none=>rw[hu]at a;cases a
 |some u=>rw[hu]at a;exact⟨u,rfl,a⟩
theorem BE{k:Nat}{u:iE}(h:iO[k]? =some u):u.aS<=1073741824:=by
 have hm:∀x∈iO,x.aS<=1073741824:=by decide
 exact hm u (List.mem_of_getElem? h)
theorem sX{n:aG}{u:iE}(h:iO[n.kind.toNat]? =some u):bZ n=mB u n:=by
 unfold bZ;rw[h]
theorem qB(u:iE)(n:aG):(mB u n).length<=50+n.owner.size+n.text.size:=by
 have a:=aY n.kind.toNat;have b:=aY n.number.toNat;have c:=aY n.index.toNat;have d:=aY (aQ n.owner).length;have e:=aY (aQ n.text).length;have f:=aL n.owner;have g:=aL n.text;simp only[mB,aT,aN];split<;>split<;>split<;>split<;>simp only[aT,List.length_nil]<;>omega
theorem eS(n:aG):(bZ n).length<=50+n.owner.size+n.text.size:=by
 unfold bZ;split;·exact qB _ n
 ·simp
structure Ny(L:List Ent):Prop where
 ok:∀x∈L,da x.1=true
 name:∀x∈L,su x.1
 value:∀x∈L,x.2.size<=1099511627776
end Go.Proofs.YtphjagkehiklkaaGreatDoor
namespace Go.Proofs.YtphjagkehiklkaaGreatDoor
open Proofs.Tryz Go.RowKit Go.Shelf
theorem lW{P:Program}{op:Oper}{a:Act}{w:World}{K:Act->World->Prop}{Q:Exit->Act->World->Prop}(t:TypeId)(c:op.op= .alloc t)(z:Value)(d:∀w,(zeroValue t).run P w= .ok z w)(cells:Array Value)(b:z.cells=cells)
  (h:∀w',dN w w' t cells->K (a.put op.dst (.pointer (some ⟨w.heap.size,0,none⟩))) w'):op.wp P a w K Q:=by
 subst b;unfold Oper.wp execOp;simp only[c,Instr.alloc,Sem.run_bind,d,newVar,newRow,run_newObj_alloc,Sem.run_pure,Result.andThen_ok];exact h _ (dN.alloc w t z.cells)
theorem dn{w:World}{g b:Nat}{t c:TypeId}{cs cs':Array Value}(h:aq w g t cs)(d:aq w b c cs')(a:t≠c):g≠b:=by
 rintro rfl;have e:=h.symm.trans d;simp only[Option.some.injEq,Obj.cells.injEq]at e;exact a e.2.1
theorem si{a k:Nat}(h:Li a (.slice none 0 0) k):k=a:=by
 rcases h with h|h;·exact h
 ·simp[Value.ownBlock]at h
def BF(k:Nat)(c:ByteArray)(b a:Int)(d:ByteArray):Array Value:=#[.int .i64 (k:Int), .string c, .int .i64 b, .int .i64 a, .string d]
def pT(wd:ByteArray)(b a bi c:Bool)(d:Int):Array Value:=#[.string wd, .bool b, .bool a, .bool bi, .bool c, .int .i64 d]
structure WN(w2 w:World)(a:Nat)(v:Value)(l:List UInt8):Prop where
 step:∃b,dp b a (.slice none 0 0) w v (l,0)/\Fr Nothing w2 b
 new:w2.heap.size<=a
theorem WN.next{w2 w w':World}{b:Nat}{v:Value}{l c:List UInt8}(h:WN w2 w b v l)(k:∃a,dp w b v w' a (c,0)):∃a,WN w2 w' b a c:=by
 obtain⟨a,f⟩:=k;obtain⟨g,d,e⟩:=h.step;exact⟨a,⟨g,d.trans f,e⟩,h.new⟩
theorem WN.fr{w2 w:World}{a:Nat}{v:Value}{l:List UInt8}(h:WN w2 w a v l):Fr Nothing w2 w:=by
 obtain⟨f,b,c⟩:=h.step;exact c.aw b.fr (λi d e=>by have:=si e;have:=h.new;omega)
theorem WN.kl{w2 w w':World}{b g:Nat}{v m:Value}{l k:List UInt8}{t:TypeId}{cs:Array Value}(h:WN w2 w b v l)(f:dp w b v w' m (k,0))(a:aq w g t cs)(i:t≠185)(j:t≠5):aq w' g t cs:=by
 obtain⟨o,c,n⟩:=h.step;refine a.fr f.fr (λe=>?_);rcases e with e|e;·exact dn a c.wr.aF i e
 ·exact bO c.wr.own a (λd=>j d.symm) e
def NS(w2 W:World)(c b a:Nat)(us nm:Array Value)(l:List UInt8):Prop:=∃v,WN w2 W c v l/\aq W b 189 us/\aq W a 106 nm
theorem WN.wr{w2 w:World}{a:Nat}{v:Value}{l:List UInt8}(h:WN w2 w a v l):Wr w a v l 0:=by
 obtain⟨c,b,_⟩:=h.step;exact b.wr
theorem WN.ns{w2 w w':World}{a c b:Nat}{us nm:Array Value}{v e:Value}{l d:List UInt8}(h:WN w2 w a v l)(hu:aq w c 189 us)(g:aq w b 106 nm)(k:dp w a v w' e (d,0)):NS w2 w' a c b us nm d:=by
 obtain⟨v2,f⟩:=h.next ⟨e,k⟩;exact⟨v2,f,h.kl k hu (by decide) (by decide),h.kl k g (by decide) (by decide)⟩
theorem GQ(k:Nat)(n:ByteArray)(m c:Int)(o wd:ByteArray)(s r bi t:Bool)(B:Int)(w:World)(a3:dO w)(bz:1<=k/\k<=20)(hu:iO[k]? =some ⟨wd,s,r,bi,t,B⟩)(bf:n.size<=16777216)(bg:o.size<=16777216)(Z:da ⟨(k:Int),n,m,c,o⟩=true):
  Calls prog 64 #[.agg #[.int .i64 (k:Int), .string n, .int .i64 m, .int .i64 c, .string o]] w (aM w (.tuple #[.string ⟨(mB ⟨wd,s,r,bi,t,B⟩ ⟨(k:Int),n,m,c,o⟩).toArray⟩, .int .i64 0])):=by
 have a4:As ⟨wd,s,r,bi,t,B⟩ ⟨(k:Int),n,m,c,o⟩:=by
  obtain⟨_,u,ae,be⟩:=pJ Z;simp only[Int.toNat_natCast]at ae;rw[hu]at ae;cases ae;exact pK be
 have aP:=BE hu;simp only at aP;have aC:Hid (r=true->m=(m.toNat:Int)/\m.toNat<=1073741824):=λh=>by
  have:=a4.n1 h;simp only at this;omega
 have ap:Hid (bi=true->c=(c.toNat:Int)/\c.toNat<=1073741824):=λh=>by
  have:=a4.i1 h;simp only at this;omega
 have M:Hid (enc k++(if s then aN (aQ n)else[])++(if r then enc m.toNat else[])++(if bi then enc c.toNat else[])++(if t then aN (aQ o)else[])=mB ⟨wd,s,r,bi,t,B⟩ ⟨(k:Int),n,m,c,o⟩):=by
  simp[Hid,mB]
 have a8:Hid (∀w',Fr Nothing w w'->Calls prog 115 #[.agg #[.int .i64 (k:Int), .string n, .int .i64 m, .int .i64 c, .string o]] w' (Checked w' ⟨(k:Int),n,m,c,o⟩)):=λw' f=>mg ⟨(k:Int),n,m,c,o⟩ w' (a3.ao f) (by simp only;omega) (by simp only;omega);have Q:Hid ((mB ⟨wd,s,r,bi,t,B⟩ ⟨(k:Int),n,m,c,o⟩).length<=50+n.size+o.size):=qB _ _;have aE:=af Z;have G:Hid (n.size<=16777216/\o.size<=16777216):=⟨bf,bg⟩;have bn:Hid (∀j v,(pT wd s r bi t B).toList[j]? =some v->w.cell? ⟨0,k*6+j,none⟩=some v):=a3.row k _ hu;have am:(k:Int)<21:=by omega
 have bA:k<21:=by omega
 have bB:(0:Int)<=(k:Int):=by omega
 clear a3 hu Z a4 aP bf bg;obtain⟨aZ,X⟩:∃L,enc k++(if s then aN (aQ n)else[])=L:=⟨_,rfl⟩;obtain⟨a0,H⟩:∃L,aZ++(if r then enc m.toNat else[])=L:=⟨_,rfl⟩;obtain⟨a1,I⟩:∃L,a0++(if bi then enc c.toNat else[])=L:=⟨_,rfl⟩;obtain⟨bb,J⟩:∃L,a1++(if t then aN (aQ o)else[])=L:=⟨_,rfl⟩;rw[X,H,I,J]at M;rw[<-M.out]at Q;rw[<-M.out];have av:=af X;have ax:=af H;have az:=af I;have aA:=af J;have N:Hid (aZ.length<=100000000/\a0.length<=100000000/\a1.length<=100000000/\bb.length<=100000000):=by
  have ae:=Q.out;have be:=G.out;rw[<-J,<-I,<-H]at ae;simp only[aT]at ae;simp only[Hid];rw[<-J,<-I,<-H];simp only[aT];omega
 clear X H I J M Q;go_enter func64,ntmps64;go_wp2_with(refine aD rfl 106 (.tmp 0) rfl (BF k n m c o) rfl ?_);intro w1 n1;have aV:=af n1.fr;have aO:=af n1.aF;clear n1;generalize w.heap.size=A at*;have U:Hid (aq w1 A 106 (BF k n m c o)):=aO.out;clear aO;go_wp2_with(refine aB rfl 106 (.tmp 1) rfl ⟨A,0,none⟩ rfl (aG.cells ⟨(k:Int),n,m,c,o⟩) _ ?zF underlying106 rfl aW (aX.go ?zH));case zF=>exactλj x aa=>by rw[Addr.add_mid,Nat.zero_add];exact U.out.cell j|>.trans (by rw[<-bP]at aa;exact aa)
 unfold aX;go_wp2_with fail;refine(a8.out _ aV.out).mono ?_;rintro e w2⟨q,rfl,a5,f2⟩;obtain rfl:q=0:=by
  rw[aE.out]at a5;exact beq_iff_eq.1 a5
 have a9:=af (aV.out.trans f2);have V:=af (U.out.fr f2 id);clear a5 f2 a8 aE U aV;go_upto_region 4 with fail;refine ay 6 Nothing [Is (.pointer (some ⟨A,0,none⟩)),Is (.int .i64 (k:Int)),Is (.pointer (some ⟨0,k*6,none⟩)),Is (.agg (pT wd s r bi t B)),(λa7 a6=>∃g,a7= .pointer (some ⟨g,0,none⟩)/\w2.heap.size<=g/\Wr a6 g (.slice none 0 0) [] 0),(λa7 a6=>∃g,a7= .pointer (some ⟨g,0,none⟩)/\w2.heap.size<=g/\aq a6 g 189 #[.string ByteArray.empty, .bool false, .bool false, .bool false, .bool false, .int .i64 0])] [] (λ_=>True) (λ_ _=>false) (by kernel_rfl) (by kernel_rfl) (by kernel_rfl) (by kernel_rfl) ⟨Is.ag _,Is.ag _,Is.ag _,Is.ag _,λ_ _ _ _ f h=>by obtain⟨g,e,l,b⟩:=h;exact⟨g,e,l,b.cJ f (λ_ _ x=>x)⟩,λ_ _ _ _ f h=>by obtain⟨g,e,l,b⟩:=h;exact⟨g,e,l,b.fr f id⟩,trivial⟩ trivial (λ_ _ _ _ h=>h) trivial ?_ ?_
 ·refine⟨?zG,?zA,?zB,?zC,?zD,?zE,trivial⟩;all_goals intro u w' d Y F am aR ab
  all_goals simp only[bC,bD,bE,bF,ar,Act.put,bG,bH,bI,Nat.reduceAdd,Nat.zero_add]
  case zA=>
   simp only[ah (F 0)];clear F am aR ab;refine aj ?_;have q:_=some (Value.int .i64 (k:Int)):=(V.out.fr Y id).cell 0;go_simp;exact⟨_,rfl,al⟩
  case' zB=>simp only[ah (F 1)]
  case zC=>
   simp only[ah (F 2)];clear F am aR ab;refine aj ?_;exact au _ _ rfl ⟨0,k*6,none⟩ rfl (pT wd s r bi t B).toList _ (λbt v bs=>by rw[Addr.add_mid];exact(a9.out.trans Y).ak (bn.out bt v bs) id) underlying189 rfl kB ⟨_,rfl,al⟩
  case zD=>
   clear F am aR ab;refine aj ?_;go_simp;refine(mj _).mono ?_;rintro e bu⟨rfl,hw,f4⟩;exact⟨_,rfl,f4.bR,⟨_,rfl,Y.size,hw⟩,trivial⟩
  case zE=>
   clear F am aR ab;refine aj ?_;refine lW 189 rfl GB xj #[.string ByteArray.empty, .bool false, .bool false, .bool false, .bool false, .int .i64 0] rfl ?_;intro bu n4;exact⟨_,rfl,n4.fr,⟨_,rfl,Y.size,n4.aF⟩,trivial⟩
  all_goals
   clear F am aR ab;refine aj ?_;go_simp;exact⟨_,rfl,al⟩
 ·intro u w' Y F ab;have aS:u 3=_:=F 3 (by omega);obtain⟨E,bh,lw,aI⟩:=F 4 (by omega);obtain⟨D,bj,bk,aH⟩:=F 5 (by omega);clear F ab;simp only[bC,bD,bE,bF,ar,Act.put,bG,bH,bI,dt,du,Nat.reduceAdd,Nat.zero_add,aS,bh,bj];have T:=af aI;have S:=af aH;have bc:Hid (w2.heap.size<=E/\w2.heap.size<=D):=⟨lw,bk⟩;have ba:=af Y;clear Y aS bh bj lw bk aI aH;refine ai rfl 189 (.tmp 5) _ rfl D (pT wd s r bi t B) rfl rfl _ _ S.out kB rfl (iE.one ⟨wd,s,r,bi,t,B⟩) ?_;intro y bd a2;have NE:Hid (E≠D):=dn T.out.aF S.out (by decide);have aJ:Hid (Wr y E (.slice none 0 0) [] 0):=T.out.cJ a2 (λx aa e=>by have bq:x=D:=e;have:=si aa;have:=NE.out;omega);have P:Hid (Fr Nothing w2 y):=ba.out.aw a2 (λi bx e=>by have bq:i=D:=e;have:=bc.out;omega);have a:Hid (WN w2 y E (.slice none 0 0) []):=⟨⟨y,dp.start aJ.out,P.out⟩,bc.out.1⟩;have K:Hid (aq y D 189 (pT wd s r bi t B)):=bd;have C:Hid (aq y A 106 (BF k n m c o)):=V.out.fr P.out id;clear a2 bd T S ba V aJ NE P;have bo:y.cell? ⟨A,0,none⟩=some (.int .i64 (k:Int)):=C.out.cell 0;go_wp2_with fail;refine(kf E _ _ 0 (k:Int) _ a.out.wr (by simp) (by omega)).mono ?_;rintro e an⟨rfl,aU,z⟩;rw[jl,List.nil_append]at z;have ST:Hid (NS w2 an E D A (pT wd s r bi t B) (BF k n m c o) (enc k)):=a.out.ns K.out C.out z;clear z bo a K C;generalize an=y at*;have ub:y.cell? ⟨D,1,none⟩=some (.bool s):=by obtain⟨_,_,h,_⟩:=ST.out;exact h.cell 1
  go_upto_if 24 with fail;clear ub;go_cut[1](λac ad=>ac= .pointer (some ⟨A,0,none⟩)/\NS w2 ad E D A (pT wd s r bi t B) (BF k n m c o) aZ);case first=>
   cases s;·go_wp2;go_meet;refine⟨rfl,?_⟩;have h:=ST.out;rw[<-av.out];simpa using h
   ·obtain⟨v,wn,ub,nb⟩:=ST.out;have a:=af wn;have K:=af ub;have C:=af nb;clear wn ub nb;have W:y.cell? ⟨A,1,none⟩=some (.string n):=C.out.cell 1;go_wp2_with fail;refine(mH E v _ 0 n _ a.out.wr (by have:=aY k;omega) (by have:=G.out;omega)).mono ?_;rintro e an⟨rfl,aU,z⟩;rw[jm _ _ (by have:=G.out;omega)]at z;have h:=a.out.ns K.out C.out z;have R:=af h;clear z h W;go_wp2;go_meet;refine⟨rfl,?_⟩;have h:=R.out;rw[<-av.out];simpa[aN,aL]using h
  case rest=>
   obtain⟨rfl,p⟩:=hcut;clear ST;have ST:=af p;clear p;generalize wc=y at*;have ub:y.cell? ⟨D,2,none⟩=some (.bool r):=by obtain⟨_,_,h,_⟩:=ST.out;exact h.cell 2
   go_upto_if 30 with fail;clear ub;go_cut[1](λac ad=>ac= .pointer (some ⟨A,0,none⟩)/\NS w2 ad E D A (pT wd s r bi t B) (BF k n m c o) a0);case first=>
    cases r;·go_wp2;go_meet;refine⟨rfl,?_⟩;have h:=ST.out;rw[<-ax.out];simpa using h
    ·obtain⟨v,wn,ub,nb⟩:=ST.out;have a:=af wn;have K:=af ub;have C:=af nb;clear wn ub nb;have W:y.cell? ⟨A,2,none⟩=some (.int .i64 m):=C.out.cell 2;go_wp2_with fail;refine(kf E v _ 0 m _ a.out.wr (by have:=N.out;omega) (by have:=aC.out (by first|rfl|trivial);omega)).mono ?_;rintro e an⟨rfl,aU,z⟩;rw[(aC.out (by first|rfl|trivial)).1,jl]at z;have h:=a.out.ns K.out C.out z;have R:=af h;clear z h W;go_wp2;go_meet;refine⟨rfl,?_⟩;have h:=R.out;rw[<-ax.out];simpa[aN,aL]using h
   case rest=>
    obtain⟨rfl,p⟩:=hcut;clear ST;have ST:=af p;clear p;generalize wc=y at*;have ub:y.cell? ⟨D,3,none⟩=some (.bool bi):=by obtain⟨_,_,h,_⟩:=ST.out;exact h.cell 3
    go_upto_if 36 with fail;clear ub;go_cut[1](λac ad=>ac= .pointer (some ⟨A,0,none⟩)/\NS w2 ad E D A (pT wd s r bi t B) (BF k n m c o) a1);case first=>
     cases bi;·go_wp2;go_meet;refine⟨rfl,?_⟩;have h:=ST.out;rw[<-az.out];simpa using h
     ·obtain⟨v,wn,ub,nb⟩:=ST.out;have a:=af wn;have K:=af ub;have C:=af nb;clear wn ub nb;have W:y.cell? ⟨A,3,none⟩=some (.int .i64 c):=C.out.cell 3;go_wp2_with fail;refine(kf E v _ 0 c _ a.out.wr (by have:=N.out;omega) (by have:=ap.out (by first|rfl|trivial);omega)).mono ?_;rintro e an⟨rfl,aU,z⟩;rw[(ap.out (by first|rfl|trivial)).1,jl]at z;have h:=a.out.ns K.out C.out z;have R:=af h;clear z h W;go_wp2;go_meet;refine⟨rfl,?_⟩;have h:=R.out;rw[<-az.out];simpa[aN,aL]using h
    case rest=>
     obtain⟨rfl,p⟩:=hcut;clear ST;have ST:=af p;clear p;generalize wc=y at*;have ub:y.cell? ⟨D,4,none⟩=some (.bool t):=by obtain⟨_,_,h,_⟩:=ST.out;exact h.cell 4
     go_upto_if 42 with fail;clear ub;go_cut[1](λac ad=>ac= .pointer (some ⟨A,0,none⟩)/\NS w2 ad E D A (pT wd s r bi t B) (BF k n m c o) bb);case first=>
      cases t;·go_wp2;go_meet;refine⟨rfl,?_⟩;have h:=ST.out;rw[<-aA.out];simpa using h
      ·obtain⟨v,wn,ub,nb⟩:=ST.out;have a:=af wn;have K:=af ub;have C:=af nb;clear wn ub nb;have W:y.cell? ⟨A,4,none⟩=some (.string o):=C.out.cell 4;go_wp2_with fail;refine(mH E v _ 0 o _ a.out.wr (by have:=N.out;omega) (by have:=G.out;omega)).mono ?_;rintro e an⟨rfl,aU,z⟩;rw[jm _ _ (by have:=G.out;omega)]at z;have h:=a.out.ns K.out C.out z;have R:=af h;clear z h W;go_wp2;go_meet;refine⟨rfl,?_⟩;have h:=R.out;rw[<-aA.out];simpa[aN,aL]using h
     case rest=>
      obtain⟨rfl,p⟩:=hcut;clear ST;have ST:=af p;clear p;generalize wc=y at*;obtain⟨v,wn,ub,nb⟩:=ST.out;have a:=af wn;clear wn ub nb ST;go_wp2_with fail;refine(ng E _ _ _ _ a.out.wr (by have:=N.out;omega)).mono ?_;rintro e bv⟨_,aa⟩;obtain⟨bK,rfl,O⟩:=aa rfl;obtain⟨bw,bJ,bp,rfl,bm,_⟩:=aK O.own;have br:=kL bv _ _ _ bp _ (oP.rd O.own bm.out);have bl:=af ((a9.out.trans a.out.fr).trans O.ao);clear O aa;go_wp2;go_ret2;exact⟨rfl,bl.out⟩
theorem xP(n:aG)(w:World)(h:dO w)(b:n.owner.size<=16777216)(c:n.text.size<=16777216)(a:da n=true):
  Calls prog 64 #[.agg n.cells.toArray] w (aM w (.tuple #[.string ⟨(bZ n).toArray⟩, .int .i64 0])):=by
 obtain⟨i,u,hu,_⟩:=pJ a;rw[sX hu];obtain⟨d,o,m,j,p⟩:=n;obtain⟨wd,f,e,bi,g,l⟩:=u;simp only at b c i hu;obtain⟨k,rfl⟩:∃k:Nat,d=(k:Int):=⟨d.toNat,by omega⟩;rw[Int.toNat_natCast]at hu;exact GQ k o m j p wd f e bi g l w h (by omega) hu b c a
end Go.Proofs.YtphjagkehiklkaaGreatDoor
namespace Go.Proofs.YtphjagkehiklkaaGreatDoor
open Proofs.Tryz Go.RowKit Go.Shelf
attribute[local go_sem]Oper.semAt_some
abbrev lK(w:World)(P:Nd->Prop):={x:Nd//mi w x/\P x}
def zJ{w:World}{P:Nd->Prop}(x:lK w P):Array Value:=#[.pointer (some ⟨x.1.g,0,none⟩)]
def yv{w:World}{P:Nd->Prop}(x:lK w P):aG×ByteArray:=(x.1.nm,x.1.v)
def Jf(w:World)(P:Nd->Prop)(b a:List (lK w P)->World->Prop)(pre xs:List (lK w P))(e:Ending)(W':World):Prop:=
 (e= .returned (.bool true)/\b (pre++xs) W'/\KN w W')\/(e= .returned (.bool false)/\∃q,q<+:xs/\a (pre++q) W')
inductive nI(w:World)(P:Nd->Prop):Option Addr->Tr->List (lK w P)->Prop where
 |leaf:nI w P none .leaf []
 |node{l r:Tr}{nm:aG}{v:ByteArray}{g:Nat}{a ra:Option Addr}{L f:List (lK w P)}(c:nI w P a l L)(d:nI w P ra r f)
   (b:aq w g 177 (oB a ra (.node l nm v r)).toArray)(x:lK w P)(e:x.1=⟨g,nm,v⟩):nI w P (some ⟨g,0,none⟩) (.node l nm v r) (L++x::f)
theorem nI.of{w:World}{P:Nd->Prop}:∀{a:Option Addr}{t:Tr},ck w a t->(∀g e,e∈t.bM->P ⟨g,e.1,e.2⟩)->∃L,nI w P a t L
 |_, .leaf,h,_=>by
  obtain rfl:_=none:=h;exact⟨[], .leaf⟩
 |_, .node l nm v r,⟨g,k,ra,e,d,f,c⟩,b=>by
  subst e;obtain⟨L,i⟩:=nI.of d (λg e he=>b g e (by rw[Tr.bM];simp[he]));obtain⟨m,j⟩:=nI.of f (λg e he=>b g e (by rw[Tr.bM];simp[he]));exact⟨_, .node i j c ⟨⟨g,nm,v⟩,⟨_,_,_,_,_,c⟩,b g (nm,v) (by rw[Tr.bM];simp)⟩ rfl⟩
theorem nI.bM{w:World}{P:Nd->Prop}{a:Option Addr}{t:Tr}{L:List (lK w P)}(h:nI w P a t L):L.map yv=t.bM:=by
 induction h with
 |leaf=>rfl
 |node _ _ _ x d b c=>
  rw[List.map_append,List.map_cons,b,c,Tr.bM];simp only[yv,d]
theorem Ht(l N:Nat)(w:World)(P:Nd->Prop)(J p:List (lK w P)->World->Prop)
  (hY:∀m pre x W,J pre W->KN w W->pre.length<N->YieldAt Fence.wide m prog l (zJ x) W λe W'=>(e= .returned (.bool true)/\J (pre++[x]) W'/\KN W W')\/(e= .returned (.bool false)/\p (pre++[x]) W'))
  {a:Option Addr}{t:Tr}{L:List (lK w P)}(h:nI w P a t L):
  ∀(m:Nat)(pre:List (lK w P))(W:World),J pre W->KN w W->pre.length+L.length<=N->
   CallsIn Fence.wide m prog 170 #[.pointer a, .func (.yield l) #[] #[]] W (Jf w P J p pre L):=by
 induction h with
 |leaf=>
  intro m pre W r i _;refine callsIn_of_wp func170 rfl trivial ?_ rfl;simp only[ntmps170,List.size_toArray,List.length_cons,List.length_nil,Nat.reduceAdd,Nat.reduceSub,Array.replicate_succ,Array.replicate_zero,List.push_toArray,List.append_toArray,List.nil_append,List.cons_append];gi_wp2_with(refine fU rfl ?_);go_ret;exact .inl ⟨rfl,by simpa using r,i⟩
 |@node ad ae nm v g Y ra L R aa ab I x X C D=>
  intro m pre W r i hN;have d:∀k:Nat,(Fence.wide.depth.isSome=true->1<=k):=λk h=>by cases h
  rw[aT,List.length_cons]at hN;have n:zJ x=#[Value.pointer (some ⟨g,0,none⟩)]:=by rw[zJ,X]
  have y:∀b,J (pre++L) b->KN w b->YieldAt Fence.wide (m-1) prog l #[.pointer (some ⟨g,0,none⟩)] b λe c=>
    (e= .returned (.bool true)/\J (pre++L++[x]) c/\KN b c)\/(e= .returned (.bool false)/\p (pre++L++[x]) c):=λb F H=>by
   have:=hY (m-1) (pre++L) x b F H (by simp;omega);rw[n]at this;exact this
  have A:=af ((C (m-1) pre W r i (by omega)).mono (R':=λe b=>
    (e= .returned (.bool true)/\KN w b/\YieldAt Fence.wide (m-1) prog l #[.pointer (some ⟨g,0,none⟩)] b λe c=>
     (e= .returned (.bool true)/\J (pre++L++[x]) c/\KN b c)\/(e= .returned (.bool false)/\p (pre++L++[x]) c))\/
    (e= .returned (.bool false)/\∃q,q<+:L/\p (pre++q) b))
   (λe b h=>h.elim (λ⟨he,V,j⟩=> .inl ⟨he,j,y b V j⟩) .inr));have B:=af (λW r i=>D (m-1) (pre++L++[x]) W r i (by simp;omega));have T:W.cell? ⟨g,0,none⟩=some (.pointer Y):=(i _ _ I).cell 0;have HB:=af I;clear y C D hY hN I n;refine callsIn_of_wp func170 rfl trivial ?_ rfl;simp only[ntmps170,List.size_toArray,List.length_cons,List.length_nil,Nat.reduceAdd,Nat.reduceSub,Array.replicate_succ,Array.replicate_zero,List.push_toArray,List.append_toArray,List.nil_append,List.cons_append];gi_wp2_with((try refine⟨trivial,d _,?_⟩);gi_at_call 170;refine A.out.mono ?_;clear A;rintro e b(⟨rfl,f,fn,tmps,assign,body,ac,Q⟩|⟨rfl,q,n,K⟩))
  ·have o:=af f;have U:b.cell? ⟨g,1,none⟩=some (.pointer ra):=(f _ _ HB.out).cell 1;clear f T;refine⟨d _,?_⟩;refine Q.mono ?_;clear Q;rintro e c(⟨rfl,s,u⟩|⟨rfl,M⟩)
   ·have j:=o.out.trans u;have S:=af j;have E:=af s;have U:c.cell? ⟨g,1,none⟩=some (.pointer ra):=(j _ _ HB.out).cell 1;clear j u s o;gi_wp2_with((try refine⟨trivial,d _,?_⟩);gi_at_call 170;refine(B.out _ E.out S.out).mono ?_;clear B;rintro e Z(⟨rfl,G,hk3⟩|⟨rfl,q,n,O⟩));·go_ret;exact .inl ⟨rfl,by simpa[List.append_assoc]using G,hk3⟩
    ·go_ret;exact .inr ⟨rfl,L++x::q,by
      obtain⟨z,rfl⟩:=n;exact⟨z,by simp⟩,by simpa[List.append_assoc]using O⟩
   ·gi_wp2_with(refine fU rfl ?_);go_ret;exact .inr ⟨rfl,L++[x],by exact⟨R,by simp⟩,by simpa[List.append_assoc]using M⟩
  ·refine⟨λ_ h=>(by cases h),?_⟩;gi_wp2_with(refine fU rfl ?_);go_ret;exact .inr ⟨rfl,q,n.trans (List.prefix_append _ _),K⟩
theorem xv(m B s:Nat)(a:Option Addr)(t:Tr)(w:World)(P:Nd->Prop)(L:List (lK w P))(r:nI w P a t L)(f:aq w B 25 #[.pointer (some ⟨s,0,none⟩)])(i:aq w s 174 #[.pointer a]):
  SeqStopsK Fence.wide m prog 169 #[.pointer (some ⟨B,0,none⟩)] (λx:lK w P=>#[Value.pointer (some ⟨x.1.g,0,none⟩)]) KN (λC=>C=L) (λpre=>pre<+:L) L.length w:=by
 intro l G n W c _ _ u o;have d:∀k:Nat,(Fence.wide.depth.isSome=true->1<=k):=λk h=>by cases h
 have j:=Ht l L.length w P G n (λm pre x W v _ y=>YieldAt.jM rfl m (u pre x W v y)) r (m-1) [] W o (KN.below c) (by simp);have E:W.cell? ⟨B,0,none⟩=some (.pointer (some ⟨s,0,none⟩)):=(c.cell (p:=⟨B,0,none⟩) f.lt).trans (f.cell 0);have F:W.cell? ⟨s,0,none⟩=some (.pointer a):=(c.cell (p:=⟨s,0,none⟩) i.lt).trans (i.cell 0);refine callsIn_of_wp func169 rfl trivial ?_ rfl;simp only[ntmps169,List.size_toArray,List.length_cons,List.length_nil,Nat.reduceAdd,Nat.reduceSub,Array.replicate_succ,Array.replicate_zero,List.push_toArray,List.append_toArray,List.nil_append,List.cons_append];gi_wp2_with((try refine⟨trivial,d _,?_⟩);gi_at_call 170;refine j.mono ?_;clear j;rintro e D(⟨rfl,b,_⟩|⟨rfl,q,z,A⟩));·go_end0;exact⟨⟨_,rfl⟩, .inl ⟨_,rfl,by simpa using b⟩⟩
 ·go_end0;exact⟨⟨_,rfl⟩, .inr ⟨q,z,by simpa using A⟩⟩
end Go.Proofs.YtphjagkehiklkaaGreatDoor
namespace Go.Proofs.YtphjagkehiklkaaGreatDoor
open Proofs.Tryz Go.RowKit Go.Shelf
attribute[local go_sem]Oper.semAt_some
theorem LU:(prog.info? 113).map (·.size)=some 1:=by kernel_rfl
theorem Nv(w:World):(zeroValue 113).run prog w= .ok (.pointer none) w:=by kernel_rfl
structure At{α:Type}(b w3:World)(g2 a:Nat)(lw:List α->List UInt8)(pre:List α)(W:World):Prop where
 fr:Fr Nothing b W
 kn:KN w3 W
 box:aq W g2 113 #[.pointer (some ⟨a,0,none⟩)]
 wr:∃v,Wr W a v (lw pre) 0/\∀k,v.ownBlock=some k->b.heap.size<=k
theorem qa{X:World}{g k:Nat}{t:TypeId}{cs:Array Value}{d:Obj}(a:aq X g t cs)(b:X.heap[k]? =some d)(c:d.isCells=false):g≠k:=by
 rintro rfl;unfold aq at a;rw[a]at b;cases b;simp[Obj.isCells]at c
theorem nz{X:World}{e:TypeId}{sz n k:Nat}{v:Value}{xs:List Value}{i:Obj}(h:X.ownsRow 0 e sz v n xs)(b:X.heap[k]? =some i)(d:i.isCells=false):v.ownBlock≠some k:=by
 intro g;obtain⟨c,f,a⟩:=cT h g;rw[a]at b;cases b;simp[Obj.isCells]at d
theorem At.jb{α:Type}{j w3:World}{g2 l B:Nat}{lw:List α->List UInt8}(p:j.heap.size<=B):OwnFrom B (At j w3 g2 l lw):=by
 intro pre X Y row h n f;have d:Fr (λk=>some k=row) X Y:=Fr.grown n;obtain⟨v,hw,o⟩:=h.wr;refine⟨h.fr.aw d (λi q e=>(by have:=(f i e.symm).1;omega)),h.kn.trans (KN.fr d (λg cs m e=>?_)),h.box.fr d (λe=>?_),⟨v,hw.cJ d (λk c e=>?_),o⟩⟩;·obtain⟨_,r,b,a⟩:=f g e.symm;exact qa m b a rfl
 ·obtain⟨_,r,b,a⟩:=f g2 e.symm;exact qa h.box b a rfl
 ·obtain⟨_,r,b,a⟩:=f k e.symm;rcases c with c|c;·exact qa hw.aF b a c.symm
  ·exact nz hw.own b a c
theorem At.step{α:Type}{e w3 W j X:World}{g2 b B:Nat}{lw:List α->List UInt8}{pre a:List α}{v v3:Value}(c:At e w3 g2 b lw pre W)(o:e.heap.size<=b)
  (hw:Wr W b v (lw pre) 0)(n:∀k,v.ownBlock=some k->e.heap.size<=k)(f:Fr Nothing W j)(st:dp j b v X v3 (lw a,0)):KeepsFrom B W X/\KN W X/\At e w3 g2 b lw a X:=by
 have F:Fr (Li b v) W X:=f.bR.trans st.fr;have K:KN W X:=KN.fr F (λg cs l h=>by
  rcases h with h|h;·exact dn l hw.aF (by decide) h
  ·exact bO hw.own l (by decide) h);refine⟨⟨F.size,λk r _ d m=>?_⟩,K,?_,c.kn.trans K,c.box.fr F (λh=>?_),⟨v3,st.wr,λk p=>?_⟩⟩
 ·refine(F.block k (Array.getElem?_eq_some_iff.1 d).1 ?_).trans d;rintro(h|h);·exact qa hw.aF d m h.symm
  ·exact nz hw.own d m h
 ·refine c.fr.aw F (λi q h=>?_);rcases h with h|h;·omega
  ·have:=n i h;omega
 ·rcases h with h|h;·exact dn c.box hw.aF (by decide) h
  ·exact bO hw.own c.box (by decide) h
 ·rcases st.eL k p with h|h;·exact n k h
  ·have:=c.fr.size;have:=f.size;omega
def Dl(LE:List Ent)(x:Nd):Prop:=(x.nm,x.v)∈LE
def mu{w:World}{P:Nd->Prop}(n:Nat)(a:List (lK w P)):List UInt8:=enc n++(a.map yv).flatMap jy
theorem vN{w:World}{P:Nd->Prop}(n:Nat)(a:List (lK w P))(y:lK w P):mu n (a++[y])=mu n a++aN (bZ y.1.nm)++aN (aQ y.1.v):=by
 simp[mu,jy,yv,List.flatMap_append,List.append_assoc]
theorem xe(s:ByteArray):enc s.size++aQ s=aN (aQ s):=by rw[aN,aL]
theorem IT(l:List UInt8):enc (⟨l.toArray⟩:ByteArray).size++aQ ⟨l.toArray⟩=aN l:=by
 rw[<-aL];rfl
structure pZ(L:List Ent):Prop where
 ok:∀x∈L,da x.1=true
 owner:∀x∈L,x.1.owner.size<=1048576
 text:∀x∈L,x.1.text.size<=1048576
 value:∀x∈L,x.2.size<=1048576
 len:L.length<=60000
theorem ov:∀(L:List Ent),(∀x∈L,x.1.owner.size<=1048576)->(∀x∈L,x.1.text.size<=1048576)->(∀x∈L,x.2.size<=1048576)->(L.flatMap jy).length<=L.length*4000000
 |[],_,_,_=>by simp
 |x::L,b,c,d=>by
  have e:=ov L (λy a=>b y (by simp[a])) (λy a=>c y (by simp[a])) (λy a=>d y (by simp[a]));have f:=b x (by simp);have a2:=c x (by simp);have a3:=d x (by simp);have b1:=eS x.1;have b2:=aY (bZ x.1).length;have b3:=aY (aQ x.2).length;have b4:=aL x.2;simp only[List.flatMap_cons,jy,aN,aT,List.length_cons]at e⊢;omega
theorem JI{w:World}{P:Nd->Prop}(n:Nat)(b:List (lK w P))(c:∀y:lK w P,y.1.nm.owner.size<=1048576)(d:∀y:lK w P,y.1.nm.text.size<=1048576)(e:∀y:lK w P,y.1.v.size<=1048576):(mu n b).length<=10+b.length*4000000:=by
 have h:=ov (b.map yv) (λx a=>by obtain⟨y,_,rfl⟩:=List.mem_map.1 a;exact c y) (λx a=>by obtain⟨y,_,rfl⟩:=List.mem_map.1 a;exact d y) (λx a=>by obtain⟨y,_,rfl⟩:=List.mem_map.1 a;exact e y);have f:=aY n;rw[List.length_map]at h;simp only[mu,aT];omega
def mh(w:World)(l:List UInt8)(e:Ending)(w':World):Prop:=∃v,e= .returned v/\fO w (.slice none 0 0) w' v l
theorem sC(LE:List Ent)(s:Nat)(w:World)(bo:dQ w s LE)(bU:dO w)(aa:pZ LE):Calls prog 102 #[.pointer (some ⟨s,0,none⟩)] w (mh w (cq LE)):=by
  obtain⟨t,aE,het⟩:=bo;have aU:t.size=LE.length:=by rw[<-t.cj,het]
  have b6:=af (λw=>oC (some ⟨s,0,none⟩) w);have z:=af aa;have ak:=af het;have cd:=af aU;have cc:=af bU;have bw:=af aE;have au:Hid ((cq LE).length<=250000000000):=by
    have a6:=ov LE aa.owner aa.text aa.value;have a7:=aY LE.length;have bT:=aa.len;simp only[Hid,cq,aT];omega
  clear aE het aU aa bU;refine(callsIn_wide (n:=6)).1 (callsIn_of_wp_marks func102 rfl trivial (wpIn_wide.2 ?_) rfl);simp only[ntmps102,List.size_toArray,List.length_cons,List.length_nil,Nat.reduceAdd,Nat.reduceSub,Array.replicate_succ,Array.replicate_zero,List.push_toArray,List.append_toArray,List.nil_append,List.cons_append];go_wp2_with fail;refine(mj _).mono ?_;rintro r w1⟨rfl,aR,f1⟩;have ap:Sz w w.heap.size:=Nat.le_refl _;generalize w.heap.size=a at*;have bK:=af aR;have bb:=af f1;clear aR f1;go_wp2_with(refine an rfl 113 rfl (.pointer none) Nv #[.pointer none] rfl ?_);intro w2 b4;have bj:=af b4;clear b4;have b9:Sz w w1.heap.size:=bb.out.size;generalize aG:w1.heap.size=g2 at*;have am:=af aG;clear aG;have br:Hid (aq w2 g2 113 #[.pointer none]):=by have h:=bj.out.aF;rw[am.out]at h;exact h
  go_wp2_with(refine bW rfl 113 (.tmp 3) _ rfl g2 (.pointer (some ⟨a,0,none⟩)) rfl rfl rfl _ _ br.out LU ?_);intro w3 b3 f3;have S:Hid (Fr Nothing w1 w3):=bj.out.fr.aw f3 (λi bX e=>by have a5:i=g2:=e;have:=am.out;omega);have bc:=af (bb.out.trans S.out);have a9:=af b3;have bL:Hid (Wr w3 a (.slice none 0 0) [] 0):=bK.out.cJ S.out (λ_ _ x=>x);clear b3 f3 bj br bK bb S;have CL:Hid (∀w',Fr Nothing w3 w'->Calls prog 94 #[.pointer (some ⟨s,0,none⟩)] w' (bJ w' (.int .i64 (LE.length:Int)))):=λw' f=>by
    rw[<-cd.out];exact oZ w' s t (bw.out.ao (bc.out.trans f))
  go_upto_region 4 with fail;refine ay 3 Nothing [Is (.pointer (some ⟨a,0,none⟩)),Is (.pointer (some ⟨s,0,none⟩)),Is (.int .i64 (LE.length:Int))] [] (λ_=>True) (λ_ _=>false) (by kernel_rfl) (by kernel_rfl) (by kernel_rfl) (by kernel_rfl) ⟨Is.ag _,Is.ag _,Is.ag _,trivial⟩ trivial (λ_ _ _ _ h=>h) trivial ?_ ?_
  · refine⟨?zA,?zG,?zB,trivial⟩;all_goals intro u w' d hf b X B G
    all_goals simp only[bC,bD,bE,bF,ar,Act.put,bG,bH,bI,Nat.reduceAdd,Nat.zero_add]
    case zA=>
      clear b X B G;refine aj ?_;have q:_=some (Value.pointer (some ⟨a,0,none⟩)):=(a9.out.fr hf id).cell 0;go_simp;exact⟨_,rfl,al⟩
    case zB=>
      simp only[ah (b 1)];clear b X B G;refine aj ?_;go_simp;refine(CL.out _ hf).mono ?_;rintro e cv⟨rfl,rfl⟩;exact⟨_,rfl,al⟩
    all_goals
      clear b X B G;refine aj ?_;go_simp;exact⟨_,rfl,al⟩
  · intro u w' hf b G;have B:u 0=_:=b 0 (by omega);have b0:u 2=_:=b 2 (by omega);clear b G;simp only[bC,bD,bE,bF,ar,Act.put,bG,bH,bI,dt,du,Nat.reduceAdd,Nat.zero_add,B,b0];have bl:Hid (Wr w' a (.slice none 0 0) [] 0):=bL.out.cJ hf (λ_ _ x=>x);have ba:=af (a9.out.fr hf id);have bd:=af (bc.out.trans hf);have av:Hid (LE.length<=60000):=z.out.len;clear hf B b0 CL bL a9 bc;generalize w'=cv at*;go_wp2_with fail;refine(kf a _ _ 0 (LE.length:Int) _ bl.out (by simp) (by have:=av.out;omega)).mono ?_;rintro e bq⟨rfl,v5,C⟩;rw[jl,List.nil_append]at C;have ad:Hid (Fr Nothing w bq):=bd.out.aw C.fr (λi bX e=>by have a5:=si e;have:=ap;unfold Sz at this;omega);have bs:Hid (aq bq g2 113 #[.pointer (some ⟨a,0,none⟩)]):=ba.out.fr C.fr (λe=>dn ba.out bl.out.aF (by decide) (si e));have bN:=af C.wr;have bx:Hid (∀k,v5.ownBlock=some k->w.heap.size<=k):=λk aH=>by
      rcases C.eL k aH with h|h;· simp[Value.ownBlock]at h
      · have:=bd.out.size;omega
    clear C bd ba bl;go_wp2_with fail;refine(b6.out _).mono ?_;rintro r Z⟨rfl,f6,bS⟩;have aZ:=af (ad.out.trans f6);have b5:=af (bs.out.fr f6 id);have ck:Hid (Wr Z a v5 (enc LE.length) 0):=bN.out.cJ f6 (λ_ _ x=>x);have b7:=af bS;have ch:Hid (∀k,v5.ownBlock=some k->w.heap.size<=k):=bx.out;clear f6 bS ad bs bN bx;generalize bq.heap.size=gs at*;obtain⟨a3,aO,aJ⟩:=bw.out.ao aZ.out;obtain⟨L,bn⟩:=nI.of (P:=Dl LE) aJ (λg e he=>by unfold Dl;rw[<-ak.out];exact he);have bz:Hid (L.map yv=LE):=bn.bM.trans ak.out;have ci:Hid (L.length=LE.length):=by simp only[Hid];have h:=congrArg List.length bz.out;simpa using h
    have cb:=af bn;have bg:=af aO;clear aO aJ bn;go_wp2_with fail;refine(wpIn_wide (n:=6)).1 ?_;refine wpIn_rangeFunc_ownG rfl (by omega) (gf:=169) (lb:=#[.pointer (some ⟨gs,0,none⟩)]) rfl trivial (enters_of func169 (by kernel_rfl) rfl)
      (xv 5 gs s a3 t Z (Dl LE) L cb.out b7.out bg.out) (λh k=>h.trans k) (λW l o cu _ cr cp _=>KN.put W l o cu cr cp) (Below.refl _ _) (λ_=>rfl)
      (At w Z g2 a (λcw:List (lK Z (Dl LE))=>mu LE.length cw)) (λ_ _ _=>False) (At.jb aZ.out.size) (λ_ _ _ _ _ h _ _=>h.elim)
      ⟨aZ.out,KN.refl _,b5.out,v5,by simpa[mu]using ck.out,ch.out⟩ ?zJ ?assign ?body ?done ?stop;case assign=>
      intro l x W K aD;gi_wp2;exact aD
    case body=>
      rintro b2 pre x W a8 aI;have bv:=af a8;have ca:=af aI;obtain⟨V,R,m,⟨v,F,c⟩⟩:=a8;have b8:=af V;have ax:=af F;have bf:=af c;have be:=af m;have a1:=af (x.2.1.kn R).kF;have H:Hid ((x.1.nm,x.1.v)∈LE):=x.2.2;have A:=af (vN LE.length pre x);have J:Hid ((mu LE.length (pre++[x])).length<=250000000000+3000000):=by
        have a6:=z.out.owner _ H.out;have a7:=z.out.text _ H.out;have bT:=z.out.value _ H.out;have co:=eS x.1.nm;have cA:=aY (bZ x.1.nm).length;have cB:=aY (aQ x.1.v).length;have cC:=aL x.1.v;have cE:=JI LE.length pre (λy=>z.out.owner _ y.2.2) (λy=>z.out.text _ y.2.2) (λy=>z.out.value _ y.2.2);have cF:=ca.out;have cm:=ci.out;have cn:=av.out;simp only at a6 a7 bT;simp only[Hid];rw[vN];simp only[aN,aT];omega
      have bA:Hid (dO W):=cc.out.ao V;obtain⟨y,bp⟩:∃y:lK Z (Dl LE),y=x:=⟨x,rfl⟩;have bh:=af bp;rw[<-bp]at A J;obtain⟨⟨U,p,ab⟩,aS,bY⟩:=x;rw[bh.out]at A J;simp only at a1 H A⊢;have bt:Hid (Calls prog 64 #[.agg p.cells.toArray] W (aM W (.tuple #[.string ⟨(bZ p).toArray⟩, .int .i64 0]))):=xP p W bA.out (by have:=z.out.owner _ H.out;simp only at this;omega) (by have:=z.out.text _ H.out;simp only at this;omega) (z.out.ok _ H.out);have bB:Hid (ab.size<=1048576):=z.out.value _ H.out;have aA:Hid ((bZ p).length<=3000000):=by
        have a6:=z.out.owner _ H.out;have a7:=z.out.text _ H.out;have co:=eS p;simp only at a6 a7;simp only[Hid];omega
      clear V R m F c bp bA aI;gi_wp2_with(refine cD (ln 106) rfl (by kernel_rfl) ?_);refine aB rfl 106 (.tmp 22) rfl ⟨U,2,none⟩ rfl p.cells _ ?zI underlying106 rfl aW (aX.go ?hold);case zI=>exactλj v ct=>by rw[Addr.add_mid];exact a1.out.name j v ct
      unfold aX;go_wp2_with fail;refine bt.out.mono ?_;rintro e a4⟨rfl,f1⟩;have E:Hid (Wr a4 a v (mu LE.length pre) 0):=ax.out.cJ f1 (λ_ _ x=>x);have I:=af (be.out.fr f1 id);have bi:=af (a1.out.ao f1);have ae:=af f1;clear f1 bt;go_wp2;show Code.wpIn (Fence.wide.inRound b2) (6-1-1) prog _ _ _ _;have O:a4.cell? ⟨g2,0,none⟩=some (.pointer (some ⟨a,0,none⟩)):=I.out.cell 0;gi_wp2_with(refine cD (ln 113) rfl (by kernel_rfl) ?_);have M:Hid ((mu LE.length pre).length<=260000000000):=by
        have h:=J.out;rw[A.out]at h;simp only[aT]at h;simp only[Hid];omega
      go_wp2_with fail;refine(mH a v _ 0 ⟨(bZ p).toArray⟩ _ E.out (by have:=M.out;omega) (by have:=aA.out;rw[<-aL];exact Nat.le_trans this (by decide))).mono ?_;rintro e bQ⟨rfl,v2,st2⟩
      rw[jm _ _ (by have h:=aA.out;have e:(⟨(bZ p).toArray⟩:ByteArray).size=(bZ p).length:=by rw[<-aL];rfl
                    omega),IT]at st2;have N:=af st2;have ac:Hid (aq bQ g2 113 #[.pointer (some ⟨a,0,none⟩)]):=I.out.fr st2.fr (λh=>by
        rcases h with h|h;· exact dn I.out E.out.aF (by decide) h
        · exact bO E.out.own I.out (by decide) h);have az:Hid (Mid bQ U p ab):=((⟨⟨U,p,ab⟩,aS,bY⟩:lK Z (Dl LE)).2.1.kn ((bv.out.kn.trans (KN.fr ae.out (λ_ _ _ x=>x))).trans (KN.fr st2.fr (λg cs bV h=>by
        rcases h with h|h;· exact dn bV E.out.aF (by decide) h
        · exact bO E.out.own bV (by decide) h)))).kF;clear st2 O a1 bi M;go_wp2;show Code.wpIn (Fence.wide.inRound b2) (6-1-1) prog _ _ _ _;gi_wp2;refine pV 5 Nothing [Is (.pointer (some ⟨a,0,none⟩)),Is (.pointer (some ⟨U,0,none⟩)),Is (.pointer (some ⟨U,0,none⟩)),Is (.pointer (some ⟨U,7,none⟩)),Is (.string ab)] [] (λ_=>True) (λ_ _=>false) (by kernel_rfl) (by kernel_rfl) (by kernel_rfl) (by kernel_rfl) (by kernel_rfl) ⟨Is.ag _,Is.ag _,Is.ag _,Is.ag _,Is.ag _,trivial⟩ trivial (λ_ _ _ _ h=>h) trivial ?_ ?_
      · refine⟨?zC,?zH,?zD,?zE,?zF,trivial⟩;all_goals intro u w' d hf b X B G
        all_goals simp only[bC,bD,bE,bF,ar,Act.put,bG,bH,bI,Nat.reduceAdd,Nat.zero_add]
        case zC=>
          clear b X B G;refine aj ?_;have q:_=some (Value.pointer (some ⟨a,0,none⟩)):=(ac.out.fr hf id).cell 0;go_simp;exact⟨_,rfl,al⟩
        case' zD=>simp only[ah (b 1)]
        case' zE=>simp only[ah (b 2)]
        case zF=>
          simp only[ah (b 3)];clear b X B G;refine aj ?_;have q:=(az.out.ao hf).val;go_simp;exact⟨_,rfl,al⟩
        all_goals
          clear b X B G;refine aj ?_;go_simp;exact⟨_,rfl,al⟩
      · intro u w' hf b G;have B:u 0=_:=b 0 (by omega);have b1:u 4=_:=b 4 (by omega);clear b G;simp only[bC,bD,bE,bF,ar,Act.put,bG,bH,bI,dt,du,Nat.reduceAdd,Nat.zero_add,B,b1];have aC:Hid (dp a4 a v w' v2 (mu LE.length pre++aN (bZ p),0)):=⟨N.out.wr.cJ hf (λ_ _ x=>x),N.out.fr.trans hf.bR,N.out.eL⟩;have M:Hid ((mu LE.length pre++aN (bZ p)).length<=260000000000):=by
          have h:=J.out;rw[A.out]at h;simp only[aT]at h⊢;simp only[Hid];omega
        clear hf B b1 N ac az;go_wp2_with fail;refine(mH a v2 _ 0 ab _ aC.out.wr (by have:=M.out;simp only;omega) (by have:=bB.out;omega)).mono ?_;rintro e cl⟨rfl,v3,Y⟩;rw[jm _ _ (by have:=bB.out;omega),xe]at Y;have ST:=af (aC.out.trans Y);clear Y;go_wp2;have bk:dp a4 a v cl v3 (mu LE.length (pre++[(⟨⟨U,p,ab⟩,aS,bY⟩:lK Z (Dl LE))]),0):=by
          rw[A.out];exact ST.out
        exact At.step bv.out ap ax.out bf.out ae.out bk
    case done=>
      rintro D xs W bm rfl a8 aD;obtain⟨hf,R,m,⟨v,F,c⟩⟩:=a8;have a2:Fr (λk=>some k=some D) W (W.putObj D (.deferred none)):=Fr.grown (grownBy_putObj' W D _);have cg:=af aD;have bu:=af hf;have cf:Hid (Wr W a v (cq LE) 0):=by
        have h:mu LE.length xs=cq LE:=by rw[mu,bz.out];rfl
        rw[<-h];exact F
      have ai:Hid (w.heap.size<=D/\D<W.heap.size):=⟨by have:=aZ.out.size;have:=bm;omega,(Array.getElem?_eq_some_iff.1 aD).1⟩;have O:=m.cell 0;simp only[bP,List.getElem?_cons_zero]at O;clear a2 hf m F c bm aD R;go_wp2_with fail;refine(ng a _ _ _ _ cf.out (by have:=au.out;omega)).mono ?_;rintro e aV⟨_,aS⟩;obtain⟨cH,rfl,Q⟩:=aS rfl;have T:Hid (aV.heap[D]? =W.heap[D]?):=Q.ao.block D ai.out.2 id;have a0:=af Q;obtain⟨cx,cG,cy,rfl,_,_⟩:=aK Q.own;clear Q aS O;go_wp2;rw[cg.out]at T;refine⟨by simp, .inl ⟨_,_,rfl,run_takeDeferred T.out,?_⟩⟩;refine⟨_,results_tmp results102 _ _ _,?_⟩;have a2:Fr (λk=>some k=some D) aV (aV.putObj D (.deferred none)):=Fr.grown (grownBy_putObj' aV D _);have ce:Fr Nothing w (aV.putObj D (.deferred none)):=(bu.out.trans a0.out.ao).aw a2 (λi bX e=>by have a5:i=D:=(by simpa using e);have:=ai.out.1;omega);refine⟨_,rfl,⟨aP a0.out.own a2 (λk aH e=>?_),ce.bR,λk aH=> .inr ?_⟩⟩
      · have a5:k=D:=by simpa using e
        exact nz a0.out.own T.out rfl (by rw[<-a5];exact aH)
      · have:=a0.out.new k aH;have:=bu.out.size;omega
    case stop=>
      rintro D cz pre W bm _ h;exact h.elim
theorem cM.small{k:Nat}{L:List Ent}(h:cM k L)(b:k<=60000):pZ L:=⟨h.ok,λx a=>by have:=h.owner x a;omega,λx a=>by have:=h.text x a;omega,λx a=>by have:=h.value x a;omega,by have:=h.len;omega⟩
def uB(l:List UInt8)(v:Value)(w:World):Prop:=∃A n c,v= .slice A n c/\oP w (.slice A n c) l/\n=l.length
theorem uB.ao{l:List UInt8}{v:Value}{w w':World}(h:uB l v w)(a:Fr Nothing w w'):uB l v w':=by
 obtain⟨A,n,c,e,d,b⟩:=h;exact⟨A,n,c,e,aP d a (λ_ _ x=>x),b⟩
theorem mh.bytes{w w':World}{l:List UInt8}{e:Ending}(h:mh w l e w'):∃v,e= .returned v/\uB l v w'/\Fr Nothing w w':=by
 obtain⟨v,rfl,a⟩:=h;obtain⟨A,n,c,rfl,b,_⟩:=aK a.own;exact⟨_,rfl,⟨A,n,c,rfl,a.own,b.out⟩,a.ao⟩
end Go.Proofs.YtphjagkehiklkaaGreatDoor
namespace Go.Proofs.YtphjagkehiklkaaGreatDoor
open Proofs.Tryz Go.RowKit Go.Shelf
theorem mQ(w:World)(s:ByteArray):∃c w1,(convert 9 61 (.string s)).run prog w= .ok (.slice (some ⟨w.heap.size,0,none⟩) s.size c) w1/\Fr Nothing w w1/\Rd w1 (λk=>k=w.heap.size) 1 (some ⟨w.heap.size,0,none⟩) s.size ((aQ s).map bv):=by
 refine⟨_,_,Lib.run_convert_string_bytes w 9 61 5 s underlying9 underlying61 underlying5,⟨rfl,rfl,rfl,?_,λk d _=>Lib.bytesWorld_at_old w _ s k d⟩,?_,λ_=>⟨_,rfl,rfl,λj u hu=>?_⟩⟩;·rw[Lib.bytesWorld_size];omega
 ·rw[List.length_map,aL,Nat.mul_one]
 ·rw[List.getElem?_map]at hu;cases a:(aQ s)[j]? with
  |none=>rw[a]at hu;cases hu
  |some x=>
   rw[a]at hu;simp only[Option.map_some,Option.some.injEq]at hu;have b:j<s.size:=by rw[<-aL];exact(List.getElem?_eq_some_iff.1 a).1
   rw[show(⟨w.heap.size,0,none⟩:Addr).add j=⟨w.heap.size,j,none⟩by unfold Addr.add;split<;>simp_all,Lib.bytesWorld_cell w _ s j b];unfold aQ at a;rw[List.getD_eq_getElem?_getD,a,<-hu];rfl
theorem bm{P:Program}{fn:Func}{p q:Tmp}{ty:TypeId}(h:fn.results=#[.cell p ty, .tmp q])(tmps:Array Value)(w:World)(g:Nat)(t:TypeId)(cs:Array Value)(fr:Nat×Nat)(d:TypeDesc)
  (i:tmps.getD p undef= .pointer (some ⟨g,0,none⟩))(e:w.heap[g]? =some (.cells cs t fr))
  (hu:P.underlying ty=some d)(c:(match d with| .struct _| .array _ _=>true|_=>false)=true)(f:(P.info? ty).map (·.size)=some cs.size)(v:Value)(j:tmps.getD q undef=v):
  (results fn tmps).run P w= .ok (.tuple #[.agg cs,v]) w:=by
 have a:tmps[p]?.getD undef= .pointer (some ⟨g,0,none⟩):=by simpa using i
 have b:tmps[q]?.getD undef=v:=by simpa using j
 simp[results,h,a,b,asAddr,run_loadVar_row w g t ty cs fr d e hu c f]
def ez(l:List UInt8):Int×(List UInt8×Nat×Int):=aE 0 (aO 20) (l,0,0)
def lh(u:iE)(st:List UInt8×Nat×Int):List UInt8×(List UInt8×Nat×Int):=if u.owner then aE [] (cg 16777216) st else([],st)
def nK(u:iE)(st:List UInt8×Nat×Int):Int×(List UInt8×Nat×Int):=if u.number then aE 0 (aO 1073741824) st else(0,st)
def po(u:iE)(st:List UInt8×Nat×Int):Int×(List UInt8×Nat×Int):=if u.index then aE 0 (aO u.aS) st else(0,st)
def qw(u:iE)(st:List UInt8×Nat×Int):List UInt8×(List UInt8×Nat×Int):=if u.text then aE [] (cg 32) st else([],st)
def dK(st:List UInt8×Nat×Int):Int:=if st.2.2=0 then(if 0<st.1.length then 5 else 0)else st.2.2
def fS(u:iE)(l:List UInt8):aG×(List UInt8×Nat×Int):=
 (⟨(ez l).1,⟨(lh u (ez l).2).1.toArray⟩,(nK u (lh u (ez l).2).2).1,(po u (nK u (lh u (ez l).2).2).2).1,⟨(qw u (po u (nK u (lh u (ez l).2).2).2).2).1.toArray⟩⟩,(qw u (po u (nK u (lh u (ez l).2).2).2).2).2)
theorem vK(l:List UInt8):0<=(ez l).1/\(ez l).1<=20:=by
 unfold ez aE;simp only[ne_eq,not_true_eq_false,if_false];split;·omega
 next h=>
  simp only[aO]at h⊢;split at h;·omega
  next a=>
   have b:(pn l 9).2.2=0:=by omega
   have:¬(20:Int)<((pn l 9).1:Int):=λe=>a ⟨b,e⟩;omega
def ji(k:Int)(c:ByteArray)(b a:Int)(d:ByteArray):Array Value:=#[.int .i64 k, .string c, .int .i64 b, .int .i64 a, .string d]
theorem Hf(k:Int):prog.built 106 [(0, .int .i64 k)]=some (ji k ByteArray.empty 0 0 ByteArray.empty):=by kernel_rfl
theorem He:prog.built 106 []=some (ji 0 ByteArray.empty 0 0 ByteArray.empty):=by kernel_rfl
theorem j5:(prog.info? 106).map (·.size)=some 5:=by kernel_rfl
theorem vW:(prog.info? 41).map (·.size)=some 1:=by kernel_rfl
theorem nO:(prog.info? 3).map (·.size)=some 1:=by kernel_rfl
theorem so(w:World):(zeroValue 106).run prog w= .ok pG w:=by kernel_rfl
structure RS(w W:World)(g a c b:Nat)(S:Nat->Prop)(us nm:Array Value)(st:List UInt8×Nat×Int):Prop where
 rr:Rr W g S st.1 st.2.1 st.2.2
 nb:aq W a 106 nm
 ub:aq W c 189 us
 rb:aq W b 106 (ji 0 ByteArray.empty 0 0 ByteArray.empty)
 fr:Fr Nothing w W
structure CU(w:World)(g a c b:Nat)(S:Nat->Prop):Prop where
 g_:w.heap.size<=g
 n_:w.heap.size<=a
 ne:a≠b
 sn:¬S a
theorem RS.step{w W W':World}{g b f d:Nat}{S:Nat->Prop}{us nm:Array Value}{st st':List UInt8×Nat×Int}(h:RS w W g b f d S us nm st)(a:CU w g b f d S)(k:fp W g S W' st'.1 st'.2.1 st'.2.2):RS w W' g b f d S us nm st':=by
 obtain⟨⟨A,n,c,j,_,_⟩,_,_⟩:=h.rr;have ne:∀{x:Nat}{t:TypeId}{cs:Array Value},aq W x t cs->t≠193->¬eH g x:=λm l e=>dn m j l e;exact⟨k.rr,h.nb.fr k.fr (ne h.nb (by decide)),h.ub.fr k.fr (ne h.ub (by decide)),h.rb.fr k.fr (ne h.rb (by decide)),h.fr.aw k.fr (λi p e=>by have o:i=g:=e;have:=a.g_;omega)⟩
theorem RS.put{w W W':World}{g b l j:Nat}{S:Nat->Prop}{us nm d:Array Value}{st:List UInt8×Nat×Int}(h:RS w W g b l j S us nm st)(a:CU w g b l j S)(r:aq W' b 106 d)(f:Fr (λk=>k=b) W W'):RS w W' g b l j S us d st:=by
 have q:=h.rr;obtain⟨⟨A,n,c,m,_,_⟩,_,_⟩:=h.rr;refine⟨q.kl f (λe=>dn h.nb m (by decide) e.symm) (λk p e=>?_),r,h.ub.fr f (λe=>dn h.nb h.ub (by decide) e.symm),h.rb.fr f (λe=>a.ne e.symm),h.fr.aw f (λi s e=>by have o:i=b:=e;have:=a.n_;omega)⟩;have o:k=b:=e;rw[o]at p;exact a.sn p
def GP(w:World)(nm:aG)(st:List UInt8×Nat×Int)(e:Ending)(w':World):Prop:=∃n k,e= .returned (.tuple #[.agg n, .int .i64 k])/\Fr Nothing w w'/\
 ((dK st=0/\da nm=true/\n=nm.cells.toArray/\k=0)\/(¬(dK st=0/\da nm=true)/\n=ji 0 ByteArray.empty 0 0 ByteArray.empty/\k=3))
theorem Ds(s:ByteArray)(u:iE)(w:World)(bY:dO w)(cd:s.size<=16777216)(hu:iO[(ez (aQ s)).1.toNat]? =some u):
  Calls prog 118 #[.string s] w (GP w (fS u (aQ s)).1 (fS u (aQ s)).2):=by
 have bL:=af (vK (aQ s));obtain⟨l,bg⟩:∃l,aQ s=l:=⟨_,rfl⟩;have bn:Hid (l.length<=16777216):=by rw[<-bg];simp only[Hid];rw[aL];exact cd
 rw[bg]at hu bL;rw[bg];obtain⟨k,N⟩:∃k:Nat,(ez l).1=(k:Int):=⟨(ez l).1.toNat,by have:=bL.out;omega⟩;rw[N,Int.toNat_natCast]at hu;have cb:Hid (∀j v,u.cells[j]? =some v->w.cell? ⟨0,k*6+j,none⟩=some v):=bY.row k _ hu;have bl:Hid (ez l=((k:Int),(ez l).2)):=by simp only[Hid];rw[<-N]
 have K:(k:Int)<21:=by have:=bL.out;rw[N]at this;omega
 have cu:k<21:=by omega
 have cv:(0:Int)<=(k:Int):=by omega
 have aK:Hid (s.size=l.length/\aQ s=l):=⟨by rw[<-bg,aL],bg⟩;have b4:Hid (∀n:aG,n.owner.size<=1099511627776->n.text.size<=1099511627776->∀w',Fr Nothing w w'->Calls prog 115 #[.agg n.cells.toArray] w' (Checked w' n)):=λn bd be w' f=>mg n w' (bY.ao f) bd be;have aJ:Hid (∀(st:List UInt8×Nat×Int)(aS:Int),(aE [] (cg aS) st).1.length<=16777216):=λst aS=>by
  unfold aE;split;·simp
  ·split;·simp
   next h=>
    simp only[cg]at h⊢;split;·simp
    ·split;·simp
     ·split;·simp
      next bd be ck=>
       simp only[List.length_take];omega
 obtain⟨wd,I,H,bi,J,D⟩:=u;obtain⟨G,ab⟩:∃a,lh ⟨wd,I,H,bi,J,D⟩ (ez l).2=a:=⟨_,rfl⟩;obtain⟨a2,aV⟩:∃a,nK ⟨wd,I,H,bi,J,D⟩ G.2=a:=⟨_,rfl⟩;obtain⟨a3,aY⟩:∃a,po ⟨wd,I,H,bi,J,D⟩ a2.2=a:=⟨_,rfl⟩;obtain⟨a4,ac⟩:∃a,qw ⟨wd,I,H,bi,J,D⟩ a3.2=a:=⟨_,rfl⟩;have bJ:fS ⟨wd,I,H,bi,J,D⟩ l=(⟨(k:Int),⟨G.1.toArray⟩,a2.1,a3.1,⟨a4.1.toArray⟩⟩,a4.2):=by
  rw[fS,ab,aV,aY,ac,N]
 rw[bJ];obtain⟨nm,C⟩:∃nm:aG,nm=⟨(k:Int),⟨G.1.toArray⟩,a2.1,a3.1,⟨a4.1.toArray⟩⟩:=⟨_,rfl⟩;rw[<-C];have bT:=af C;clear C;have ay:=af ab;have az:=af aV;have aC:=af aY;have aD:=af ac;have b7:Hid (G.1.length<=16777216):=by
  rw[<-ab];unfold lh;split;·exact aJ.out _ _
  ·simp[Hid]
 have b9:Hid (a4.1.length<=16777216):=by
  rw[<-ac];unfold qw;split;·exact aJ.out _ _
  ·simp[Hid]
 clear hu bY N bL bJ ab aV aY ac aJ bg cd;go_enter func118,ntmps118;go_wp2_with(refine an rfl 106 rfl pG so (ji 0 ByteArray.empty 0 0 ByteArray.empty) rfl ?_);intro w1 n1;have b5:=af n1.fr;have bs:=af n1.aF;have aH:Sz w w.heap.size:=Nat.le_refl _;clear n1;generalize w.heap.size=B at*;obtain⟨ci,w2,bZ,a1,bB⟩:=mQ w1 s;have bS:=af (b5.out.trans a1);have bt:=af (bs.out.fr a1 id);have ca:=af bB;clear a1 bB bs b5;generalize w1.heap.size=gc at*;go_wp2_with fail;refine(jV _ _ ci l _ _ (by have h:=ca.out;rw[aK.out.2]at h;exact h) (by have:=aK.out.1;have:=bn.out;omega)).mono ?_;rintro e w3⟨g,S,rfl,a6,f3,b0,bw⟩;have bV:=af a6;have b6:=af (bS.out.trans f3);have aP:=af (bt.out.fr f3 id);have Z:Hid (w.heap.size<=g/\g<w3.heap.size):=⟨by have:=bS.out.size;omega,by obtain⟨⟨A,n,c,bf,_,_⟩,_,_⟩:=a6;exact bf.lt⟩;have aa:Hid (∀k,S k->k<w3.heap.size):=λk N=>(bw k N).2;clear a6 f3 b0 bw bZ ca bt bS;go_wp2_with fail;refine(jz g S l 0 0 20 _ bV.out).mono ?_;rintro e X⟨rfl,m⟩;rw[show(aE 0 (aO 20) (l,0,0)).1=(k:Int)from congrArg Prod.fst bl.out];have bu:Hid (fp w3 g S X (ez l).2.1 (ez l).2.2.1 (ez l).2.2.2):=m;have cf:=af (Hf (k:Int));have bK:Hid (Fr Nothing w X):=b6.out.aw m.fr (λi bA e=>by have V:i=g:=e;have:=Z.out;omega);have aR:Hid (aq X B 106 (ji 0 ByteArray.empty 0 0 ByteArray.empty)):=by
  obtain⟨⟨A,n,c,bf,_,_⟩,_,_⟩:=bV.out;exact aP.out.fr m.fr (λe=>dn aP.out bf (by decide) e)
 have T:Hid (w3.heap.size<=X.heap.size):=m.fr.size;clear m aP b6 bV;go_wp2_with(refine dU rfl 106 _ rfl (ji (k:Int) ByteArray.empty 0 0 ByteArray.empty) _ (by simp only[List.map_toArray,List.map_cons,List.map_nil];rfl) cf.out (aX.go ?yC));unfold aX;go_wp2_with(refine an rfl 106 rfl pG so (ji 0 ByteArray.empty 0 0 ByteArray.empty) rfl ?_);intro cn n5;have bb:=af n5;clear n5;generalize bx:X.heap.size=o at*;have M:=af bx;clear bx;have br:Hid (aq cn o 106 (ji 0 ByteArray.empty 0 0 ByteArray.empty)):=by have h:=bb.out.aF;rw[M.out]at h;exact h
 refine ai rfl 106 (.tmp 5) _ rfl o (ji (k:Int) ByteArray.empty 0 0 ByteArray.empty) rfl rfl _ _ br.out j5 rfl (by simp[ji,Value.oneCell']) ?_;intro bh cc f6;have bW:Hid (Rr bh g S (ez l).2.1 (ez l).2.2.1 (ez l).2.2.2):=(bu.out.rr.iZ bb.out.fr).kl f6 (λe=>by have V:g=o:=e;have:=Z.out;have:=T.out;omega) (λk N e=>by have V:k=o:=e;have:=aa.out k N;have:=T.out;omega);have bj:Hid (Fr Nothing w bh):=(bK.out.trans bb.out.fr).aw f6 (λi bA e=>by have V:i=o:=e;have:=M.out;have:=bK.out.size;omega);have NE:Hid (o≠B):=by have:=aR.out.lt;have:=M.out;simp only[Hid];omega
 have aT:Hid (aq bh B 106 (ji 0 ByteArray.empty 0 0 ByteArray.empty)):=(aR.out.fr bb.out.fr id).fr f6 (λe=>NE.out (show B=o from e).symm);have Q:=af cc;have bN:Hid (w.heap.size<=o/\¬S o):=⟨by have:=bK.out.size;have:=M.out;omega,λN=>by have:=aa.out o N;have:=T.out;omega⟩;have bo:Hid (w3.heap.size<=bh.heap.size):=by have bd:=T.out;have be:=bb.out.fr.size;have ck:=f6.size;have ct:=M.out;simp only[Hid];omega
 clear cc f6 bb br aR bK M bu T;have ch:bh.cell? ⟨o,0,none⟩=some (.int .i64 (k:Int)):=Q.out.cell 0;go_wp2_with(refine aB rfl 189 (.tmp 15) rfl ⟨0,k*6,none⟩ rfl (pT wd I H bi J D).toList _ ?zV underlying189 rfl kB (aX.go ?yA));case zV=>exactλj x a7=>by rw[Addr.add_mid];exact bj.out.ak (cb.out j x a7) id
 unfold aX;go_wp2_with(refine an rfl 189 rfl GB xj #[.string ByteArray.empty, .bool false, .bool false, .bool false, .bool false, .int .i64 0] rfl ?_);intro co n7;have bc:=af n7;clear n7;generalize bz:bh.heap.size=z at*;have E:=af bz;clear bz;have bv:Hid (aq co z 189 #[.string ByteArray.empty, .bool false, .bool false, .bool false, .bool false, .int .i64 0]):=by have h:=bc.out.aF;rw[E.out]at h;exact h
 refine ai rfl 189 (.tmp 6) _ rfl z (pT wd I H bi J D) rfl rfl _ _ bv.out kB rfl (iE.one ⟨wd,I,H,bi,J,D⟩) ?_;intro L b8 f8;have ae:Hid (CU w g o z B S):=⟨Z.out.1,bN.out.1,NE.out,bN.out.2⟩;have ST:Hid (RS w L g o z B S (pT wd I H bi J D) (ji (k:Int) ByteArray.empty 0 0 ByteArray.empty) (ez l).2):=by
  have cl:=bW.out;obtain⟨⟨A,n,c,bf,_,_⟩,_,_⟩:=bW.out;refine⟨(cl.iZ bc.out.fr).kl f8 (λe=>?_) (λk N e=>?_),(Q.out.fr bc.out.fr id).fr f8 (λe=>?_),b8,(aT.out.fr bc.out.fr id).fr f8 (λe=>?_),(bj.out.trans bc.out.fr).aw f8 (λi bA e=>?_)⟩;·have V:g=z:=e;have:=bf.lt;have:=E.out;omega
  ·have V:k=z:=e;have:=aa.out k N;have:=Q.out.lt;have:=E.out;have:=bf.lt;have:=bj.out.size;have:=bo.out;omega
  ·have V:o=z:=e;have:=Q.out.lt;have:=E.out;omega
  ·have V:B=z:=e;have:=aT.out.lt;have:=E.out;omega
  ·have V:i=z:=e;have:=E.out;have:=bj.out.size;omega
 clear b8 f8 bc bv bW Q aT bj E ch bN NE Z aa cb;have ub:L.cell? ⟨z,1,none⟩=some (.bool I):=ST.out.ub.cell 1;go_upto_if 18 with fail;clear ub;go_cut[5](λa8 ba=>a8= .pointer (some ⟨o,0,none⟩)/\RS w ba g o z B S (pT wd I H bi J D) (ji (k:Int) ⟨G.1.toArray⟩ 0 0 ByteArray.empty) G.2);case first=>
  cases I;·go_wp2;go_meet;refine⟨rfl,?_⟩;rw[<-ay.out];exact ST.out
  ·go_wp2_with fail;refine(kH g S _ _ _ 16777216 _ ST.out.rr).mono ?_;rintro e b3⟨rfl,m⟩;have F:=af (ST.out.step ae.out m);clear m;go_wp2_with(refine aZ rfl 41 (.tmp 21) (.tmp 20) rfl o 1 (tV (aE [] (cg 16777216) (ez l).2).1) rfl rfl rfl vW _ _ (ji (k:Int) ⟨(aE [] (cg 16777216) (ez l).2).1.toArray⟩ 0 0 ByteArray.empty) F.out.nb (by simp[ji]) rfl ?_);intro ad U W;have aU:=af (F.out.put ae.out U W);clear U W F;go_wp2;go_meet;refine⟨rfl,?_⟩;rw[<-ay.out];exact aU.out
 case rest=>
  obtain⟨rfl,t⟩:=hcut;clear ST;have ST:=af t;clear t;generalize wc=L at*;have ub:L.cell? ⟨z,2,none⟩=some (.bool H):=ST.out.ub.cell 2;go_upto_if 23 with fail;clear ub;go_cut[5](λa8 ba=>a8= .pointer (some ⟨o,0,none⟩)/\RS w ba g o z B S (pT wd I H bi J D) (ji (k:Int) ⟨G.1.toArray⟩ a2.1 0 ByteArray.empty) a2.2);case first=>
   cases H;·go_wp2;go_meet;refine⟨rfl,?_⟩;rw[<-az.out];exact ST.out
   ·go_wp2_with fail;refine(jz g S _ _ _ 1073741824 _ ST.out.rr).mono ?_;rintro e b3⟨rfl,m⟩;have F:=af (ST.out.step ae.out m);clear m;go_wp2_with(refine aZ rfl 3 (.tmp 26) (.tmp 25) rfl o 2 (.int .i64 (aE 0 (aO 1073741824) G.2).1) rfl rfl rfl nO _ _ (ji (k:Int) ⟨G.1.toArray⟩ (aE 0 (aO 1073741824) G.2).1 0 ByteArray.empty) F.out.nb (by simp[ji]) rfl ?_);intro ad U W;have aU:=af (F.out.put ae.out U W);clear U W F;go_wp2;go_meet;refine⟨rfl,?_⟩;rw[<-az.out];exact aU.out
  case rest=>
   obtain⟨rfl,t⟩:=hcut;clear ST;have ST:=af t;clear t;generalize wc=L at*;have ub:L.cell? ⟨z,3,none⟩=some (.bool bi):=ST.out.ub.cell 3;go_upto_if 28 with fail;clear ub;go_cut[5](λa8 ba=>a8= .pointer (some ⟨o,0,none⟩)/\RS w ba g o z B S (pT wd I H bi J D) (ji (k:Int) ⟨G.1.toArray⟩ a2.1 a3.1 ByteArray.empty) a3.2);case first=>
    cases bi;·go_wp2;go_meet;refine⟨rfl,?_⟩;rw[<-aC.out];exact ST.out
    ·have cm:L.cell? ⟨z,5,none⟩=some (.int .i64 D):=ST.out.ub.cell 5;go_wp2_with fail;refine(jz g S _ _ _ D _ ST.out.rr).mono ?_;rintro e b3⟨rfl,m⟩;have F:=af (ST.out.step ae.out m);clear m cm;go_wp2_with(refine aZ rfl 3 (.tmp 33) (.tmp 32) rfl o 3 (.int .i64 (aE 0 (aO D) a2.2).1) rfl rfl rfl nO _ _ (ji (k:Int) ⟨G.1.toArray⟩ a2.1 (aE 0 (aO D) a2.2).1 ByteArray.empty) F.out.nb (by simp[ji]) rfl ?_);intro ad U W;have aU:=af (F.out.put ae.out U W);clear U W F;go_wp2;go_meet;refine⟨rfl,?_⟩;rw[<-aC.out];exact aU.out
   case rest=>
    obtain⟨rfl,t⟩:=hcut;clear ST;have ST:=af t;clear t;generalize wc=L at*;have ub:L.cell? ⟨z,4,none⟩=some (.bool J):=ST.out.ub.cell 4;go_upto_if 35 with fail;clear ub;go_cut[5](λa8 ba=>a8= .pointer (some ⟨o,0,none⟩)/\RS w ba g o z B S (pT wd I H bi J D) (ji (k:Int) ⟨G.1.toArray⟩ a2.1 a3.1 ⟨a4.1.toArray⟩) a4.2);case first=>
     cases J;·go_wp2;go_meet;refine⟨rfl,?_⟩;rw[<-aD.out];exact ST.out
     ·go_wp2_with fail;refine(kH g S _ _ _ 32 _ ST.out.rr).mono ?_;rintro e b3⟨rfl,m⟩;have F:=af (ST.out.step ae.out m);clear m;go_wp2_with(refine aZ rfl 9 (.tmp 38) (.tmp 37) rfl o 4 (tV (aE [] (cg 32) a3.2).1) rfl rfl rfl pD _ _ (ji (k:Int) ⟨G.1.toArray⟩ a2.1 a3.1 ⟨(aE [] (cg 32) a3.2).1.toArray⟩) F.out.nb (by simp[ji]) rfl ?_);intro ad U W;have aU:=af (F.out.put ae.out U W);clear U W F;go_wp2;go_meet;refine⟨rfl,?_⟩;rw[<-aD.out];exact aU.out
    case rest=>
     obtain⟨rfl,t⟩:=hcut;clear ST;have ST:=af t;clear t;generalize wc=L at*;have C:=bT.out;have aN:Hid (aq L o 106 nm.cells.toArray):=by rw[C];exact ST.out.nb
     have bM:Hid (nm.owner.size<=1099511627776/\nm.text.size<=1099511627776):=by
      have cr:nm.owner.size=G.1.length:=by rw[C,<-aL];rfl
      have cs:nm.text.size=a4.1.length:=by rw[C,<-aL];rfl
      have bd:=b7.out;have be:=b9.out;simp only[Hid];omega
     have cq:=af He;obtain⟨ce,a0⟩:∃ce,dK a4.2=ce:=⟨_,rfl⟩;have bO:Hid (∀ad,Fr Nothing L ad->Calls prog 72 #[.pointer (some ⟨g,0,none⟩)] ad (aM ad (.int .i64 ce))):=λad r=>by
      have h:=pP g S a4.2.1 a4.2.2.1 a4.2.2.2 ad (ST.out.rr.iZ r);rw[<-a0];exact h.mono (λe w'⟨bd,be⟩=>⟨bd,by rw[be];exact aA⟩)
     have bk:=af a0;clear a0 C b7 b9 bn aK bl ay az aC aD;by_cases b2:ce=0
     ·subst b2;cases O:da nm
      ·have aI:=af O;have bQ:Hid (∀w',Fr Nothing L w'->Calls prog 115 #[.agg nm.cells.toArray] w' (λe a9=>∃q:Int,e= .returned (.int .i64 q)/\q≠0/\Fr Nothing w' a9)):=λw' f=>(b4.out nm bM.out.1 bM.out.2 w' (ST.out.fr.trans f)).mono (λe a9⟨q,he,a5,r⟩=>⟨q,he,λbX=>by rw[bX,O]at a5;exact absurd a5 (by decide),r⟩);clear O;go_upto_region 12 with fail;refine iD 8 Nothing [Is (.pointer (some ⟨g,0,none⟩)),Is (.int .i64 0),Is (.bool false),Is (.bool false),Is (.agg nm.cells.toArray),(λcp _=>∃q:Int,cp= .int .i64 q/\q≠0),Is (.bool true),Is (.bool true)] [] (λ_=>True) (λ_ _=>false) (by kernel_rfl) (by kernel_rfl) (by kernel_rfl) ⟨Is.ag _,Is.ag _,Is.ag _,Is.ag _,Is.ag _,λ_ _ _ _ _ h=>h,Is.ag _,Is.ag _,trivial⟩ trivial (λ_ _ _ _ h=>h) trivial ?_ ?_
       ·refine⟨?zY,?zH,?zI,?zJ,?zK,?zL,?zM,?zN,trivial⟩;all_goals intro u w' d r b K P y
        all_goals simp only[bC,bD,bE,bF,ar,Act.put,bG,bH,bI,Nat.reduceAdd,Nat.zero_add]
        case zH=>
         simp only[ah (b 0)];clear b K P y;refine aj ?_;go_simp;refine(bO.out _ r).mono ?_;rintro e X⟨rfl,f4⟩;exact⟨_,rfl,f4.bR,rfl,trivial⟩
        case' zI=>simp only[ah (b 1)]
        case' zJ=>simp only[ah (b 2)]
        case zK=>
         simp only[ah (b 3)];clear b K P y;refine aj ?_;exact au _ _ rfl ⟨o,0,none⟩ rfl nm.cells _ (λj x a7=>by rw[Addr.add_mid,Nat.zero_add];exact(aN.out.fr r id).cell j|>.trans (by rw[bP];exact a7)) underlying106 rfl aW ⟨_,rfl,al⟩
        case zL=>
         simp only[ah (b 4),ah (b 3)];clear b K P y;refine aj ?_;go_simp;refine(bQ.out _ r).mono ?_;rintro e X⟨q,rfl,a5,f4⟩;exact⟨_,rfl,f4.bR,⟨q,rfl,a5⟩,trivial⟩
        case zM=>
         obtain⟨q,cj,b1⟩:=b 5;simp only[cj,ah (b 3)];clear b K P y;refine aj ?_;go_simp;have t0:(q !=0)=true:=by rw[bne_iff_ne];exact b1
         simp only[t0];exact⟨_,rfl,al⟩
        case' zN=>simp only[ah (b 3),ah (b 6)]
        all_goals
         clear b K P y;refine aj ?_;go_simp;exact⟨_,rfl,al⟩
       ·intro u w' r b y;have av:u 7=_:=b 7 (by omega);clear b y;simp only[bC,bD,bE,bF,ar,Act.put,bG,bH,bI,dt,du,Nat.reduceAdd,Nat.zero_add,av];have Y:=af r;clear r av;have R:=af (ST.out.rb.fr Y.out id);go_wp2_with(refine ai rfl 106 (.tmp 2) _ rfl B (ji 0 ByteArray.empty 0 0 ByteArray.empty) rfl rfl _ _ R.out j5 rfl (by simp[ji,Value.oneCell']) ?_);intro ax am ap;have bq:=af am;have bp:Hid (Fr Nothing w ax):=(ST.out.fr.trans Y.out).aw ap (λi bA e=>by have V:i=B:=e;have:=aH;unfold Sz at this;omega);clear am ap;go_wp2;exact bodyPost_ret (bm (fn:=Tryz.f118) (p:=2) (q:=3) (ty:=106) results118 _ ax _ 106 (ji 0 ByteArray.empty 0 0 ByteArray.empty) (0,0) _ rfl bq.out underlying106 rfl j5 _ rfl) rfl ⟨_,_,rfl,bp.out, .inr ⟨λh=>Bool.false_ne_true (aI.out.symm.trans h.2),rfl,rfl⟩⟩
      ·have aI:=af O;have bQ:Hid (∀w',Fr Nothing L w'->Calls prog 115 #[.agg nm.cells.toArray] w' (aM w' (.int .i64 0))):=λw' f=>(b4.out nm bM.out.1 bM.out.2 w' (ST.out.fr.trans f)).mono (λe a9⟨q,he,a5,r⟩=>by
        have bX:q=0:=by rw[O]at a5;exact beq_iff_eq.1 a5
        subst bX;exact⟨he,r⟩);clear O;go_upto_region 12 with fail;refine iD 8 Nothing [Is (.pointer (some ⟨g,0,none⟩)),Is (.int .i64 0),Is (.bool false),Is (.bool false),Is (.agg nm.cells.toArray),Is (.int .i64 0),Is (.bool false),Is (.bool false)] [] (λ_=>True) (λ_ _=>false) (by kernel_rfl) (by kernel_rfl) (by kernel_rfl) ⟨Is.ag _,Is.ag _,Is.ag _,Is.ag _,Is.ag _,Is.ag _,Is.ag _,Is.ag _,trivial⟩ trivial (λ_ _ _ _ h=>h) trivial ?_ ?_
       ·refine⟨?zZ,?zO,?zP,?zQ,?zR,?zS,?zT,?zU,trivial⟩;all_goals intro u w' d r b K P y
        all_goals simp only[bC,bD,bE,bF,ar,Act.put,bG,bH,bI,Nat.reduceAdd,Nat.zero_add]
        case zO=>
         simp only[ah (b 0)];clear b K P y;refine aj ?_;go_simp;refine(bO.out _ r).mono ?_;rintro e X⟨rfl,f4⟩;exact⟨_,rfl,f4.bR,rfl,trivial⟩
        case' zP=>simp only[ah (b 1)]
        case' zQ=>simp only[ah (b 2)]
        case zR=>
         simp only[ah (b 3)];clear b K P y;refine aj ?_;exact au _ _ rfl ⟨o,0,none⟩ rfl nm.cells _ (λj x a7=>by rw[Addr.add_mid,Nat.zero_add];exact(aN.out.fr r id).cell j|>.trans (by rw[bP];exact a7)) underlying106 rfl aW ⟨_,rfl,al⟩
        case zS=>
         simp only[ah (b 4),ah (b 3)];clear b K P y;refine aj ?_;go_simp;refine(bQ.out _ r).mono ?_;rintro e X⟨rfl,f4⟩;exact⟨_,rfl,f4.bR,rfl,trivial⟩
        case' zT=>simp only[ah (b 5),ah (b 3)]
        case' zU=>simp only[ah (b 3),ah (b 6)]
        all_goals
         clear b K P y;refine aj ?_;go_simp;exact⟨_,rfl,al⟩
       ·intro u w' r b y;have av:u 7=_:=b 7 (by omega);clear b y;simp only[bC,bD,bE,bF,ar,Act.put,bG,bH,bI,dt,du,Nat.reduceAdd,Nat.zero_add,av];have Y:=af r;clear r av;have bU:=af (aN.out.fr Y.out id);have R:=af (ST.out.rb.fr Y.out id);go_wp2_with(refine aB rfl 106 (.tmp 5) rfl ⟨o,0,none⟩ rfl nm.cells _ ?zW underlying106 rfl aW (aX.go ?yB));case zW=>exactλj x a7=>by rw[Addr.add_mid,Nat.zero_add];exact bU.out.cell j|>.trans (by rw[bP];exact a7)
        unfold aX;refine ai rfl 106 (.tmp 2) _ rfl B nm.cells.toArray rfl rfl _ _ R.out j5 rfl nm.one ?_;intro ax am ap;have bq:=af am;have bp:Hid (Fr Nothing w ax):=(ST.out.fr.trans Y.out).aw ap (λi bA e=>by have V:i=B:=e;have:=aH;unfold Sz at this;omega);clear am ap;go_wp2;exact bodyPost_ret (bm (fn:=Tryz.f118) (p:=2) (q:=3) (ty:=106) results118 _ ax _ 106 nm.cells.toArray (0,0) _ rfl bq.out underlying106 rfl j5 _ rfl) rfl ⟨_,_,rfl,bp.out, .inl ⟨bk.out,aI.out,rfl,rfl⟩⟩
     ·have t0:(ce !=0)=true:=by rw[bne_iff_ne];exact b2
      go_upto_region 12 with fail;refine iD 8 Nothing [Is (.pointer (some ⟨g,0,none⟩)),Is (.int .i64 ce),Is (.bool true),Is (.bool true),Is (undef),Is (undef),Is (undef),Is (.bool true)] [] (λ_=>True) (λ_ _=>false) (by kernel_rfl) (by kernel_rfl) (by kernel_rfl) ⟨Is.ag _,Is.ag _,Is.ag _,Is.ag _,Is.ag _,Is.ag _,Is.ag _,Is.ag _,trivial⟩ trivial (λ_ _ _ _ h=>h) trivial ?_ ?_
      ·refine⟨?zX,?zA,?zB,?zC,?zD,?zE,?zF,?zG,trivial⟩;all_goals intro u w' d r b K P y
       all_goals simp only[bC,bD,bE,bF,ar,Act.put,bG,bH,bI,Nat.reduceAdd,Nat.zero_add]
       case zA=>
        simp only[ah (b 0)];clear b K P y;refine aj ?_;go_simp;refine(bO.out _ r).mono ?_;rintro e X⟨rfl,f4⟩;exact⟨_,rfl,f4.bR,rfl,trivial⟩
       case' zB=>simp only[ah (b 1)]
       case' zC=>simp only[ah (b 2)]
       case zD=>simp only[ah (b 3)];exact .inr ⟨by kernel_rfl,_,rfl,aA,rfl,trivial⟩
       case zE=>simp only[ah (b 3)];exact .inr ⟨by kernel_rfl,_,rfl,aA,rfl,trivial⟩
       case zF=>simp only[ah (b 3)];exact .inr ⟨by kernel_rfl,_,rfl,aA,rfl,trivial⟩
       case' zG=>simp only[ah (b 3),ah (b 6)]
       all_goals
        clear b K P y;refine aj ?_;go_simp;exact⟨_,rfl,al⟩
      ·intro u w' r b y;have av:u 7=_:=b 7 (by omega);clear b y;simp only[bC,bD,bE,bF,ar,Act.put,bG,bH,bI,dt,du,Nat.reduceAdd,Nat.zero_add,av];have Y:=af r;clear r av;have R:=af (ST.out.rb.fr Y.out id);go_wp2_with(refine ai rfl 106 (.tmp 2) _ rfl B (ji 0 ByteArray.empty 0 0 ByteArray.empty) rfl rfl _ _ R.out j5 rfl (by simp[ji,Value.oneCell']) ?_);intro ax am ap;have bq:=af am;have bp:Hid (Fr Nothing w ax):=(ST.out.fr.trans Y.out).aw ap (λi bA e=>by have V:i=B:=e;have:=aH;unfold Sz at this;omega);clear am ap;go_wp2;exact bodyPost_ret (bm (fn:=Tryz.f118) (p:=2) (q:=3) (ty:=106) results118 _ ax _ 106 (ji 0 ByteArray.empty 0 0 ByteArray.empty) (0,0) _ rfl bq.out underlying106 rfl j5 _ rfl) rfl ⟨_,_,rfl,bp.out, .inr ⟨λh=>b2 (bk.out.symm.trans h.1),rfl,rfl⟩⟩
theorem Hz(a b:aG)(w:World):(binOp .eql 106 (.agg a.cells.toArray) (.agg b.cells.toArray)).run prog w= .ok (.bool (zp a b)) w:=by
 by_cases h:a=b
 ·subst h;have e:zp a a=true:=by unfold zp;exact beq_iff_eq.2 (cp.refl _)
  rw[e];obtain⟨k,q,n,i,t⟩:=a;simp only[aG.cells];go_simp
 ·have e:zp a b=false:=by unfold zp;exact jr (λe=>h (cp.eq _ _ e))
  rw[e];obtain⟨k,q,n,i,t⟩:=a;obtain⟨l,o,m,i',p⟩:=b;simp only[aG.cells];go_simp;intro c d f g j;exact h (by rw[c,toList_inj d,f,g,toList_inj j])
theorem uR(c:CV):∀u∈c.cells,u.oneCell'=true:=λu hu=>by
 have h:=c.one;rw[Array.all_eq_true_iff_forall_mem]at h;exact h u (by simpa using hu)
structure RE(w W:World)(a:Nat)(nm:Array Value)(v:Value)(l:List UInt8):Prop where
 Mz:fO w (.slice none 0 0) W v l
 nb:aq W a 245 nm
theorem RE.next{w W b c:World}{d:Nat}{nm:Array Value}{v v2:Value}{l r:List UInt8}(h:RE w W d nm v l)(a:Fr Nothing W b)(k:bT 5 1 b v c v2 (l.length+r.length) (l.map bv++r.map bv)):RE w c d nm v2 (l++r):=by
 refine⟨fO.app (h.Mz.behind a) k rfl,(h.nb.fr a id).fr k.fr (λe=>?_)⟩;exact bO (aP h.Mz.own a (λ_ _ x=>x)) (h.nb.fr a id) (by decide) e
end Go.Proofs.YtphjagkehiklkaaGreatDoor
