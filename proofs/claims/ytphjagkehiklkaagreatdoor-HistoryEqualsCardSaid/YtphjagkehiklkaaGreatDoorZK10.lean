/- Texts. -/
import Derived.Test.YtphjagkehiklkaaGreatDoorZK02
import Derived.Test.YtphjagkehiklkaaGreatDoorZK09
set_option linter.unusedVariables false
set_option linter.unusedSimpArgs false
set_option maxRecDepth 100000
set_option maxHeartbeats 4000000
namespace Go.Proofs.YtphjagkehiklkaaGreatDoor
open Go.RowKit Go.Shelf
def aV(l:List UInt8):List UInt8:=enc l.length++l
def kq(u:iC)(n:aJ):List UInt8:=enc n.kind.toNat++((if u.owner then aV (aQ n.owner)else[])++((if u.number then enc n.number.toNat else[])++((if u.index then enc n.index.toNat else[])++(if u.text then aV (aQ n.text)else[]))))
def cM(n:aJ):List UInt8:=match iP[n.kind.toNat]? with
 |some u=>kq u n
 |none=>[]
def mO(x:Ent):List UInt8:=aV (cM x.1)++aV (aQ x.2)
def dO(L:List Ent):List UInt8:=enc L.length++L.flatMap mO
theorem mi{a b:Nat}{r d:List UInt8}(e:a<9223372036854775808)(f:b<9223372036854775808)(h:enc a++r=enc b++d):a=b∧r=d:=by
 have c:=sq a r e;rw[h,sq b d f]at c;simp only[Prod.mk.injEq,and_true]at c;obtain⟨rfl,_⟩:=c;exact⟨rfl,List.append_cancel_left h⟩
theorem ky{s t r a:List UInt8}(d:s.length<9223372036854775808)(e:t.length<9223372036854775808)(h:aV s++r=aV t++a):s=t∧r=a:=by
 unfold aV at h;rw[List.append_assoc,List.append_assoc]at h;obtain⟨b,c⟩:=mi d e h;exact List.append_inj c b
theorem tk{s t:ByteArray}(h:aQ s=aQ t):s=t:=ByteArray.ext (Array.toList_inj.1 h)
theorem yA{s:ByteArray}(h:s.toList.isEmpty=true):s=ByteArray.empty:=by
 rw[ByteArray.toList_eq,List.isEmpty_iff]at h;exact ByteArray.ext (Array.toList_inj.1 h)
structure AJ(u:iC)(n:aJ):Prop where
 o0:u.owner=false→n.owner=ByteArray.empty
 n0:u.number=false→n.number=0
 i0:u.index=false→n.index=0
 t0:u.text=false→n.text=ByteArray.empty
 n1:u.number=true→0≤n.number∧n.number≤1073741824
 i1:u.index=true→0≤n.index∧n.index≤u.aP
theorem mT{u:iC}{n:aJ}(h:o3 u n=true):AJ u n:=by
 simp only[o3,Bool.and_eq_true,Bool.or_eq_true,Bool.not_eq_true',decide_eq_true_eq]at h;obtain⟨⟨⟨⟨⟨⟨⟨a,b⟩,c⟩,d⟩,_⟩,f⟩,g⟩,_⟩:=h;refine⟨fun e=>?_,fun e=>?_,fun e=>?_,fun e=>?_,fun e=>?_,fun e=>?_⟩
 ·rcases a with h|h;·rw[e]at h;cases h
  ·exact yA h
 ·rcases b with h|h;·rw[e]at h;cases h
  ·exact beq_iff_eq.1 h
 ·rcases c with h|h;·rw[e]at h;cases h
  ·exact beq_iff_eq.1 h
 ·rcases d with h|h;·rw[e]at h;cases h
  ·exact yA h
 ·rcases f with h|h;·rw[e]at h;cases h
  ·exact h
 ·rcases g with h|h;·rw[e]at h;cases h
  ·exact h
theorem nQ{n:aJ}(h:du n=true):(1≤n.kind∧n.kind≤20)∧∃u,iP[n.kind.toNat]? =some u∧o3 u n=true:=by
 simp only[du,Bool.and_eq_true,decide_eq_true_eq]at h;obtain⟨⟨b,c⟩,a⟩:=h;refine⟨⟨b,c⟩,?_⟩;cases hu:iP[n.kind.toNat]? with
 |none=>rw[hu]at a;cases a
 |some u=>rw[hu]at a;exact⟨u,rfl,a⟩
theorem wY{k:Nat}{u:iC}(h:iP[k]? =some u):u.aP≤1073741824:=by
 have hm:∀x∈iP,x.aP≤1073741824:=by decide
 exact hm u (List.mem_of_getElem? h)
theorem EI{u:iC}{a b:aJ}(hm:u.aP≤1073741824)(s:o3 u a=true)(v:o3 u b=true)(o:nX a)(p:nX b)(A:0≤a.kind∧0≤b.kind∧a.kind≤20∧b.kind≤20)(h:kq u a=kq u b):a=b:=by
 have c:=mT s;have d:=mT v;have G:=o.owner;have H:=p.owner;have E:=o.text;have F:=p.text;clear s v o p;obtain⟨wd,D,un,g,ut,J⟩:=u;obtain⟨k,K,n,i,t⟩:=a;obtain⟨B,C,w,i',f⟩:=b;simp only[kq]at h A hm G H E F;obtain⟨I,h⟩:=mi (by omega) (by omega) h;have x:k=B:=by omega
 have m:K=C∧(if un=true then enc n.toNat else[])++((if g=true then enc i.toNat else[])++(if ut=true then aV (aQ t)else[]))=(if un=true then enc w.toNat else[])++((if g=true then enc i'.toNat else[])++(if ut=true then aV (aQ f)else[])):=by
  cases D;·exact⟨(c.o0 rfl).trans (d.o0 rfl).symm,by simpa using h⟩
  ·simp only[if_true]at h;obtain⟨e,h⟩:=ky (by rw[aK];omega) (by rw[aK];omega) h;exact⟨tk e,h⟩
 obtain⟨m,h⟩:=m;have l:n=w∧(if g=true then enc i.toNat else[])++(if ut=true then aV (aQ t)else[])=(if g=true then enc i'.toNat else[])++(if ut=true then aV (aQ f)else[]):=by
  cases un;·exact⟨(c.n0 rfl).trans (d.n0 rfl).symm,by simpa using h⟩
  ·simp only[if_true]at h;have q:=c.n1 rfl;have r:=d.n1 rfl;simp only at q r;obtain⟨e,h⟩:=mi (by omega) (by omega) h;exact⟨by omega,h⟩
 obtain⟨l,h⟩:=l;have j:i=i'∧(if ut=true then aV (aQ t)else[])=(if ut=true then aV (aQ f)else[]):=by
  cases g;·exact⟨(c.i0 rfl).trans (d.i0 rfl).symm,by simpa using h⟩
  ·simp only[if_true]at h;have q:=c.i1 rfl;have r:=d.i1 rfl;simp only at q r;obtain⟨e,h⟩:=mi (by omega) (by omega) h;exact⟨by omega,h⟩
 obtain⟨j,h⟩:=j;have y:t=f:=by
  cases ut;·exact(c.t0 rfl).trans (d.t0 rfl).symm
  ·simp only[if_true]at h;have z:aV (aQ t)++[]=aV (aQ f)++[]:=by rw[h]
   exact tk (ky (by rw[aK];omega) (by rw[aK];omega) z).1
 rw[x,m,l,j,y]
theorem nO{n:aJ}{u:iC}(h:iP[n.kind.toNat]? =some u):cM n=kq u n:=by
 unfold cM;rw[h]
theorem EH{a b:aJ}(i:du a=true)(j:du b=true)(f:nX a)(g:nX b)(h:cM a=cM b):a=b:=by
 obtain⟨k,u,hu,m⟩:=nQ i;obtain⟨l,n,c,ob⟩:=nQ j;rw[nO hu,nO c]at h;have d:=h;simp only[kq]at d;obtain⟨e,_⟩:=mi (by omega) (by omega) d;rw[←e,hu]at c;cases c;exact EI (wY hu) m ob f g ⟨by omega,by omega,k.2,l.2⟩ h
theorem qG(u:iC)(n:aJ):(kq u n).length≤50+n.owner.size+n.text.size:=by
 have a:=aU n.kind.toNat;have b:=aU n.number.toNat;have c:=aU n.index.toNat;have d:=aU (aQ n.owner).length;have e:=aU (aQ n.text).length;have f:=aK n.owner;have g:=aK n.text;simp only[kq,aS,aV];split<;>split<;>split<;>split<;>simp only[aS,List.length_nil]<;>omega
theorem dW(n:aJ):(cM n).length≤50+n.owner.size+n.text.size:=by
 unfold cM;split;·exact qG _ n
 ·simp
structure uY(L:List Ent):Prop where
 ok:∀x∈L,du x.1=true
 name:∀x∈L,nX x.1
 value:∀x∈L,x.2.size≤1099511627776
theorem yC:∀{A B:List Ent},uY A→uY B→A.length=B.length→A.flatMap mO=B.flatMap mO→A=B
 |[],[],_,_,_,_=>rfl
 |[],_::_,_,_,h,_=>by simp at h
 |_::_,[],_,_,h,_=>by simp at h
 |x::a,y::b,d,f,n,h=>by
  simp only[List.flatMap_cons,mO,List.append_assoc]at h;have g:=d.name x (by simp);have i:=f.name y (by simp);have t:=d.value x (by simp);have u:=f.value y (by simp);have o:=dW x.1;have p:=dW y.1;have q:=g.owner;have r:=i.owner;have s:=g.text;have ty:=i.text;obtain⟨j,h⟩:=ky (by omega) (by omega) h;obtain⟨k,h⟩:=ky (by rw[aK];omega) (by rw[aK];omega) h;have l:=EH (d.ok x (by simp)) (f.ok y (by simp)) g i j;have m:=tk k;have e:x=y:=Prod.ext l m;rw[e,yC (A:=a) (B:=b) ⟨fun z c=>d.ok z (by simp[c]),fun z c=>d.name z (by simp[c]),fun z c=>d.value z (by simp[c])⟩ ⟨fun z c=>f.ok z (by simp[c]),fun z c=>f.name z (by simp[c]),fun z c=>f.value z (by simp[c])⟩ (by simpa using n) h]
theorem Io{A B:List Ent}(c:uY A)(d:uY B)(e:A.length≤1048576)(f:B.length≤1048576)(h:dO A=dO B):A=B:=by
 obtain⟨a,b⟩:=mi (by omega) (by omega) h;exact yC c d a b
end Go.Proofs.YtphjagkehiklkaaGreatDoor
namespace Go.Proofs.YtphjagkehiklkaaGreatDoor
open Go.RowKit Go.Shelf
theorem lP{P:Program}{op:Oper}{a:Act}{w:World}{K:Act→World→Prop}{Q:Exit→Act→World→Prop}(t:TypeId)(c:op.op= .alloc t)(z:Value)(d:∀w,(zeroValue t).run P w= .ok z w)(cells:Array Value)(b:z.cells=cells)
  (h:∀w',dm w w' t cells→K (a.put op.dst (.pointer (some ⟨w.heap.size,0,none⟩))) w'):op.wp P a w K Q:=by
 subst b;unfold Oper.wp execOp;simp only[c,Instr.alloc,Sem.run_bind,d,newVar,newRow,run_newObj_alloc,Sem.run_pure,Result.andThen_ok];exact h _ (dm.alloc w t z.cells)
theorem eE{w:World}{g b:Nat}{t c:TypeId}{cs cs':Array Value}(h:aq w g t cs)(d:aq w b c cs')(a:t≠c):g≠b:=by
 rintro rfl;have e:=h.symm.trans d;simp only[Option.some.injEq,Obj.cells.injEq]at e;exact a e.2.1
theorem sC{a k:Nat}(h:LO a (.slice none 0 0) k):k=a:=by
 rcases h with h|h;·exact h
 ·simp[Value.ownBlock]at h
def Cg(k:Nat)(c:ByteArray)(b a:Int)(d:ByteArray):Array Value:=#[.int .i64 (k:Int), .string c, .int .i64 b, .int .i64 a, .string d]
def pX(wd:ByteArray)(b a bi c:Bool)(d:Int):Array Value:=#[.string wd, .bool b, .bool a, .bool bi, .bool c, .int .i64 d]
structure WN(w2 w:World)(a:Nat)(v:Value)(l:List UInt8):Prop where
 step:∃b,dn b a (.slice none 0 0) w v (l,0)∧Fr ag w2 b
 new:w2.heap.size≤a
theorem WN.next{w2 w w':World}{b:Nat}{v:Value}{l c:List UInt8}(h:WN w2 w b v l)(k:∃a,dn w b v w' a (c,0)):∃a,WN w2 w' b a c:=by
 obtain⟨a,f⟩:=k;obtain⟨g,d,e⟩:=h.step;exact⟨a,⟨g,d.trans f,e⟩,h.new⟩
theorem WN.fr{w2 w:World}{a:Nat}{v:Value}{l:List UInt8}(h:WN w2 w a v l):Fr ag w2 w:=by
 obtain⟨f,b,c⟩:=h.step;exact c.aw b.fr (fun i d e=>by have:=sC e;have:=h.new;omega)
theorem WN.lA{w2 w w':World}{b g:Nat}{v m:Value}{l k:List UInt8}{t:TypeId}{cs:Array Value}(h:WN w2 w b v l)(f:dn w b v w' m (k,0))(a:aq w g t cs)(i:t≠185)(j:t≠5):aq w' g t cs:=by
 obtain⟨o,c,n⟩:=h.step;refine a.fr f.fr (fun e=>?_);rcases e with e|e;·exact eE a c.wr.aE i e
 ·exact bM c.wr.own a (fun d=>j d.symm) e
def NS(w2 W:World)(c b a:Nat)(us nm:Array Value)(l:List UInt8):Prop:=∃v,WN w2 W c v l∧aq W b 189 us∧aq W a 106 nm
theorem WN.wr{w2 w:World}{a:Nat}{v:Value}{l:List UInt8}(h:WN w2 w a v l):Wr w a v l 0:=by
 obtain⟨c,b,_⟩:=h.step;exact b.wr
theorem WN.ns{w2 w w':World}{a c b:Nat}{us nm:Array Value}{v e:Value}{l d:List UInt8}(h:WN w2 w a v l)(hu:aq w c 189 us)(g:aq w b 106 nm)(k:dn w a v w' e (d,0)):NS w2 w' a c b us nm d:=by
 obtain⟨v2,f⟩:=h.next ⟨e,k⟩;exact⟨v2,f,h.lA k hu (by decide) (by decide),h.lA k g (by decide) (by decide)⟩
theorem Hi(k:Nat)(n:ByteArray)(m c:Int)(o wd:ByteArray)(s r bi t:Bool)(B:Int)(w:World)(a3:eh w)(bA:1≤k∧k≤20)(hu:iP[k]? =some ⟨wd,s,r,bi,t,B⟩)(bf:n.size≤16777216)(bg:o.size≤16777216)(Z:du ⟨(k:Int),n,m,c,o⟩=true):
  Calls Tryz.prog 64 #[.agg #[.int .i64 (k:Int), .string n, .int .i64 m, .int .i64 c, .string o]] w (aH w (.tuple #[.string ⟨(kq ⟨wd,s,r,bi,t,B⟩ ⟨(k:Int),n,m,c,o⟩).toArray⟩, .int .i64 0])):=by
 have a4:AJ ⟨wd,s,r,bi,t,B⟩ ⟨(k:Int),n,m,c,o⟩:=by
  obtain⟨_,u,ae,be⟩:=nQ Z;simp only[Int.toNat_natCast]at ae;rw[hu]at ae;cases ae;exact mT be
 have aO:=wY hu;simp only at aO;have aD:Hid (r=true→m=(m.toNat:Int)∧m.toNat≤1073741824):=fun h=>by
  have:=a4.n1 h;simp only at this;omega
 have ap:Hid (bi=true→c=(c.toNat:Int)∧c.toNat≤1073741824):=fun h=>by
  have:=a4.i1 h;simp only at this;omega
 have M:Hid (enc k++(if s then aV (aQ n)else[])++(if r then enc m.toNat else[])++(if bi then enc c.toNat else[])++(if t then aV (aQ o)else[])=kq ⟨wd,s,r,bi,t,B⟩ ⟨(k:Int),n,m,c,o⟩):=by
  simp[Hid,kq]
 have a8:Hid (∀w',Fr ag w w'→Calls Tryz.prog 115 #[.agg #[.int .i64 (k:Int), .string n, .int .i64 m, .int .i64 c, .string o]] w' (Checked w' ⟨(k:Int),n,m,c,o⟩)):=fun w' f=>lV ⟨(k:Int),n,m,c,o⟩ w' (a3.ao f) (by simp only;omega) (by simp only;omega);have Q:Hid ((kq ⟨wd,s,r,bi,t,B⟩ ⟨(k:Int),n,m,c,o⟩).length≤50+n.size+o.size):=qG _ _;have aF:=af Z;have G:Hid (n.size≤16777216∧o.size≤16777216):=⟨bf,bg⟩;have bn:Hid (∀j v,(pX wd s r bi t B).toList[j]? =some v→w.cell? ⟨0,k*6+j,none⟩=some v):=a3.row k _ hu;have am:(k:Int)<21:=by omega
 have bB:k<21:=by omega
 have bI:(0:Int)≤(k:Int):=by omega
 clear a3 hu Z a4 aO bf bg;obtain⟨aZ,X⟩:∃L,enc k++(if s then aV (aQ n)else[])=L:=⟨_,rfl⟩;obtain⟨a0,H⟩:∃L,aZ++(if r then enc m.toNat else[])=L:=⟨_,rfl⟩;obtain⟨a1,I⟩:∃L,a0++(if bi then enc c.toNat else[])=L:=⟨_,rfl⟩;obtain⟨bb,J⟩:∃L,a1++(if t then aV (aQ o)else[])=L:=⟨_,rfl⟩;rw[X,H,I,J]at M;rw[←M.out]at Q;rw[←M.out];have av:=af X;have ax:=af H;have az:=af I;have aA:=af J;have N:Hid (aZ.length≤100000000∧a0.length≤100000000∧a1.length≤100000000∧bb.length≤100000000):=by
  have ae:=Q.out;have be:=G.out;rw[←J,←I,←H]at ae;simp only[aS]at ae;simp only[Hid];rw[←J,←I,←H];simp only[aS];omega
 clear X H I J M Q;go_enter Tryz.func64,Tryz.ntmps64;go_wp2_with(refine aB rfl 106 (.tmp 0) rfl (Cg k n m c o) rfl ?_);intro w1 n1;have aY:=af n1.fr;have aN:=af n1.aE;clear n1;generalize w.heap.size=A at*;have U:Hid (aq w1 A 106 (Cg k n m c o)):=aN.out;clear aN;go_wp2_with(refine aC rfl 106 (.tmp 1) rfl ⟨A,0,none⟩ rfl (aJ.cells ⟨(k:Int),n,m,c,o⟩) _ ?zF Tryz.underlying106 rfl aT (aR.go ?zH));case zF=>exact fun j x aa=>by rw[Addr.add_mid,Nat.zero_add];exact U.out.cell j|>.trans (by rw[←bP]at aa;exact aa)
 unfold aR;go_wp2_with fail;refine(a8.out _ aY.out).mono ?_;rintro e w2⟨q,rfl,a5,f2⟩;obtain rfl:q=0:=by
  rw[aF.out]at a5;exact beq_iff_eq.1 a5
 have a9:=af (aY.out.trans f2);have V:=af (U.out.fr f2 (fun x=>x));clear a5 f2 a8 aF U aY;go_upto_region 4 with fail;refine ay 6 ag [Is (.pointer (some ⟨A,0,none⟩)),Is (.int .i64 (k:Int)),Is (.pointer (some ⟨0,k*6,none⟩)),Is (.agg (pX wd s r bi t B)),(fun a7 a6=>∃g,a7= .pointer (some ⟨g,0,none⟩)∧w2.heap.size≤g∧Wr a6 g (.slice none 0 0) [] 0),(fun a7 a6=>∃g,a7= .pointer (some ⟨g,0,none⟩)∧w2.heap.size≤g∧aq a6 g 189 #[.string ByteArray.empty, .bool false, .bool false, .bool false, .bool false, .int .i64 0])] [] (fun _=>True) (fun _ _=>false) (by kernel_rfl) (by kernel_rfl) (by kernel_rfl) (by kernel_rfl) ⟨Is.ah _,Is.ah _,Is.ah _,Is.ah _,fun _ _ _ _ f h=>by obtain⟨g,e,l,b⟩:=h;exact⟨g,e,l,b.cN f (fun _ _ x=>x)⟩,fun _ _ _ _ f h=>by obtain⟨g,e,l,b⟩:=h;exact⟨g,e,l,b.fr f (fun x=>x)⟩,trivial⟩ trivial (fun _ _ _ _ h=>h) trivial ?_ ?_
 ·refine⟨?zG,?zA,?zB,?zC,?zD,?zE,trivial⟩;all_goals intro u w' d Y F am aP ab
  all_goals simp only[bw,bC,bD,bE,ar,Act.put,bF,bG,bH,Nat.reduceAdd,Nat.zero_add]
  case zA=>
   simp only[show u 0=_ from F 0];clear F am aP ab;refine aj ?_;have q:_=some (Value.int .i64 (k:Int)):=(V.out.fr Y (fun x=>x)).cell 0;go_simp;exact⟨_,rfl,al⟩
  case' zB=>simp only[show u 1=_ from F 1]
  case zC=>
   simp only[show u 2=_ from F 2];clear F am aP ab;refine aj ?_;exact au _ _ rfl ⟨0,k*6,none⟩ rfl (pX wd s r bi t B).toList _ (fun bt v bs=>by rw[Addr.add_mid];exact(a9.out.trans Y).ak (bn.out bt v bs) (fun x=>x)) Tryz.underlying189 rfl ki ⟨_,rfl,al⟩
  case zD=>
   clear F am aP ab;refine aj ?_;go_simp;refine(lX _).mono ?_;rintro e bu⟨rfl,hw,f4⟩;exact⟨_,rfl,f4.bO,⟨_,rfl,Y.size,hw⟩,trivial⟩
  case zE=>
   clear F am aP ab;refine aj ?_;refine lP 189 rfl GS xL #[.string ByteArray.empty, .bool false, .bool false, .bool false, .bool false, .int .i64 0] rfl ?_;intro bu n4;exact⟨_,rfl,n4.fr,⟨_,rfl,Y.size,n4.aE⟩,trivial⟩
  all_goals
   clear F am aP ab;refine aj ?_;go_simp;exact⟨_,rfl,al⟩
 ·intro u w' Y F ab;have aW:u 3=_:=F 3 (by omega);obtain⟨E,bh,lw,aL⟩:=F 4 (by omega);obtain⟨D,bj,bk,aI⟩:=F 5 (by omega);clear F ab;simp only[bw,bC,bD,bE,ar,Act.put,bF,bG,bH,dj,dk,Nat.reduceAdd,Nat.zero_add,aW,bh,bj];have T:=af aL;have S:=af aI;have bc:Hid (w2.heap.size≤E∧w2.heap.size≤D):=⟨lw,bk⟩;have ba:=af Y;clear Y aW bh bj lw bk aL aI;refine ai rfl 189 (.tmp 5) _ rfl D (pX wd s r bi t B) rfl rfl _ _ S.out ki rfl (iC.one ⟨wd,s,r,bi,t,B⟩) ?_;intro y bd a2;have NE:Hid (E≠D):=eE T.out.aE S.out (by decide);have aM:Hid (Wr y E (.slice none 0 0) [] 0):=T.out.cN a2 (fun x aa e=>by have bq:x=D:=e;have:=sC aa;have:=NE.out;omega);have P:Hid (Fr ag w2 y):=ba.out.aw a2 (fun i bz e=>by have bq:i=D:=e;have:=bc.out;omega);have a:Hid (WN w2 y E (.slice none 0 0) []):=⟨⟨y,dn.start aM.out,P.out⟩,bc.out.1⟩;have K:Hid (aq y D 189 (pX wd s r bi t B)):=bd;have C:Hid (aq y A 106 (Cg k n m c o)):=V.out.fr P.out (fun x=>x);clear a2 bd T S ba V aM NE P;have bo:y.cell? ⟨A,0,none⟩=some (.int .i64 (k:Int)):=C.out.cell 0;go_wp2_with fail;refine(jU E _ _ 0 (k:Int) _ a.out.wr (by simp) (by omega)).mono ?_;rintro e an⟨rfl,aX,z⟩;rw[jh,List.nil_append]at z;have ST:Hid (NS w2 an E D A (pX wd s r bi t B) (Cg k n m c o) (enc k)):=a.out.ns K.out C.out z;clear z bo a K C;generalize an=y at*;have ub:y.cell? ⟨D,1,none⟩=some (.bool s):=by obtain⟨_,_,h,_⟩:=ST.out;exact h.cell 1
  go_upto_if 24 with fail;clear ub;go_cut[1](fun ac ad=>ac= .pointer (some ⟨A,0,none⟩)∧NS w2 ad E D A (pX wd s r bi t B) (Cg k n m c o) aZ);case first=>
   cases s;·go_wp2;go_meet;refine⟨rfl,?_⟩;have h:=ST.out;rw[←av.out];simpa using h
   ·obtain⟨v,wn,ub,nb⟩:=ST.out;have a:=af wn;have K:=af ub;have C:=af nb;clear wn ub nb;have W:y.cell? ⟨A,1,none⟩=some (.string n):=C.out.cell 1;go_wp2_with fail;refine(mD E v _ 0 n _ a.out.wr (by have:=aU k;omega) (by have:=G.out;omega)).mono ?_;rintro e an⟨rfl,aX,z⟩;rw[ji _ _ (by have:=G.out;omega)]at z;have h:=a.out.ns K.out C.out z;have R:=af h;clear z h W;go_wp2;go_meet;refine⟨rfl,?_⟩;have h:=R.out;rw[←av.out];simpa[aV,aK]using h
  case rest=>
   obtain⟨rfl,p⟩:=hcut;clear ST;have ST:=af p;clear p;generalize wc=y at*;have ub:y.cell? ⟨D,2,none⟩=some (.bool r):=by obtain⟨_,_,h,_⟩:=ST.out;exact h.cell 2
   go_upto_if 30 with fail;clear ub;go_cut[1](fun ac ad=>ac= .pointer (some ⟨A,0,none⟩)∧NS w2 ad E D A (pX wd s r bi t B) (Cg k n m c o) a0);case first=>
    cases r;·go_wp2;go_meet;refine⟨rfl,?_⟩;have h:=ST.out;rw[←ax.out];simpa using h
    ·obtain⟨v,wn,ub,nb⟩:=ST.out;have a:=af wn;have K:=af ub;have C:=af nb;clear wn ub nb;have W:y.cell? ⟨A,2,none⟩=some (.int .i64 m):=C.out.cell 2;go_wp2_with fail;refine(jU E v _ 0 m _ a.out.wr (by have:=N.out;omega) (by have:=aD.out (by first|rfl|trivial);omega)).mono ?_;rintro e an⟨rfl,aX,z⟩;rw[(aD.out (by first|rfl|trivial)).1,jh]at z;have h:=a.out.ns K.out C.out z;have R:=af h;clear z h W;go_wp2;go_meet;refine⟨rfl,?_⟩;have h:=R.out;rw[←ax.out];simpa[aV,aK]using h
   case rest=>
    obtain⟨rfl,p⟩:=hcut;clear ST;have ST:=af p;clear p;generalize wc=y at*;have ub:y.cell? ⟨D,3,none⟩=some (.bool bi):=by obtain⟨_,_,h,_⟩:=ST.out;exact h.cell 3
    go_upto_if 36 with fail;clear ub;go_cut[1](fun ac ad=>ac= .pointer (some ⟨A,0,none⟩)∧NS w2 ad E D A (pX wd s r bi t B) (Cg k n m c o) a1);case first=>
     cases bi;·go_wp2;go_meet;refine⟨rfl,?_⟩;have h:=ST.out;rw[←az.out];simpa using h
     ·obtain⟨v,wn,ub,nb⟩:=ST.out;have a:=af wn;have K:=af ub;have C:=af nb;clear wn ub nb;have W:y.cell? ⟨A,3,none⟩=some (.int .i64 c):=C.out.cell 3;go_wp2_with fail;refine(jU E v _ 0 c _ a.out.wr (by have:=N.out;omega) (by have:=ap.out (by first|rfl|trivial);omega)).mono ?_;rintro e an⟨rfl,aX,z⟩;rw[(ap.out (by first|rfl|trivial)).1,jh]at z;have h:=a.out.ns K.out C.out z;have R:=af h;clear z h W;go_wp2;go_meet;refine⟨rfl,?_⟩;have h:=R.out;rw[←az.out];simpa[aV,aK]using h
    case rest=>
     obtain⟨rfl,p⟩:=hcut;clear ST;have ST:=af p;clear p;generalize wc=y at*;have ub:y.cell? ⟨D,4,none⟩=some (.bool t):=by obtain⟨_,_,h,_⟩:=ST.out;exact h.cell 4
     go_upto_if 42 with fail;clear ub;go_cut[1](fun ac ad=>ac= .pointer (some ⟨A,0,none⟩)∧NS w2 ad E D A (pX wd s r bi t B) (Cg k n m c o) bb);case first=>
      cases t;·go_wp2;go_meet;refine⟨rfl,?_⟩;have h:=ST.out;rw[←aA.out];simpa using h
      ·obtain⟨v,wn,ub,nb⟩:=ST.out;have a:=af wn;have K:=af ub;have C:=af nb;clear wn ub nb;have W:y.cell? ⟨A,4,none⟩=some (.string o):=C.out.cell 4;go_wp2_with fail;refine(mD E v _ 0 o _ a.out.wr (by have:=N.out;omega) (by have:=G.out;omega)).mono ?_;rintro e an⟨rfl,aX,z⟩;rw[ji _ _ (by have:=G.out;omega)]at z;have h:=a.out.ns K.out C.out z;have R:=af h;clear z h W;go_wp2;go_meet;refine⟨rfl,?_⟩;have h:=R.out;rw[←aA.out];simpa[aV,aK]using h
     case rest=>
      obtain⟨rfl,p⟩:=hcut;clear ST;have ST:=af p;clear p;generalize wc=y at*;obtain⟨v,wn,ub,nb⟩:=ST.out;have a:=af wn;clear wn ub nb ST;go_wp2_with fail;refine(nd E _ _ _ _ a.out.wr (by have:=N.out;omega)).mono ?_;rintro e bv⟨_,aa⟩;obtain⟨bK,rfl,O⟩:=aa rfl;obtain⟨bx,bJ,bp,rfl,bm,_⟩:=aG O.own;have br:=kx bv _ _ _ bp _ (oX.rd O.own bm.out);have bl:=af ((a9.out.trans a.out.fr).trans O.ao);clear O aa;go_wp2;go_ret2;exact⟨rfl,bl.out⟩
theorem yl(n:aJ)(w:World)(h:eh w)(b:n.owner.size≤16777216)(c:n.text.size≤16777216)(a:du n=true):
  Calls Tryz.prog 64 #[.agg n.cells.toArray] w (aH w (.tuple #[.string ⟨(cM n).toArray⟩, .int .i64 0])):=by
 obtain⟨i,u,hu,_⟩:=nQ a;rw[nO hu];obtain⟨d,o,m,j,p⟩:=n;obtain⟨wd,f,e,bi,g,l⟩:=u;simp only at b c i hu;obtain⟨k,rfl⟩:∃k:Nat,d=(k:Int):=⟨d.toNat,by omega⟩;rw[Int.toNat_natCast]at hu;exact Hi k o m j p wd f e bi g l w h (by omega) hu b c a
end Go.Proofs.YtphjagkehiklkaaGreatDoor
namespace Go.Proofs.YtphjagkehiklkaaGreatDoor
open Go.RowKit Go.Shelf
attribute[local go_sem]Oper.semAt_some
abbrev lD(w:World)(P:Nd→Prop):={x:Nd//lW w x∧P x}
def zS{w:World}{P:Nd→Prop}(x:lD w P):Array Value:=#[.pointer (some ⟨x.1.g,0,none⟩)]
def yM{w:World}{P:Nd→Prop}(x:lD w P):aJ×ByteArray:=(x.1.nm,x.1.v)
def JA(w:World)(P:Nd→Prop)(b a:List (lD w P)→World→Prop)(pre xs:List (lD w P))(e:Ending)(W':World):Prop:=
 (e= .returned (.bool true)∧b (pre++xs) W'∧KN w W')∨(e= .returned (.bool false)∧∃q,q<+:xs∧a (pre++q) W')
inductive nG(w:World)(P:Nd→Prop):Option Addr→Tr→List (lD w P)→Prop where
 |leaf:nG w P none .leaf []
 |node{l r:Tr}{nm:aJ}{v:ByteArray}{g:Nat}{a ra:Option Addr}{L f:List (lD w P)}(c:nG w P a l L)(d:nG w P ra r f)
   (b:aq w g 177 (oH a ra (.node l nm v r)).toArray)(x:lD w P)(e:x.1=⟨g,nm,v⟩):nG w P (some ⟨g,0,none⟩) (.node l nm v r) (L++x::f)
theorem nG.of{w:World}{P:Nd→Prop}:∀{a:Option Addr}{t:Tr},cm w a t→(∀g e,e∈t.bJ→P ⟨g,e.1,e.2⟩)→∃L,nG w P a t L
 |_, .leaf,h,_=>by
  obtain rfl:_=none:=h;exact⟨[], .leaf⟩
 |_, .node l nm v r,⟨g,k,ra,e,d,f,c⟩,b=>by
  subst e;obtain⟨L,i⟩:=nG.of d (fun g e he=>b g e (by rw[Tr.bJ];simp[he]));obtain⟨m,j⟩:=nG.of f (fun g e he=>b g e (by rw[Tr.bJ];simp[he]));exact⟨_, .node i j c ⟨⟨g,nm,v⟩,⟨_,_,_,_,_,c⟩,b g (nm,v) (by rw[Tr.bJ];simp)⟩ rfl⟩
theorem nG.bJ{w:World}{P:Nd→Prop}{a:Option Addr}{t:Tr}{L:List (lD w P)}(h:nG w P a t L):L.map yM=t.bJ:=by
 induction h with
 |leaf=>rfl
 |node _ _ _ x d b c=>
  rw[List.map_append,List.map_cons,b,c,Tr.bJ];simp only[yM,d]
theorem Il(l N:Nat)(w:World)(P:Nd→Prop)(J p:List (lD w P)→World→Prop)
  (S:∀m pre x W,J pre W→KN w W→pre.length<N→YieldAt Fence.wide m Tryz.prog l (zS x) W fun e W'=>(e= .returned (.bool true)∧J (pre++[x]) W'∧KN W W')∨(e= .returned (.bool false)∧p (pre++[x]) W'))
  {a:Option Addr}{t:Tr}{L:List (lD w P)}(h:nG w P a t L):
  ∀(m:Nat)(pre:List (lD w P))(W:World),J pre W→KN w W→pre.length+L.length≤N→
   CallsIn Fence.wide m Tryz.prog 170 #[.pointer a, .func (.yield l) #[] #[]] W (JA w P J p pre L):=by
 induction h with
 |leaf=>
  intro m pre W r i _;refine callsIn_of_wp Tryz.func170 rfl trivial ?_ rfl;simp only[Tryz.ntmps170,List.size_toArray,List.length_cons,List.length_nil,Nat.reduceAdd,Nat.reduceSub,Array.replicate_succ,Array.replicate_zero,List.push_toArray,List.append_toArray,List.nil_append,List.cons_append];gi_wp2_with(refine gj rfl ?_);go_ret;exact .inl ⟨rfl,by simpa using r,i⟩
 |@node ae ag nm v g Z ra L R ab ac I x Y C D=>
  intro m pre W r i Q;have d:∀k:Nat,(Fence.wide.depth.isSome=true→1≤k):=fun k h=>by cases h
  rw[aS,List.length_cons]at Q;have n:zS x=#[Value.pointer (some ⟨g,0,none⟩)]:=by rw[zS,Y]
  have y:∀b,J (pre++L) b→KN w b→YieldAt Fence.wide (m-1) Tryz.prog l #[.pointer (some ⟨g,0,none⟩)] b fun e c=>
    (e= .returned (.bool true)∧J (pre++L++[x]) c∧KN b c)∨(e= .returned (.bool false)∧p (pre++L++[x]) c):=fun b F H=>by
   have:=S (m-1) (pre++L) x b F H (by simp;omega);rw[n]at this;exact this
  have A:=af ((C (m-1) pre W r i (by omega)).mono (R':=fun e b=>
    (e= .returned (.bool true)∧KN w b∧YieldAt Fence.wide (m-1) Tryz.prog l #[.pointer (some ⟨g,0,none⟩)] b fun e c=>
     (e= .returned (.bool true)∧J (pre++L++[x]) c∧KN b c)∨(e= .returned (.bool false)∧p (pre++L++[x]) c))∨
    (e= .returned (.bool false)∧∃q,q<+:L∧p (pre++q) b))
   (fun e b h=>h.elim (fun⟨he,X,j⟩=> .inl ⟨he,j,y b X j⟩) .inr));have B:=af (fun W r i=>D (m-1) (pre++L++[x]) W r i (by simp;omega));have U:W.cell? ⟨g,0,none⟩=some (.pointer Z):=(i _ _ I).cell 0;have HB:=af I;clear y C D S Q I n;refine callsIn_of_wp Tryz.func170 rfl trivial ?_ rfl;simp only[Tryz.ntmps170,List.size_toArray,List.length_cons,List.length_nil,Nat.reduceAdd,Nat.reduceSub,Array.replicate_succ,Array.replicate_zero,List.push_toArray,List.append_toArray,List.nil_append,List.cons_append];gi_wp2_with((try refine⟨trivial,d _,?_⟩);gi_at_call 170;refine A.out.mono ?_;clear A;rintro e b(⟨rfl,f,fn,tmps,assign,body,ad,hR⟩|⟨rfl,q,n,K⟩))
  ·have o:=af f;have V:b.cell? ⟨g,1,none⟩=some (.pointer ra):=(f _ _ HB.out).cell 1;clear f U;refine⟨d _,?_⟩;refine hR.mono ?_;clear hR;rintro e c(⟨rfl,s,u⟩|⟨rfl,M⟩)
   ·have j:=o.out.trans u;have T:=af j;have E:=af s;have V:c.cell? ⟨g,1,none⟩=some (.pointer ra):=(j _ _ HB.out).cell 1;clear j u s o;gi_wp2_with((try refine⟨trivial,d _,?_⟩);gi_at_call 170;refine(B.out _ E.out T.out).mono ?_;clear B;rintro e aa(⟨rfl,G,hk3⟩|⟨rfl,q,n,O⟩));·go_ret;exact .inl ⟨rfl,by simpa[List.append_assoc]using G,hk3⟩
    ·go_ret;exact .inr ⟨rfl,L++x::q,by
      obtain⟨z,rfl⟩:=n;exact⟨z,by simp⟩,by simpa[List.append_assoc]using O⟩
   ·gi_wp2_with(refine gj rfl ?_);go_ret;exact .inr ⟨rfl,L++[x],by exact⟨R,by simp⟩,by simpa[List.append_assoc]using M⟩
  ·refine⟨fun _ h=>(by cases h),?_⟩;gi_wp2_with(refine gj rfl ?_);go_ret;exact .inr ⟨rfl,q,n.trans (List.prefix_append _ _),K⟩
theorem xV(m B s:Nat)(a:Option Addr)(t:Tr)(w:World)(P:Nd→Prop)(L:List (lD w P))(r:nG w P a t L)(f:aq w B 25 #[.pointer (some ⟨s,0,none⟩)])(i:aq w s 174 #[.pointer a]):
  SeqStopsK Fence.wide m Tryz.prog 169 #[.pointer (some ⟨B,0,none⟩)] (fun x:lD w P=>#[Value.pointer (some ⟨x.1.g,0,none⟩)]) KN (fun C=>C=L) (fun pre=>pre<+:L) L.length w:=by
 intro l G n W c _ _ u o;have d:∀k:Nat,(Fence.wide.depth.isSome=true→1≤k):=fun k h=>by cases h
 have j:=Il l L.length w P G n (fun m pre x W v _ y=>YieldAt.jI rfl m (u pre x W v y)) r (m-1) [] W o (KN.below c) (by simp);have E:W.cell? ⟨B,0,none⟩=some (.pointer (some ⟨s,0,none⟩)):=(c.cell (p:=⟨B,0,none⟩) f.lt).trans (f.cell 0);have F:W.cell? ⟨s,0,none⟩=some (.pointer a):=(c.cell (p:=⟨s,0,none⟩) i.lt).trans (i.cell 0);refine callsIn_of_wp Tryz.func169 rfl trivial ?_ rfl;simp only[Tryz.ntmps169,List.size_toArray,List.length_cons,List.length_nil,Nat.reduceAdd,Nat.reduceSub,Array.replicate_succ,Array.replicate_zero,List.push_toArray,List.append_toArray,List.nil_append,List.cons_append];gi_wp2_with((try refine⟨trivial,d _,?_⟩);gi_at_call 170;refine j.mono ?_;clear j;rintro e D(⟨rfl,b,_⟩|⟨rfl,q,z,A⟩));·go_end0;exact⟨⟨_,rfl⟩, .inl ⟨_,rfl,by simpa using b⟩⟩
 ·go_end0;exact⟨⟨_,rfl⟩, .inr ⟨q,z,by simpa using A⟩⟩
end Go.Proofs.YtphjagkehiklkaaGreatDoor
namespace Go.Proofs.YtphjagkehiklkaaGreatDoor
open Go.RowKit Go.Shelf
attribute[local go_sem]Oper.semAt_some
theorem Mm:(Tryz.prog.info? 113).map (·.size)=some 1:=by kernel_rfl
theorem NM(w:World):(zeroValue 113).run Tryz.prog w= .ok (.pointer none) w:=by kernel_rfl
structure AL{α:Type}(b w3:World)(g2 a:Nat)(lw:List α→List UInt8)(pre:List α)(W:World):Prop where
 fr:Fr ag b W
 kn:KN w3 W
 box:aq W g2 113 #[.pointer (some ⟨a,0,none⟩)]
 wr:∃v,Wr W a v (lw pre) 0∧∀k,v.ownBlock=some k→b.heap.size≤k
theorem qe{X:World}{g k:Nat}{t:TypeId}{cs:Array Value}{d:Obj}(a:aq X g t cs)(b:X.heap[k]? =some d)(c:d.isCells=false):g≠k:=by
 rintro rfl;unfold aq at a;rw[a]at b;cases b;simp[Obj.isCells]at c
theorem ny{X:World}{e:TypeId}{sz n k:Nat}{v:Value}{xs:List Value}{i:Obj}(h:X.ownsRow 0 e sz v n xs)(b:X.heap[k]? =some i)(d:i.isCells=false):v.ownBlock≠some k:=by
 intro g;obtain⟨c,f,a⟩:=cS h g;rw[a]at b;cases b;simp[Obj.isCells]at d
theorem AL.iY{α:Type}{j w3:World}{g2 l B:Nat}{lw:List α→List UInt8}(p:j.heap.size≤B):OwnFrom B (AL j w3 g2 l lw):=by
 intro pre X Y row h n f;have d:Fr (fun k=>some k=row) X Y:=Fr.grown n;obtain⟨v,hw,o⟩:=h.wr;refine⟨h.fr.aw d (fun i q e=>(by have:=(f i e.symm).1;omega)),h.kn.trans (KN.fr d (fun g cs m e=>?_)),h.box.fr d (fun e=>?_),⟨v,hw.cN d (fun k c e=>?_),o⟩⟩;·obtain⟨_,r,b,a⟩:=f g e.symm;exact qe m b a rfl
 ·obtain⟨_,r,b,a⟩:=f g2 e.symm;exact qe h.box b a rfl
 ·obtain⟨_,r,b,a⟩:=f k e.symm;rcases c with c|c;·exact qe hw.aE b a c.symm
  ·exact ny hw.own b a c
theorem AL.step{α:Type}{e w3 W j X:World}{g2 b B:Nat}{lw:List α→List UInt8}{pre a:List α}{v v3:Value}(c:AL e w3 g2 b lw pre W)(o:e.heap.size≤b)
  (hw:Wr W b v (lw pre) 0)(n:∀k,v.ownBlock=some k→e.heap.size≤k)(f:Fr ag W j)(st:dn j b v X v3 (lw a,0)):KeepsFrom B W X∧KN W X∧AL e w3 g2 b lw a X:=by
 have F:Fr (LO b v) W X:=f.bO.trans st.fr;have K:KN W X:=KN.fr F (fun g cs l h=>by
  rcases h with h|h;·exact eE l hw.aE (by decide) h
  ·exact bM hw.own l (by decide) h);refine⟨⟨F.size,fun k r _ d m=>?_⟩,K,?_,c.kn.trans K,c.box.fr F (fun h=>?_),⟨v3,st.wr,fun k p=>?_⟩⟩
 ·refine(F.block k (Array.getElem?_eq_some_iff.1 d).1 ?_).trans d;rintro(h|h);·exact qe hw.aE d m h.symm
  ·exact ny hw.own d m h
 ·refine c.fr.aw F (fun i q h=>?_);rcases h with h|h;·omega
  ·have:=n i h;omega
 ·rcases h with h|h;·exact eE c.box hw.aE (by decide) h
  ·exact bM hw.own c.box (by decide) h
 ·rcases st.eG k p with h|h;·exact n k h
  ·have:=c.fr.size;have:=f.size;omega
def DA(LE:List Ent)(x:Nd):Prop:=(x.nm,x.v)∈LE
def mh{w:World}{P:Nd→Prop}(n:Nat)(a:List (lD w P)):List UInt8:=enc n++(a.map yM).flatMap mO
theorem vQ{w:World}{P:Nd→Prop}(n:Nat)(a:List (lD w P))(y:lD w P):mh n (a++[y])=mh n a++aV (cM y.1.nm)++aV (aQ y.1.v):=by
 simp[mh,mO,yM,List.flatMap_append,List.append_assoc]
theorem xE(s:ByteArray):enc s.size++aQ s=aV (aQ s):=by rw[aV,aK]
theorem Jj(l:List UInt8):enc (⟨l.toArray⟩:ByteArray).size++aQ ⟨l.toArray⟩=aV l:=by
 rw[←aK];rfl
structure uH(L:List Ent):Prop where
 ok:∀x∈L,du x.1=true
 owner:∀x∈L,x.1.owner.size≤1048576
 text:∀x∈L,x.1.text.size≤1048576
 value:∀x∈L,x.2.size≤1048576
 len:L.length≤60000
theorem oA:∀(L:List Ent),(∀x∈L,x.1.owner.size≤1048576)→(∀x∈L,x.1.text.size≤1048576)→(∀x∈L,x.2.size≤1048576)→(L.flatMap mO).length≤L.length*4000000
 |[],_,_,_=>by simp
 |x::L,b,c,d=>by
  have e:=oA L (fun y a=>b y (by simp[a])) (fun y a=>c y (by simp[a])) (fun y a=>d y (by simp[a]));have f:=b x (by simp);have a2:=c x (by simp);have a3:=d x (by simp);have b1:=dW x.1;have b2:=aU (cM x.1).length;have b3:=aU (aQ x.2).length;have b4:=aK x.2;simp only[List.flatMap_cons,mO,aV,aS,List.length_cons]at e⊢;omega
theorem Ke{w:World}{P:Nd→Prop}(n:Nat)(b:List (lD w P))(c:∀y:lD w P,y.1.nm.owner.size≤1048576)(d:∀y:lD w P,y.1.nm.text.size≤1048576)(e:∀y:lD w P,y.1.v.size≤1048576):(mh n b).length≤10+b.length*4000000:=by
 have h:=oA (b.map yM) (fun x a=>by obtain⟨y,_,rfl⟩:=List.mem_map.1 a;exact c y) (fun x a=>by obtain⟨y,_,rfl⟩:=List.mem_map.1 a;exact d y) (fun x a=>by obtain⟨y,_,rfl⟩:=List.mem_map.1 a;exact e y);have f:=aU n;rw[List.length_map]at h;simp only[mh,aS];omega
def nF(w:World)(l:List UInt8)(e:Ending)(w':World):Prop:=∃v,e= .returned v∧iH w (.slice none 0 0) w' v l
theorem ym(LE:List Ent)(s:Nat)(w:World)(bp:eJ w s LE)(bV:eh w)(aa:uH LE):Calls Tryz.prog 102 #[.pointer (some ⟨s,0,none⟩)] w (nF w (dO LE)):=by
  obtain⟨t,aF,het⟩:=bp;have aX:t.size=LE.length:=by rw[←t.bW,het]
  have b6:=af (fun w=>oI (some ⟨s,0,none⟩) w);have z:=af aa;have ak:=af het;have cd:=af aX;have cc:=af bV;have bz:=af aF;have au:Hid ((dO LE).length≤250000000000):=by
    have a6:=oA LE aa.owner aa.text aa.value;have a7:=aU LE.length;have bU:=aa.len;simp only[Hid,dO,aS];omega
  clear aF het aX aa bV;refine(callsIn_wide (n:=6)).1 (callsIn_of_wp_marks Tryz.func102 rfl trivial (wpIn_wide.2 ?_) rfl);simp only[Tryz.ntmps102,List.size_toArray,List.length_cons,List.length_nil,Nat.reduceAdd,Nat.reduceSub,Array.replicate_succ,Array.replicate_zero,List.push_toArray,List.append_toArray,List.nil_append,List.cons_append];go_wp2_with fail;refine(lX _).mono ?_;rintro r w1⟨rfl,aP,f1⟩;have ap:Sz w w.heap.size:=Nat.le_refl _;generalize w.heap.size=a at*;have bL:=af aP;have bb:=af f1;clear aP f1;go_wp2_with(refine an rfl 113 rfl (.pointer none) NM #[.pointer none] rfl ?_);intro w2 b4;have bj:=af b4;clear b4;have b9:Sz w w1.heap.size:=bb.out.size;generalize aI:w1.heap.size=g2 at*;have am:=af aI;clear aI;have bs:Hid (aq w2 g2 113 #[.pointer none]):=by have h:=bj.out.aE;rw[am.out]at h;exact h
  go_wp2_with(refine bS rfl 113 (.tmp 3) _ rfl g2 (.pointer (some ⟨a,0,none⟩)) rfl rfl rfl _ _ bs.out Mm ?_);intro w3 b3 f3;have S:Hid (Fr ag w1 w3):=bj.out.fr.aw f3 (fun i bY e=>by have a5:i=g2:=e;have:=am.out;omega);have bc:=af (bb.out.trans S.out);have a9:=af b3;have bN:Hid (Wr w3 a (.slice none 0 0) [] 0):=bL.out.cN S.out (fun _ _ x=>x);clear b3 f3 bj bs bL bb S;have CL:Hid (∀w',Fr ag w3 w'→Calls Tryz.prog 94 #[.pointer (some ⟨s,0,none⟩)] w' (bm w' (.int .i64 (LE.length:Int)))):=fun w' f=>by
    rw[←cd.out];exact pj w' s t (bz.out.ao (bc.out.trans f))
  go_upto_region 4 with fail;refine ay 3 ag [Is (.pointer (some ⟨a,0,none⟩)),Is (.pointer (some ⟨s,0,none⟩)),Is (.int .i64 (LE.length:Int))] [] (fun _=>True) (fun _ _=>false) (by kernel_rfl) (by kernel_rfl) (by kernel_rfl) (by kernel_rfl) ⟨Is.ah _,Is.ah _,Is.ah _,trivial⟩ trivial (fun _ _ _ _ h=>h) trivial ?_ ?_
  · refine⟨?zA,?zG,?zB,trivial⟩;all_goals intro u w' d hf b X B G
    all_goals simp only[bw,bC,bD,bE,ar,Act.put,bF,bG,bH,Nat.reduceAdd,Nat.zero_add]
    case zA=>
      clear b X B G;refine aj ?_;have q:_=some (Value.pointer (some ⟨a,0,none⟩)):=(a9.out.fr hf (fun x=>x)).cell 0;go_simp;exact⟨_,rfl,al⟩
    case zB=>
      simp only[show u 1=_ from b 1];clear b X B G;refine aj ?_;go_simp;refine(CL.out _ hf).mono ?_;rintro e cu⟨rfl,rfl⟩;exact⟨_,rfl,al⟩
    all_goals
      clear b X B G;refine aj ?_;go_simp;exact⟨_,rfl,al⟩
  · intro u w' hf b G;have B:u 0=_:=b 0 (by omega);have b0:u 2=_:=b 2 (by omega);clear b G;simp only[bw,bC,bD,bE,ar,Act.put,bF,bG,bH,dj,dk,Nat.reduceAdd,Nat.zero_add,B,b0];have bl:Hid (Wr w' a (.slice none 0 0) [] 0):=bN.out.cN hf (fun _ _ x=>x);have ba:=af (a9.out.fr hf (fun x=>x));have bd:=af (bc.out.trans hf);have av:Hid (LE.length≤60000):=z.out.len;clear hf B b0 CL bN a9 bc;generalize w'=cu at*;go_wp2_with fail;refine(jU a _ _ 0 (LE.length:Int) _ bl.out (by simp) (by have:=av.out;omega)).mono ?_;rintro e br⟨rfl,v5,C⟩;rw[jh,List.nil_append]at C;have ad:Hid (Fr ag w br):=bd.out.aw C.fr (fun i bY e=>by have a5:=sC e;have:=ap;unfold Sz at this;omega);have bt:Hid (aq br g2 113 #[.pointer (some ⟨a,0,none⟩)]):=ba.out.fr C.fr (fun e=>eE ba.out bl.out.aE (by decide) (sC e));have bQ:=af C.wr;have bA:Hid (∀k,v5.ownBlock=some k→w.heap.size≤k):=fun k aJ=>by
      rcases C.eG k aJ with h|h;· simp[Value.ownBlock]at h
      · have:=bd.out.size;omega
    clear C bd ba bl;go_wp2_with fail;refine(b6.out _).mono ?_;rintro r Z⟨rfl,f6,bT⟩;have aZ:=af (ad.out.trans f6);have b5:=af (bt.out.fr f6 (fun x=>x));have ck:Hid (Wr Z a v5 (enc LE.length) 0):=bQ.out.cN f6 (fun _ _ x=>x);have b7:=af bT;have ch:Hid (∀k,v5.ownBlock=some k→w.heap.size≤k):=bA.out;clear f6 bT ad bt bQ bA;generalize br.heap.size=gs at*;obtain⟨a3,aO,aN⟩:=bz.out.ao aZ.out;obtain⟨L,bo⟩:=nG.of (P:=DA LE) aN (fun g e he=>by unfold DA;rw[←ak.out];exact he);have bB:Hid (L.map yM=LE):=bo.bJ.trans ak.out;have ci:Hid (L.length=LE.length):=by simp only[Hid];have h:=congrArg List.length bB.out;simpa using h
    have cb:=af bo;have bg:=af aO;clear aO aN bo;go_wp2_with fail;refine(wpIn_wide (n:=6)).1 ?_;refine wpIn_rangeFunc_ownG rfl (by omega) (gf:=169) (lb:=#[.pointer (some ⟨gs,0,none⟩)]) rfl trivial (enters_of Tryz.func169 (by kernel_rfl) rfl)
      (xV 5 gs s a3 t Z (DA LE) L cb.out b7.out bg.out) (fun h k=>h.trans k) (fun W l o ct _ cq cp _=>KN.put W l o ct cq cp) (Below.refl _ _) (fun _=>rfl)
      (AL w Z g2 a (fun cv:List (lD Z (DA LE))=>mh LE.length cv)) (fun _ _ _=>False) (AL.iY aZ.out.size) (fun _ _ _ _ _ h _ _=>h.elim)
      ⟨aZ.out,KN.refl _,b5.out,v5,by simpa[mh]using ck.out,ch.out⟩ ?zJ ?assign ?body ?done ?stop;case assign=>
      intro l x W K aD;gi_wp2;exact aD
    case body=>
      rintro b2 pre x W a8 aM;have bx:=af a8;have ca:=af aM;obtain⟨V,R,m,⟨v,F,c⟩⟩:=a8;have b8:=af V;have ax:=af F;have bf:=af c;have be:=af m;have a1:=af (x.2.1.kn R).ko;have H:Hid ((x.1.nm,x.1.v)∈LE):=x.2.2;have A:=af (vQ LE.length pre x);have J:Hid ((mh LE.length (pre++[x])).length≤250000000000+3000000):=by
        have a6:=z.out.owner _ H.out;have a7:=z.out.text _ H.out;have bU:=z.out.value _ H.out;have co:=dW x.1.nm;have cz:=aU (cM x.1.nm).length;have cA:=aU (aQ x.1.v).length;have cB:=aK x.1.v;have cC:=Ke LE.length pre (fun y=>z.out.owner _ y.2.2) (fun y=>z.out.text _ y.2.2) (fun y=>z.out.value _ y.2.2);have cD:=ca.out;have cm:=ci.out;have cn:=av.out;simp only at a6 a7 bU;simp only[Hid];rw[vQ];simp only[aV,aS];omega
      have bI:Hid (eh W):=cc.out.ao V;obtain⟨y,bq⟩:∃y:lD Z (DA LE),y=x:=⟨x,rfl⟩;have bh:=af bq;rw[←bq]at A J;obtain⟨⟨U,p,ab⟩,aW,bZ⟩:=x;rw[bh.out]at A J;simp only at a1 H A⊢;have bu:Hid (Calls Tryz.prog 64 #[.agg p.cells.toArray] W (aH W (.tuple #[.string ⟨(cM p).toArray⟩, .int .i64 0]))):=yl p W bI.out (by have:=z.out.owner _ H.out;simp only at this;omega) (by have:=z.out.text _ H.out;simp only at this;omega) (z.out.ok _ H.out);have bK:Hid (ab.size≤1048576):=z.out.value _ H.out;have aA:Hid ((cM p).length≤3000000):=by
        have a6:=z.out.owner _ H.out;have a7:=z.out.text _ H.out;have co:=dW p;simp only at a6 a7;simp only[Hid];omega
      clear V R m F c bq bI aM;gi_wp2_with(refine cj (kU 106) rfl (by kernel_rfl) ?_);refine aC rfl 106 (.tmp 22) rfl ⟨U,2,none⟩ rfl p.cells _ ?zI Tryz.underlying106 rfl aT (aR.go ?hold);case zI=>exact fun j v cr=>by rw[Addr.add_mid];exact a1.out.name j v cr
      unfold aR;go_wp2_with fail;refine bu.out.mono ?_;rintro e a4⟨rfl,f1⟩;have E:Hid (Wr a4 a v (mh LE.length pre) 0):=ax.out.cN f1 (fun _ _ x=>x);have I:=af (be.out.fr f1 (fun x=>x));have bi:=af (a1.out.ao f1);have ae:=af f1;clear f1 bu;go_wp2;show Code.wpIn (Fence.wide.inRound b2) (6-1-1) Tryz.prog _ _ _ _;have O:a4.cell? ⟨g2,0,none⟩=some (.pointer (some ⟨a,0,none⟩)):=I.out.cell 0;gi_wp2_with(refine cj (kU 113) rfl (by kernel_rfl) ?_);have M:Hid ((mh LE.length pre).length≤260000000000):=by
        have h:=J.out;rw[A.out]at h;simp only[aS]at h;simp only[Hid];omega
      go_wp2_with fail;refine(mD a v _ 0 ⟨(cM p).toArray⟩ _ E.out (by have:=M.out;omega) (by have:=aA.out;rw[←aK];exact Nat.le_trans this (by decide))).mono ?_;rintro e bR⟨rfl,v2,st2⟩
      rw[ji _ _ (by have h:=aA.out;have e:(⟨(cM p).toArray⟩:ByteArray).size=(cM p).length:=by rw[←aK];rfl
                    omega),Jj]at st2;have N:=af st2;have ac:Hid (aq bR g2 113 #[.pointer (some ⟨a,0,none⟩)]):=I.out.fr st2.fr (fun h=>by
        rcases h with h|h;· exact eE I.out E.out.aE (by decide) h
        · exact bM E.out.own I.out (by decide) h);have az:Hid (Mid bR U p ab):=((⟨⟨U,p,ab⟩,aW,bZ⟩:lD Z (DA LE)).2.1.kn ((bx.out.kn.trans (KN.fr ae.out (fun _ _ _ x=>x))).trans (KN.fr st2.fr (fun g cs bX h=>by
        rcases h with h|h;· exact eE bX E.out.aE (by decide) h
        · exact bM E.out.own bX (by decide) h)))).ko;clear st2 O a1 bi M;go_wp2;show Code.wpIn (Fence.wide.inRound b2) (6-1-1) Tryz.prog _ _ _ _;gi_wp2;refine pZ 5 ag [Is (.pointer (some ⟨a,0,none⟩)),Is (.pointer (some ⟨U,0,none⟩)),Is (.pointer (some ⟨U,0,none⟩)),Is (.pointer (some ⟨U,7,none⟩)),Is (.string ab)] [] (fun _=>True) (fun _ _=>false) (by kernel_rfl) (by kernel_rfl) (by kernel_rfl) (by kernel_rfl) (by kernel_rfl) ⟨Is.ah _,Is.ah _,Is.ah _,Is.ah _,Is.ah _,trivial⟩ trivial (fun _ _ _ _ h=>h) trivial ?_ ?_
      · refine⟨?zC,?zH,?zD,?zE,?zF,trivial⟩;all_goals intro u w' d hf b X B G
        all_goals simp only[bw,bC,bD,bE,ar,Act.put,bF,bG,bH,Nat.reduceAdd,Nat.zero_add]
        case zC=>
          clear b X B G;refine aj ?_;have q:_=some (Value.pointer (some ⟨a,0,none⟩)):=(ac.out.fr hf (fun x=>x)).cell 0;go_simp;exact⟨_,rfl,al⟩
        case' zD=>simp only[show u 1=_ from b 1]
        case' zE=>simp only[show u 2=_ from b 2]
        case zF=>
          simp only[show u 3=_ from b 3];clear b X B G;refine aj ?_;have q:=(az.out.ao hf).val;go_simp;exact⟨_,rfl,al⟩
        all_goals
          clear b X B G;refine aj ?_;go_simp;exact⟨_,rfl,al⟩
      · intro u w' hf b G;have B:u 0=_:=b 0 (by omega);have b1:u 4=_:=b 4 (by omega);clear b G;simp only[bw,bC,bD,bE,ar,Act.put,bF,bG,bH,dj,dk,Nat.reduceAdd,Nat.zero_add,B,b1];have aB:Hid (dn a4 a v w' v2 (mh LE.length pre++aV (cM p),0)):=⟨N.out.wr.cN hf (fun _ _ x=>x),N.out.fr.trans hf.bO,N.out.eG⟩;have M:Hid ((mh LE.length pre++aV (cM p)).length≤260000000000):=by
          have h:=J.out;rw[A.out]at h;simp only[aS]at h⊢;simp only[Hid];omega
        clear hf B b1 N ac az;go_wp2_with fail;refine(mD a v2 _ 0 ab _ aB.out.wr (by have:=M.out;simp only;omega) (by have:=bK.out;omega)).mono ?_;rintro e cl⟨rfl,v3,Y⟩;rw[ji _ _ (by have:=bK.out;omega),xE]at Y;have ST:=af (aB.out.trans Y);clear Y;go_wp2;have bk:dn a4 a v cl v3 (mh LE.length (pre++[(⟨⟨U,p,ab⟩,aW,bZ⟩:lD Z (DA LE))]),0):=by
          rw[A.out];exact ST.out
        exact AL.step bx.out ap ax.out bf.out ae.out bk
    case done=>
      rintro D xs W bn rfl a8 aD;obtain⟨hf,R,m,⟨v,F,c⟩⟩:=a8;have a2:Fr (fun k=>some k=some D) W (W.putObj D (.deferred none)):=Fr.grown (grownBy_putObj' W D _);have cg:=af aD;have bv:=af hf;have cf:Hid (Wr W a v (dO LE) 0):=by
        have h:mh LE.length xs=dO LE:=by rw[mh,bB.out];rfl
        rw[←h];exact F
      have ai:Hid (w.heap.size≤D∧D<W.heap.size):=⟨by have:=aZ.out.size;have:=bn;omega,(Array.getElem?_eq_some_iff.1 aD).1⟩;have O:=m.cell 0;simp only[bP,List.getElem?_cons_zero]at O;clear a2 hf m F c bn aD R;go_wp2_with fail;refine(nd a _ _ _ _ cf.out (by have:=au.out;omega)).mono ?_;rintro e aY⟨_,aW⟩;obtain⟨cF,rfl,Q⟩:=aW rfl;have T:Hid (aY.heap[D]? =W.heap[D]?):=Q.ao.block D ai.out.2 (fun x=>x);have a0:=af Q;obtain⟨cw,cE,cx,rfl,_,_⟩:=aG Q.own;clear Q aW O;go_wp2;rw[cg.out]at T;refine⟨by simp, .inl ⟨_,_,rfl,run_takeDeferred T.out,?_⟩⟩;refine⟨_,results_tmp Tryz.results102 _ _ _,?_⟩;have a2:Fr (fun k=>some k=some D) aY (aY.putObj D (.deferred none)):=Fr.grown (grownBy_putObj' aY D _);have ce:Fr ag w (aY.putObj D (.deferred none)):=(bv.out.trans a0.out.ao).aw a2 (fun i bY e=>by have a5:i=D:=(by simpa using e);have:=ai.out.1;omega);refine⟨_,rfl,⟨aL a0.out.own a2 (fun k aJ e=>?_),ce.bO,fun k aJ=> .inr ?_⟩⟩
      · have a5:k=D:=by simpa using e
        exact ny a0.out.own T.out rfl (by rw[←a5];exact aJ)
      · have:=a0.out.new k aJ;have:=bv.out.size;omega
    case stop=>
      rintro D cy pre W bn _ h;exact h.elim
theorem cE.small{k:Nat}{L:List Ent}(h:cE k L)(b:k≤60000):uH L:=⟨h.ok,fun x a=>by have:=h.owner x a;omega,fun x a=>by have:=h.text x a;omega,fun x a=>by have:=h.value x a;omega,by have:=h.len;omega⟩
theorem cE.Km{k:Nat}{L:List Ent}(h:cE k L):uY L:=⟨h.ok,fun x a=>⟨by have:=h.owner x a;omega,by have:=h.text x a;omega⟩,fun x a=>by have:=h.value x a;omega⟩
def uE(l:List UInt8)(v:Value)(w:World):Prop:=∃A n c,v= .slice A n c∧oX w (.slice A n c) l∧n=l.length
theorem uE.ao{l:List UInt8}{v:Value}{w w':World}(h:uE l v w)(a:Fr ag w w'):uE l v w':=by
 obtain⟨A,n,c,e,d,b⟩:=h;exact⟨A,n,c,e,aL d a (fun _ _ x=>x),b⟩
theorem nF.bytes{w w':World}{l:List UInt8}{e:Ending}(h:nF w l e w'):∃v,e= .returned v∧uE l v w'∧Fr ag w w':=by
 obtain⟨v,rfl,a⟩:=h;obtain⟨A,n,c,rfl,b,_⟩:=aG a.own;exact⟨_,rfl,⟨A,n,c,rfl,a.own,b.out⟩,a.ao⟩
end Go.Proofs.YtphjagkehiklkaaGreatDoor
namespace Go.Proofs.YtphjagkehiklkaaGreatDoor
open Go.RowKit
def nH(late:Nat→Bool)(T:Nat→Prop)(w:World):Nat→List (Value→World→Prop)→Prop
 |_,[]=>True
 |i,p::r=>(∀v w' a,Fr T w w'→Fr (if late i=true then ag else T) w' a→p v w'→p v a)∧nH late T w (i+1) r
theorem nH.at_{late:Nat→Bool}{T:Nat→Prop}{w:World}:∀{b:List (Value→World→Prop)}{i:Nat},nH late T w i b→∀j v w' a,Fr T w w'→Fr (if late (i+j)=true then ag else T) w' a→cp b j v w'→cp b j v a
 |[],_,_,_,_,_,_,_,_,_=>trivial
 |p::r,i,h,0,v,w',a,c,d,e=>h.1 v w' a c d e
 |p::r,i,h,j+1,v,w',a,c,d,e=>nH.at_ h.2 j v w' a c (by rw[show i+1+j=i+(j+1)by omega];exact d) e
def Ez(late:Nat→Bool)(ws:List (Nat×(World→Prop)))(B:Nat→Nat→Bool)(n:Nat):Bool:=(List.range n).all fun k=>!late k||(ws.map (·.1)).all fun p=>p==k||B p k
theorem IM{late:Nat→Bool}{ws:List (Nat×(World→Prop))}{B:Nat→Nat→Bool}{n k i:Nat}(h:Ez late ws B n=true)(d:k<n)(e:late k=true)(hw:eC ws i=true)(a:i≠k):B i k=true:=by
 have b:=List.all_eq_true.1 h k (List.mem_range.2 d);rw[e,Bool.not_true,Bool.false_or]at b;simp only[eC,List.any_eq_true,beq_iff_eq]at hw;obtain⟨p,f,rfl⟩:=hw;have c:=List.all_eq_true.1 b p f;simp only[Bool.or_eq_true,beq_iff_eq]at c;exact c.resolve_left a
theorem Nr{P:Program}{ops:Array Oper}{Q:Exit→Act→World→Prop}{T:Nat→Prop}{w:World}{a:Act}{ab:List (Value→World→Prop)}{ws:List (Nat×(World→Prop))}{C:World→Prop}{B:Nat→Nat→Bool}{n:Nat}(ok:qN ops n)(ac:gC ops n B=true)
  (J:(ik B (ws.map (·.1))&&(ws.map (·.1)).all (fun p=>decide (p<n)))=true)
  (late:Nat→Bool)(ao:Ez late ws B n=true)(av:nH late T w 0 ab)(aw:jo T w ws)(au:∀w' l,Fr T w w'→Fr ag w' l→C w'→C l)
  (aC:iM P ops Q T w (fun u=>ar ((ops.toList.take n).map (·.dst)) 0 u a) (cp ab) ws C B n 0 (ops.toList.take n))
  (aF:∀u w',Fr T w w'→(∀j,j<n→cp ab j (u j) w')→mr ws C w'→wpList P ops Q (ops.toList.drop n) (ar ((ops.toList.take n).map (·.dst)) 0 u a) w'):
  ∀(f:Nat)(listed:Array Bool)(u:Nat→Value)(w':World),HeadInv .any ops n listed→cy (fun j=>!listed.getD j false) n=f→Fr T w w'→dq ws C (fun j=>listed.getD j false) w'→
   (∀j,j<n→listed.getD j false=true→cp ab j (u j) w')→wpAny P .any ops Q (f+(ops.size-n)) listed (ar ((ops.toList.take n).map (·.dst)) 0 u a) w':=by
 rw[Bool.and_eq_true]at J;have X:∀x∈ws,x.1<n:=fun x I=>by simpa using List.all_eq_true.1 J.2 x.1 (List.mem_map.2 ⟨x,I,rfl⟩)
 intro f;induction f with
 |zero=>
  intro listed u w' inv az N R S;have s:∀j,j<n→listed.getD j false=true:=fun j F=>by simpa using lJ _ n az j F
  have he:listed=Array.replicate n true++Array.replicate (ops.size-n) false:=by
   apply Array.ext;·rw[inv.size];have:=ok.le;simp;omega
   ·intro i ad aJ;rcases Nat.lt_or_ge i n with D|D;·have:=s i D;rw[Array.getElem_append_left (by simpa using D)];simpa[ad]using this
    ·have:=inv.tail i D (by rw[←inv.size];exact ad);rw[Array.getElem_append_right (by simpa using D)];simpa[ad]using this
  rw[oP ws C _ (fun x I=>s x.1 (X x I))]at R;subst he;have U:(ops.toList.drop n).length=ops.size-n:=by simp
  have:=wpAny_of_seq (P:=P) (md:= .any) (ops:=ops) (Q':=Q) (ops.toList.drop n) n _ (ar ((ops.toList.take n).map (·.dst)) 0 u a) w' (fun j=>by simp[List.getElem?_drop]) (by rw[U];exact ok.seq) (aF u w' N (fun j F=>S j F (s j F)) R);rw[U]at this;rwa[Nat.zero_add]
 |succ f aG=>
  intro listed u w' inv az N R S;obtain⟨j,F,ax,L⟩:=mM (fun j=>!listed.getD j false) n (by omega);have K:j<ops.size:=by have:=ok.le;omega
  have H:listed.getD j true=false:=getD_in (by rw[inv.size];exact K) (by simpa using ax);have W:j∈Region.ready .any ops listed:=by
   refine mem_ready.2 ⟨H,ops[j],Array.getElem?_eq_getElem K,fun e he c=>?_⟩;have:=ok.each j _ F (Array.getElem?_eq_getElem K) e he c;simpa using L e.on this
  rw[show f+1+(ops.size-n)=(f+(ops.size-n))+1 by omega];refine⟨fun aA=>(by rw[aA]at W;cases W),fun i D=>?_⟩;obtain⟨an,o,Y,aa⟩:=mem_ready.1 D;have am:i<ops.size:=(Array.getElem?_eq_some_iff.1 Y).1;have m:i<n:=by
   rcases ok.tail with h|⟨aE,aj⟩;·omega
   ·rcases Nat.lt_or_ge i n with h|h;·exact h
    ·exact absurd D (tail_waits aE aj (by omega) inv (n-j) j rfl F H i h)
  have E:listed.getD i false=false:=getD_both an;have Z:(ops.toList.take n)[i]? =some o:=by rw[List.getElem?_take,if_pos m];simpa using Y
  have b:∀k,Region.waitsFor .any ops i k=true→k<i∧listed.getD k false=true:=by
   intro k t;obtain⟨aH,ap,e,he,c,aq⟩:=Region.waitsFor_spec t;have:aH=o:=Option.some.inj (ap.symm.trans Y);subst this;subst aq;exact⟨ok.each i _ m Y e he c,aa e he c⟩
  have d:∀p,p<n→B p i=true→listed.getD p false=true:=by
   intro p A c;have h:=List.all_eq_true.1 (List.all_eq_true.1 ac i (List.mem_range.2 m)) p (List.mem_range.2 A);simp only[c,Bool.not_true,Bool.false_or,Bool.or_eq_true,List.any_eq_true,Bool.and_eq_true,List.mem_range]at h;rcases h with h|⟨k,t,hw,ah⟩;·exact(b p h).2
   ·exact iX ac inv k (by omega) (b k hw).2 p A ah
  have g:∀p,(p==i||B i p)=true→listed.getD p false=false:=by
   intro p A;simp only[Bool.or_eq_true,beq_iff_eq]at A;rcases A with rfl|c;·exact E
   ·rcases Nat.lt_or_ge p n with M|M
    ·cases O:listed.getD p false;·rfl
     ·have:=iX ac inv p M O i m c;rw[E]at this;cases this
    ·rcases Nat.lt_or_ge p ops.size with ay|ay;·exact getD_both (inv.tail p M ay)
     ·have:¬p<listed.size:=by rw[inv.size];omega
      simp[this]
  have hw:=aC.at_ i o Z u w' (fun j=>listed.getD j false) N (fun k t=>by
   rw[Nat.zero_add]at t;exact S k (by have:=(b k t).1;omega) (b k t).2) (fun p A c=>by rw[Nat.zero_add]at c;exact d p A c) (fun p A=>by rw[Nat.zero_add]at A;exact g p A) R;rw[Nat.zero_add]at hw;refine oT Y (gm (fun aI l aB=>?_) hw);obtain⟨v,rfl,hf',af,ae⟩:=aB;have V:Fr T w' l:=by
   unfold iE at hf';split at hf';·exact hf'
   ·exact hf'.bO
  rw[mx _ 0 i u a o.dst v ok.nodup (by rw[List.getElem?_map,Z];rfl),Nat.zero_add];have G:(listed.setIfInBounds i true).getD i false=true:=by
   have al:i<listed.size:=by rw[inv.size];exact am
   simp[al]
  refine aG (listed.setIfInBounds i true) (dP u i v) l (inv.set D m) ?_ (N.trans V) ?_ (fun k t O=>?_);·have:=lI (fun j=>!listed.getD j false) (fun j=>!(listed.setIfInBounds i true).getD j false) i (by simp only[E];rfl) (by simp only[G];rfl) (fun j F=>by simp only[getD_set_ne false (Ne.symm F)]) n m;omega
  ·cases r:eC ws i
   ·have ak:Fr ag w' l:=by simpa[iE,r]using hf'
    have ai:=lN ws C (fun j=>(listed.setIfInBounds i true).getD j false) (fun j=>listed.getD j false) (fun x I=>by
     have:i≠x.1:=by
      rintro rfl;have:eC ws x.1=true:=by
       simp only[eC,List.any_eq_true,beq_iff_eq];exact⟨x.1,List.mem_map.2 ⟨x,I,rfl⟩,rfl⟩
      rw[r]at this;cases this
     simp only[getD_set_ne false this]);rw[ai];exact kH N ak ws C _ aw au R
   ·exact lO B i (fun j=>listed.getD j false) _ l G (fun q aD=>by simp only[getD_set_ne false (Ne.symm aD)]) ws C J.1 r (fun x I c=>d x.1 (X x I) c) (fun x I c=>g x.1 (by rw[c,Bool.or_true])) ae
  ·by_cases e:k=i;·subst e;simp only[dP,if_true];exact af
   ·simp only[dP];rw[if_neg e];rw[getD_set_ne false (fun h=>e h.symm)]at O;have z:=av.at_ k (u k) w' l N;rw[Nat.zero_add]at z;cases y:late k;·rw[y]at z;exact z V (S k t O)
    ·rw[y]at z;cases r:eC ws i;·exact z (by simpa[iE,r]using hf') (S k t O)
     ·have c:=IM ao t y r (fun h=>e h.symm);have:=iX ac inv k t O i m c;rw[E]at this;cases this
theorem yh{P:Program}{id:Nat}{Q:Exit→Act→World→Prop}{a:Act}{w:World}{l:List Oper}(n:Nat)(T:Nat→Prop)(f:List (Value→World→Prop))(ws:List (Nat×(World→Prop)))(b:World→Prop)(B:Nat→Nat→Bool)(hm:P.follows .mixedOrders=true)(A:pJ l.toArray n=true)
  (y:gC l.toArray n B=true)(g:(ik B (ws.map (·.1))&&(ws.map (·.1)).all (fun p=>decide (p<n)))=true)
  (late:Nat→Bool)(i:Ez late ws B n=true)(o:nH late T w 0 f)(q:jo T w ws)(k:∀w' e,Fr T w w'→Fr ag w' e→b w'→b e)(v:b w.drew)
  (C:iM P l.toArray Q T w (fun u=>ar ((l.take n).map (·.dst)) 0 u a) (cp f) ws b B n 0 (l.take n))
  (r:∀u w',Fr T w w'→(∀j,j<n→cp f j (u j) w')→mr ws b w'→wpList P l.toArray Q (l.drop n) (ar ((l.take n).map (·.dst)) 0 u a) w'):(Code.region id l.toArray true).wp P Q a w:=by
 have ok:=qN.of A;obtain⟨E,s⟩:=ib ((l.take n).map (·.dst)) 0 a;refine wp_region_any hm ?_;have d:HeadInv .any l.toArray n (Array.replicate l.toArray.size false):=
  ⟨by simp,fun j G _ c=>(by rw[getD_replicate_false]at c;cases c),fun t _ r=>getD_in (by simpa using r) (getD_replicate_false _ _)⟩;have z:cy (fun j=>!(Array.replicate l.toArray.size false).getD j false) n=n:=by
  have h:∀m,cy (fun j=>!(Array.replicate l.toArray.size false).getD j false) m=m:=by
   intro m;induction m with
   |zero=>rfl
   |succ m D=>rw[cy,D,getD_replicate_false];rfl
  exact h n
 have:=Nr (P:=P) (Q:=Q) (a:=a) ok y g late i o q k (by simpa using C) (by simpa using r) n _ E w.drew d z (az.drew) (by rw[kW ws b _ (fun x _=>getD_replicate_false _ _)];exact v) (fun j F c=>by rw[getD_replicate_false]at c;cases c);rw[show(l.toArray.toList.take n).map (·.dst)=(l.take n).map (·.dst)by simp,s,show n+(l.toArray.size-n)=l.toArray.size by have:=ok.le;omega]at this;exact this
end Go.Proofs.YtphjagkehiklkaaGreatDoor
namespace Go.Proofs.YtphjagkehiklkaaGreatDoor
open Go.RowKit Go.Shelf
theorem It(a b:aJ)(w:World):(binOp .eql 106 (.agg a.cells.toArray) (.agg b.cells.toArray)).run Tryz.prog w= .ok (.bool (zE a b)) w:=by
 by_cases h:a=b
 ·subst h;have e:zE a a=true:=by unfold zE;exact beq_iff_eq.2 (bZ.refl _)
  rw[e];obtain⟨k,q,n,i,t⟩:=a;simp only[aJ.cells];go_simp
 ·have e:zE a b=false:=by unfold zE;exact jt (fun e=>h (bZ.eq _ _ e))
  rw[e];obtain⟨k,q,n,i,t⟩:=a;obtain⟨l,o,m,i',p⟩:=b;simp only[aJ.cells];go_simp;intro c d f g j;exact h (by rw[c,toList_inj d,f,g,toList_inj j])
theorem uV(c:CV):∀u∈c.cells,u.oneCell'=true:=fun u hu=>by
 have h:=c.one;rw[Array.all_eq_true_iff_forall_mem]at h;exact h u (by simpa using hu)
end Go.Proofs.YtphjagkehiklkaaGreatDoor
namespace Go.Proofs.YtphjagkehiklkaaGreatDoor
open Go.RowKit
def Gp(ops:Array Oper)(n:Nat)(kill:Nat→Nat→Bool)(i j:Nat):Bool:=(List.range n).all fun k=>!kill k j||k==i||Region.waitsFor .any ops k i
def GP(ops:Array Oper)(n:Nat)(wr:Nat→Bool)(i:Nat):Bool:=(List.range n).all fun k=>!wr k||k==i||Region.waitsFor .any ops k i
def ts(kill:Nat→Bool)(u:Nat→Value)(w' a:World):Nat→List Fact→Prop
 |_,[]=>True
 |j,f::r=>(kill j=false→f.p (u j) w'→f.p (u j) a)∧ts kill u w' a (j+1) r
theorem ts.at_{kill:Nat→Bool}{u:Nat→Value}{w' a:World}:∀{V:List Fact}{k:Nat},ts kill u w' a k V→∀j,kill (k+j)=false→(V.getD j lZ).p (u (k+j)) w'→(V.getD j lZ).p (u (k+j)) a
 |[],_,_,_,_,_=>trivial
 |_::_,_,h,0,b,c=>h.1 b c
 |_::r,k,h,j+1,b,c=>by
  have e:k+(j+1)=k+1+j:=by omega
  rw[e]at b c⊢;exact ts.at_ (V:=r) h.2 j b c
def JG(b:Bool)(T:Nat→Prop)(w:World)(S:World→Prop)(a:Act)(d:Option Tmp)(w':World)(p:Value→World→Prop)(e:Act)(c:World):Prop:=
 ∃v,e=a.put d v∧(match b with|true=>Fr T w c∧S c|false=>Fr ag w' c)∧p v c
def r7(P:Program)(ops:Array Oper)(Q:Exit→Act→World→Prop)(n:Nat)(T:Nat→Prop)(wr:Nat→Bool)(kill:Nat→Nat→Bool)(w:World)(F:(Nat→Value)→Act)(V:List Fact):Nat→List Oper→Prop
 |_,[]=>True
 |i,b::r=>(∀u w',Fr T w w'→(∀j,(_:Region.waitsFor .any ops i j=true:=by kernel_rfl)→(_:Gp ops n kill i j=true:=by kernel_rfl)→(V.getD j lZ).p (u j) w')→((_:GP ops n wr i=true:=by kernel_rfl)→Fr ag w w')→
   nT P ops Q b (F u) w' (JG (wr i) T w (fun a=>ts (fun j=>kill i j||j==i||Region.waitsFor .any ops j i) u w' a 0 V) (F u) b.dst w' (V.getD i lZ).p))∧r7 P ops Q n T wr kill w F V (i+1) r
theorem r7.at_{P:Program}{ops:Array Oper}{Q:Exit→Act→World→Prop}{n:Nat}{T:Nat→Prop}{wr:Nat→Bool}{kill:Nat→Nat→Bool}{w:World}{F:(Nat→Value)→Act}{V:List Fact}:
  ∀{l:List Oper}{k:Nat},r7 P ops Q n T wr kill w F V k l→∀i d,l[i]? =some d→∀u w',Fr T w w'→(∀j,Region.waitsFor .any ops (k+i) j=true→Gp ops n kill (k+i) j=true→(V.getD j lZ).p (u j) w')→(GP ops n wr (k+i)=true→Fr ag w w')→
   nT P ops Q d (F u) w' (JG (wr (k+i)) T w (fun b=>ts (fun j=>kill (k+i) j||j==(k+i)||Region.waitsFor .any ops j (k+i)) u w' b 0 V) (F u) d.dst w' (V.getD (k+i) lZ).p)
 |[],_,_,_,_,h=>by simp at h
 |c::r,k,h,0,d,a=>by
  have:c=d:=by simpa using a
  subst this;exact h.1
 |c::r,k,h,i+1,d,a=>by
  have:=r7.at_ h.2 i d (by simpa using a);rw[show k+1+i=k+(i+1)by omega]at this;exact this
theorem nP{b:Bool}{p:Prop}(a:b=true:=by kernel_rfl):b=false→p:=fun h=>by rw[a]at h;cases h
structure Nt(w:World)(n:Nat)(T:Nat→Prop)(wr:Nat→Bool)(kill:Nat→Nat→Bool)(V:List Fact)(d:Nat→Bool)(u:Nat→Value)(w':World):Prop where
 fr:Fr T w w'
 quiet:(∀k,k<n→d k=true→wr k=false)→Fr ag w w'
 facts:∀j,j<n→d j=true→(∀k,k<n→d k=true→kill k j=false)→(V.getD j lZ).p (u j) w'
theorem Gd{P:Program}{id:Nat}{Q:Exit→Act→World→Prop}{a:Act}{w:World}{l:List Oper}(n:Nat)(T:Nat→Prop)(wr:Nat→Bool)(kill:Nat→Nat→Bool)(V:List Fact)
  (aa:r7 P l.toArray Q n T wr kill w (fun u=>ar ((l.take n).map (·.dst)) 0 u a) V 0 (l.take n))
  (N:∀u w',Fr T w w'→(∀j,j<n→(_:((List.range n).all fun k=>!kill k j)=true:=by kernel_rfl)→(V.getD j lZ).p (u j) w')→wpList P l.toArray Q (l.drop n) (ar ((l.take n).map (·.dst)) 0 u a) w')
  (hm:P.follows .mixedOrders=true:=by kernel_rfl)(Z:sV l.toArray n=true:=by kernel_rfl):(Code.region id l.toArray true).wp P Q a w:=by
 have ok:=sF.of Z;obtain⟨ae,O⟩:=ib ((l.take n).map (·.dst)) 0 a;refine wp_region_any hm ?_;have H:HeadInv .any l.toArray n (Array.replicate l.toArray.size false):=
  ⟨by simp,fun j ah _ U=>(by rw[getD_replicate_false]at U;cases U),fun t _ N=>getD_in (by simpa using N) (getD_replicate_false _ _)⟩;have X:cy (fun j=>!(Array.replicate l.toArray.size false).getD j false) n=n:=by
  have h:∀m,cy (fun j=>!(Array.replicate l.toArray.size false).getD j false) m=m:=by
   intro m;induction m with
   |zero=>rfl
   |succ m ad=>rw[cy,ad,getD_replicate_false];rfl
  exact h n
 have:=zP (P:=P) (Q:=Q) (a:=a) ok (Nt w n T wr kill V) ?_ ?_ n _ ae w.drew H X ⟨az.drew,fun _=>az.drew,fun j _ h=>(by rw[getD_replicate_false]at h;cases h)⟩;·rw[show(l.toArray.toList.take n).map (·.dst)=(l.take n).map (·.dst)by simp,O,show n+(l.toArray.size-n)=l.toArray.size by have:=ok.le;omega]at this;exact this
 ·intro i o A ab d u w' r c s y;have M:(l.take n)[i]? =some o:=by rw[List.getElem?_take,if_pos A];simpa using ab
  have F:=aa.at_ i o M u w' y.fr (fun j g S=>by
   rw[Nat.zero_add]at g S;refine y.facts j (s j g).2 (s j g).1 (fun k q f=>?_);have h:=List.all_eq_true.1 S k (List.mem_range.2 q);simp only[Bool.or_eq_true,Bool.not_eq_true',beq_iff_eq]at h;rcases h with(h|h)|h;·exact h
   ·subst h;rw[r]at f;cases f
   ·have:=c k i f h;rw[r]at this;cases this) (fun G=>by
   rw[Nat.zero_add]at G;refine y.quiet (fun k q f=>?_);have h:=List.all_eq_true.1 G k (List.mem_range.2 q);simp only[Bool.or_eq_true,Bool.not_eq_true',beq_iff_eq]at h;rcases h with(h|h)|h;·exact h
   ·subst h;rw[r]at f;cases f
   ·have:=c k i f h;rw[r]at this;cases this);rw[Nat.zero_add]at F;have E:(l.toArray.toList.take n).map (·.dst)=(l.take n).map (·.dst):=by simp
  rw[E];refine gm ?_ F;rintro ag af⟨v,rfl,b,W⟩;refine⟨v,rfl,?_⟩;have J:∀j,j≠i→dP u i v j=u j:=fun j g=>by simp[dP,g]
  have z:dP u i v i=v:=by simp[dP]
  have setne:∀j,j≠i→ig d i j=d j:=fun j g=>by simp[ig,g]
  have x:ig d i i=true:=by simp[ig]
  have I:∀j,j<n→j≠i→ig d i j=true→(∀k,k<n→ig d i k=true→kill k j=false)→(V.getD j lZ).p (u j) w':=fun j g L f q=>
   y.facts j g (by rw[←setne j L];exact f) (fun k B K=>q k B (by
    by_cases e:k=i;·rw[e];exact x
    ·rw[setne k e];exact K));cases D:wr i
  ·rw[D]at b;refine⟨y.fr.trans (Fr.bO b),fun C=>(y.quiet (fun k q f=>C k q (by by_cases e:k=i<;>simp[ig,e,f]))).trans b,fun j g f q=>?_⟩;by_cases e:j=i;·subst e;rw[z];exact W
   ·rw[J j e];exact(V.getD j lZ).st _ _ _ b (I j g e f q)
  ·rw[D]at b;obtain⟨Y,ac⟩:=b;refine⟨Y,fun C=>(by have:=C i A x;rw[D]at this;cases this),fun j g f q=>?_⟩;by_cases e:j=i;·subst e;rw[z];exact W
   ·rw[J j e];have:=ac.at_ j (by
     simp only[Nat.zero_add];rw[q i A x,Bool.false_or,Bool.or_eq_false_iff];refine⟨jt e,?_⟩;cases R:Region.waitsFor .any l.toArray j i;·rfl
     ·have:=c j i (by rw[←setne j e];exact f) R;rw[r]at this;cases this);rw[Nat.zero_add]at this;exact this (I j g e f q)
 ·intro d u w' f y;have:=N u w' y.fr (fun j g q=>y.facts j g (f j g) (fun k B _=>by
   have h:=List.all_eq_true.1 q k (List.mem_range.2 B);simpa using h));simpa using this
end Go.Proofs.YtphjagkehiklkaaGreatDoor
