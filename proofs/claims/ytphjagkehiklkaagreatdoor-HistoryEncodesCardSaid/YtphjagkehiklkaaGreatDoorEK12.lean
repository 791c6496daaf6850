/- Texts. -/
import Derived.Test.YtphjagkehiklkaaGreatDoorEK11
set_option linter.unusedVariables false
set_option linter.unusedSimpArgs false
set_option maxRecDepth 100000
set_option maxHeartbeats 8000000
namespace Go.Proofs.YtphjagkehiklkaaGreatDoor
open Proofs.Tryz Go.RowKit Go.Shelf
structure Wi(a W:World)(b:Nat)(l:List UInt8):Prop where
 fr:Fr Nothing a W
 wr:∃v,Wr W b v l 0/\∀k,v.ownBlock=some k->a.heap.size<=k
 new:a.heap.size<=b
def oc(W W':World):Prop:=∀g t cs,aq W g t cs->t≠185->t≠5->aq W' g t cs
theorem oc.of{W W':World}(h:Fr Nothing W W'):oc W W':=λ_ _ _ a _ _=>a.fr h id
theorem oc.trans{W W' a:World}(h:oc W W')(k:oc W' a):oc W a:=λg t cs d b c=>k g t cs (h g t cs d b c) b c
theorem Wi.later{b W W':World}{a:Nat}{l:List UInt8}(h:Wi b W a l)(f:Fr Nothing W W'):Wi b W' a l:=by
 obtain⟨v,c,d⟩:=h.wr;exact⟨h.fr.trans f,⟨v,c.cJ f (λ_ _ x=>x),d⟩,h.new⟩
def uE(b W:World)(a:Nat)(l:List UInt8)(e:Ending)(W':World):Prop:=e= .returned (.tuple #[])/\Wi b W' a l/\oc W W'
theorem Wi.step{c W W':World}{a:Nat}{l f:List UInt8}{v j:Value}(h:Wi c W a l)(hw:Wr W a v l 0)(d:∀k,v.ownBlock=some k->c.heap.size<=k)(st:dp W a v W' j (f,0)):Wi c W' a f/\oc W W':=by
 refine⟨⟨h.fr.aw st.fr (λi p e=>?_),⟨j,st.wr,λk o=>?_⟩,h.new⟩,λg t cs b m n=>b.fr st.fr (λe=>?_)⟩
 ·rcases e with e|e;·have:=h.new;omega
  ·have:=d i e;omega
 ·rcases st.eL k o with e|e;·exact d k e
  ·exact Nat.le_trans h.fr.size e
 ·rcases e with e|e;·exact dn b hw.aF m e
  ·exact bO hw.own b (λx=>n x.symm) e
theorem Wi.number{c W:World}{a:Nat}{l:List UInt8}(h:Wi c W a l)(n:Nat)(f:l.length<=1099511627776)(g:n<=9223372036854775807):
  Calls prog 63 #[.pointer (some ⟨a,0,none⟩), .int .i64 (n:Int)] W (uE c W a (l++enc n)):=by
 obtain⟨v,b,d⟩:=h.wr;refine(kf a v l 0 (n:Int) W b f (by omega)).mono ?_;rintro e w'⟨rfl,i,st⟩;rw[jl]at st;exact⟨rfl,h.step b d st⟩
theorem Wi.text{c W:World}{a:Nat}{l:List UInt8}(h:Wi c W a l)(s:ByteArray)(f:l.length<=1099511627776)(g:s.size<=16777216):
  Calls prog 65 #[.pointer (some ⟨a,0,none⟩), .string s] W (uE c W a (l++aN (aQ s))):=by
 obtain⟨v,b,d⟩:=h.wr;refine(mH a v l 0 s W b f (by omega)).mono ?_;rintro e w'⟨rfl,i,st⟩;rw[jm _ _ (by omega),xe]at st;exact⟨rfl,h.step b d st⟩
theorem Wi.flag{d W:World}{a:Nat}{l:List UInt8}(h:Wi d W a l)(b:Bool)(i:l.length<=1099511627776):
  Calls prog 66 #[.pointer (some ⟨a,0,none⟩), .bool b] W (uE d W a (l++jG b)):=by
 obtain⟨v,c,g⟩:=h.wr;refine(Fx a v l 0 b W c i).mono ?_;rintro e w'⟨rfl,j,st⟩;have f:tk (l,0) b=(l++jG b,0):=by unfold tk;rw[if_pos rfl];rfl
 rw[f]at st;exact⟨rfl,h.step c g st⟩
theorem Wi.start{b W:World}(h:Fr Nothing b W):
  Calls prog 61 #[] W (λe W'=>e= .returned (.pointer (some ⟨W.heap.size,0,none⟩))/\Wi b W' W.heap.size []/\Fr Nothing W W'):=by
 refine(mj W).mono ?_;rintro e w'⟨rfl,c,a⟩;exact⟨rfl,⟨h.trans a,⟨_,c,λk d=>by simp[Value.ownBlock]at d⟩,h.size⟩,a⟩
theorem Ag(p W:World)(b:Nat)(l:List UInt8)(h:Wi p W b l)(n:l.length<=1099511627776):
  Calls prog 67 #[.pointer (some ⟨b,0,none⟩)] W (aM W (.tuple #[.string ⟨l.toArray⟩, .int .i64 0])):=by
 obtain⟨v,d,k⟩:=h.wr;have c:Hid (Calls prog 103 #[.pointer (some ⟨b,0,none⟩)] W (uP W l 0)):=ng b v l 0 W d n;clear d k h;go_enter func67,ntmps67;go_wp2_with fail;refine c.out.mono ?_;rintro e w1⟨_,f⟩;obtain⟨q,rfl,a⟩:=f rfl;obtain⟨g,o,j,rfl,i,_⟩:=aK a.own;have m:=kL w1 _ g o j _ (oP.rd a.own i.out);have F:=af a.ao;clear a f c;go_wp2;go_ret2;exact⟨rfl,F.out⟩
theorem xn(N W:World)(m:Nat)(l:List UInt8)(k:dM)(h:Wi N W m l)(L:l.length<=1000000000000)(K:dZ k=true)(o:k.fD.size<=16777216):
  Calls prog 62 #[.agg k.cells.toArray, .pointer (some ⟨m,0,none⟩)] W (uE N W m (l++pE k)):=by
 obtain⟨t,c,n,s⟩:=k;simp only at o;simp only[dZ,Bool.and_eq_true,decide_eq_true_eq]at K;obtain⟨⟨⟨⟨t0,t1⟩,i,j⟩,⟨n0,n1⟩,_⟩,_⟩:=K;obtain⟨t,rfl⟩:∃q:Nat,t=(q:Int):=⟨t.toNat,by omega⟩;obtain⟨c,rfl⟩:∃q:Nat,c=(q:Int):=⟨c.toNat,by omega⟩;obtain⟨n,rfl⟩:∃q:Nat,n=(q:Int):=⟨n.toNat,by omega⟩;have x:=af h;have S:=af o;have O:=aY t;have P:=aY c;have Q:=aY n;have R:Hid (l.length<=1000000000000):=L;have w:Hid (l++pE ⟨t,c,n,s⟩=((l++enc t)++enc c++enc n)++aN (aQ s)):=by simp[Hid,pE]
 have U:Hid ((l++enc t).length<=1099511627776):=by simp only[Hid,aT];omega
 have V:Hid ((l++enc t++enc c).length<=1099511627776):=by simp only[Hid,aT];omega
 have X:Hid ((l++enc t++enc c++enc n).length<=1099511627776):=by simp only[Hid,aT];omega
 have f:Hid (t<=1073741824/\c<=2/\n<=999999):=⟨by omega,by omega,by omega⟩;unfold dM.cells;rw[w.out];clear h o L t0 t1 i j n0 n1 O P Q w;go_enter func62,ntmps62;go_wp2_with(refine aD rfl 43 (.tmp 0) rfl _ rfl ?_);intro w1 n1;have a:Hid (aq w1 W.heap.size 43 #[.int .i64 (t:Int), .int .i64 (c:Int), .int .i64 (n:Int), .string s]):=n1.aF;have C:=af (x.out.later n1.fr);have y:=af (oc.of n1.fr);clear n1 x;generalize W.heap.size=g at*;have i:w1.cell? ⟨g,0,none⟩=some (.int .i64 t):=a.out.cell 0;go_wp2_with fail;refine(C.out.number t (by have:=R.out;omega) (by have:=f.out;omega)).mono ?_;rintro e w2⟨rfl,G,p⟩;have D:=af G;have b:=af (p _ _ _ a.out (by decide) (by decide));have z:=af (y.out.trans p);clear G p i C a y;have j:w2.cell? ⟨g,1,none⟩=some (.int .i64 c):=b.out.cell 1;go_wp2_with fail;refine(D.out.number c U.out (by have:=f.out;omega)).mono ?_;rintro e w3⟨rfl,H,r⟩;have E:=af H;have d:=af (r _ _ _ b.out (by decide) (by decide));have A:=af (z.out.trans r);clear H r j D b z;have Z:w3.cell? ⟨g,2,none⟩=some (.int .i64 n):=d.out.cell 2;go_wp2_with fail;refine(E.out.number n V.out (by have:=f.out;omega)).mono ?_;rintro e aa⟨rfl,I,u⟩;have F:=af I;have v:=af (u _ _ _ d.out (by decide) (by decide));have B:=af (A.out.trans u);clear I u Z E d A;have c3:aa.cell? ⟨g,3,none⟩=some (.string s):=v.out.cell 3;go_wp2_with fail;refine(F.out.text s X.out S.out).mono ?_;rintro e ab⟨rfl,J,M⟩;have Y:=af J;have T:=af (B.out.trans M);clear J M c3 F v B;go_wp2;go_end0;exact⟨rfl,Y.out,T.out⟩
structure nj(c:CV):Prop where
 owner:c.nm.owner.size<=1099511627776
 text:c.nm.text.size<=1099511627776
theorem iy.fit{c:CV}(h:iy c):nj c:=⟨by have:=h.owner;omega,by have:=h.text;omega⟩
def Jb(w:World)(b:Bool)(e:Ending)(w':World):Prop:=aM w (.bool b) e w'
theorem rY(xs:List CV)(n:Nat)(A:Option Addr)(a4:Nat)(S:Nat->Prop)(w:World)(bc:dO w)(aO:CL w S A n xs)(bd:∀c∈xs,nj c)(be:n<=1099511627776):
  Calls prog 112 #[.slice A n a4] w (Jb w (gz xs)):=by
 have aZ:=af aO;have bh:=af bc;have a2:=af bd;have a0:=af aO.len;have I:=af be;have m:Hid (∀k,k<xs.length->fE xs k=false->gz xs=false):=λk X h=>IB X h;have C:Hid ((∀k,k<xs.length->fE xs k=true)->gz xs=true):=IA;obtain⟨R,a⟩:∃R,gz xs=R:=⟨_,rfl⟩;rw[a]at m C⊢;clear aO bd bc be a;go_enter func112,ntmps112;go_wp2;go_loopw[7](λi wr=>∃k:Nat,k<=n/\i= .int .i64 (k:Int)/\(∀j,j<k->fE xs j=true)/\Fr Nothing w wr)(λi _=>n-(intOf i).toNat);case atStart=>exact⟨0,Nat.zero_le _,rfl,(λj aQ=>by omega),aA⟩
 case round=>
  obtain⟨k,X,rfl,ba,hF⟩:=hrel;have aH:=af hF;have a3:=af ba;clear ba hF;by_cases ap:k<n
  ·have a9:(k:Int)<(n:Int):=by omega
   have bn:(0:Int)<=(k:Int):=by omega
   have t0:decide ((k:Int)<(n:Int))=true:=decide_eq_true a9;obtain⟨L,c,rfl,aP,o⟩:=(aZ.out.ao aH.out).at_ ap;have Z:=af o;have bg:=af c.one;have G:Hid (xs[k]? =some c):=aP;have aN:Hid (nj c):=a2.out c (List.mem_of_getElem? aP);have aK:Hid (k<xs.length):=by rw[Hid,a0.out];exact ap
   clear o aP;go_wp2_with(refine aB rfl 119 (.tmp 10) rfl _ rfl c.cells _ ?zN underlying119 rfl j4 (aX.go ?hold));case zN=>exact Z.out
   unfold aX;go_wp2_with(refine an rfl 119 rfl cm GD #[.int .i64 0, .string ByteArray.empty, .int .i64 0, .int .i64 0, .string ByteArray.empty, .string ByteArray.empty, .bool false] rfl ?_);intro br bf;have aL:=af bf;clear bf;generalize am:wr.heap.size=g4 at*;have ab:=af am;clear am;have aT:Hid (aq br g4 119 #[.int .i64 0, .string ByteArray.empty, .int .i64 0, .int .i64 0, .string ByteArray.empty, .string ByteArray.empty, .bool false]):=by have h:=aL.out.aF;rw[ab.out]at h;exact h
   go_wp2_with(refine ai rfl 119 (.tmp 4) _ rfl g4 c.cells.toArray rfl rfl _ _ aT.out j4 rfl bg.out ?_);intro U bb a7;have az:Hid (aq U g4 119 c.cells.toArray):=bb;have aY:Hid (Fr Nothing wr U):=aL.out.fr.aw a7 (λi bz e=>by have bu:i=g4:=e;have:=ab.out;omega);clear bb a7 aL aT Z;have Y:Hid (∀w',Fr Nothing U w'->∀j x,c.nm.cells[j]? =some x->w'.cell? ((⟨g4,0,none⟩:Addr).add j)=some x):=λw' f j x ax=>by
    rw[Addr.add_mid,Nat.zero_add,(az.out.fr f id).cell j,bP,CV.cells,List.getElem?_append_left (List.getElem?_eq_some_iff.1 ax).1];exact ax
   have p:Hid (Fr Nothing w U):=aH.out.trans aY.out;have K:Hid (jw c=(da c.nm&&decide (c.value.size<=65536)&&(!c.bw||c.value.toList.isEmpty))):=rfl;have F:Hid (jw c=false->R=false):=λh=>m.out k aK.out (by
    have e:=G.out;simp only[fE,e,h,Bool.false_and]);obtain⟨ok,T⟩:∃z,da c.nm=z:=⟨_,rfl⟩;obtain⟨V,aE⟩:∃z,decide (65536<c.value.size)=z:=⟨_,rfl⟩;obtain⟨em,hem⟩:∃z,c.value.toList.isEmpty=z:=⟨_,rfl⟩;obtain⟨g,N⟩:∃z,c.bw=z:=⟨_,rfl⟩;have aV:Hid (∀w',Fr Nothing U w'->Calls prog 115 #[.agg c.nm.cells.toArray] w' (λe l=>∃t:Int,e= .returned (.int .i64 t)/\(t==0)=ok/\Fr Nothing w' l)):=λw' f=>by
    rw[<-T];exact mg c.nm w' (bh.out.ao (p.out.trans f)) (by have:=aN.out.owner;omega) (by have:=aN.out.text;omega)
   have al:decide (c.value.size<=65536)=!V:=by
    rw[<-aE];by_cases h:c.value.size<=65536;·rw[decide_eq_true h,ct (by omega)];rfl
    ·rw[decide_eq_false h,cX (by omega)];rfl
   have aj:decide ((65536:Int)<(c.value.size:Int))=V:=by
    rw[<-aE];exact decide_eq_decide.2 (by omega)
   rw[T,al,N,hem]at K;have ad:=af aj;have ac:=af aE;have aa:=af hem;have c5:Hid (∀w',Fr Nothing U w'->w'.cell? {block:=g4,off:=5}=some (.string c.value)):=λw' f=>(az.out.fr f id).cell 5;have a5:Hid (∀w',Fr Nothing U w'->w'.cell? {block:=g4,off:=6}=some (.bool g)):=λw' f=>by rw[<-N];exact(az.out.fr f id).cell 6
   clear T aE hem N al aj;obtain⟨aG,ag⟩:∃z:Bool,(bif ok then(bif V then true else(bif g then(!em)else false))else true)=z:=⟨_,rfl⟩;have E:=af ag;clear ag;go_upto_region 4 with fail;refine Af 19 [iS (.pointer (some ⟨g4,0,none⟩)),iS (.agg c.nm.cells.toArray),⟨λbs _=>∃t:Int,bs= .int .i64 t/\(t==0)=ok,λ_ _ _ _ h=>h⟩,iS (.bool (!ok)),iS (.bool (!ok)),iS ((bif ok then .pointer (some ⟨g4,5,none⟩)else undef)),iS ((bif ok then .string c.value else undef)),iS ((bif ok then .int .i64 (c.value.size:Nat)else undef)),iS ((bif ok then .bool V else undef)),iS ((bif ok then .bool V else .bool true)),iS ((bif ok then .bool V else .bool true)),iS ((bif ok then(bif V then undef else .pointer (some ⟨g4,6,none⟩))else undef)),iS ((bif ok then(bif V then undef else .bool g)else undef)),iS ((bif ok then(bif V then undef else .bool g)else undef)),iS ((bif ok then(bif V then undef else(bif g then .pointer (some ⟨g4,5,none⟩)else undef))else undef)),iS ((bif ok then(bif V then undef else(bif g then .string c.value else undef))else undef)),iS ((bif ok then(bif V then undef else(bif g then .bool (!em)else undef))else undef)),iS ((bif ok then(bif V then undef else(bif g then .bool (!em)else .bool false))else undef)),iS (.bool aG)] ?zO ?_;case zO=>
    refine⟨?yI,?zQ,?zR,?zS,?zT,?zU,?zV,?zW,?zX,?zY,?zA,?zB,?zC,?zD,?zE,?zF,?zG,?zH,?zI,trivial⟩;all_goals intro u w' b a
    all_goals simp only[z1,z2,z3,z4,ar,Act.put,z5,z6,z7,Nat.reduceAdd,Nat.zero_add]
    case zQ=>
     simp only[ah (a 0)];refine aI ?_;exact au _ _ rfl ⟨g4,0,none⟩ rfl c.nm.cells _ (λay v av=>Y.out _ b ay v av) underlying106 rfl aW ⟨_,rfl,aA,rfl⟩
    case zR=>
     simp only[ah (a 1)];refine aI ?_;go_simp;refine(aV.out _ b).mono ?_;rintro e bq⟨t,rfl,O,f4⟩;exact⟨_,rfl,f4,t,rfl,O⟩
    case zS=>
     obtain⟨t,aC,O⟩:=a 2;simp only[aC];refine aI ?_;have t1:(t !=0)=!ok:=by rw[bne,O]
     go_simp;exact⟨_,rfl,aA,rfl⟩
    case' zT=>simp only[ah (a 3)]
    case' zU=>
     simp only[ah (a 4)];cases ok;case false=>exact jR
    case zV=>
     simp only[ah (a 5),ah (a 4)];cases ok;case false=>exact jR
     refine aI ?_;have q:=c5.out _ b;go_simp;exact⟨_,rfl,aA,rfl⟩
    case' zW=>
     simp only[ah (a 6),ah (a 4)];cases ok;case false=>exact jR
    case zX=>
     simp only[ah (a 7),ah (a 4)];cases ok;case false=>exact jR
     refine aI ?_;have t1:=ad.out;have t2:=ac.out;go_simp;exact⟨_,rfl,aA,rfl⟩
    case' zY=>
     simp only[ah (a 4),ah (a 8)];cases ok
    case' zA=>
     simp only[ah (a 9)];cases ok
    case' zB=>
     simp only[ah (a 10)];cases ok;case false=>exact jR
     cases V;case true=>exact jR
    case zC=>
     simp only[ah (a 11),ah (a 10)];cases ok;case false=>exact jR
     cases V;case true=>exact jR
     refine aI ?_;have q:=a5.out _ b;go_simp;exact⟨_,rfl,aA,rfl⟩
    case' zD=>
     simp only[ah (a 12),ah (a 10)];cases ok;case false=>exact jR
     cases V;case true=>exact jR
    case' zE=>
     simp only[ah (a 13)];cases ok;case false=>exact jR
     cases V;case true=>exact jR
     cases g;case false=>exact jR
    case zF=>
     simp only[ah (a 14),ah (a 13)];cases ok;case false=>exact jR
     cases V;case true=>exact jR
     cases g;case false=>exact jR
     refine aI ?_;have q:=c5.out _ b;go_simp;exact⟨_,rfl,aA,rfl⟩
    case zG=>
     simp only[ah (a 15),ah (a 13)];cases ok;case false=>exact jR
     cases V;case true=>exact jR
     cases g;case false=>exact jR
     refine aI ?_;have t1:=aa.out;go_simp;exact⟨_,rfl,aA,rfl⟩
    case' zH=>
     simp only[ah (a 13),ah (a 16),ah (a 10)];cases ok;case false=>exact jR
     cases V;case true=>exact jR
     cases g
    case zI=>
     simp only[ah (a 10),ah (a 17)];cases ok<;>cases V<;>cases g<;>exact aI (by go_simp;exact⟨_,rfl,aA,congrArg Value.bool E.out⟩)
    all_goals
     try simp only[cond]
     refine aI ?_;go_simp;exact⟨_,rfl,aA,rfl⟩
   intro u w' b a;simp only[z1,z2,z3,z4,ar,Act.put,z5,z6,z7,z8,z9,Nat.reduceAdd,Nat.zero_add,ah (a 18 (by omega))];clear a;have p:Hid (Fr Nothing w w'):=p.out.trans b;have Y:Hid (∀l,Fr Nothing w' l->∀j x,c.nm.cells[j]? =some x->l.cell? ((⟨g4,0,none⟩:Addr).add j)=some x):=λl f=>Y.out l (b.trans f);clear b aV c5 a5 ad ac aa az aY;generalize w'=w3 at*;have r:Hid (jw c=!aG):=by
    rw[Hid,K.out,<-E.out];cases ok<;>cases V<;>cases g<;>cases em<;>rfl
   clear K E;cases y:aG;case true=>
    obtain rfl:R=false:=F.out (by rw[r.out,y];rfl);clear y r F;go_wp2;go_ret;exact⟨rfl,p.out⟩
   have D:Hid (jw c=true):=by rw[Hid,r.out,y];rfl
   clear y r F;obtain⟨q,bo⟩:∃q:Nat,k-1=q:=⟨_,rfl⟩;have a1:Hid (0<k->(k:Int)-1=(q:Int)):=λh=>by omega
   obtain⟨d,H⟩:∃d:CV,Hid (0<k->xs[q]? =some d):=by
    by_cases aD:0<k;·exact⟨_,λ_=>List.getElem?_eq_getElem (show q<xs.length by have:=aK.out;omega)⟩
    ·exact⟨c,λh=>absurd h aD⟩
   have ae:Hid (0<k->some L=some L/\∀j x,d.nm.cells[j]? =some x->w3.cell? ((L.add (q*7)).add j)=some x):=λh=>by
    obtain⟨bj,bt,bk,aC,bl⟩:=(aZ.out.ao p.out).at_ (show q<n by omega);cases bk;rw[H.out h]at aC;cases aC;refine⟨rfl,λj x ax=>bl j x ?_⟩;rw[CV.cells,List.getElem?_append_left (List.getElem?_eq_some_iff.1 ax).1];exact ax
   have bi:Hid (0<k->nj d):=λh=>a2.out d (List.mem_of_getElem? (H.out h));have aU:Hid (0<k->∀w',Calls prog 128 #[.agg d.nm.cells.toArray, .agg c.nm.cells.toArray] w' (aM w' (.int .i64 (bL d.nm c.nm)))):=λh w'=>fi d.nm c.nm w' (by have:=(bi.out h).owner;omega) (by have:=aN.out.owner;omega);have J:Hid (fE xs k=!(decide (0<k)&&decide (0<=bL d.nm c.nm))):=by
    by_cases aD:0<k
    ·obtain⟨aS,rfl⟩:∃aS,k=aS+1:=⟨k-1,by omega⟩;obtain rfl:aS=q:=by omega
     rw[Hid,BV G.out (H.out aD),D.out,decide_eq_true aD,Bool.true_and,Bool.true_and];by_cases a8:bL d.nm c.nm<0;·rw[decide_eq_true a8,ct (show¬0<=bL d.nm c.nm by omega)];rfl
     ·rw[decide_eq_false a8,cX (show 0<=bL d.nm c.nm by omega)];rfl
    ·obtain rfl:k=0:=by omega
     rw[Hid,BY G.out,D.out];rfl
   obtain⟨P,W⟩:∃z:Bool,decide (0<k)=z:=⟨_,rfl⟩;obtain⟨Q,a6⟩:∃z:Bool,decide (0<=bL d.nm c.nm)=z:=⟨_,rfl⟩;obtain⟨B,M⟩:∃z:Bool,(bif P then Q else false)=z:=⟨_,rfl⟩;have HB:=af M;clear M;rw[W,a6]at J;clear bo;go_upto_region 6 with fail;refine iH 14 [.int .i64 (k:Int), .bool P, .bool P,bif P then .slice (some L) n a4 else undef,bif P then .int .i64 (k:Int)else undef,bif P then .int .i64 (q:Int)else undef,bif P then .pointer (some (L.add (q*7)))else undef,bif P then .pointer (some (L.add (q*7)))else undef,bif P then .agg d.nm.cells.toArray else undef,bif P then .pointer (some ⟨g4,0,none⟩)else undef,bif P then .agg c.nm.cells.toArray else undef,bif P then .int .i64 (bL d.nm c.nm)else undef,bif P then .bool Q else undef, .bool B] ?zP ?_;case zP=>
    refine⟨?yJ,?zZ,?yA,?yB,?yC,?yD,?yE,?yF,?yG,?yH,?zJ,?zK,?zL,?zM,trivial⟩;all_goals intro u w' b a
    all_goals simp only[z1,z2,z3,z4,ar,Act.put,z5,z6,z7,Nat.reduceAdd,Nat.zero_add]
    case' zZ=>simp only[ah (a 0)]
    case' yA=>simp only[ah (a 1)]
    case' yB=>
     simp only[ah (a 2)];cases P;case false=>exact bS
    case' yC=>
     simp only[ah (a 2)];cases P;case false=>exact bS
    case yD=>
     simp only[ah (a 4),ah (a 2)];cases P;case false=>exact bS
     refine aI ?_;have X:=of_decide_eq_true W;have bv:(k:Int)-1=(q:Int):=a1.out X;have bm:IntKind.i64.wrap (q:Int)=(q:Int):=IntWalk.i64_in _ (by have:=I.out;omega);go_simp;exact aR
    case yE=>
     simp only[ah (a 3),ah (a 5),ah (a 2)];cases P;case false=>exact bS
     refine aI ?_;have X:=of_decide_eq_true W;have bm:(q:Int)<(n:Int):=by have:=a1.out X;omega
     have bx:(0:Int)<=(q:Int):=by omega
     go_simp;exact aR
    case' yF=>
     simp only[ah (a 6),ah (a 2)];cases P;case false=>exact bS
    case yG=>
     simp only[ah (a 7),ah (a 2)];cases P;case false=>exact bS
     refine aI ?_;exact au _ _ rfl (L.add (q*7)) rfl d.nm.cells _ (λay v av=>b.ak ((ae.out (of_decide_eq_true W)).2 ay v av) id) underlying106 rfl aW aR
    case' yH=>
     simp only[ah (a 2)];cases P;case false=>exact bS
    case zJ=>
     simp only[ah (a 9),ah (a 2)];cases P;case false=>exact bS
     refine aI ?_;exact au _ _ rfl ⟨g4,0,none⟩ rfl c.nm.cells _ (λay v av=>Y.out _ b ay v av) underlying106 rfl aW aR
    case zK=>
     simp only[ah (a 8),ah (a 10),ah (a 2)];cases P;case false=>exact bS
     refine aI ?_;go_simp;refine(aU.out (of_decide_eq_true W) _).mono ?_;rintro e bq⟨rfl,f4⟩;exact⟨rfl,f4⟩
    case' zL=>
     simp only[ah (a 11),ah (a 2)];cases P;case false=>exact bS
    case zM=>
     simp only[ah (a 2),ah (a 12)];cases P<;>exact aI (by go_simp;exact⟨by rw[<-HB.out];rfl,aA⟩)
    all_goals
     try simp only[cond]
     refine aI ?_;go_simp;exact aR
   intro w' b;simp only[z1,z2,z3,z4,ar,Act.put,z5,z6,z7,z8,z9,jS,jT,Nat.reduceAdd,Nat.zero_add];have p:Hid (Fr Nothing w w'):=p.out.trans b;clear b aU ae W a6 Y;have s:Hid (fE xs k=!B):=by
    rw[Hid,J.out,<-HB.out];cases P<;>cases Q<;>rfl
   clear J HB;cases M:B;case true=>
    obtain rfl:R=false:=m.out k aK.out (by rw[s.out,M];rfl);clear M s;go_wp2;go_ret;exact⟨rfl,p.out⟩
   have aJ:Hid (fE xs k=true):=by rw[Hid,s.out,M];rfl
   clear M s;have bp:n<=1099511627776:=I.out;go_wp2;go_roundw;case rel=>
    refine⟨k+1,by omega,by go_num,λj aQ=>?_,p.out⟩;by_cases h:j=k;·rw[h];exact aJ.out
    ·exact a3.out j (by omega)
   case measure=>have bp:=I.out;simp[intOf];omega
  ·obtain rfl:k=n:=by omega
   have a9:¬(k:Int)<(k:Int):=by omega
   obtain rfl:R=true:=C.out (λj aQ=>a3.out j (by rw[<-a0.out];exact aQ));go_wp2;go_ret;exact⟨rfl,aH.out⟩
theorem oS(a:ActV)(cs:List Value)(w:World)(L:dO w)(ae:cL w cs a)(V:a.key.fD.size<=1099511627776)(W:∀c∈a.reads,nj c)(hw:∀c∈a.writes,nj c)(nr:a.reads.length<=1099511627776)(nw:a.writes.length<=1099511627776):
  Calls prog 60 #[.agg cs.toArray] w (Jb w (fR a)):=by
 obtain⟨am,an,rfl,S,T⟩:=ae;obtain⟨p,aj,A,rfl,rfl,_,m⟩:=S.cl;obtain⟨r,ak,C,rfl,rfl,_,o⟩:=T.cl;have D:Hid (∀w',Calls prog 111 #[.agg a.key.cells.toArray] w' (λe M=>∃d:Int,e= .returned (.int .i64 d)/\(d==0)=dZ a.key/\Fr Nothing w' M)):=λw'=>xm a.key w' V;have N:Hid (∀w',Fr Nothing w w'->Calls prog 112 #[.slice p a.reads.length A] w' (aM w' (.bool (gz a.reads)))):=λw' f=>rY a.reads _ p A _ w' (L.ao f) (m.ao f) W nr;have CW:Hid (∀w',Fr Nothing w w'->Calls prog 112 #[.slice r a.writes.length C] w' (aM w' (.bool (gz a.writes)))):=λw' f=>rY a.writes _ r C _ w' (L.ao f) (o.ao f) hw nw;have k:Hid (fR a=(dZ a.key&&gz a.reads&&gz a.writes)):=rfl;obtain⟨P,I⟩:∃z,dZ a.key=z:=⟨_,rfl⟩;obtain⟨Q,J⟩:∃z,gz a.reads=z:=⟨_,rfl⟩;obtain⟨R,K⟩:∃z,gz a.writes=z:=⟨_,rfl⟩;obtain⟨O,H⟩:∃z,fR a=z:=⟨_,rfl⟩;rw[I]at D;rw[J]at N;rw[K]at CW;rw[I,J,K,H]at k;rw[H];generalize a.reads.length=Y at*;generalize a.writes.length=Z at*;obtain⟨⟨t,c,n,s⟩,_,_⟩:=a;simp only[dM.cells,List.cons_append,List.nil_append]at D⊢;clear L V W hw nr nw S T m o I J K H;go_enter func60,ntmps60;go_wp2_with(refine aD rfl 46 (.tmp 0) rfl _ rfl ?_);intro w1 n1;have F:=af n1.fr;have y:=af n1.aF;clear n1;generalize w.heap.size=g at*;have E:Hid (∀w',Fr Nothing w1 w'->∀j x,[Value.int .i64 t, .int .i64 c, .int .i64 n, .string s][j]? =some x->w'.cell? ((⟨g,0,none⟩:Addr).add j)=some x):=λw' f j x X=>by
  rw[Addr.add_mid,Nat.zero_add,(y.out.fr f id).cell j];rcases j with _|_|_|_|j<;>simp at X<;>simp[<-X]
 have ac:Hid (∀w',Fr Nothing w1 w'->w'.cell? {block:=g,off:=4}=some (.slice p Y A)):=λw' f=>(y.out.fr f id).cell 4;have c5:Hid (∀w',Fr Nothing w1 w'->w'.cell? {block:=g,off:=5}=some (.slice r Z C)):=λw' f=>(y.out.fr f id).cell 5;clear y;obtain⟨B,U⟩:∃z:Bool,(bif P then(bif Q then R else false)else false)=z:=⟨_,rfl⟩;have HB:=af U;clear U;go_upto_region 1 with fail;refine Af 15 [iS (.pointer (some ⟨g,0,none⟩)),iS (.agg [Value.int .i64 t, .int .i64 c, .int .i64 n, .string s].toArray),⟨λal _=>∃d:Int,al= .int .i64 d/\(d==0)=P,λ_ _ _ _ h=>h⟩,iS (.bool P),iS (.bool P),iS ((bif P then .pointer (some ⟨g,4,none⟩)else undef)),iS ((bif P then .slice p Y A else undef)),iS ((bif P then .bool Q else undef)),iS ((bif P then .bool Q else .bool false)),iS ((bif P then .bool Q else .bool false)),iS ((bif P then(bif Q then .pointer (some ⟨g,5,none⟩)else undef)else undef)),iS ((bif P then(bif Q then .slice r Z C else undef)else undef)),iS ((bif P then(bif Q then .bool R else undef)else undef)),iS (.bool B),iS (.bool B)] ?zF ?_;case zF=>
  refine⟨?zP,?zG,?zH,?zI,?zJ,?zK,?zL,?zM,?zN,?zO,?zA,?zB,?zC,?zD,?zE,trivial⟩;all_goals intro u w' i b
  all_goals simp only[z1,z2,z3,z4,ar,Act.put,z5,z6,z7,Nat.reduceAdd,Nat.zero_add]
  case zG=>
   simp only[ah (b 0)];refine aI ?_;exact au _ _ rfl ⟨g,0,none⟩ rfl [Value.int .i64 t, .int .i64 c, .int .i64 n, .string s] _ (λai v ag=>E.out _ i ai v ag) underlying43 rfl gj ⟨_,rfl,aA,rfl⟩
  case zH=>
   simp only[ah (b 1)];refine aI ?_;go_simp;refine(D.out _).mono ?_;rintro e aa⟨d,rfl,l,f4⟩;exact⟨_,rfl,f4,d,rfl,l⟩
  case zI=>
   obtain⟨d,ad,l⟩:=b 2;simp only[ad];refine aI ?_;have t1:(d==0)=P:=l;go_simp;exact⟨_,rfl,aA,rfl⟩
  case' zJ=>simp only[ah (b 3)]
  case' zK=>
   simp only[ah (b 4)];cases P;case false=>exact jR
  case zL=>
   simp only[ah (b 5),ah (b 4)];cases P;case false=>exact jR
   refine aI ?_;have q:=ac.out _ i;go_simp;exact⟨_,rfl,aA,rfl⟩
  case zM=>
   simp only[ah (b 6),ah (b 4)];cases P;case false=>exact jR
   refine aI ?_;go_simp;refine(N.out _ (F.out.trans i)).mono ?_;rintro e aa⟨rfl,f4⟩;exact⟨_,rfl,f4,rfl⟩
  case' zN=>
   simp only[ah (b 4),ah (b 7)];cases P
  case' zO=>
   simp only[ah (b 8)];cases P
  case' zA=>
   simp only[ah (b 9)];cases P;case false=>exact jR
   cases Q;case false=>exact jR
  case zB=>
   simp only[ah (b 10),ah (b 9)];cases P;case false=>exact jR
   cases Q;case false=>exact jR
   refine aI ?_;have q:=c5.out _ i;go_simp;exact⟨_,rfl,aA,rfl⟩
  case zC=>
   simp only[ah (b 11),ah (b 9)];cases P;case false=>exact jR
   cases Q;case false=>exact jR
   refine aI ?_;go_simp;refine(CW.out _ (F.out.trans i)).mono ?_;rintro e aa⟨rfl,f4⟩;exact⟨_,rfl,f4,rfl⟩
  case zD=>
   simp only[ah (b 9),ah (b 12)];cases P<;>cases Q<;>exact aI (by go_simp;exact⟨_,rfl,aA,congrArg Value.bool HB.out⟩)
  case' zE=>simp only[ah (b 13)]
  all_goals
   try simp only[cond]
   refine aI ?_;go_simp;exact⟨_,rfl,aA,rfl⟩
 intro u w' i b;simp only[z1,z2,z3,z4,ar,Act.put,z5,z6,z7,z8,z9,Nat.reduceAdd,Nat.zero_add,ah (b 14 (by omega))];clear b;have ab:=af (F.out.trans i);have G:Hid (O=B):=by
  rw[Hid,k.out,<-HB.out];cases P<;>cases Q<;>cases R<;>rfl
 clear i k HB;go_wp2;go_ret;rw[G.out];exact⟨rfl,ab.out⟩
structure Dy(a:ActV):Prop where
 fD:a.key.fD.size<=1048576
 reads:∀c∈a.reads,iy c
 writes:∀c∈a.writes,iy c
 nr:a.reads.length<=60000
 nw:a.writes.length<=60000
def jO(a:ActV):Value:=if fR a then .tuple #[.string ⟨(bY a).toArray⟩, .int .i64 0]else .tuple #[.string ByteArray.empty, .int .i64 3]
def jx(xs:List CV)(j:Nat):List UInt8:=enc xs.length++(xs.take j).flatMap kx
theorem DX(xs:List CV):jx xs 0=enc xs.length:=by simp[jx]
theorem Hi(xs:List CV):jx xs xs.length=ep xs:=by simp[jx,ep]
theorem DW{xs:List CV}{j:Nat}{c:CV}(h:xs[j]? =some c):jx xs (j+1)=jx xs j++(aN (bZ c.nm)++(jG c.bw++aN (aQ c.value))):=by
 rw[jx,jx,List.take_add_one,h,Option.toList_some,List.flatMap_append,List.flatMap_cons,List.flatMap_nil,List.append_nil,kx,List.append_assoc]
theorem JD(xs:List CV)(j:Nat):(jx xs j).length<=(ep xs).length:=by
 have e:ep xs=jx xs j++(xs.drop j).flatMap kx:=by
  rw[jx,ep,List.append_assoc,<-List.flatMap_append,List.take_append_drop]
 rw[e,aT];omega
theorem zm:∀(xs:List CV),(∀c∈xs,iy c)->(∀c∈xs,jw c=true)->(xs.flatMap kx).length<=xs.length*4000000
 |[],_,_=>by simp
 |c::xs,h,e=>by
  have f:=zm xs (λd a=>h d (by simp[a])) (λd a=>e d (by simp[a]));have b:=h c (by simp);have a2:=e c (by simp);simp only[jw,Bool.and_eq_true,decide_eq_true_eq]at a2;have a3:=b.owner;have a4:=b.text;have b1:=eS c.nm;have b2:=aY (bZ c.nm).length;have b3:=aY (aQ c.value).length;have b4:=aL c.value;simp only[List.flatMap_cons,kx,aN,jG,aT,List.length_cons,List.length_nil]at f⊢;omega
def oQ(a:ActV)(k:Nat):List UInt8:=if k=0 then pE a.key else if k=1 then pE a.key++ep a.reads else bY a
theorem GX(a:ActV):oQ a 2=bY a:=rfl
theorem Jp(a:ActV)(k:Nat):(oQ a k).length<=(bY a).length:=by
 unfold oQ;split;·simp only[bY,aT];omega
 ·split;·simp only[bY,aT];omega
  ·exact Nat.le_refl _
theorem Jq{a:ActV}(h:Dy a)(b:fR a=true):(bY a).length<=1000000000000:=by
 simp only[fR,Bool.and_eq_true]at b;have k:=zm a.reads h.reads (j7 b.1.2);have l:=zm a.writes h.writes (j7 b.2);have m:=h.nr;have n:=h.nw;have o:=h.fD;have c:=aY a.key.tick.toNat;have d:=aY a.key.cls.toNat;have e:=aY a.key.num.toNat;have f:=aY (aQ a.key.fD).length;have g:=aL a.key.fD;have i:=aY a.reads.length;have j:=aY a.writes.length;simp only[bY,pE,ep,aN,aT];omega
theorem Bm(A B:Option Addr)(n m c d:Nat)(w:World):(Instr.index 116 (.agg #[.slice A n c, .slice B m d]) (.int .i64 ((0:Nat):Int))).run prog w= .ok (.slice A n c) w:=by kernel_rfl
theorem Bo(A B:Option Addr)(n m c d:Nat)(w:World):(Instr.index 116 (.agg #[.slice A n c, .slice B m d]) (.int .i64 ((1:Nat):Int))).run prog w= .ok (.slice B m d) w:=by kernel_rfl
theorem nG(a:ActV)(cs:List Value)(w:World)(aG:dO w)(a8:cL w cs a)(p:Dy a):
    Calls prog 18 #[.agg cs.toArray] w (aM w (jO a)):=by
  have bl:=af aG;have C:=af p;have ap:=af a8;obtain⟨bJ,bL,rfl,ac,O⟩:=a8;obtain⟨q,bu,s,rfl,rfl,_,U⟩:=ac.cl;obtain⟨r,bv,t,rfl,rfl,_,V⟩:=O.cl;have ay:=af U;have az:=af V;have G:Hid (∀w',Fr Nothing w w'->Calls prog 60 #[.agg (a.key.cells++[Value.slice q a.reads.length s, .slice r a.writes.length t]).toArray] w' (aM w' (.bool (fR a)))):=λw' f=>
    oS a _ w' (aG.ao f) (ap.out.ao f) (by have:=p.fD;omega) (λc v=>(p.reads c v).fit) (λc v=>(p.writes c v).fit) (by have:=p.nr;omega) (by have:=p.nw;omega);have d:Hid (fR a=true->(bY a).length<=1000000000000):=Jq p;have L:Hid (a.reads.length<=60000/\a.writes.length<=60000):=⟨p.nr,p.nw⟩;clear ac O U V aG p;go_enter func18,ntmps18;go_wp2_with(refine aD rfl 46 (.tmp 0) rfl _ rfl ?_);intro w1 n1;have al:=af n1.fr;have ae:=af n1.aF;clear n1;generalize w.heap.size=g at*;have ak:Hid (∀w',aq w' g 46 (a.key.cells++[Value.slice q a.reads.length s, .slice r a.writes.length t]).toArray->∀j x,a.key.cells[j]? =some x->w'.cell? ((⟨g,0,none⟩:Addr).add j)=some x):=λw' bs j x D=>by
    rw[Addr.add_mid,Nat.zero_add,bs.cell j,bP,List.getElem?_append_left (List.getElem?_eq_some_iff.1 D).1];exact D
  have F:Hid (∀j x,(a.key.cells++[Value.slice q a.reads.length s, .slice r a.writes.length t])[j]? =some x->w1.cell? ((⟨g,0,none⟩:Addr).add j)=some x):=λj x D=>by
    rw[Addr.add_mid,Nat.zero_add,ae.out.cell j,bP];exact D
  go_wp2_with(refine aB rfl 46 (.tmp 1) rfl ⟨g,0,none⟩ rfl (a.key.cells++[Value.slice q a.reads.length s, .slice r a.writes.length t]) _ ?zC underlying46 rfl bQ (aX.go ?zF));case zC=>exact F.out
  unfold aX;go_wp2_with fail;refine(G.out _ al.out).mono ?_;rintro e w2⟨rfl,f2⟩;have am:=af (al.out.trans f2);have aO:=af (ae.out.fr f2 id);clear f2 G al ae F;cases b:fR a
  · have av:Hid (jO a= .tuple #[.string ByteArray.empty, .int .i64 3]):=by rw[Hid,jO,b];rfl
    clear b d;go_wp2;go_ret2;rw[av.out];exact⟨rfl,am.out⟩
  have av:Hid (jO a= .tuple #[.string ⟨(bY a).toArray⟩, .int .i64 0]):=by rw[Hid,jO,b];rfl
  have bk:=af b;have K:Hid ((bY a).length<=1000000000000):=d.out b;have B:Hid (dZ a.key=true/\gz a.reads=true/\gz a.writes=true):=by
    have h:=b;simp only[fR,Bool.and_eq_true]at h;exact⟨h.1.1,h.1.2,h.2⟩
  clear b d;go_wp2_with fail;refine(Wi.start am.out).mono ?_;rintro e w3⟨rfl,W,f3⟩;have aV:=af W;have ag:=af (aO.out.fr f3 id);generalize w2.heap.size=o at*;clear W f3 am aO;go_wp2_with(refine aB rfl 43 (.tmp 15) rfl ⟨g,0,none⟩ rfl a.key.cells _ ?zE underlying43 rfl gj (aX.go ?zG));case zE=>exact ak.out _ ag.out
  unfold aX;go_wp2_with fail;refine(xn w w3 o [] a.key aV.out (by simp) B.out.1 (by have:=C.out.fD;omega)).mono ?_;rintro e aK⟨rfl,X,ba⟩;have aY:Hid (Wi w aK o (oQ a 0)):=X;have ah:=af (ba _ _ _ ag.out (by decide) (by decide));clear X ba aV ag;have bo:aK.cell? {block:=g,off:=4}=some (.slice q a.reads.length s):=ah.out.cell 4;have c5:aK.cell? {block:=g,off:=5}=some (.slice r a.writes.length t):=ah.out.cell 5;go_wp2;clear bo c5;go_loopw[24](λi wr=>∃k:Nat,k<=2/\i= .int .i64 (k:Int)/\Wi w wr o (oQ a k))(λi _=>2-(intOf i).toNat);case atStart=>exact⟨0,by omega,rfl,aY.out⟩
  case round=>
    obtain⟨k,bH,rfl,hw⟩:=hrel;have ab:=af hw;clear hw aY ah;by_cases bt:k<2
    · have t0:decide ((k:Int)<2)=true:=cX (by omega);obtain⟨A,n,c,xs,y,R,aI,aJ,T,u⟩:∃A n c xs,Hid (∀w,(Instr.index 116 (.agg #[.slice q a.reads.length s, .slice r a.writes.length t]) (.int .i64 (k:Int))).run prog w= .ok (.slice A n c) w)/\Hid (CL w (λ_=>True) A n xs)/\Hid (gz xs=true)/\Hid (∀c∈xs,iy c)/\Hid (n<=60000)/\Hid (oQ a (k+1)=oQ a k++ep xs):=by
        by_cases bq:k=0;· subst bq;exact⟨q,_,s,a.reads,Bm q r _ _ s t,ay.out,B.out.2.1,C.out.reads,L.out.1,rfl⟩
        · obtain rfl:k=1:=by omega
          exact⟨r,_,t,a.writes,Bo q r _ _ s t,az.out,B.out.2.2,C.out.writes,L.out.2,by simp[Hid,oQ,bY]⟩
      have H:Hid (∀j,(oQ a k++jx xs j).length<=1000000000000):=λj=>by
        have ac:=JD xs j;have O:=Jp a (k+1);have bD:=K.out;rw[u.out,aT]at O;rw[aT];omega
      have ar:Hid ((oQ a k).length<=1000000000000):=by have:=H.out 0;simp only[aT]at this;simp only[Hid];omega
      have Q:Hid (xs.length=n):=R.out.len;have aE:=y.out;generalize P:oQ a k=acc at*;have bj:=af P;clear P y;go_wp2_with fail;refine(ab.out.number n (by have:=ar.out;omega) (by have:=T.out;omega)).mono ?_;rintro e bx⟨rfl,a4,_⟩;have aZ:Hid (Wi w bx o (acc++jx xs 0)):=by rw[Hid,DX,Q.out];exact a4
      clear a4 aE ab;go_wp2;go_loopw[33](λi wr=>∃j:Nat,j<=n/\i= .int .i64 (j:Int)/\Wi w wr o (acc++jx xs j))(λi _=>n-(intOf i).toNat);case atStart=>exact⟨0,by omega,rfl,aZ.out⟩
      case round=>
        obtain⟨j,bG,rfl,Y⟩:=hrel;have N:=af Y;clear Y aZ;by_cases aH:j<n
        · have a9:(j:Int)<(n:Int):=by omega
          have br:(0:Int)<=(j:Int):=by omega
          have t1:decide ((j:Int)<(n:Int))=true:=decide_eq_true a9;obtain⟨bB,ch,rfl,v,m⟩:=(R.out.ao N.out.fr).at_ aH;have I:=af m;have bh:=af ch.one;have Z:Hid (iy ch):=aJ.out ch (List.mem_of_getElem? v);have bm:Hid (jw ch=true):=j7 aI.out ch (List.mem_of_getElem? v);have l:Hid (acc++jx xs (j+1)=((acc++jx xs j)++aN (bZ ch.nm))++jG ch.bw++aN (aQ ch.value)):=by
            rw[Hid,DW v];simp only[List.append_assoc]
          have au:=af (H.out (j+1));clear m v;go_wp2_with(refine aB rfl 119 (.tmp 35) rfl _ rfl ch.cells _ ?zD underlying119 rfl j4 (aX.go ?hold));case zD=>exact I.out
          unfold aX;go_wp2_with(refine an rfl 119 rfl cm GD #[.int .i64 0, .string ByteArray.empty, .int .i64 0, .int .i64 0, .string ByteArray.empty, .string ByteArray.empty, .bool false] rfl ?_);intro bA be;have aA:=af be;clear be;generalize S:wr.heap.size=g8 at*;have J:=af S;clear S;have aR:Hid (aq bA g8 119 #[.int .i64 0, .string ByteArray.empty, .int .i64 0, .int .i64 0, .string ByteArray.empty, .string ByteArray.empty, .bool false]):=by have h:=aA.out.aF;rw[J.out]at h;exact h
          go_wp2_with(refine ai rfl 119 (.tmp 8) _ rfl g8 ch.cells.toArray rfl rfl _ _ aR.out j4 rfl bh.out ?_);intro ad bb a3;have E:Hid (aq ad g8 119 ch.cells.toArray):=bb;have aU:Hid (Fr Nothing wr ad):=aA.out.fr.aw a3 (λi bF e=>by have bC:i=g8:=e;have:=J.out;omega);have aC:=af (N.out.later aU.out);clear bb a3 aA aR I N aU;have aS:Hid (∀j x,ch.nm.cells[j]? =some x->ad.cell? ((⟨g8,0,none⟩:Addr).add j)=some x):=λj x D=>by
            rw[Addr.add_mid,Nat.zero_add,E.out.cell j,bP,CV.cells,List.getElem?_append_left (List.getElem?_eq_some_iff.1 D).1];exact D
          go_wp2_with(refine aB rfl 106 (.tmp 38) rfl ⟨g8,0,none⟩ rfl ch.nm.cells _ ?zA underlying106 rfl aW (aX.go ?zB));case zA=>exact aS.out
          unfold aX;have M:Hid (da ch.nm=true/\ch.value.size<=65536):=by
            have h:=bm.out;simp only[jw,Bool.and_eq_true,decide_eq_true_eq]at h;exact h.1
          have ax:Hid ((bZ ch.nm).length<=16777216):=by
            have ac:=Z.out.owner;have O:=Z.out.text;have bE:=eS ch.nm;simp only[Hid];omega
          go_wp2_with fail;refine(xP ch.nm ad (bl.out.ao aC.out.fr) (by have:=Z.out.owner;omega) (by have:=Z.out.text;omega) M.out.1).mono ?_;rintro e bK⟨rfl,f6⟩;have a0:=af (aC.out.later f6);have aP:=af (E.out.fr f6 id);clear f6 aC E aS;have z:Hid ((acc++jx xs j).length<=1099511627776/\(acc++jx xs j++aN (bZ ch.nm)).length<=1099511627776/\(acc++jx xs j++aN (bZ ch.nm)++jG ch.bw).length<=1099511627776):=by
            have h:=au.out;rw[l.out]at h;simp only[aT]at h;simp only[Hid,aT];omega
          go_wp2_with fail
          refine(a0.out.text ⟨(bZ ch.nm).toArray⟩ z.out.1 (by have h:=ax.out;have e:(⟨(bZ ch.nm).toArray⟩:ByteArray).size=(bZ ch.nm).length:=by rw[<-aL];rfl
                                                              omega)).mono ?_;rintro e bf⟨rfl,a5,bc⟩;have a1:Hid (Wi w bf o (acc++jx xs j++aN (bZ ch.nm))):=a5;have aj:=af (bc _ _ _ aP.out (by decide) (by decide));clear a5 bc a0 aP;have bp:bf.cell? {block:=g8,off:=6}=some (.bool ch.bw):=aj.out.cell 6;go_wp2_with fail;refine(a1.out.flag ch.bw z.out.2.1).mono ?_;rintro e bz⟨rfl,a6,bd⟩;have a2:=af a6;have E:=af (bd _ _ _ aj.out (by decide) (by decide));clear a6 bd a1 aj bp;have c5:bz.cell? {block:=g8,off:=5}=some (.string ch.value):=E.out.cell 5;go_wp2_with fail;refine(a2.out.text ch.value z.out.2.2 (by have:=M.out.2;omega)).mono ?_;rintro e bg⟨rfl,a7,_⟩;have bn:Hid (Wi w bg o (acc++jx xs (j+1))):=by rw[Hid,l.out];exact a7
          clear a7 a2 E c5;have bI:n<=60000:=T.out;go_wp2;go_roundw;case rel=>exact⟨j+1,by omega,by go_num,bn.out⟩
          case measure=>simp[intOf];omega
        · obtain rfl:j=n:=by omega
          have a9:¬(j:Int)<(j:Int):=by omega
          have aa:Hid (Wi w wr o (oQ a (k+1))):=by
            have h:=N.out;rw[<-Q.out,Hi]at h;rw[Hid,u.out];exact h
          clear N;go_wp2;go_roundw;case rel=>exact⟨k+1,by omega,by go_num,aa.out⟩
          case measure=>simp[intOf];omega
    · obtain rfl:k=2:=by omega
      have aa:Hid (Wi w wr o (bY a)):=by rw[<-GX];exact ab.out
      clear ab;go_wp2_with fail;refine(Ag w wr o (bY a) aa.out (by have:=K.out;omega)).mono ?_;rintro e bg⟨rfl,f9⟩;have bi:=af (aa.out.fr.trans f9);clear f9;go_wp2;go_ret2;rw[av.out];exact⟨rfl,bi.out⟩
end Go.Proofs.YtphjagkehiklkaaGreatDoor
namespace Go.Proofs.YtphjagkehiklkaaGreatDoor
open Proofs.Tryz Go.RowKit
def ee(s:ByteArray):List UInt8:=s.data.toList
theorem db(s:ByteArray):(ee s).length=s.size:=by simp[ee]
structure fM(W w:World)(v:Value)(l:List UInt8):Prop where
 fr:Fr Nothing W w
 row:∃g cap,v= .slice (some ⟨g,0,none⟩) l.length cap/\W.heap.size<=g/\g<w.heap.size/\l.length<=cap/\cap<=maxLen/\(∀j,j<cap->(w.cell? ⟨g,j,none⟩).isSome=true)/\
  (∀j,j<cap->w.frozen? ⟨g,j,none⟩=false)/\(∀j u,(l.map bK)[j]? =some u->w.cell? ⟨g,j,none⟩=some u)
theorem sU:(prog.info? 5).map (λi=>(i.zero,i.size,i.bytes))=some (some (.int .u8 0),1,1):=by kernel_rfl
theorem fM.conv(w:World)(s:ByteArray)(f:s.size<=1099511627776):∃v w1,(convert 9 61 (.string s)).run prog w= .ok v w1/\fM w w1 v (ee s):=by
 have b:=grownCap_ge w s.size 0 5;have d:(Lib.bytesCells w 5 s).size=grownCap w s.size 0 5:=by
  simp only[Lib.bytesCells,Array.size_append,Array.size_map,Array.size_replicate];show s.size+_=_;omega
 refine⟨_,_,Lib.run_convert_string_bytes w 9 61 5 s underlying9 underlying61 underlying5,⟨rfl,rfl,rfl,by rw[Lib.bytesWorld_size];omega,λk e _=>Lib.bytesWorld_at_old w _ s k e⟩,w.heap.size,_,by rw[db],Nat.le_refl _,by rw[Lib.bytesWorld_size];omega,by rw[db];exact b,grownCap_le_maxLen w s.size 0 _ (by simp only[maxLen];omega),λj a=>?_,λj a=>?_,λj u hu=>?_⟩
 ·simp only[World.cell?,Lib.bytesWorld_at_new];have:j<(Lib.bytesCells w 5 s).size:=by omega
  simp[this]
 ·simp only[World.frozen?,Lib.bytesWorld_at_new,d];simp;omega
 ·rw[List.getElem?_map]at hu;cases a:(ee s)[j]? with
  |none=>rw[a]at hu;cases hu
  |some x=>
   rw[a]at hu;simp only[Option.map_some,Option.some.injEq]at hu;have c:j<s.size:=by rw[<-db];exact(List.getElem?_eq_some_iff.1 a).1
   rw[Lib.bytesWorld_cell w _ s j c];unfold ee at a;rw[List.getD_eq_getElem?_getD,a,<-hu];rfl
theorem fM.ia{W w:World}{base:Nat}{v:Value}{l:List UInt8}(h:w.ownsRow base 5 1 v l.length (l.map bK))(s:W.heap.size<=base)(p:Fr Nothing W w)(q:l≠[]):fM W w v l:=by
 rcases h.2 with⟨rfl,m⟩|⟨g,cap,cur,rfl,n,a,f,c,o,i⟩
 ·cases l with
  |nil=>exact absurd rfl q
  |cons x r=>simp at m
 ·have e:g<w.heap.size:=by
   rcases Nat.lt_or_ge g w.heap.size with b|b;·exact b
   ·rw[Array.getElem?_eq_none b]at a;cases a
  refine⟨p,g,cap,rfl,by omega,e,f,c,λj t=>?_,λj _=>by simp[World.frozen?,a],λj u hu=>?_⟩
  ·have d:j<cur.size:=by omega
   simp[World.cell?,a,d]
  ·have k:=h.cells (g:=g) rfl j u hu;rw[show(⟨g,0,none⟩:Addr).add j=⟨g,j,none⟩by unfold Addr.add;split<;>simp_all]at k;exact k
theorem fM.app{W w:World}{v:Value}{l x:List UInt8}(h:fM W w v l)(ty:TypeId)(a:Addr)(c:Nat)(J:∀j u,(x.map bK)[j]? =some u->w.cell? (a.add j)=some u)(N:l.length+x.length<=140737488355328)(E:x≠[]):
  ∃s w',(Builtin.append_ #[61,61] ty #[v, .slice (some a) x.length c]).run prog w= .ok s w'/\fM W w' s (l++x):=by
 obtain⟨A,g,cap,rfl,t,C,M,z,y,K,I⟩:=h;obtain⟨i,H,F,n,G⟩:=info_parts sU;have p:∀u∈x.map bK,u.oneCell'=true:=by
  intro u hu;obtain⟨b,_,rfl⟩:=List.mem_map.1 hu;rfl
 by_cases m:l.length+x.length<=cap
 ·have d:=run_append_room_cells (P:=prog) w 61 ty 5 i underlying61 H g 0 l.length cap a x.length c (x.map bK) (by rw[n];simp) J p m (λj f=>by
   rw[n,Nat.mul_one,Nat.zero_add];simp at f;exact y _ (by omega)) (λj f=>by rw[n,Nat.mul_one,Nat.zero_add];simp at f;exact K _ (by omega));rw[n,Nat.mul_one,Nat.zero_add]at d;refine⟨_,_,d,?_⟩;refine⟨Fr.setCells (λo=>by omega) _ _ _ A,g,cap,by rw[aT],t,?_,by rw[aT];exact m,z,λj f=>?_,λj f=>?_,λj u hu=>?_⟩;·exact Nat.lt_of_lt_of_le C (Fr.setCells (T:=λk=>k=g) (λ_=>rfl) _ _ _ (Fr.refl _ w)).size
  ·exact Lib.isSome_setCells _ _ _ _ _ (y j f)
  ·rw[World.frozen?_setCells];exact K j f
  ·rw[List.map_append,List.getElem?_append]at hu;by_cases f:j<(l.map bK).length;·rw[if_pos f]at hu;rw[World.cell?_setCells_out _ _ _ _ _ (λ_ _=>Or.inl (by simpa using f))];exact I j u hu
   ·rw[if_neg f]at hu;have L:l.length<=j:=by simpa using f
    rw[List.length_map]at hu;obtain⟨o,r⟩:=List.getElem?_eq_some_iff.1 hu;have e:=World.cell?_setCells_in g (x.map bK) l.length w (λk D=>y _ (by simp at D;omega)) (j-l.length) o;rw[show l.length+(j-l.length)=j by omega]at e;rw[e,r]
 ·obtain⟨s,w',d,q,B⟩:=run_append_arg_grows (P:=prog) w 61 ty 5 i (.int .u8 0) 1 1 underlying61 H F n G rfl (by omega) ⟨g,0,none⟩ l.length cap (l.map bK) (by simp) (λj u hu=>by
   rw[show(⟨g,0,none⟩:Addr).add j=⟨g,j,none⟩by unfold Addr.add;split<;>simp_all];exact I j u hu) a x.length c (x.map bK) (by simp) J (by omega) (by simp only[maxLen];omega) (by omega);refine⟨s,w',d,fM.ia (base:=w.heap.size) ?_ A.size (A.trans ((Fr.grown B).mono (λk _ D=>by cases D))) (by simp[E])⟩;rw[aT,List.map_append];exact q
end Go.Proofs.YtphjagkehiklkaaGreatDoor
namespace Go.Proofs.YtphjagkehiklkaaGreatDoor
open Proofs.Tryz Go.RowKit
theorem Js(l:List UInt8):∀(s:ByteArray),(l.map (λb:UInt8=>(b.toNat:Int))).foldl (λr n=>r.push (UInt8.ofNat n.toNat)) s=⟨(s.data.toList++l).toArray⟩:=by
 induction l with
 |nil=>intro s;simp
 |cons b l a=>
  intro s;simp only[List.map_cons,List.foldl_cons];rw[a];congr 1;have e:UInt8.ofNat (Int.toNat (b.toNat:Int))=b:=by simp
  rw[e];simp[ByteArray.push]
theorem sd{P:Program}(w:World)(src dst e:TypeId)(q:P.underlying src=some (.slice e))(he:P.underlying e=some (.int .u8))(p:P.underlying dst=some .string)
  (S:Nat->Prop)(A:Option Addr)(n c:Nat)(l:List UInt8)(f:Rd w S 1 A n (l.map bK)):(convert src dst (.slice A n c)).run P w= .ok (.string ⟨l.toArray⟩) w:=by
 rw[run_convert_bytes_string w src dst e A n c q he p];have d:l.length=n:=by simpa using f.1
 rcases A with _|a
 ·have:l=[]:=by
   rcases Nat.eq_zero_or_pos n with h|h;·exact List.eq_nil_of_length_eq_zero (d.trans h)
   ·obtain⟨a,e,_⟩:=f.2 h;cases e
  subst this;rfl
 ·have o:∀j v,(l.map bK)[j]? =some v->w.cell? (a.add j)=some v:=by
   intro j v i;rcases Nat.eq_zero_or_pos n with h|h;·have:l=[]:=List.eq_nil_of_length_eq_zero (d.trans h);subst this;simp at i
   ·obtain⟨k,e,_,m⟩:=f.2 h;injection e with e;subst e;exact m j v i
  have g:=run_loadCells_list (P:=P) w a (l.map bK) o;rw[List.length_map,d]at g;rw[run_bytesToString w a n c (l.map (λb:UInt8=>(b.toNat:Int))) (by rw[g];simp[bK,Function.comp_def])];rw[Js];rfl
abbrev Dh(w:World)(v:Value)(w':World)(a:Value)(l:List UInt8):Prop:=bT 5 1 w v w' a l.length (l.map bK)
theorem xE(s:ByteArray):Lib.strCells s=(ee s).map bK:=rfl
theorem j6(l:List UInt8):∀u∈l.map bK,u.oneCell'=true:=by
 intro u hu;obtain⟨b,_,rfl⟩:=List.mem_map.1 hu;rfl
theorem BH(n:Nat):bK (iP n)= .int .u8 ((n%256:Nat):Int):=by
 unfold bK iP;rw[UInt8.toNat_ofNat']
def nQ(s:ByteArray):Value:= .string s
def eE(tag:UInt8)(a:List ByteArray)(k:Nat):List UInt8:=tag::iP a.length::(a.take k).flatMap λp=>eG p.size++ee p
theorem tG(tag:UInt8)(a:List ByteArray)(k:Nat)(p:ByteArray)(h:a[k]? =some p):eE tag a (k+1)=eE tag a k++eG p.size++ee p:=by
 unfold eE;rw[List.take_add_one,h];simp[List.flatMap_append]
theorem uU(tag:UInt8)(a:List ByteArray)(k:Nat)(h:a.length<=k):eE tag a k=iG tag (a.map ee):=by
 unfold eE iG;rw[List.take_of_length_le h,List.length_map];congr 2;rw[List.flatMap_map];congr 1
def Joined(w:World)(s:ByteArray)(e:Ending)(w':World):Prop:=e= .returned (.tuple #[.string s, .int .i64 0])/\Fr Nothing w w'
theorem En(n:Nat)(h:n<4294967296):[Value.int .u8 ((n:Int)/16777216), .int .u8 ((n:Int)/65536%256), .int .u8 ((n:Int)/256%256), .int .u8 ((n:Int)%256)]=(eG n).map bK:=by
 unfold eG;simp only[List.map_cons,List.map_nil,BH];rw[show((n/16777216%256:Nat):Int)=(n:Int)/16777216 by omega,show((n/65536%256:Nat):Int)=(n:Int)/65536%256 by omega,show((n/256%256:Nat):Int)=(n:Int)/256%256 by omega,show((n%256:Nat):Int)=(n:Int)%256 by omega]
end Go.Proofs.YtphjagkehiklkaaGreatDoor
namespace Go.Proofs.YtphjagkehiklkaaGreatDoor
open Proofs.Tryz Go.RowKit
theorem Dq(tag:UInt8)(a:List ByteArray)(k:Nat)(p:ByteArray)(h:a[k]? =some p):(eE tag a (k+1)).length=(eE tag a k).length+(4+p.size):=by
 rw[tG tag a k p h,aT,aT,db];have:(eG p.size).length=4:=rfl;omega
theorem GO(tag:UInt8)(a:List ByteArray)(A:Option Addr)(n c:Nat)(S:Nat->Prop)(w:World)(R:Rd w S 1 A n (a.map nQ))(aq:n<=255)(ac:∀k,(eE tag a k).length<=1099511627776)(ab:∀p∈a,p.size<4294967296):
  Calls prog 125 #[bK tag, .slice A n c] w (Joined w ⟨(iG tag (a.map ee)).toArray⟩):=by
 obtain⟨i0,M,g,j,l⟩:=info_parts sU;have aa:=af R;have z:Hid (a.length=n):=by have:=R.1;simpa[Hid]using this
 have I:=af ac;have ag:=af ab;have ah:Hid (iG tag (a.map ee)=eE tag a n):=(uU tag a n (by rw[z.out];exact Nat.le_refl _)).symm;generalize C:(⟨(iG tag (a.map ee)).toArray⟩:ByteArray)=RS at*;have O:=af C;clear C;clear R ac ab;unfold bK;have ap:decide ((255:Int)<(n:Int))=false:=ct (by omega);go_enter func125,ntmps125;go_wp2;go_loopw[18,6](λi sz wr=>∃k:Nat,k<=n/\i= .int .i64 k/\sz= .int .i64 ((eE tag a k).length:Nat)/\wr=w)(λi _ _=>n-(intOf i).toNat);case atStart=>exact⟨0,by omega,rfl,rfl,rfl⟩
 case round=>
  obtain⟨k,s,rfl,rfl,rfl⟩:=hrel;by_cases f:k<n
  ·obtain⟨al,u,rfl,_,hu,b⟩:=aa.out.at_ f;obtain⟨p,t,rfl⟩:∃p,a[k]? =some p/\u=nQ p:=by
    rw[List.getElem?_map]at hu;cases h:a[k]? with
    |none=>rw[h]at hu;cases hu
    |some p=>rw[h]at hu;exact⟨p,rfl,(Option.some.inj hu).symm⟩
   have B:=af (Dq tag a k p t);have J:=I.out (k+1);rw[B.out]at J;unfold nQ at b;clear hu t;have V:(k:Int)<(n:Int):=by omega
   generalize(eE tag a k).length=L at*;go_wp2;go_roundw;case rel=>exact⟨k+1,by omega,by go_num,by rw[B.out];go_num,by first|rfl|trivial⟩
   case measure=>simp[intOf];omega
  ·have D:decide ((k:Int)<(n:Int))=false:=ct (by omega);have E:decide (k<n)=false:=ct (by omega);have J:=I.out k;obtain⟨Z,ad⟩:∃Z,Z=(eE tag a k).length:=⟨_,rfl⟩;rw[<-ad]at J⊢;clear ad s f;go_wp2_with(at_make;refine wpList_make_own _ rfl _ _ 61 rfl 0 5 i0 (.int .u8 0) 1 underlying61 M g j _ _ _ Z rfl rfl ?zC ?zA ?zB (Nat.zero_le _) ?_);case zC=>rfl
   case zA=>rw[l];omega
   case zB=>unfold maxLen;omega
   intro w1 o G;have X:Hid (Fr Nothing wr w1):=(Fr.grown G).mono (λk _ s=>by cases s);have H1:=af o;clear o G;go_wp2_with(at_builtin;refine cQ _ rfl _ _ 61 rfl 5 i0 _ 1 1 underlying61 M g j l rfl (by omega) _ _ _ rfl H1.out 2 _ _ rfl rfl rfl ?zD ?zE (by omega) ?_);case zD=>simp[Value.oneCell']
   case zE=>omega
   intro v2 w2 d;have Y:Hid (Dh wr (.slice none 0 0) w2 v2 (eE tag a 0)):=by
    have e:(eE tag a 0).map bK=[Value.int .u8 (tag.toNat:Int), .int .u8 (n:Int)]:=by
     show[bK tag,bK (iP a.length)]=_;rw[BH,z.out,Nat.mod_eq_of_lt (by omega)];rfl
    have h:=bT.fresh X.out (λk s=>by simp[Value.ownBlock]at s;omega) d;simp only[Hid,Dh];rw[e];simpa[eE]using h
   clear d H1 X;obtain⟨w,hw⟩:∃x,x=wr:=⟨_,rfl⟩;subst hw;clear D E J;go_wp2;go_loopw[9,39](λv i wr=>∃k:Nat,k<=n/\i= .int .i64 k/\Dh w (.slice none 0 0) wr v (eE tag a k))(λ_ i _=>n-(intOf i).toNat);case atStart=>exact⟨0,by omega,rfl,Y.out⟩
   case round=>
    obtain⟨k,s,rfl,U⟩:=hrel;have q:=af U;obtain⟨N,n1,zA,rfl,Q,_⟩:=aK U.own;clear U Y;by_cases f:k<n
    ·obtain⟨al,u,rfl,_,hu,r⟩:=aa.out.at_ f;obtain⟨p,t,rfl⟩:∃p,a[k]? =some p/\u=nQ p:=by
      rw[List.getElem?_map]at hu;cases h:a[k]? with
      |none=>rw[h]at hu;cases hu
      |some p=>rw[h]at hu;exact⟨p,rfl,(Option.some.inj hu).symm⟩
     have B:=af (tG tag a k p t);have W:p.size<4294967296:=ag.out p (List.mem_of_getElem? t);have ai:=af (I.out k);have m:Hid ((eE tag a k).length+4+p.size<=1099511627776):=by
      have h:=I.out (k+1);rw[B.out,aT,aT,db]at h;simp only[Hid];have:(eG p.size).length=4:=rfl;omega
     unfold nQ at r;have b:=q.out.ao.ak r id;clear hu t;have V:(k:Int)<(n:Int):=by omega
     go_wp2_with(at_builtin;refine cQ _ rfl _ _ 61 rfl 5 i0 _ 1 1 underlying61 M g j l rfl (by omega) _ _ _ rfl q.out.own 4 _ _ rfl rfl rfl ?f1 ?f2 (by omega) ?_);case f1=>simp[Value.oneCell']
     case f2=>have:=m.out;omega
     intro v2 w2 d;have y:Hid (Dh w (.slice none 0 0) w2 v2 (eE tag a k++eG p.size)):=by
      have h:=q.out.trans d;rw[En p.size W]at h;simpa[Hid,Dh,eG]using h
     obtain⟨am,ar,zB,rfl,aj,_⟩:=aK y.out.own;have K:=y.out.ao.ak r id;clear d b q;go_wp2_with(at_builtin;refine mI _ rfl _ _ 61 9 rfl 5 i0 underlying61 underlying9 M g j l _ _ _ rfl y.out.own p rfl ?f3 ?_);case f3=>
      have:=m.out;have an:(eG p.size).length=4:=rfl;rw[aT];omega
     intro v3 w3 F;have ae:Hid (Dh w (.slice none 0 0) w3 v3 (eE tag a (k+1))):=by
      have h:=y.out.trans F;rw[xE]at h;simp only[Hid];rw[B.out];simpa[Dh,db,Nat.add_assoc]using h
     clear F y;go_wp2;go_roundw;case rel=>exact⟨k+1,by omega,by go_num,ae.out⟩
     case measure=>simp[intOf];omega
    ·have D:decide ((k:Int)<(n:Int))=false:=ct (by omega);have E:decide (k<n)=false:=ct (by omega);rw[show k=n by omega]at q;have H:Rd wr (od (.slice N n1 zA)) 1 N n1 ((eE tag a n).map bK):=by
      have h:=q.out.own;have e:n1=(eE tag a n).length:=by have:=Q.out;rw[show k=n by omega]at this;exact this
      rw[<-e]at h;exact Rd.ia h
     have T:=sd (P:=prog) wr 61 9 5 underlying61 underlying5 underlying9 _ N n1 zA _ H;rw[<-ah.out,O.out]at T;clear H;go_wp2;go_ret2;exact⟨rfl,q.out.ao⟩
theorem xf{P:Program}{ops:Array Oper}{rest:List Oper}{p:Oper}{a:Act}{w:World}{Q:Exit->Act->World->Prop}(e:p.guard=none)(ty:TypeId)(x:Operand)(m:p.op= .load ty x)
  (b f:Nat)(o:a.eval x= .pointer (some ⟨b,f,none⟩))(i:TypeInfo)(g:P.info? ty=some i)(c:∀w,(isAgg ty).run P w= .ok true w)(d:List Value)(n:d.length=i.size)
  (l:∀k v,d[k]? =some v->w.cell? ⟨b,f+k,none⟩=some v)
  (h:wpList P ops Q rest (a.put p.dst (.agg d.toArray)) w):wpList P ops Q (p::rest) a w:=by
 refine wpList_plain e λK j=>?_;unfold Oper.wp execOp;simp only[m,o,Instr.loadAt,Instr.sureAddr,Sem.run_bind,Sem.run_pure,Result.andThen_ok,Lib.rl_loadVar_cells ty i g c b f d n w l];exact j _ _ h
theorem oV{P:Program}{ops:Array Oper}{rest:List Oper}{u:Oper}{a:Act}{w:World}{Q:Exit->Act->World->Prop}(g:u.guard=none)(ty:TypeId)(x y:Operand)(o:u.op= .store ty x y)
  (b f:Nat)(q:a.eval x= .pointer (some ⟨b,f,none⟩))(j:TypeInfo)(i:P.info? ty=some j)(c:List Value)(r:a.eval y= .agg c.toArray)(p:c.length=j.size)(l:∀v∈c,v.oneCell'=true)
  (t:TypeId)(cs:List Value)(e:aq w b t cs.toArray)(n:f+c.length<=cs.length)
  (h:∀w',aq w' b t (cs.take f++c++cs.drop (f+c.length)).toArray->Fr (λk=>k=b) w w'->wpList P ops Q rest (a.put u.dst undef) w'):wpList P ops Q (u::rest) a w:=by
 refine wpList_plain g λK m=>?_;have d:=Lib.rl_storeVar_cells (P:=P) ty j i b f c p l w (λk s=>by
  rw[e.cell,bP,List.getElem?_eq_getElem (by omega)];rfl) (λk _=>e.frozen _);unfold Oper.wp execOp;simp only[o,q,r,Instr.storeAt,Instr.sureAddr,Sem.run_bind,Sem.run_pure,Result.andThen_ok,d];exact m _ _ (h _ (aq.setCells c f w cs e n) (Fr.setCells (T:=λk=>k=b) (λ_=>rfl) c f w (Fr.refl _ w)))
structure bU(w:World):Prop where
 init:∀j u,(fQ eC)[j]? =some u->w.cell? ⟨1,j,none⟩=some u
 kk:∀j,j<64->w.cell? ⟨2,j,none⟩=some (ke (tZ[j]?.getD 0))
theorem bU.fr{w w':World}{T:Nat->Prop}(h:bU w)(a:Fr T w w')(b:¬T 1)(c:¬T 2):bU w':=
 ⟨λj u hu=>a.ak (h.init j u hu) b,λj d=>a.ak (h.kk j d) c⟩
theorem bU.ao{w w':World}(h:bU w)(a:Fr Nothing w w'):bU w':=h.fr a id id
def gZ(n:Nat)(st:cZ)(rest:List UInt8):List Value:=[.int .i64 n]++fQ st++rest.map bK
theorem qA(n:Nat)(st:cZ)(rest:List UInt8)(h:rest.length=64):(gZ n st rest).length=73:=by simp[gZ,fQ,h]
theorem zx(n:Nat)(st st':cZ)(rest:List UInt8):(gZ n st rest).take 1++fQ st'++(gZ n st rest).drop (1+(fQ st').length)=gZ n st' rest:=rfl
theorem zw(n m:Nat)(st:cZ)(rest:List UInt8):(gZ n st rest).set 0 (.int .i64 m)=gZ m st rest:=rfl
theorem Bg(n:Nat)(st:cZ)(rest:List UInt8)(a:Nat)(Y:List UInt8):(gZ n st rest).take (9+a)++Y.map bK++(gZ n st rest).drop (9+a+(Y.map bK).length)=gZ n st (cR rest a Y):=by
 have b:([Value.int .i64 n]++fQ st).length=9:=rfl;unfold gZ cR;generalize[Value.int .i64 n]++fQ st=pre at*;rw[<-b,List.take_length_add_append,Nat.add_assoc,List.drop_length_add_append];simp[List.map_take,List.map_drop,List.append_assoc]
theorem qQ{w:World}{g n:Nat}{st:cZ}{rest:List UInt8}(h:aq w g 144 (gZ n st rest).toArray)(c:rest.length=64)(j:Nat)(b:j<64):w.cell? ⟨g,9+j,none⟩=some (bK (rest[j]?.getD 0)):=by
 have a:([Value.int .i64 n]++fQ st).length=9:=rfl;rw[h.cell,bP,gZ,List.getElem?_append_right (by omega),a,Nat.add_sub_cancel_left,List.getElem?_map,List.getElem?_eq_getElem (by omega)];rfl
theorem KL(w:World):(Go.sizeOf 5).run prog w= .ok 1 w:=by kernel_rfl
theorem KU(t:ByteArray)(n:Nat):ee (t.extract n t.size)=(ee t).drop n:=by
 simp[ee];exact List.take_of_length_le (by rw[List.length_drop];exact Nat.le_refl _)
def strSize:Value->Nat
 | .string t=>t.size
 |_=>0
structure oa(w:World)(g:Nat)(M rest:List UInt8):Prop where
 aF:aq w g 144 (gZ M.length (gO eC M (M.length/64)) rest).toArray
 ok:lJ M rest
def MT(w:World)(g:Nat)(M:List UInt8)(e:Ending)(w':World):Prop:=e= .returned (.int .i64 0)/\Fr (λk=>k=g) w w'/\∃rest,oa w' g M rest
theorem LO:(prog.info? 141).map (λi=>(i.zero,i.size,i.bytes))=some (some (.agg (fQ ⟨0,0,0,0,0,0,0,0⟩).toArray),8,32):=by kernel_rfl
theorem isAgg8(w:World):(isAgg 141).run prog w= .ok true w:=by kernel_rfl
theorem DB(s:ByteArray)(g:Nat)(st:cZ)(rest:List UInt8)(f:rest.length=64)(w:World)(ae:aq w g 144 (gZ 0 st rest).toArray)(hT:bU w)(E:g≠1)(zA:g≠2)(aO:s.size<=1099511627776)(aH:1<=s.size):
  Calls prog 79 #[.pointer (some ⟨g,0,none⟩), .string s] w (MT w g (ee s)):=by
 obtain⟨i8,I,_,K,_⟩:=info_parts LO;have ao:=af ae;have Z:=af hT;have V:=af f;have m:Hid (g≠1/\g≠2):=⟨E,zA⟩;have aa:=af (db s);have ad:w.cell? ⟨g,0,none⟩=some (.int .i64 0):=ae.cell 0;clear ae hT f E zA;generalize F:ee s=N at*;have B:Hid (N=ee s):=F.symm;clear F;go_enter func79,ntmps79;go_wp2_with(first|(refine xf rfl 141 (.global 1) rfl 1 0 rfl i8 I isAgg8 (fQ eC) K.symm (λk v Q=>by rw[Nat.zero_add];exact Z.out.init k v Q) ?_)|(refine oV rfl 141 _ _ rfl g 1 rfl i8 I (fQ eC) rfl K.symm ?zA _ (gZ 0 st rest) ao.out ?zB ?_));case zA=>intro v Q;simp only[fQ,List.mem_cons,List.not_mem_nil,or_false]at Q;rcases Q with rfl|rfl|rfl|rfl|rfl|rfl|rfl|rfl<;>rfl
 case zB=>rw[qA _ _ _ V.out];simp[fQ]
 intro w1 b1 f1;rw[<-List.append_assoc,zx]at b1;have ak:Hid (oa w1 g [] rest):=⟨b1,Ig rest V.out⟩;have am:=af f1;clear b1 f1 ad ao V;go_wp2;go_loopw[1](λv wr=>∃t X rest,v= .string t/\Hid (N=X++ee t)/\t.size<=s.size/\oa wr g X rest/\Fr (λk=>k=g) w wr)(λv _=>strSize v);case atStart=>exact⟨s,[],rest,rfl,B.out,Nat.le_refl _,ak.out,am.out⟩
 case round=>
  obtain⟨t,X,rest,rfl,d,aJ,O,hF⟩:=hrel;have i:=af O;have ab:=af hF;have C:Hid (X.length+t.size=s.size):=by
   have h:=congrArg List.length d.out;rw[aT,db,aa.out]at h;simp only[Hid];omega
  have aB:X.length<=1099511627776:=by have:=C.out;omega
  have ad:wr.cell? ⟨g,0,none⟩=some (.int .i64 (X.length:Nat)):=O.aF.cell 0;have f0:wr.frozen? ⟨g,0,none⟩=false:=O.aF.frozen 0;have ax:=af (Cp eC X yp (X.length/64));clear O hF ak am;by_cases aP:1<=t.size
  ·obtain⟨a,ag⟩:∃a,a=X.length%64:=⟨_,rfl⟩;obtain⟨n,ai⟩:∃n,n=Nat.min t.size (64-a):=⟨_,rfl⟩;have aG:n<=t.size/\n<=64-a/\(n=t.size\/n=64-a):=by
    rw[ai];rcases Nat.le_total t.size (64-a)with h|h;·rw[show Nat.min t.size (64-a)=t.size from Nat.min_eq_left h];exact⟨Nat.le_refl _,h, .inl rfl⟩
    ·rw[show Nat.min t.size (64-a)=64-a from Nat.min_eq_right h];exact⟨h,Nat.le_refl _, .inr rfl⟩
   have ar:a<64:=by omega
   have G:((ee t).take n).length=n:=by rw[List.length_take,db];omega
   have H:=xD (P:=prog) wr 61 9 3 5 g (9+a) (64-a) (64-a) t underlying61 KL n ai.symm
    (λj ah=>by rw[show 9+a+j=9+(a+j)by omega,qQ i.out.aF i.out.ok.1 (a+j) (by omega)];rfl) (λj ah=>i.out.aF.frozen _);have J:(t.data.toList.map λx=>Value.int .u8 (x.toNat:Int)).take n=((ee t).take n).map bK:=by
    rw[<-List.map_take];rfl
   rw[J]at H;have R:=aq.setCells (((ee t).take n).map bK) (9+a) wr _ i.out.aF (by rw[qA _ _ _ i.out.ok.1,List.length_map,G];omega);rw[Bg]at R;have an:=Fr.setCells (T:=λk=>k=g) (a:=w) (λ_=>rfl) (((ee t).take n).map bK) (9+a) wr ab.out;have q:=af R;have z:=af an;have M:=af ag;have D:=af G;have A:Hid (N=(X++(ee t).take n)++ee (t.extract n t.size)):=by
    simp only[Hid];rw[KU,List.append_assoc,List.take_append_drop];exact d.out
   have o:Hid ((t.extract n t.size).size=t.size-n):=by simp only[Hid];simp
   generalize wr.setCells g (9+a) (((ee t).take n).map bK)=w2 at*;generalize aC:(ee t).take n=Y at*;clear R an J aC;have ay:Hid (bU w2):=Z.out.fr z.out (λe=>m.out.1 e.symm) (λe=>m.out.2 e.symm);have d0:w2.cell? ⟨g,0,none⟩=some (.int .i64 (X.length:Nat)):=q.out.cell 0;have az:w2.frozen? ⟨g,0,none⟩=false:=q.out.frozen 0;have l:Hid (aq (w2.setCell ⟨g,0,none⟩ (.int .i64 ((X.length+n:Nat):Int))) g 144 (gZ (X.length+n) (gO eC X (X.length/64)) (cR rest a Y)).toArray):=by
    have h:=q.out.kq 0 (.int .i64 ((X.length+n:Nat):Int));rw[List.setIfInBounds_toArray,zw]at h;exact h
   have r:Hid (Fr (λk=>k=g) w (w2.setCell ⟨g,0,none⟩ (.int .i64 ((X.length+n:Nat):Int)))):=z.out.setCell (p:=⟨g,0,none⟩) (λ_=>rfl) _;have aL:((X.length:Nat):Int)%64=(a:Int):=by rw[ag];omega
   have aj:((X.length:Nat):Int).tmod 64=(a:Int):=by rw[Int.tmod_eq_emod_of_nonneg (by omega)];exact aL
   have aQ:(a:Int)<=64:=by omega
   have aR:(n:Int)<=(t.size:Int):=by omega
   have aS:IntKind.i64.wrap (((X.length:Nat):Int)+(n:Int))=((X.length+n:Nat):Int):=(IntWalk.i64_in _ (by omega)).trans (by omega);have aM:((X.length:Nat):Int)+(n:Int)=((X.length+n:Nat):Int):=by omega
   have aI:(0:Int)<(t.size:Int):=by omega
   have c:Hid (a+n<64->oa (w2.setCell ⟨g,0,none⟩ (.int .i64 ((X.length+n:Nat):Int))) g (X++Y) (cR rest a Y)):=by
    intro h;obtain⟨zA,zB⟩:=Er (X:=Y) i.out.ok (by rw[D.out,<-M.out];exact h);rw[<-M.out]at zA;refine⟨?_,zA⟩;rw[zB,aT,D.out];exact l.out
   have b:Hid (a+n=64->lJ (X++Y) (cR rest a Y)/\gO eC (X++Y) ((X++Y).length/64)=fZ (gO eC X (X.length/64)) (cR rest a Y)/\(X++Y).length=X.length+n):=by
    intro h;obtain⟨zA,zB⟩:=Ep (X:=Y) i.out.ok (by rw[D.out,<-M.out];exact h);rw[<-M.out]at zA zB;exact⟨zA,zB,by rw[aT,D.out]⟩
   have W:Hid ((cR rest a Y).length=64):=kD i.out.ok.1 (by rw[D.out];omega);generalize cR rest a Y=y at*;generalize gO eC X (X.length/64)=ST at*;generalize X.length=L at*;clear i ab Z ai ag C aj aM;by_cases u:a+n=64
   ·have aK:(((a:Int)+(n:Int))==64)=true:=by rw[beq_iff_eq];omega
    have av:=af (b.out u);have ac:Hid (bU (w2.setCell ⟨g,0,none⟩ (.int .i64 ((L+n:Nat):Int)))):=ay.out.fr ((Fr.refl (λk=>k=g) w2).setCell (p:=⟨g,0,none⟩) (λ_=>rfl) _) (λe=>m.out.1 e.symm) (λe=>m.out.2 e.symm);clear c b;go_wp2;rw[show(L:Int)+(n:Int)=((L+n:Nat):Int)by omega];generalize w2.setCell ⟨g,0,none⟩ (.int .i64 ((L+n:Nat):Int))=w3 at*;have al:=af (nk g 1 g 9 144 [.int .i64 (L+n:Nat)] (y.map bK) ST ax.out y w3.drew l.out.drew rfl (λj ah=>qQ l.out.drew W.out j ah) ac.out.kk);generalize fZ ST y=aN at*;clear ad f0 d0 az H;go_still_tail 6,(by kernel_rfl);change wpList _ _ _ _ _ w3.drew;go_wp2_with fail;refine al.out.mono ?_;rintro e au⟨rfl,f4,b4⟩;have U:Hid (oa au g (X++Y) y):=by
     obtain⟨zA,zB,aA⟩:=av.out;refine⟨?_,zA⟩;rw[zB,aA];exact b4
    have S:Hid (Fr (λk=>k=g) w au):=r.out.drew.trans f4;clear f4 b4 al l r;go_wp2;go_roundw;case rel=>exact⟨t.extract n t.size,X++Y,y,rfl,A.out,by have:=o.out;omega,U.out,S.out⟩
    case measure=>have:=o.out;simp only[strSize];omega
   ·have aK:(((a:Int)+(n:Int))==64)=false:=by rw[beq_eq_false_iff_ne];omega
    have U:=af (c.out (by omega));clear c b;go_wp2;go_roundw;case rel=>exact⟨t.extract n t.size,X++Y,y,rfl,A.out,by have:=o.out;omega,U.out,r.out⟩
    case measure=>have:=o.out;simp only[strSize];omega
  ·have E:t.size=0:=by omega
   have aE:decide ((0:Int)<(t.size:Int))=false:=ct (by omega);have aD:decide (0<t.size)=false:=ct (by omega);have ap:N=X:=by
    rw[d.out];have:ee t=[]:=List.eq_nil_of_length_eq_zero (by rw[db];exact E);rw[this,List.append_nil]
   have aw:=af ap;clear ap E;go_wp2;go_ret;refine⟨rfl,ab.out,rest,?_⟩;rw[aw.out];exact i.out
theorem fM.alloc{W w:World}{v:Value}{l:List UInt8}(h:fM W w v l)(o:Obj):fM W (w.alloc o) v l:=by
 obtain⟨k,g,cap,rfl,a,d,f,c,i,n,m⟩:=h;have b:(w.alloc o).heap[g]? =w.heap[g]? :=Below.heap_alloc w o g d;refine⟨k.alloc _,g,cap,rfl,a,by simp;omega,f,c,λj e=>?_,λj e=>?_,λj u hu=>?_⟩;·have:=i j e;simp only[World.cell?]at this⊢;rw[b];exact this
 ·have:=n j e;simp only[World.frozen?]at this⊢;rw[b];exact this
 ·have:=m j u hu;simp only[World.cell?]at this⊢;rw[b];exact this
theorem jB(n:Nat):bK (iP n)= .int .u8 ((n%256:Nat):Int):=by
 unfold bK iP;rw[UInt8.toNat_ofNat']
end Go.Proofs.YtphjagkehiklkaaGreatDoor
namespace Go.Proofs.YtphjagkehiklkaaGreatDoor
open Proofs.Tryz Go.RowKit Go.ChangeShapes Go.WideShapes Go.Deep
theorem AN:prog.cellsOf 141=8:=by kernel_rfl
theorem xV:prog.cellsOf 242=64:=by kernel_rfl
theorem vu:prog.cellsOf 140=1:=by kernel_rfl
theorem qP:prog.globalNamed "replevin/sha256.initial"=some 1:=by kernel_rfl
theorem uq:(prog.globals[1]?).map (·.type)=some 141:=by kernel_rfl
theorem oy:prog.globalNamed "replevin/sha256.constants"=some 2:=by kernel_rfl
theorem qF:(prog.globals[2]?).map (·.type)=some 242:=by kernel_rfl
theorem Mf{W:World}{rest:List (String×DataW Unit)}(h:laidMet prog (("replevin/sha256.initial",Rows.laid_replevin_sha256_initial)::("replevin/sha256.constants",Rows.laid_replevin_sha256_constants)::rest) W):bU W:=by
 have c:Lib.TabIs prog W "replevin/sha256.initial" .u32 Eu:=Lib.tabIs_of_head qP uq underlying141 underlying140 vu AN (show laidMet prog (_::_) W from h);have d:Lib.TabIs prog W "replevin/sha256.constants" .u32 Bv:=Lib.tabIs_of_head oy qF underlying242 underlying140 vu xV (show laidMet prog (_::_) W from laidMet.tail h);refine⟨λj u hu=>?_,λj a=>?_⟩
 ·have a:j<8:=(List.getElem?_eq_some_iff.1 hu).1;rw[c.cell qP j a,<-hu];rcases j with _|_|_|_|_|_|_|_|j;·rfl
  ·rfl
  ·rfl
  ·rfl
  ·rfl
  ·rfl
  ·rfl
  ·rfl
  ·omega
 ·have b:j<tZ.length:=a;rw[d.cell oy j (by rw[Bv,List.length_map];exact b)];unfold ke Bv;rw[List.getD_eq_getElem?_getD,List.getElem?_map,List.getElem?_eq_getElem b];rfl
end Go.Proofs.YtphjagkehiklkaaGreatDoor
