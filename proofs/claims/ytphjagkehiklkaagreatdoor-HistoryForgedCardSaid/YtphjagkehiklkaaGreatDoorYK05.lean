/- Texts. -/
import Derived.Test.YtphjagkehiklkaaGreatDoorYK04
set_option linter.unusedVariables false
set_option linter.unusedSimpArgs false
set_option maxRecDepth 100000
set_option maxHeartbeats 4000000
namespace Go.Proofs.YtphjagkehiklkaaGreatDoor
open Go.RowKit
structure gI{α:Type}(c:α→α→Int):Prop where
 eq:∀a b,c a b=0→a=b
 refl:∀a,c a a=0
 lg:∀a b,c b a=-c a b
 trans:∀a b d,c a b<0→c b d<0→c a d<0
theorem gI.Gt{α:Type}{c:α→α→Int}(h:gI c){a b d:α}(g:c a b≤0)(f:c b d<0):c a d<0:=by
 by_cases e:c a b=0;·rw[h.eq a b e];exact f
 ·exact h.trans a b d (by omega) f
def aU(x y:Int):Int:=if x=0 then y else x
theorem gI.lex{α β:Type}{c:α→α→Int}{d:β→β→Int}(h:gI c)(k:gI d):gI (fun(a b:α×β)=>aU (c a.1 b.1) (d a.2 b.2))where
 eq a b e:=by
  unfold aU at e;split at e;·rename_i g;exact Prod.ext (h.eq _ _ g) (k.eq _ _ e)
  ·contradiction
 refl _:=by simp[aU,h.refl,k.refl]
 lg a b:=by
  have:=h.lg a.1 b.1;have:=k.lg a.2 b.2;unfold aU;split<;>split<;>omega
 trans a b e g l:=by
  have n:=h.lg;by_cases i:c a.1 b.1=0
  ·by_cases f:c b.1 e.1=0
   ·have j:c a.1 e.1=0:=by rw[h.eq _ _ i,h.eq _ _ f];exact h.refl _
    simp only[aU,i,f,j,if_true]at*;exact k.trans _ _ _ g l
   ·simp only[aU,i,f,if_true,if_false]at g l;have j:c a.1 e.1=c b.1 e.1:=by rw[h.eq _ _ i]
    simp only[aU,j,f,if_false];exact l
  ·by_cases f:c b.1 e.1=0
   ·simp only[aU,i,f,if_true,if_false]at g l;have j:c a.1 e.1=c a.1 b.1:=by rw[h.eq _ _ f]
    simp only[aU,j,i,if_false];exact g
   ·simp only[aU,i,f,if_false]at g l;have j:=h.trans _ _ _ g l;have m:c a.1 e.1≠0:=by omega
    simp only[aU,m,if_false];exact j
theorem gI.pull{α β:Type}{c:β→β→Int}(h:gI c)(f:α→β)(d:∀a b,f a=f b→a=b):gI (fun a b=>c (f a) (f b))where
 eq _ _ e:=d _ _ (h.eq _ _ e)
 refl _:=h.refl _
 lg _ _:=h.lg _ _
 trans _ _ _:=h.trans _ _ _
def dS(a b:Int):Int:=if a<b then-1 else if b<a then 1 else 0
theorem eT:gI dS where
 eq a b e:=by unfold dS at e;split at e<;>(try split at e)<;>omega
 refl _:=by unfold dS;simp
 lg a b:=by unfold dS;split<;>split<;>(try split)<;>omega
 trans a b d c f:=by unfold dS at*;split at c<;>(try split at c)<;>split at f<;>(try split at f)<;>(try split)<;>omega
def cmpL{α:Type}(c:α→α→Int):List α→List α→Int
 |[],[]=>0
 |[],_::_=>-1
 |_::_,[]=>1
 |x::xs,y::a=>aU (c x y) (cmpL c xs a)
theorem oB{α:Type}{c:α→α→Int}(h:gI c):gI (cmpL c)where
 eq:=by
  intro a;induction a with
  |nil=>intro b e;cases b<;>simp[cmpL]at e⊢
  |cons x xs l=>
   intro b e;cases b with
   |nil=>simp[cmpL]at e
   |cons y m=>
    simp only[cmpL,aU]at e;split at e;·rename_i f;rw[h.eq _ _ f,l _ e]
    ·contradiction
 refl:=by
  intro a;induction a with
  |nil=>rfl
  |cons x xs l=>simp[cmpL,aU,h.refl,l]
 lg:=by
  intro a;induction a with
  |nil=>intro b;cases b<;>simp[cmpL]
  |cons x xs l=>
   intro b;cases b with
   |nil=>simp[cmpL]
   |cons y m=>
    have:=h.lg x y;have:=l m;simp only[cmpL,aU];split<;>split<;>omega
 trans:=by
  intro a;induction a with
  |nil=>
   intro b d f g;cases d with
   |nil=>cases b<;>simp[cmpL]at f g
   |cons z o=>simp[cmpL]
  |cons x xs l=>
   intro b d f g;cases b with
   |nil=>simp[cmpL]at f
   |cons y m=>
    cases d with
    |nil=>simp[cmpL]at g
    |cons z o=>
     simp only[cmpL]at*;by_cases j:c x y=0
     ·by_cases i:c y z=0
      ·have k:c x z=0:=by rw[h.eq _ _ j,h.eq _ _ i];exact h.refl _
       simp only[aU,j,i,k,if_true]at*;exact l _ _ f g
      ·simp only[aU,j,i,if_true,if_false]at f g;have k:c x z=c y z:=by rw[h.eq _ _ j]
       simp only[aU,k,i,if_false];exact g
     ·by_cases i:c y z=0
      ·simp only[aU,j,i,if_true,if_false]at f g;have k:c x z=c x y:=by rw[h.eq _ _ i]
       simp only[aU,k,j,if_false];exact f
      ·simp only[aU,j,i,if_false]at f g;have k:=h.trans _ _ _ f g;have n:c x z≠0:=by omega
       simp only[aU,n,if_false];exact k
def pI(a b:UInt8):Int:=dS a.toNat b.toNat
theorem uC:gI pI:=eT.pull (fun u:UInt8=>(u.toNat:Int)) (fun a b h=>UInt8.toNat_inj.1 (by have c:(a.toNat:Int)=b.toNat:=h;omega))
def ln(a b:ByteArray):Int:=cmpL pI a.toList b.toList
theorem toList_inj{a b:ByteArray}(h:a.toList=b.toList):a=b:=by
 rw[ByteArray.toList_eq,ByteArray.toList_eq]at h;cases a;cases b;simp only[ByteArray.mk.injEq];exact Array.toList_inj.1 h
theorem uA:gI ln:=(oB uC).pull ByteArray.toList (fun _ _ h=>toList_inj h)
theorem oz:∀(x y:List UInt8),Op.bytesLess x y=decide (cmpL pI x y<0)
 |[],[]=>by simp[Op.bytesLess,cmpL]
 |_::_,[]=>by simp[Op.bytesLess,cmpL]
 |[],_::_=>by simp[Op.bytesLess,cmpL]
 |a::x,b::y=>by
  rw[Op.bytesLess,oz x y];simp only[cmpL,aU,pI,dS];by_cases c:a<b
  ·have e:(a.toNat:Int)<b.toNat:=by have:=UInt8.lt_iff_toNat_lt.1 c;omega
   simp[c,e]
  ·by_cases d:a=b;·subst d;simp
   ·have f:¬(a.toNat:Int)<b.toNat:=by
     intro h;exact c (UInt8.lt_iff_toNat_lt.2 (by omega))
    have g:(b.toNat:Int)<a.toNat:=by
     have:a.toNat≠b.toNat:=fun h=>d (UInt8.toNat_inj.1 h);omega
    simp[c,d,f,g]
theorem uB(a b:ByteArray):ln a b=if Op.bytesLess a.toList b.toList=true then-1 else if a=b then 0 else 1:=by
 have f:∀(x y:List UInt8),cmpL pI x y=-1∨cmpL pI x y=0∨cmpL pI x y=1:=by
  intro x;induction x with
  |nil=>intro y;cases y<;>simp[cmpL]
  |cons p x g=>
   intro y;cases y with
   |nil=>simp[cmpL]
   |cons q y=>
    have:=g y;simp only[cmpL,aU,pI,dS];split<;>(try split)<;>(try split)<;>omega
 rw[oz];have h:=f a.toList b.toList;unfold ln;by_cases e:a=b;·subst e;rw[(oB uC).refl];simp
 ·have i:cmpL pI a.toList b.toList≠0:=fun d=>e (toList_inj ((oB uC).eq _ _ d));simp only[e,if_false];by_cases c:cmpL pI a.toList b.toList<0;·simp[c];omega
  ·simp[c];omega
def lW(b:UInt8):Bool:=48≤b.toNat&&b.toNat≤57
def dA:Nat→List UInt8→List UInt8
 |0,_=>[]
 |_+1,[]=>[]
 |n+1,b::l=>if lW b then b::dA n l else[]
def eU(ds:List UInt8):Nat:=ds.foldl (fun n b=>n*10+(b.toNat-48)) 0
structure Part where
 ord:Nat
 at_:Nat
 e:Nat
def cP(count at_:Nat)(l:List UInt8):Part×Nat:=
 let ds:=dA 7 l
 if count=8 then(⟨0,at_,9⟩,at_)else if l=[]then(⟨0,at_,4⟩,at_)else if ds=[]then(⟨0,at_,6⟩,at_)else if l[0]? =some 48 then(⟨0,at_,3⟩,at_)
 else if 6<ds.length then(⟨0,at_,2⟩,at_)else(⟨eU ds,at_,0⟩,at_+ds.length)
def du:Nat→Nat→List UInt8→List Part
 |0,at_,_=>[⟨0,at_,9⟩]
 |n+1,at_,l=>
  let p:=(cP (7-n) at_ l).1
  if p.e≠0 then[p]else
   let k:=(dA 7 l).length
   if l.length≤k then[p]else if l[k]? ≠some 46 then[p,⟨0,at_+k,6⟩]else p::du n (at_+k+1) (l.drop (k+1))
def fQ(s:ByteArray):List Part:=if s.size=0 then[]else du 8 0 s.toList
def dd(s:ByteArray):Bool:=(fQ s).all (fun p=>p.e==0)
def jk(s:ByteArray):List Int:=(fQ s).map (fun p=>(p.ord:Int))
theorem kS:∀(n:Nat)(l:List UInt8),(dA n l).length≤n∧(dA n l).length≤l.length
 |0,l=>by simp[dA]
 |n+1,[]=>by simp[dA]
 |n+1,b::l=>by
  have:=kS n l;rw[dA];split<;>simp<;>omega
theorem nP:∀(n:Nat)(l:List UInt8),dA n l=l.take (dA n l).length
 |0,l=>by simp[dA]
 |n+1,[]=>by simp[dA]
 |n+1,b::l=>by
  rw[dA];split;·rw[List.length_cons,List.take_succ_cons,←nP n l]
  ·simp
theorem sf:∀(n:Nat)(l:List UInt8),∀b∈dA n l,lW b=true
 |0,l=>by simp[dA]
 |n+1,[]=>by simp[dA]
 |n+1,b::l=>by
  intro x a;rw[dA]at a;split at a
  ·rename_i h;rcases List.mem_cons.1 a with rfl|c;·exact h
   ·exact sf n l x c
  ·simp at a
theorem vD:∀(n:Nat)(l:List UInt8)(j:Nat),j≤(dA n l).length→(j<(dA n l).length↔j<n∧∃b,l[j]? =some b∧lW b=true)
 |0,l,j,h=>by simp[dA]
 |n+1,[],j,h=>by simp[dA]
 |n+1,b::l,0,h=>by
  rw[dA];by_cases a:lW b=true;·simp[a]
  ·simp[a]
 |n+1,b::l,j+1,h=>by
  rw[dA]at h⊢;by_cases a:lW b=true;·simp only[a,if_true,List.length_cons]at h⊢;have:=vD n l j (by omega);simp only[List.getElem?_cons_succ];rw[show(j+1<(dA n l).length+1)↔(j<(dA n l).length)by omega,show(j+1<n+1)↔(j<n)by omega];exact this
  ·simp[a]at h
theorem lK(ds:List UInt8)(b:UInt8):eU (ds++[b])=eU ds*10+(b.toNat-48):=by simp[eU]
theorem IK:∀(n:Nat)(ds:List UInt8),ds.length=n→(∀b∈ds,lW b=true)→eU ds<10^n:=by
 intro n;induction n with
 |zero=>
  intro ds h _;rw[List.eq_nil_of_length_eq_zero h];decide
 |succ n e=>
  intro ds h a;obtain⟨init,b,rfl⟩:∃init b,ds=init++[b]:=by
   rcases List.eq_nil_or_concat ds with rfl|⟨i,b,rfl⟩;·simp at h
   ·exact⟨i,b,by simp⟩
  rw[lK];have f:=e init (by simpa using h) (fun x d=>a x (by simp[d]));have c:=a b (by simp);simp only[lW,Bool.and_eq_true,decide_eq_true_eq]at c;rw[Nat.pow_succ];omega
end Go.Proofs.YtphjagkehiklkaaGreatDoor
namespace Go.Proofs.YtphjagkehiklkaaGreatDoor
open Go.RowKit Go.Shelf
attribute[local go_sem]Oper.semAt_some
theorem yC(b:UInt8)(w:World):Calls Tryz.prog 184 #[.int .u8 b.toNat] w (bG w (.bool (lW b))):=by
 by_cases c:48≤b.toNat
 ·have t1:decide ((48:Int)≤(b.toNat:Int))=true:=dJ (by omega);by_cases d:b.toNat≤57
  ·have t2:decide ((b.toNat:Int)≤57)=true:=dJ (by omega);have a:lW b=true:=by simp[lW,c,d]
   rw[a];go_enter Tryz.func184,Tryz.ntmps184;go_wp2;go_ret;exact⟨rfl,rfl⟩
  ·have t2:decide ((b.toNat:Int)≤57)=false:=cN (by omega);have a:lW b=false:=by simp[lW,d]
   rw[a];go_enter Tryz.func184,Tryz.ntmps184;go_wp2;go_ret;exact⟨rfl,rfl⟩
 ·have t1:decide ((48:Int)≤(b.toNat:Int))=false:=cN (by omega);have a:lW b=false:=by simp[lW,c]
  rw[a];go_enter Tryz.func184,Tryz.ntmps184;go_wp2;go_ret;exact⟨rfl,rfl⟩
def bC(p:Part):Array Value:=#[.int .i64 p.ord, .int .i64 p.at_, .int .i64 p.e]
def nM:Array Value:=#[.int .i64 0, .int .i64 0, .int .i64 0]
theorem tQ(w:World):(zeroValue 270).run Tryz.prog w= .ok (.agg nM) w:=by kernel_rfl
theorem dh(p:Part):(bC p).all (·.oneCell')=true:=by simp[bC,Value.oneCell']
theorem bY:(Tryz.prog.info? 270).map (·.size)=some 3:=by kernel_rfl
theorem fh(s:ByteArray):s.toList.length=s.size:=by rw[ByteArray.toList_eq];rfl
theorem yX{s:ByteArray}{i:Nat}{b:UInt8}(h:s.toList[i]? =some b):∃h:i<s.size,s[i]=b:=by
 obtain⟨a,c⟩:=List.getElem?_eq_some_iff.1 h;have d:i<s.size:=by rw[←fh];exact a
 refine⟨d,?_⟩;rw[←c];simp only[ByteArray.toList_eq];rfl
theorem bU(tmps:Array Value)(w:World)(g:Nat)(cs:Array Value)(v:Value)
  (c:tmps.getD 6 undef= .pointer (some ⟨g,0,none⟩))(d:tmps.getD 7 undef=v)(e:ao w g 270 cs)(f:cs.size=3):
  (results Tryz.f183 tmps).run Tryz.prog w= .ok (.tuple #[.agg cs,v]) w:=by
 have a:tmps[6]?.getD undef= .pointer (some ⟨g,0,none⟩):=by simpa using c
 have b:tmps[7]?.getD undef=v:=by simpa using d
 simp[results,Tryz.results183,a,b,asAddr,run_loadVar_row w g 270 270 cs (0,0) _ e Tryz.underlying270 rfl (by rw[f];exact bY)]
theorem Cl(s:ByteArray)(at_ count:Nat)(w:World)(aB:at_≤s.size)(aC:s.size≤1099511627776)(aI:count≤8):
  Calls Tryz.prog 183 #[.string s, .int .i64 at_, .int .i64 count] w (aK w (.tuple #[.agg (bC (cP count at_ (s.toList.drop at_)).1), .int .i64 ((cP count at_ (s.toList.drop at_)).2:Nat)])):=by
 obtain⟨l,f⟩:∃l,l=s.toList.drop at_:=⟨_,rfl⟩;rw[←f];obtain⟨ds,ah⟩:∃ds,ds=dA 7 l:=⟨_,rfl⟩;have ab:=af ah;have aa:Hid (∀i b,l[i]? =some b→∃h:at_+i<s.size,s[at_+i]=b):=fun i b R=>by
  rw[f,List.getElem?_drop]at R;exact yX R
 have al:Hid (∀i,at_+i<s.size→∃b,l[i]? =some b):=fun i I=>by
  rw[f,List.getElem?_drop];exact⟨_,List.getElem?_eq_getElem (by rw[fh];exact I)⟩
 have o:Hid (l.length+at_=s.size∧(l≠[]→∃z,∃h:at_<s.size,l[0]? =some z∧s[at_]=z)):=by
  refine⟨by rw[f,List.length_drop,fh];omega,fun ax=>?_⟩;obtain⟨z,u⟩:∃z,l[0]? =some z:=by
   cases l with
   |nil=>exact absurd rfl ax
   |cons z r=>exact⟨z,rfl⟩
  obtain⟨h,e⟩:=aa.out 0 z u;exact⟨z,h,u,e⟩
 have aq:=af (kS 7 l);have ad:=af (vD 7 l);have ae:=af (nP 7 l);have ac:=af (sf 7 l);rw[←ah]at aq ad ae ac;clear ah f;have aG:=af aB;have az:=af aC;have Z:=af (fun b w=>yC b w);clear aB aC;go_enter Tryz.func183,Tryz.ntmps183;go_wp2_with(refine ak rfl 270 rfl (.agg nM) tQ nM rfl ?_);intro w1 n1;have L:=af n1.fr;have K:=af n1.aF;have M:Sz w w.heap.size:=Nat.le_refl _;clear n1;generalize w.heap.size=g1 at*;go_wp2;go_loopw[8,9](fun i n wr=>∃j:Nat,j≤ds.length∧i= .int .i64 ((at_+j:Nat):Int)∧n= .int .i64 ((eU (ds.take j):Nat):Int)∧w1=wr)(fun i _ _=>at_+8-(intOf i).toNat);case atStart=>exact⟨0,Nat.zero_le _,rfl,rfl,rfl⟩
 case round=>
 obtain⟨j,au,rfl,rfl,rfl⟩:=hrel;have J:=ad.out j au;obtain⟨q,aj⟩:∃q,q=at_+j:=⟨_,rfl⟩;rw[←aj];obtain⟨N,ar⟩:∃N,N=eU (ds.take j):=⟨_,rfl⟩;rw[←ar];have ap:=af ar;clear ar;by_cases T:j<ds.length
 ·obtain⟨aO,b,R,S⟩:=J.1 T;obtain⟨ay,an⟩:=aa.out j b R;have Y:=af T;have F:Hid (q=at_+j):=aj;have HB:=af R;have t0:(q:Int)<(s.size:Int):=by omega
  have aR:q<s.size:=by omega
  have t1:(q:Int)-(at_:Int)≤6:=by omega
  have t2:(0:Int)≤(q:Int):=by omega
  have t3:s[q]=b:=by subst aj;exact an
  have t4:lW b=true:=S;have aJ:48≤b.toNat∧b.toNat≤57:=by simpa[lW]using S
  have am:Hid (N*10+(b.toNat-48)=eU (ds.take (j+1))∧N<10000000):=by
   have av:ds[j]? =some b:=by
    rw[ae.out,List.getElem?_take_of_lt T];exact R
   constructor;·rw[List.take_add_one,av,Option.toList_some,lK,←ap.out]
   ·rw[ap.out];refine Nat.lt_of_lt_of_le (IK _ (ds.take j) rfl (fun x aP=>ac.out x (List.mem_of_mem_take aP))) ?_;refine Nat.le_trans (Nat.pow_le_pow_right (by omega) (show(ds.take j).length≤7 by rw[List.length_take];omega)) (by decide)
  obtain⟨d,t⟩:∃d,d=b.toNat-48:=⟨_,rfl⟩;have t5:(b.toNat:Int)-48=(d:Int):=by omega
  have t6:d≤9:=by omega
  have aH:=af t;have nb:=am.out.2;have nq:q≤1099511627776:=by have:=az.out;omega
  have aQ:at_≤q:=by omega
  clear aj an ay R S aJ J T aO t au;go_wp2_with fail;refine(Z.out b _).mono ?_;rintro e w'⟨rfl,rfl⟩;rw[t4];go_wp2;go_roundw;case rel=>
   have X:=F.out;have Q:=am.out.1;have aA:=aH.out;exact⟨j+1,Y.out,by go_num,by rw[←Q];go_num,by first|rfl|trivial⟩
  case measure=>
   have X:=F.out;have Q:=Y.out;have aA:=aq.out.1;simp[intOf];omega
 ·obtain rfl:j=ds.length:=by omega
  have F:Hid (q=at_+ds.length):=aj;obtain rfl:N=eU ds:=by rw[ap.out,List.take_length]
  have ao:s.size≤q∨(q<s.size∧ds.length=7)∨(q<s.size∧ds.length≤6∧∃b,(∃h:q<s.size,s[q]=b)∧lW b=false):=by
   by_cases X:q<s.size
   ·right;by_cases Q:ds.length=7;·exact .inl ⟨X,Q⟩
    ·right;have aA:=aq.out.1;refine⟨X,by omega,?_⟩;obtain⟨b,R⟩:=al.out ds.length (by omega);obtain⟨aT,aM⟩:=aa.out _ _ R;refine⟨b,⟨X,?_⟩,?_⟩;·subst aj;exact aM
     ·cases aN:lW b;·rfl
      ·exact absurd (J.2 ⟨by omega,b,R,aN⟩) T
   ·exact .inl (by omega)
  have W:=af ao;have aS:ds.length≤7:=aq.out.1;have aQ:at_≤q:=by omega
  have nq:q≤1099511627783:=by have:=az.out;have:=aG.out;omega
  clear ao J aj T au ap ad ae ac al;rcases W.out with X|⟨X,Q⟩|⟨X,Q,b,⟨aL,R⟩,S⟩
  ·clear W;have aD:¬(q:Int)<(s.size:Int):=by omega
   have aE:¬q<s.size:=by omega
   clear X;have p:Hid (cP count at_ l=if count=8 then(⟨0,at_,9⟩,at_)else if l=[]then(⟨0,at_,4⟩,at_)else if ds=[]then(⟨0,at_,6⟩,at_)else if l[0]? =some 48 then(⟨0,at_,3⟩,at_)else if 6<ds.length then(⟨0,at_,2⟩,at_)else(⟨eU ds,at_,0⟩,at_+ds.length)):=by simp only[Hid];rw[ab.out];rfl
   by_cases a:count=8
   ·have c:Hid (cP count at_ l=(⟨0,at_,9⟩,at_)):=by simp only[Hid];rw[p.out,if_pos a]
    have m:((count:Int)==8)=true:=by rw[beq_iff_eq];have:=a;omega
    clear a;go_wp2_with(refine ai rfl 270 (.tmp 6) _ rfl g1 (bC ⟨0,at_,9⟩) rfl rfl _ _ K.out bY rfl (dh _) ?_);intro D g k;have v:=af g;have y:Hid (Fr ag w D):=L.out.aw k (fun i I e=>by have O:i=g1:=e;have:=M;unfold Sz at this;omega);clear g k;go_wp2;refine bodyPost_ret (bU _ _ g1 (bC ⟨0,at_,9⟩) _ rfl rfl v.out rfl) rfl ?_;rw[c.out];exact⟨rfl,y.out⟩
   by_cases f:l=[]
   ·have c:Hid (cP count at_ l=(⟨0,at_,4⟩,at_)):=by simp only[Hid];rw[p.out,if_neg a,if_pos f]
    have m:((count:Int)==8)=false:=by rw[beq_eq_false_iff_ne];have:=a;omega
    have E:((at_:Int)==(s.size:Int))=true:=by rw[beq_iff_eq];have:=o.out.1;have G:l.length=0:=(by simp[f]);omega
    clear a f;go_wp2_with(refine ai rfl 270 (.tmp 6) _ rfl g1 (bC ⟨0,at_,4⟩) rfl rfl _ _ K.out bY rfl (dh _) ?_);intro D g k;have v:=af g;have y:Hid (Fr ag w D):=L.out.aw k (fun i I e=>by have O:i=g1:=e;have:=M;unfold Sz at this;omega);clear g k;go_wp2;refine bodyPost_ret (bU _ _ g1 (bC ⟨0,at_,4⟩) _ rfl rfl v.out rfl) rfl ?_;rw[c.out];exact⟨rfl,y.out⟩
   by_cases t:ds=[]
   ·have c:Hid (cP count at_ l=(⟨0,at_,6⟩,at_)):=by simp only[Hid];rw[p.out,if_neg a,if_neg f,if_pos t]
    have m:((count:Int)==8)=false:=by rw[beq_eq_false_iff_ne];have:=a;omega
    have E:((at_:Int)==(s.size:Int))=false:=by rw[beq_eq_false_iff_ne];have:=o.out.1;have G:l.length≠0:=fun h=>f (List.length_eq_zero_iff.1 h);omega
    have H:((q:Int)==(at_:Int))=true:=by rw[beq_iff_eq];have:=F.out;have G:ds.length=0:=(by simp[t]);omega
    clear a f t;go_wp2_with(refine ai rfl 270 (.tmp 6) _ rfl g1 (bC ⟨0,at_,6⟩) rfl rfl _ _ K.out bY rfl (dh _) ?_);intro D g k;have v:=af g;have y:Hid (Fr ag w D):=L.out.aw k (fun i I e=>by have O:i=g1:=e;have:=M;unfold Sz at this;omega);clear g k;go_wp2;refine bodyPost_ret (bU _ _ g1 (bC ⟨0,at_,6⟩) _ rfl rfl v.out rfl) rfl ?_;rw[c.out];exact⟨rfl,y.out⟩
   by_cases u:l[0]? =some 48
   ·have c:Hid (cP count at_ l=(⟨0,at_,3⟩,at_)):=by simp only[Hid];rw[p.out,if_neg a,if_neg f,if_neg t,if_pos u]
    have m:((count:Int)==8)=false:=by rw[beq_eq_false_iff_ne];have:=a;omega
    have E:((at_:Int)==(s.size:Int))=false:=by rw[beq_eq_false_iff_ne];have:=o.out.1;have G:l.length≠0:=fun h=>f (List.length_eq_zero_iff.1 h);omega
    have H:((q:Int)==(at_:Int))=false:=by rw[beq_eq_false_iff_ne];have:=F.out;have G:ds.length≠0:=fun h=>t (List.length_eq_zero_iff.1 h);omega
    obtain⟨z,A,B,C⟩:=o.out.2 (fun h=>f h);have i1:at_<s.size:=A;have i2:(at_:Int)<(s.size:Int):=by omega
    have i3:(0:Int)≤(at_:Int):=by omega
    have i4:s[at_]=z:=C;have P:((z.toNat:Int)==48)=true:=by
     rw[B]at u;have U:z=48:=Option.some.inj u;subst U;rfl
    clear a f t u;go_wp2_with(refine ai rfl 270 (.tmp 6) _ rfl g1 (bC ⟨0,at_,3⟩) rfl rfl _ _ K.out bY rfl (dh _) ?_);intro D g k;have v:=af g;have y:Hid (Fr ag w D):=L.out.aw k (fun i I e=>by have O:i=g1:=e;have:=M;unfold Sz at this;omega);clear g k;go_wp2;refine bodyPost_ret (bU _ _ g1 (bC ⟨0,at_,3⟩) _ rfl rfl v.out rfl) rfl ?_;rw[c.out];exact⟨rfl,y.out⟩
   by_cases hm:6<ds.length
   ·have c:Hid (cP count at_ l=(⟨0,at_,2⟩,at_)):=by simp only[Hid];rw[p.out,if_neg a,if_neg f,if_neg t,if_neg u,if_pos hm]
    have m:((count:Int)==8)=false:=by rw[beq_eq_false_iff_ne];have:=a;omega
    have E:((at_:Int)==(s.size:Int))=false:=by rw[beq_eq_false_iff_ne];have:=o.out.1;have G:l.length≠0:=fun h=>f (List.length_eq_zero_iff.1 h);omega
    have H:((q:Int)==(at_:Int))=false:=by rw[beq_eq_false_iff_ne];have:=F.out;have G:ds.length≠0:=fun h=>t (List.length_eq_zero_iff.1 h);omega
    obtain⟨z,A,B,C⟩:=o.out.2 (fun h=>f h);have i1:at_<s.size:=A;have i2:(at_:Int)<(s.size:Int):=by omega
    have i3:(0:Int)≤(at_:Int):=by omega
    have i4:s[at_]=z:=C;have P:((z.toNat:Int)==48)=false:=by
     rw[B]at u;rw[beq_eq_false_iff_ne];intro h;apply u;have:z=48:=by
      apply UInt8.toNat_inj.1;have Q:(48:UInt8).toNat=48:=rfl;omega
     rw[this]
    have V:decide (6<(q:Int)-(at_:Int))=true:=dJ (by have:=F.out;omega);clear a f t u hm;go_wp2_with(refine ai rfl 270 (.tmp 6) _ rfl g1 (bC ⟨0,at_,2⟩) rfl rfl _ _ K.out bY rfl (dh _) ?_);intro D g k;have v:=af g;have y:Hid (Fr ag w D):=L.out.aw k (fun i I e=>by have O:i=g1:=e;have:=M;unfold Sz at this;omega);clear g k;go_wp2;refine bodyPost_ret (bU _ _ g1 (bC ⟨0,at_,2⟩) _ rfl rfl v.out rfl) rfl ?_;rw[c.out];exact⟨rfl,y.out⟩
   have c:Hid (cP count at_ l=(⟨eU ds,at_,0⟩,at_+ds.length)):=by simp only[Hid];rw[p.out,if_neg a,if_neg f,if_neg t,if_neg u,if_neg hm]
   have m:((count:Int)==8)=false:=by rw[beq_eq_false_iff_ne];have:=a;omega
   have E:((at_:Int)==(s.size:Int))=false:=by rw[beq_eq_false_iff_ne];have:=o.out.1;have G:l.length≠0:=fun h=>f (List.length_eq_zero_iff.1 h);omega
   have H:((q:Int)==(at_:Int))=false:=by rw[beq_eq_false_iff_ne];have:=F.out;have G:ds.length≠0:=fun h=>t (List.length_eq_zero_iff.1 h);omega
   obtain⟨z,A,B,C⟩:=o.out.2 (fun h=>f h);have i1:at_<s.size:=A;have i2:(at_:Int)<(s.size:Int):=by omega
   have i3:(0:Int)≤(at_:Int):=by omega
   have i4:s[at_]=z:=C;have P:((z.toNat:Int)==48)=false:=by
    rw[B]at u;rw[beq_eq_false_iff_ne];intro h;apply u;have:z=48:=by
     apply UInt8.toNat_inj.1;have Q:(48:UInt8).toNat=48:=rfl;omega
    rw[this]
   have V:decide (6<(q:Int)-(at_:Int))=false:=cN (by have:=F.out;omega);clear a f t u hm;go_wp2_with(refine ai rfl 270 (.tmp 6) _ rfl g1 (bC ⟨eU ds,at_,0⟩) rfl rfl _ _ K.out bY rfl (dh _) ?_);intro D g k;have v:=af g;have y:Hid (Fr ag w D):=L.out.aw k (fun i I e=>by have O:i=g1:=e;have:=M;unfold Sz at this;omega);clear g k;go_wp2;refine bodyPost_ret (bU _ _ g1 (bC ⟨eU ds,at_,0⟩) _ rfl rfl v.out rfl) rfl ?_;rw[c.out];refine⟨?_,y.out⟩;rw[←F.out];rfl
  ·clear W;have aD:(q:Int)<(s.size:Int):=by omega
   have aE:¬(q:Int)-(at_:Int)≤6:=by have:=F.out;omega
   clear Q;have p:Hid (cP count at_ l=if count=8 then(⟨0,at_,9⟩,at_)else if l=[]then(⟨0,at_,4⟩,at_)else if ds=[]then(⟨0,at_,6⟩,at_)else if l[0]? =some 48 then(⟨0,at_,3⟩,at_)else if 6<ds.length then(⟨0,at_,2⟩,at_)else(⟨eU ds,at_,0⟩,at_+ds.length)):=by simp only[Hid];rw[ab.out];rfl
   by_cases a:count=8
   ·have c:Hid (cP count at_ l=(⟨0,at_,9⟩,at_)):=by simp only[Hid];rw[p.out,if_pos a]
    have m:((count:Int)==8)=true:=by rw[beq_iff_eq];have:=a;omega
    clear a;go_wp2_with(refine ai rfl 270 (.tmp 6) _ rfl g1 (bC ⟨0,at_,9⟩) rfl rfl _ _ K.out bY rfl (dh _) ?_);intro D g k;have v:=af g;have y:Hid (Fr ag w D):=L.out.aw k (fun i I e=>by have O:i=g1:=e;have:=M;unfold Sz at this;omega);clear g k;go_wp2;refine bodyPost_ret (bU _ _ g1 (bC ⟨0,at_,9⟩) _ rfl rfl v.out rfl) rfl ?_;rw[c.out];exact⟨rfl,y.out⟩
   by_cases f:l=[]
   ·have c:Hid (cP count at_ l=(⟨0,at_,4⟩,at_)):=by simp only[Hid];rw[p.out,if_neg a,if_pos f]
    have m:((count:Int)==8)=false:=by rw[beq_eq_false_iff_ne];have:=a;omega
    have E:((at_:Int)==(s.size:Int))=true:=by rw[beq_iff_eq];have:=o.out.1;have G:l.length=0:=(by simp[f]);omega
    clear a f;go_wp2_with(refine ai rfl 270 (.tmp 6) _ rfl g1 (bC ⟨0,at_,4⟩) rfl rfl _ _ K.out bY rfl (dh _) ?_);intro D g k;have v:=af g;have y:Hid (Fr ag w D):=L.out.aw k (fun i I e=>by have O:i=g1:=e;have:=M;unfold Sz at this;omega);clear g k;go_wp2;refine bodyPost_ret (bU _ _ g1 (bC ⟨0,at_,4⟩) _ rfl rfl v.out rfl) rfl ?_;rw[c.out];exact⟨rfl,y.out⟩
   by_cases t:ds=[]
   ·have c:Hid (cP count at_ l=(⟨0,at_,6⟩,at_)):=by simp only[Hid];rw[p.out,if_neg a,if_neg f,if_pos t]
    have m:((count:Int)==8)=false:=by rw[beq_eq_false_iff_ne];have:=a;omega
    have E:((at_:Int)==(s.size:Int))=false:=by rw[beq_eq_false_iff_ne];have:=o.out.1;have G:l.length≠0:=fun h=>f (List.length_eq_zero_iff.1 h);omega
    have H:((q:Int)==(at_:Int))=true:=by rw[beq_iff_eq];have:=F.out;have G:ds.length=0:=(by simp[t]);omega
    clear a f t;go_wp2_with(refine ai rfl 270 (.tmp 6) _ rfl g1 (bC ⟨0,at_,6⟩) rfl rfl _ _ K.out bY rfl (dh _) ?_);intro D g k;have v:=af g;have y:Hid (Fr ag w D):=L.out.aw k (fun i I e=>by have O:i=g1:=e;have:=M;unfold Sz at this;omega);clear g k;go_wp2;refine bodyPost_ret (bU _ _ g1 (bC ⟨0,at_,6⟩) _ rfl rfl v.out rfl) rfl ?_;rw[c.out];exact⟨rfl,y.out⟩
   by_cases u:l[0]? =some 48
   ·have c:Hid (cP count at_ l=(⟨0,at_,3⟩,at_)):=by simp only[Hid];rw[p.out,if_neg a,if_neg f,if_neg t,if_pos u]
    have m:((count:Int)==8)=false:=by rw[beq_eq_false_iff_ne];have:=a;omega
    have E:((at_:Int)==(s.size:Int))=false:=by rw[beq_eq_false_iff_ne];have:=o.out.1;have G:l.length≠0:=fun h=>f (List.length_eq_zero_iff.1 h);omega
    have H:((q:Int)==(at_:Int))=false:=by rw[beq_eq_false_iff_ne];have:=F.out;have G:ds.length≠0:=fun h=>t (List.length_eq_zero_iff.1 h);omega
    obtain⟨z,A,B,C⟩:=o.out.2 (fun h=>f h);have i1:at_<s.size:=A;have i2:(at_:Int)<(s.size:Int):=by omega
    have i3:(0:Int)≤(at_:Int):=by omega
    have i4:s[at_]=z:=C;have P:((z.toNat:Int)==48)=true:=by
     rw[B]at u;have U:z=48:=Option.some.inj u;subst U;rfl
    clear a f t u;go_wp2_with(refine ai rfl 270 (.tmp 6) _ rfl g1 (bC ⟨0,at_,3⟩) rfl rfl _ _ K.out bY rfl (dh _) ?_);intro D g k;have v:=af g;have y:Hid (Fr ag w D):=L.out.aw k (fun i I e=>by have O:i=g1:=e;have:=M;unfold Sz at this;omega);clear g k;go_wp2;refine bodyPost_ret (bU _ _ g1 (bC ⟨0,at_,3⟩) _ rfl rfl v.out rfl) rfl ?_;rw[c.out];exact⟨rfl,y.out⟩
   by_cases hm:6<ds.length
   ·have c:Hid (cP count at_ l=(⟨0,at_,2⟩,at_)):=by simp only[Hid];rw[p.out,if_neg a,if_neg f,if_neg t,if_neg u,if_pos hm]
    have m:((count:Int)==8)=false:=by rw[beq_eq_false_iff_ne];have:=a;omega
    have E:((at_:Int)==(s.size:Int))=false:=by rw[beq_eq_false_iff_ne];have:=o.out.1;have G:l.length≠0:=fun h=>f (List.length_eq_zero_iff.1 h);omega
    have H:((q:Int)==(at_:Int))=false:=by rw[beq_eq_false_iff_ne];have:=F.out;have G:ds.length≠0:=fun h=>t (List.length_eq_zero_iff.1 h);omega
    obtain⟨z,A,B,C⟩:=o.out.2 (fun h=>f h);have i1:at_<s.size:=A;have i2:(at_:Int)<(s.size:Int):=by omega
    have i3:(0:Int)≤(at_:Int):=by omega
    have i4:s[at_]=z:=C;have P:((z.toNat:Int)==48)=false:=by
     rw[B]at u;rw[beq_eq_false_iff_ne];intro h;apply u;have:z=48:=by
      apply UInt8.toNat_inj.1;have Q:(48:UInt8).toNat=48:=rfl;omega
     rw[this]
    have V:decide (6<(q:Int)-(at_:Int))=true:=dJ (by have:=F.out;omega);clear a f t u hm;go_wp2_with(refine ai rfl 270 (.tmp 6) _ rfl g1 (bC ⟨0,at_,2⟩) rfl rfl _ _ K.out bY rfl (dh _) ?_);intro D g k;have v:=af g;have y:Hid (Fr ag w D):=L.out.aw k (fun i I e=>by have O:i=g1:=e;have:=M;unfold Sz at this;omega);clear g k;go_wp2;refine bodyPost_ret (bU _ _ g1 (bC ⟨0,at_,2⟩) _ rfl rfl v.out rfl) rfl ?_;rw[c.out];exact⟨rfl,y.out⟩
   have c:Hid (cP count at_ l=(⟨eU ds,at_,0⟩,at_+ds.length)):=by simp only[Hid];rw[p.out,if_neg a,if_neg f,if_neg t,if_neg u,if_neg hm]
   have m:((count:Int)==8)=false:=by rw[beq_eq_false_iff_ne];have:=a;omega
   have E:((at_:Int)==(s.size:Int))=false:=by rw[beq_eq_false_iff_ne];have:=o.out.1;have G:l.length≠0:=fun h=>f (List.length_eq_zero_iff.1 h);omega
   have H:((q:Int)==(at_:Int))=false:=by rw[beq_eq_false_iff_ne];have:=F.out;have G:ds.length≠0:=fun h=>t (List.length_eq_zero_iff.1 h);omega
   obtain⟨z,A,B,C⟩:=o.out.2 (fun h=>f h);have i1:at_<s.size:=A;have i2:(at_:Int)<(s.size:Int):=by omega
   have i3:(0:Int)≤(at_:Int):=by omega
   have i4:s[at_]=z:=C;have P:((z.toNat:Int)==48)=false:=by
    rw[B]at u;rw[beq_eq_false_iff_ne];intro h;apply u;have:z=48:=by
     apply UInt8.toNat_inj.1;have Q:(48:UInt8).toNat=48:=rfl;omega
    rw[this]
   have V:decide (6<(q:Int)-(at_:Int))=false:=cN (by have:=F.out;omega);clear a f t u hm;go_wp2_with(refine ai rfl 270 (.tmp 6) _ rfl g1 (bC ⟨eU ds,at_,0⟩) rfl rfl _ _ K.out bY rfl (dh _) ?_);intro D g k;have v:=af g;have y:Hid (Fr ag w D):=L.out.aw k (fun i I e=>by have O:i=g1:=e;have:=M;unfold Sz at this;omega);clear g k;go_wp2;refine bodyPost_ret (bU _ _ g1 (bC ⟨eU ds,at_,0⟩) _ rfl rfl v.out rfl) rfl ?_;rw[c.out];refine⟨?_,y.out⟩;rw[←F.out];rfl
  ·clear W;have aD:(q:Int)<(s.size:Int):=by omega
   have aE:(q:Int)-(at_:Int)≤6:=by have:=F.out;omega
   have aU:(0:Int)≤(q:Int):=by omega
   have aV:s[q]=b:=R;have t4:lW b=false:=S;clear R S Q;have p:Hid (cP count at_ l=if count=8 then(⟨0,at_,9⟩,at_)else if l=[]then(⟨0,at_,4⟩,at_)else if ds=[]then(⟨0,at_,6⟩,at_)else if l[0]? =some 48 then(⟨0,at_,3⟩,at_)else if 6<ds.length then(⟨0,at_,2⟩,at_)else(⟨eU ds,at_,0⟩,at_+ds.length)):=by simp only[Hid];rw[ab.out];rfl
   by_cases a:count=8
   ·have c:Hid (cP count at_ l=(⟨0,at_,9⟩,at_)):=by simp only[Hid];rw[p.out,if_pos a]
    have m:((count:Int)==8)=true:=by rw[beq_iff_eq];have:=a;omega
    clear a;go_wp2_with fail;refine(Z.out b _).mono ?_;rintro e w'⟨rfl,rfl⟩;rw[t4];go_wp2_with(refine ai rfl 270 (.tmp 6) _ rfl g1 (bC ⟨0,at_,9⟩) rfl rfl _ _ K.out bY rfl (dh _) ?_);intro D g k;have v:=af g;have y:Hid (Fr ag w D):=L.out.aw k (fun i I e=>by have O:i=g1:=e;have:=M;unfold Sz at this;omega);clear g k;go_wp2;refine bodyPost_ret (bU _ _ g1 (bC ⟨0,at_,9⟩) _ rfl rfl v.out rfl) rfl ?_;rw[c.out];exact⟨rfl,y.out⟩
   by_cases f:l=[]
   ·have c:Hid (cP count at_ l=(⟨0,at_,4⟩,at_)):=by simp only[Hid];rw[p.out,if_neg a,if_pos f]
    have m:((count:Int)==8)=false:=by rw[beq_eq_false_iff_ne];have:=a;omega
    have E:((at_:Int)==(s.size:Int))=true:=by rw[beq_iff_eq];have:=o.out.1;have G:l.length=0:=(by simp[f]);omega
    clear a f;go_wp2_with fail;refine(Z.out b _).mono ?_;rintro e w'⟨rfl,rfl⟩;rw[t4];go_wp2_with(refine ai rfl 270 (.tmp 6) _ rfl g1 (bC ⟨0,at_,4⟩) rfl rfl _ _ K.out bY rfl (dh _) ?_);intro D g k;have v:=af g;have y:Hid (Fr ag w D):=L.out.aw k (fun i I e=>by have O:i=g1:=e;have:=M;unfold Sz at this;omega);clear g k;go_wp2;refine bodyPost_ret (bU _ _ g1 (bC ⟨0,at_,4⟩) _ rfl rfl v.out rfl) rfl ?_;rw[c.out];exact⟨rfl,y.out⟩
   by_cases t:ds=[]
   ·have c:Hid (cP count at_ l=(⟨0,at_,6⟩,at_)):=by simp only[Hid];rw[p.out,if_neg a,if_neg f,if_pos t]
    have m:((count:Int)==8)=false:=by rw[beq_eq_false_iff_ne];have:=a;omega
    have E:((at_:Int)==(s.size:Int))=false:=by rw[beq_eq_false_iff_ne];have:=o.out.1;have G:l.length≠0:=fun h=>f (List.length_eq_zero_iff.1 h);omega
    have H:((q:Int)==(at_:Int))=true:=by rw[beq_iff_eq];have:=F.out;have G:ds.length=0:=(by simp[t]);omega
    clear a f t;go_wp2_with fail;refine(Z.out b _).mono ?_;rintro e w'⟨rfl,rfl⟩;rw[t4];go_wp2_with(refine ai rfl 270 (.tmp 6) _ rfl g1 (bC ⟨0,at_,6⟩) rfl rfl _ _ K.out bY rfl (dh _) ?_);intro D g k;have v:=af g;have y:Hid (Fr ag w D):=L.out.aw k (fun i I e=>by have O:i=g1:=e;have:=M;unfold Sz at this;omega);clear g k;go_wp2;refine bodyPost_ret (bU _ _ g1 (bC ⟨0,at_,6⟩) _ rfl rfl v.out rfl) rfl ?_;rw[c.out];exact⟨rfl,y.out⟩
   by_cases u:l[0]? =some 48
   ·have c:Hid (cP count at_ l=(⟨0,at_,3⟩,at_)):=by simp only[Hid];rw[p.out,if_neg a,if_neg f,if_neg t,if_pos u]
    have m:((count:Int)==8)=false:=by rw[beq_eq_false_iff_ne];have:=a;omega
    have E:((at_:Int)==(s.size:Int))=false:=by rw[beq_eq_false_iff_ne];have:=o.out.1;have G:l.length≠0:=fun h=>f (List.length_eq_zero_iff.1 h);omega
    have H:((q:Int)==(at_:Int))=false:=by rw[beq_eq_false_iff_ne];have:=F.out;have G:ds.length≠0:=fun h=>t (List.length_eq_zero_iff.1 h);omega
    obtain⟨z,A,B,C⟩:=o.out.2 (fun h=>f h);have i1:at_<s.size:=A;have i2:(at_:Int)<(s.size:Int):=by omega
    have i3:(0:Int)≤(at_:Int):=by omega
    have i4:s[at_]=z:=C;have P:((z.toNat:Int)==48)=true:=by
     rw[B]at u;have U:z=48:=Option.some.inj u;subst U;rfl
    clear a f t u;go_wp2_with fail;refine(Z.out b _).mono ?_;rintro e w'⟨rfl,rfl⟩;rw[t4];go_wp2_with(refine ai rfl 270 (.tmp 6) _ rfl g1 (bC ⟨0,at_,3⟩) rfl rfl _ _ K.out bY rfl (dh _) ?_);intro D g k;have v:=af g;have y:Hid (Fr ag w D):=L.out.aw k (fun i I e=>by have O:i=g1:=e;have:=M;unfold Sz at this;omega);clear g k;go_wp2;refine bodyPost_ret (bU _ _ g1 (bC ⟨0,at_,3⟩) _ rfl rfl v.out rfl) rfl ?_;rw[c.out];exact⟨rfl,y.out⟩
   by_cases hm:6<ds.length
   ·have c:Hid (cP count at_ l=(⟨0,at_,2⟩,at_)):=by simp only[Hid];rw[p.out,if_neg a,if_neg f,if_neg t,if_neg u,if_pos hm]
    have m:((count:Int)==8)=false:=by rw[beq_eq_false_iff_ne];have:=a;omega
    have E:((at_:Int)==(s.size:Int))=false:=by rw[beq_eq_false_iff_ne];have:=o.out.1;have G:l.length≠0:=fun h=>f (List.length_eq_zero_iff.1 h);omega
    have H:((q:Int)==(at_:Int))=false:=by rw[beq_eq_false_iff_ne];have:=F.out;have G:ds.length≠0:=fun h=>t (List.length_eq_zero_iff.1 h);omega
    obtain⟨z,A,B,C⟩:=o.out.2 (fun h=>f h);have i1:at_<s.size:=A;have i2:(at_:Int)<(s.size:Int):=by omega
    have i3:(0:Int)≤(at_:Int):=by omega
    have i4:s[at_]=z:=C;have P:((z.toNat:Int)==48)=false:=by
     rw[B]at u;rw[beq_eq_false_iff_ne];intro h;apply u;have:z=48:=by
      apply UInt8.toNat_inj.1;have Q:(48:UInt8).toNat=48:=rfl;omega
     rw[this]
    have V:decide (6<(q:Int)-(at_:Int))=true:=dJ (by have:=F.out;omega);clear a f t u hm;go_wp2_with fail;refine(Z.out b _).mono ?_;rintro e w'⟨rfl,rfl⟩;rw[t4];go_wp2_with(refine ai rfl 270 (.tmp 6) _ rfl g1 (bC ⟨0,at_,2⟩) rfl rfl _ _ K.out bY rfl (dh _) ?_);intro D g k;have v:=af g;have y:Hid (Fr ag w D):=L.out.aw k (fun i I e=>by have O:i=g1:=e;have:=M;unfold Sz at this;omega);clear g k;go_wp2;refine bodyPost_ret (bU _ _ g1 (bC ⟨0,at_,2⟩) _ rfl rfl v.out rfl) rfl ?_;rw[c.out];exact⟨rfl,y.out⟩
   have c:Hid (cP count at_ l=(⟨eU ds,at_,0⟩,at_+ds.length)):=by simp only[Hid];rw[p.out,if_neg a,if_neg f,if_neg t,if_neg u,if_neg hm]
   have m:((count:Int)==8)=false:=by rw[beq_eq_false_iff_ne];have:=a;omega
   have E:((at_:Int)==(s.size:Int))=false:=by rw[beq_eq_false_iff_ne];have:=o.out.1;have G:l.length≠0:=fun h=>f (List.length_eq_zero_iff.1 h);omega
   have H:((q:Int)==(at_:Int))=false:=by rw[beq_eq_false_iff_ne];have:=F.out;have G:ds.length≠0:=fun h=>t (List.length_eq_zero_iff.1 h);omega
   obtain⟨z,A,B,C⟩:=o.out.2 (fun h=>f h);have i1:at_<s.size:=A;have i2:(at_:Int)<(s.size:Int):=by omega
   have i3:(0:Int)≤(at_:Int):=by omega
   have i4:s[at_]=z:=C;have P:((z.toNat:Int)==48)=false:=by
    rw[B]at u;rw[beq_eq_false_iff_ne];intro h;apply u;have:z=48:=by
     apply UInt8.toNat_inj.1;have Q:(48:UInt8).toNat=48:=rfl;omega
    rw[this]
   have V:decide (6<(q:Int)-(at_:Int))=false:=cN (by have:=F.out;omega);clear a f t u hm;go_wp2_with fail;refine(Z.out b _).mono ?_;rintro e w'⟨rfl,rfl⟩;rw[t4];go_wp2_with(refine ai rfl 270 (.tmp 6) _ rfl g1 (bC ⟨eU ds,at_,0⟩) rfl rfl _ _ K.out bY rfl (dh _) ?_);intro D g k;have v:=af g;have y:Hid (Fr ag w D):=L.out.aw k (fun i I e=>by have O:i=g1:=e;have:=M;unfold Sz at this;omega);clear g k;go_wp2;refine bodyPost_ret (bU _ _ g1 (bC ⟨eU ds,at_,0⟩) _ rfl rfl v.out rfl) rfl ?_;rw[c.out];refine⟨?_,y.out⟩;rw[←F.out];rfl
end Go.Proofs.YtphjagkehiklkaaGreatDoor
namespace Go.Proofs.YtphjagkehiklkaaGreatDoor
open Go.RowKit Go.Shelf
attribute[local go_sem]Oper.semAt_some
theorem wP{n:Nat}{P:Program}{row:String}{args:Array Value}{w:World}{a:Value→World→Prop}(h:Rows P row args w a):RowsIn Fence.wide n P row args w a:=
 fun c cs _=>let⟨v,w',q,s⟩:=h c cs;⟨v,w',q,stepsIn_wide.2 s⟩
theorem Ao{n:Nat}{P:Program}{r:Oper}{a:Act}{w:World}{K j:Act→World→Prop}{Q Q':Exit→Act→World→Prop}(l:gS r=true)(b:∀a w,K a w→j a w)(g:∀e a w,Q e a w→Q' e a w)(h:r.wp P a w K Q):
  r.wpIn Fence.wide n P a w j Q':=by
 refine⟨fun _ _=>trivial,?_⟩;rw[Oper.semAt_plain _ _ _ (sX l)];unfold Oper.wp at h;generalize(execOp a.eval r).run P w=x at*;have c:(Fence.wide.depth.isSome=true→1≤n):=fun h=>(by cases h);rcases x with⟨x,w'⟩|⟨x,w'⟩
 ·cases x with
  |value v=>exact b _ _ h
  |skip=>exact b _ _ h
  |defer d=>exact b _ _ h
  |enter f args=>
   refine⟨c,callsIn_wide.2 (Calls.mono h fun e i he=>?_)⟩;cases e with
   |returned v=>exact b _ _ he
   |panicked ch=>exact g _ _ _ he
   |outgrown=>obtain⟨k,q,m⟩:=he;exact⟨k,q,g _ _ _ m⟩
  |row p args=>exact⟨c,wP (h.mono fun v i o=>b _ _ o)⟩
  |_=>exact absurd h id
 ·cases x<;>first|exact g _ _ _ h|exact absurd h id
theorem ku{n:Nat}{P:Program}{ops:Array Oper}{Q:Exit→Act→World→Prop}:∀{l:List Oper}{a:Act}{w:World},(l.all gS)=true→wpList P ops (fun e a w=>Q e a w∧e= .normal) l a w→wpListIn Fence.wide n P ops Q l a w
 |[],_,_,_,h=>h.1
 |g::rest,a,w,b,h=>by
  rw[List.all_cons,Bool.and_eq_true]at b;unfold wpList at h;unfold wpListIn;split
  ·rename_i hw;rw[if_pos hw]at h;rcases h with h|⟨_,f,w',c⟩;·exact Ao b.1 (fun a w d=>ku b.2 d) (fun _ _ _ c=>c.1) h
   ·exact absurd c.2 (by simp)
  ·rename_i hw;rw[if_neg hw]at h;exact⟨fun _ _=>trivial,ku b.2 h⟩
theorem og{n:Nat}{P:Program}{ops:Array Oper}{Q:Exit→Act→World→Prop}{d:Oper}{l:List Oper}{a:Act}{w:World}(f:Op→Bool)(b:f d.op=true)(c:((d::l).all gS)=true)(h:wpList P ops (fun e a w=>Q e a w∧e= .normal) (d::l) a w):wpListIn Fence.wide n P ops Q (d::l) a w:=
 ku c h
theorem Dk(s:ByteArray)(k at_:Nat)(u:k≤8)(t:at_≤s.size)(P:Part)(E:Nat)(a:cP k at_ (s.toList.drop at_)=(P,E)):
  (P.e≠0∧du (8-k) at_ (s.toList.drop at_)=[P])∨(P.e=0∧k<8∧at_≤E∧E≤s.size∧
   ((E=s.size∧du (8-k) at_ (s.toList.drop at_)=[P])∨(∃b,∃h:E<s.size,s[E]=b∧b.toNat≠46∧du (8-k) at_ (s.toList.drop at_)=[P,⟨0,E,6⟩])∨
    (∃b,∃h:E<s.size,s[E]=b∧b.toNat=46∧du (8-k) at_ (s.toList.drop at_)=P::du (8-(k+1)) (E+1) (s.toList.drop (E+1))))):=by
 have hlen:(s.toList.drop at_).length=s.size-at_:=by rw[List.length_drop,fh]
 have r:=kS 7 (s.toList.drop at_);have f:∀i b,(s.toList.drop at_)[i]? =some b→∃h:at_+i<s.size,s[at_+i]=b:=fun i b d=>by
  rw[List.getElem?_drop]at d;exact yX d
 have c:∀i,(s.toList.drop at_).drop i=s.toList.drop (at_+i):=fun i=>by rw[List.drop_drop]
 generalize s.toList.drop at_=l at*;by_cases o:k=8;·subst o;simp only[cP,if_true,Prod.mk.injEq]at a;obtain⟨rfl,rfl⟩:=a;exact .inl ⟨by simp,rfl⟩
 ·have p:8-k=(7-k)+1:=by omega
  rw[p,du];simp only[show 7-(7-k)=k by omega,a];by_cases he:P.e=0
  ·rw[if_neg (by simp[he])];have j:E=at_+(dA 7 l).length:=by
    simp only[cP]at a;rw[if_neg o]at a;split at a;·simp only[Prod.mk.injEq]at a;rw[←a.1]at he;simp at he
    ·split at a;·simp only[Prod.mk.injEq]at a;rw[←a.1]at he;simp at he
     ·split at a;·simp only[Prod.mk.injEq]at a;rw[←a.1]at he;simp at he
      ·split at a;·simp only[Prod.mk.injEq]at a;rw[←a.1]at he;simp at he
       ·simp only[Prod.mk.injEq]at a;exact a.2.symm
   refine .inr ⟨he,by omega,by omega,by omega,?_⟩;by_cases m:l.length≤(dA 7 l).length;·rw[if_pos m];exact .inl ⟨by omega,rfl⟩
   ·rw[if_neg m];obtain⟨b,d⟩:∃b,l[(dA 7 l).length]? =some b:=⟨_,List.getElem?_eq_getElem (by omega)⟩;obtain⟨q,n⟩:=f _ _ d;rw[d];by_cases g:b=46
    ·rw[if_neg (by simp[g])];refine .inr (.inr ⟨b,by omega,?_,by rw[g];rfl,?_⟩);·subst j;exact n
     ·rw[c,←j,show at_+((dA 7 l).length+1)=E+1 by omega,show 7-k=8-(k+1)by omega]
    ·rw[if_pos (by simpa using g)];refine .inr (.inl ⟨b,by omega,?_,?_,?_⟩);·subst j;exact n
     ·intro h;exact g (UInt8.toNat_inj.1 h)
     ·rw[j]
  ·rw[if_pos he];exact .inl ⟨he,rfl⟩
def KP(A B:World):Prop:=∀g t cs,t=9∨t=270→ao A g t cs→ao B g t cs
theorem KP.refl(A:World):KP A A:=fun _ _ _ _ h=>h
theorem KP.trans{A B C:World}(h:KP A B)(k:KP B C):KP A C:=fun g t cs a b=>k g t cs a (h g t cs a b)
theorem KP.fr{A B:World}{T:Nat→Prop}(h:Fr T A B)(b:∀g t cs,t=9∨t=270→ao A g t cs→¬T g):KP A B:=fun g t cs c a=>a.fr h (b g t cs c a)
theorem KP.below{A B:World}(h:Below A.heap.size A B):KP A B:=fun g _ _ _ a=>(h.block g a.lt).trans a
def Am:Op→Bool
 | .load t _=>t==9
 |_=>false
theorem ru(m B:Nat)(s:ByteArray)(w:World)(aK:s.size≤1099511627776)(aG:ao w B 9 #[.string s]):
  SeqStopsK Fence.wide m Tryz.prog 182 #[.pointer (some ⟨B,0,none⟩)] (fun p:Part=>#[Value.agg #[.int .i64 p.ord, .int .i64 p.at_, .int .i64 p.e]]) KP (fun aX=>aX=fQ s) (fun pre=>pre<+:fQ s) (fQ s).length w:=by
 intro l J a0 W aI aH _ aJ aE;have O:∀k:Nat,(Fence.wide.depth.isSome=true→1≤k):=fun k h=>by cases h
 have aO:=af aH;have az:=af aJ;have ay:=af aK;have HB:Hid (ao W B 9 #[.string s]):=KP.below aI _ _ _ (.inl rfl) aG;have b0:W.cell? ⟨B,0,none⟩=some (.string s):=HB.out.cell 0;have ae:=af aE;clear aI aH aJ aE aK aG;by_cases C:s.size=0
 ·have o:Hid (fQ s=[]):=by simp only[Hid];rw[fQ,if_pos C]
  have an:s=ByteArray.empty:=by
   cases s with
   |mk d=>
    have aR:d.size=0:=C;rw[show d=#[]from Array.eq_empty_of_size_eq_zero aR];rfl
  subst an;clear C;refine callsIn_of_wp Tryz.func182 rfl trivial ?_ rfl;simp only[Tryz.ntmps182,List.size_toArray,List.length_cons,List.length_nil,Nat.reduceAdd,Nat.reduceSub,Array.replicate_succ,Array.replicate_zero,List.push_toArray,List.append_toArray,List.nil_append,List.cons_append];gi_wp2;refine wpIn_loop_once ?_;gi_wp2;go_end0;exact⟨⟨_,rfl⟩, .inl ⟨_,o.out.symm,ae.out⟩⟩
 ·have o:Hid (fQ s=du 8 0 s.toList):=by simp only[Hid];rw[fQ,if_neg C]
  have aW:s.toList.isEmpty=false:=by
   rw[List.isEmpty_eq_false_iff];intro h;have:=congrArg List.length h;rw[fh]at this;exact C (by simpa using this)
  have au:=af (fun at_ k w V aj=>Cl s at_ k w V ay.out aj);clear C;refine callsIn_of_wp Tryz.func182 rfl trivial ?_ rfl;simp only[Tryz.ntmps182,List.size_toArray,List.length_cons,List.length_nil,Nat.reduceAdd,Nat.reduceSub,Array.replicate_succ,Array.replicate_zero,List.push_toArray,List.append_toArray,List.nil_append,List.cons_append];gi_wp2;gi_loopw[3,4](fun i n wr=>∃(k at_:Nat)(pre:List Part),k≤8∧at_≤s.size∧fQ s=pre++du (8-k) at_ (s.toList.drop at_)∧pre.length=k∧i= .int .i64 (at_:Nat)∧n= .int .i64 (k:Nat)∧J pre wr∧KP W wr)(fun _ n _=>9-(intOf n).toNat);case atStart=>exact⟨0,0,[],by omega,by omega,by rw[o.out];rfl,rfl,rfl,rfl,ae.out,KP.refl _⟩
  case round=>
   obtain⟨k,at_,pre,Y,X,S,R,rfl,rfl,M,u⟩:=hrel;have G:=af M;have H:=af u;have a:=af S;have ad:=af R;have aD:wr.cell? ⟨B,0,none⟩=some (.string s):=(u _ _ _ (.inl rfl) HB.out).cell 0;have t:=af (au.out at_ k wr X Y);obtain⟨P,E,v⟩:∃P E,cP k at_ (s.toList.drop at_)=(P,E):=⟨_,_,rfl⟩;have c:=af (Dk s k at_ Y X P E v);rw[v]at t;have aZ:=af X;have ac:=af Y;clear M u S R v au b0 ae o X Y;gi_wp2_with(refine og Am rfl (by kernel_rfl) ?_);go_wp2;gi_wp2_with(refine og Am rfl (by kernel_rfl) ?_);go_wp2_with fail;refine t.out.mono ?_;rintro e w1⟨rfl,f1⟩;have aa:=af f1;clear f1 aD t;go_wp2_with(refine ak rfl 270 rfl (.agg nM) tQ nM rfl ?_);intro w2 aq;have av:=af (aa.out.trans aq.fr);have ar:=af aq.aF;have aP:Sz wr w1.heap.size:=aa.out.size;clear aq aa;generalize w1.heap.size=g1 at*;go_wp2_with(refine ai rfl 270 (.tmp 5) _ rfl g1 (bC P) rfl rfl _ _ ar.out bY rfl (dh _) ?_);intro D b3 f3;have ab:Hid (Fr ag wr D):=av.out.aw f3 (fun i a3 e=>by have a2:i=g1:=e;have:=aP;unfold Sz at this;omega);have F:=af b3;clear b3 f3 av ar;go_wp2;have aA:=af (aO.out pre wr D none G.out (Fr.JE ab.out) (fun r e=>by cases e));have aB:=af (H.out.trans (KP.fr ab.out (fun _ _ _ _ _ x=>x)));have q:pre.length<(fQ s).length:=by
    rw[a.out,aY];have:0<(du (8-k) at_ (s.toList.drop at_)).length:=by
     rcases c.out with⟨_,h⟩|⟨_,_,_,_,⟨_,h⟩|⟨_,_,_,_,h⟩|⟨_,_,_,_,h⟩⟩<;>(rw[h];simp)
    omega
   obtain⟨fn,tmps,assign,body,Z,N⟩:=az.out pre P D aA.out q;have I:=af N;have aU:D.cell? ⟨g1,0,none⟩=some (.int .i64 P.ord):=F.out.cell 0;have aV:D.cell? ⟨g1,1,none⟩=some (.int .i64 P.at_):=F.out.cell 1;have aL:D.cell? ⟨g1,2,none⟩=some (.int .i64 P.e):=F.out.cell 2;clear N q aA G H;gi_wp2;refine⟨O _,I.out.mono ?_⟩;clear I Z aU aV aL fn tmps assign body;rintro e A(⟨rfl,K,y⟩|⟨rfl,T⟩)
   ·have z:=af K;have aC:=af (aB.out.trans y);have aM:Hid (ao A g1 270 (bC P)):=y _ _ _ (.inr rfl) F.out;have aD:A.cell? ⟨B,0,none⟩=some (.string s):=(aC.out _ _ _ (.inl rfl) HB.out).cell 0;have aL:A.cell? ⟨g1,2,none⟩=some (.int .i64 P.e):=aM.out.cell 2;clear K y aB ab F;rcases c.out with⟨he,g⟩|⟨he,Q,am,hE2,aQ⟩
    ·have t1:((P.e:Int)==0)=false:=by rw[beq_eq_false_iff_ne];omega
     have j:=af g;have aS:¬P.e=0:=he;clear c g he;gi_wp2;refine bodyPost_ret (results_none rfl _ _ _) rfl ?_;exact⟨⟨_,rfl⟩, .inl ⟨_,by rw[a.out,j.out],z.out⟩⟩
    ·have t1:((P.e:Int)==0)=true:=by rw[beq_iff_eq];omega
     have aN:Hid (E≤s.size):=hE2;have ax:=af Q;have aT:P.e=0:=he;clear he am hE2 Q;rcases aQ with⟨he,g⟩|⟨b,V,aj,al,g⟩|⟨b,V,aj,al,g⟩
     ·have t2:((E:Int)==(s.size:Int))=true:=by rw[beq_iff_eq];omega
      have j:=af g;clear c g he;gi_wp2;refine bodyPost_ret (results_none rfl _ _ _) rfl ?_;exact⟨⟨_,rfl⟩, .inl ⟨_,by rw[a.out,j.out],z.out⟩⟩
     ·have t2:((E:Int)==(s.size:Int))=false:=by rw[beq_eq_false_iff_ne];omega
      have t3:(E:Int)<(s.size:Int):=by omega
      have t4:(0:Int)≤(E:Int):=by omega
      have t5:((b.toNat:Int)==46)=false:=by rw[beq_eq_false_iff_ne];omega
      have j:=af g;have f:(pre++[P]).length<(fQ s).length:=by rw[a.out,j.out];simp
      obtain⟨fn,tmps,assign,body,Z,N⟩:=az.out (pre++[P]) ⟨0,E,6⟩ A z.out f;have I:=af N;have ap:(Instr.yield l #[.agg #[.int .i64 0, .int .i64 (E:Int), .int .i64 6]]).run Tryz.prog A= .ok (.round l fn tmps assign body) A:=Z;clear c g al N f Z;gi_wp2;refine⟨O _,I.out.mono ?_⟩;clear I ap;rintro e a1(⟨rfl,L,_⟩|⟨rfl,U⟩);·have ah:=af L;clear L;gi_wp2;refine bodyPost_ret (results_none rfl _ _ _) rfl ?_;exact⟨⟨_,rfl⟩, .inl ⟨_,by rw[a.out,j.out];simp,ah.out⟩⟩
      ·have ah:=af U;clear U;gi_wp2;refine bodyPost_ret (results_none rfl _ _ _) rfl ?_;exact⟨⟨_,rfl⟩, .inr ⟨_,by rw[a.out,j.out];simp,ah.out⟩⟩
     ·have t2:((E:Int)==(s.size:Int))=false:=by rw[beq_eq_false_iff_ne];omega
      have t3:(E:Int)<(s.size:Int):=by omega
      have t4:(0:Int)≤(E:Int):=by omega
      have t5:((b.toNat:Int)==46)=true:=by rw[beq_iff_eq];omega
      have t6:E≤1099511627776:=by have:=ay.out;omega
      have t7:k≤8:=ac.out;have j:=af g;have H1:=af V;clear c g al;gi_wp2;go_roundw;case rel=>
       refine⟨k+1,E+1,pre++[P],by have:=ax.out;omega,by have:=H1.out;omega,by rw[a.out,j.out];simp,by rw[aY,ad.out];rfl,by go_num,by go_num,z.out,aC.out⟩
      case measure=>have:=ax.out;simp[intOf];omega
   ·have z:=af T;clear T;gi_wp2;refine bodyPost_ret (results_none rfl _ _ _) rfl ?_;refine⟨⟨_,rfl⟩, .inr ⟨_,?_,z.out⟩⟩;rw[a.out];rcases c.out with⟨_,h⟩|⟨_,_,_,_,⟨_,h⟩|⟨_,_,_,_,h⟩|⟨_,_,_,_,h⟩⟩<;>(rw[h];simp)
end Go.Proofs.YtphjagkehiklkaaGreatDoor
namespace Go.Proofs.YtphjagkehiklkaaGreatDoor
open Go.RowKit Go.Shelf
attribute[local go_sem]Oper.semAt_some
theorem vo(s:ByteArray)(w:World):Calls Tryz.prog 179 #[.string s] w fun r w'=>r= .returned (.func (.func 182) #[] #[.pointer (some ⟨w.heap.size,0,none⟩)])∧Fr ag w w'∧ao w' w.heap.size 9 #[.string s]:=by
 go_enter Tryz.func179,Tryz.ntmps179;go_wp2_with(refine ay rfl 9 (.tmp 0) rfl #[.string s] rfl ?_);intro w1 n1;have a:=af n1;clear n1;go_wp2;go_ret;exact⟨rfl,a.out.fr,a.out.aF⟩
theorem th{ws:List (Nat×(World→Prop))}{M:World→Prop}(h:∀x∈ws,x.2=M){d:Nat→Bool}{w:World}(a:dn ws M d w):M w:=by
 induction ws with
 |nil=>exact a
 |cons x r f=>
  obtain⟨p,b⟩:=x;have e:b=M:=h _ List.mem_cons_self;subst e;unfold dn at a;split at a;·exact f (fun y c=>h y (List.mem_cons_of_mem _ c)) a
  ·exact a
theorem vi:∀(n at_:Nat)(l:List UInt8),(du n at_ l).length≤n+1
 |0,_,_=>by simp[du]
 |n+1,at_,l=>by
  rw[du];simp only;split;·simp
  ·split;·simp
   ·split;·simp
    ·have:=vi n (at_+(dA 7 l).length+1) (l.drop ((dA 7 l).length+1));simp only[List.length_cons];omega
theorem uZ(s:ByteArray):(fQ s).length≤9:=by
 unfold fQ;split;·simp
 ·exact vi 8 0 _
theorem KP.put(W:World)(l:Nat)(f b:Obj)(h:W.heap[l]? =some f)(d:f.isCells=false):KP W (W.putObj l b):=
 KP.fr (Fr.grown (grownBy_putObj' W l b)) (fun g t cs _ a e=>by
  have c:g=l:=by simpa using e
  subst c;unfold ao at a;rw[a]at h;cases h;simp[Obj.isCells]at d)
structure LU(a b W:World):Prop where
 fr:Fr ag a W
 kp:KP b W
theorem mR{A B:World}{row:Option Nat}{N:Nat}(f:A.grownBy B row)(i:∀r,row=some r→N≤r∧∃j:Obj,A.heap[r]? =some j∧j.isCells=false):
  Fr (fun k=>some k=row) A B∧KP A B∧(∀g t cs,ao A g t cs→ao B g t cs):=by
 have b:Fr (fun k=>some k=row) A B:=Fr.grown f;have a:∀g t cs,ao A g t cs→ao B g t cs:=fun g t cs a=>a.fr b (fun e=>by
  obtain⟨_,j,c,d⟩:=i g e.symm;unfold ao at a;rw[a]at c;cases c;simp[Obj.isCells]at d);exact⟨b,fun g t cs _ h=>a g t cs h,a⟩
def Al:Op→Bool
 | .alloc _=>true
 |_=>false
theorem Km(w:World):(zeroValue 41).run Tryz.prog w= .ok (.string ByteArray.empty) w:=by kernel_rfl
theorem Kl(w:World):(zeroValue 3).run Tryz.prog w= .ok (.int .i64 0) w:=by kernel_rfl
theorem Kk(w:World):(zeroValue 34).run Tryz.prog w= .ok (.int .i64 0) w:=by kernel_rfl
theorem yz:(Tryz.prog.info? 41).map (·.size)=some 1:=by kernel_rfl
theorem yx:(Tryz.prog.info? 3).map (·.size)=some 1:=by kernel_rfl
theorem yw:(Tryz.prog.info? 34).map (·.size)=some 1:=by kernel_rfl
structure qM(b c:World)(g2 g3 g4:Nat)(W:World):Prop where
 fr:Fr ag b W
 kp:KP c W
 b2:∃n,ao W g2 41 #[.string n]
 b3:∃a,ao W g3 3 #[.int .i64 a]
 b4:∃k,ao W g4 34 #[.int .i64 k]
theorem qM.later{b c A B:World}{g2 g3 g4:Nat}(h:qM b c g2 g3 g4 A)(f:Fr ag A B):qM b c g2 g3 g4 B:=
 ⟨h.fr.trans f,h.kp.trans (KP.fr f (fun _ _ _ _ _ x=>x)),by obtain⟨n,a⟩:=h.b2;exact⟨n,a.fr f (fun x=>x)⟩,by obtain⟨n,a⟩:=h.b3;exact⟨n,a.fr f (fun x=>x)⟩,by obtain⟨n,a⟩:=h.b4;exact⟨n,a.fr f (fun x=>x)⟩⟩
theorem qM.grown{c f A B:World}{g2 g3 g4:Nat}{row:Option Nat}{N:Nat}(h:qM c f g2 g3 g4 A)(j:A.grownBy B row)(d:∀r,row=some r→N≤r∧∃o:Obj,A.heap[r]? =some o∧o.isCells=false)(l:c.heap.size≤N):qM c f g2 g3 g4 B:=by
 obtain⟨g,k,b⟩:=mR j d;exact⟨h.fr.aw g (fun i m e=>by have:=(d i e.symm).1;omega),h.kp.trans k,by obtain⟨n,a⟩:=h.b2;exact⟨n,b _ _ _ a⟩,by obtain⟨n,a⟩:=h.b3;exact⟨n,b _ _ _ a⟩,by obtain⟨n,a⟩:=h.b4;exact⟨n,b _ _ _ a⟩⟩
theorem ey{P:Program}(w:World)(g:Nat)(t ty:TypeId)(v:Value)(d:ao w g t #[v])(a:(P.info? ty).map (·.size)=some 1)(b:(isAgg ty).run P w= .ok false w):
  (loadVar ty ⟨g,0,none⟩).run P w= .ok v w:=by
 have c:w.cell? ⟨g,0,none⟩=some v:=d.cell 0;simp[loadVar,b,go_sem,c]
theorem oR(tmps:Array Value)(w:World)(g2 g3 g4:Nat)(n:ByteArray)(a k:Int)
  (e:tmps.getD 2 undef= .pointer (some ⟨g2,0,none⟩))(f:tmps.getD 3 undef= .pointer (some ⟨g3,0,none⟩))(g:tmps.getD 4 undef= .pointer (some ⟨g4,0,none⟩))
  (b2:ao w g2 41 #[.string n])(b3:ao w g3 3 #[.int .i64 a])(b4:ao w g4 34 #[.int .i64 k]):
  (results Tryz.f174 tmps).run Tryz.prog w= .ok (.tuple #[.string n, .int .i64 a, .int .i64 k]) w:=by
 have b:tmps[2]?.getD undef= .pointer (some ⟨g2,0,none⟩):=by simpa using e
 have c:tmps[3]?.getD undef= .pointer (some ⟨g3,0,none⟩):=by simpa using f
 have d:tmps[4]?.getD undef= .pointer (some ⟨g4,0,none⟩):=by simpa using g
 simp[results,Tryz.results174,b,c,d,asAddr,ey w g2 _ _ _ b2 yz (Tryz.isAgg41 w),ey w g3 _ _ _ b3 yx (Tryz.isAgg3 w),ey w g4 _ _ _ b4 yw (Tryz.isAgg34 w)]
def Js(w:World)(s:ByteArray)(r:Ending)(w':World):Prop:=∃n a k,r= .returned (.tuple #[.string n, .int .i64 a, .int .i64 k])∧(k==0)=dd s∧Fr ag w w'
theorem Bx(s:ByteArray)(w:World)(bq:s.size≤1099511627776):Calls Tryz.prog 174 #[.string s] w (Js w s):=by
 have bv:=af bq;clear bq;refine(callsIn_wide (n:=6)).1 (callsIn_of_wp_marks Tryz.func174 rfl trivial (wpIn_wide.2 ?_) rfl);simp only[Tryz.ntmps174,List.size_toArray,List.length_cons,List.length_nil,Nat.reduceAdd,Nat.reduceSub,Array.replicate_succ,Array.replicate_zero,List.push_toArray,List.append_toArray,List.nil_append,List.cons_append];go_wp2_with(refine ak rfl 41 rfl (.string ByteArray.empty) Km #[.string ByteArray.empty] rfl ?_);intro a3 ac;have aA:=af ac.fr;have O:=af ac.aF;have bl:Sz w w.heap.size:=Nat.le_refl _;clear ac;generalize w.heap.size=g2 at*;go_wp2_with(refine ak rfl 3 rfl (.int .i64 0) Kl #[.int .i64 0] rfl ?_);intro aO nb;have R:=af (aA.out.trans nb.fr);have ax:=af (O.out.fr nb.fr (fun x=>x));have P:=af nb.aF;have bm:Sz w a3.heap.size:=aA.out.size;clear nb O aA;generalize a3.heap.size=g3 at*;go_wp2_with(refine ak rfl 34 rfl (.int .i64 0) Kk #[.int .i64 0] rfl ?_);intro w2 aI;have a7:=af (R.out.trans aI.fr);have L:=af (ax.out.fr aI.fr (fun x=>x));have M:=af (P.out.fr aI.fr (fun x=>x));have N:=af aI.aF;have bn:Sz w aO.heap.size:=R.out.size;clear aI ax P R;generalize aO.heap.size=g4 at*;have a6:Hid (qM w w2 g2 g3 g4 w2):=⟨a7.out,KP.refl _,⟨_,L.out⟩,⟨_,M.out⟩,⟨_,N.out⟩⟩;have NE:Hid (g2≠g3∧g2≠g4∧g3≠g4):=by
  refine⟨?_,?_,?_⟩<;>(rintro rfl);·have v:=L.out;have c:=M.out;unfold ao at v c;rw[v]at c;cases c
  ·have v:=L.out;have c:=N.out;unfold ao at v c;rw[v]at c;cases c
  ·have v:=M.out;have c:=N.out;unfold ao at v c;rw[v]at c;cases c
 clear L M N a7;go_wp2_with fail;refine(vo s _).mono ?_;rintro r bI⟨rfl,f3,b3⟩;have az:=af (a6.out.later f3);have bt:=af b3;clear f3 b3 a6;generalize w2.heap.size=gs at*;go_wp2_with fail;refine(wpIn_wide (n:=6)).1 ?_;refine wpIn_rangeFunc_ownH rfl (by omega) (gf:=182) (lb:=#[.pointer (some ⟨gs,0,none⟩)]) rfl trivial (enters_of Tryz.func182 (by kernel_rfl) rfl)
  (ru 5 gs s bI bv.out bt.out) (fun h k=>h.trans k) (fun W l o bG _ U aG _=>KP.put W l o bG U aG) (Below.refl _ _) (fun _=>rfl)
  (fun pre W=>qM w w2 g2 g3 g4 W∧∀y∈pre,y.e=0) (fun aX pre W=>qM w w2 g2 g3 g4 W∧∃x∈pre,x.e≠0∧ao W g4 34 #[.int .i64 x.e]∧aX= .ret) (fun pre A B row h an ap=>⟨h.1.grown an ap az.out.fr.size,h.2⟩) (fun aX pre A B row h an ap=>by obtain⟨v,x,aN,X,z,aG⟩:=h;exact⟨v.grown an ap az.out.fr.size,x,aN,X,(mR an ap).2.2 _ _ _ z,aG⟩) ⟨az.out,by simp⟩
  (fun x aW W=>∃g,aW=({tmps:=#[.string s,undef, .pointer (some ⟨g2,0,none⟩), .pointer (some ⟨g3,0,none⟩), .pointer (some ⟨g4,0,none⟩), .pointer (some ⟨g,0,none⟩), .string s, .func (.func 182) #[] #[.pointer (some ⟨gs,0,none⟩)], .agg #[.int .i64 x.ord, .int .i64 x.at_, .int .i64 x.e],undef,undef,undef,undef,undef,undef,undef,undef],defers:=[]}:Act)∧ao W g 270 (bC x))
  (fun x aW _ A B row h an ap=>by
   obtain⟨g,e,z⟩:=h;exact⟨g,e,(mR an ap).2.2 _ _ _ z⟩)
  ?assign ?body ?done ?stop;case assign=>
  intro l pre x W K J S;have bu:=af S;have aB:=af J;clear S J;gi_wp2_with(refine cp Al rfl (by kernel_rfl) ?_);go_wp2_with(refine ak rfl 270 rfl (.agg nM) tQ nM rfl ?_);intro a3 ac;have aA:=af ac.fr;have bs:=af ac.aF;have bz:Sz W W.heap.size:=Nat.le_refl _;clear ac;generalize W.heap.size=g at*;go_wp2_with(refine ai rfl 270 (.tmp 5) _ rfl g (bC x) rfl rfl _ _ bs.out bY rfl (dh x) ?_);intro aO bb bA;have R:Fr ag W aO:=aA.out.aw bA (fun i aM e=>by have am:i=g:=e;have:=bz;unfold Sz at this;omega);refine⟨?_,rfl⟩;refine bu.out _ _ ⟨R.size,fun k o _ U _=>(R.block k (Array.getElem?_eq_some_iff.1 U).1 (fun x=>x)).trans U⟩ (KP.fr R (fun _ _ _ _ _ x=>x)) (⟨aB.out.1.later R,aB.out.2⟩) ⟨g,rfl,bb⟩
 case body=>
  rintro bR pre x aW W bD a0 J⟨g,rfl,p⟩a1;have aB:=af J;have Q:=af J.1;have a4:=af p;have bS:W.cell? ⟨g,2,none⟩=some (.int .i64 x.e):=p.cell 2;have ba:Hid (¬(g=g2∨g=g3)):=by
   rintro(rfl|rfl);·obtain⟨n,b⟩:=J.1.b2;unfold ao at p b;rw[p]at b;cases b
   ·obtain⟨n,b⟩:=J.1.b3;unfold ao at p b;rw[p]at b;cases b
  clear J p a1 bD a0;by_cases X:x.e=0
  ·have a2:((x.e:Int)==0)=true:=by rw[beq_iff_eq];omega
   gi_wp2;refine⟨KeepsFrom.refl _ _,KP.refl _,aB.out.1,?_⟩;intro y bF;rcases List.mem_append.1 bF with h|h;·exact aB.out.2 y h
   ·rw[List.mem_singleton.1 h];exact X
  ·have a2:((x.e:Int)==0)=false:=by rw[beq_eq_false_iff_ne];omega
   have aR:=af X;gi_wp2;refine oZ 6 (fun k=>k=g2∨k=g3) [Is (.pointer (some ⟨g,1,none⟩)),Is (.int .i64 x.at_),Is (.pointer (some ⟨g,2,none⟩)),Is (.int .i64 x.e),(fun _ _=>True),(fun _ _=>True)] [(4,(fun W'=>(∃n,ao W' g2 41 #[.string n])∧(∃a,ao W' g3 3 #[.int .i64 a])∧∃k,ao W' g4 34 #[.int .i64 k])),(5,(fun W'=>(∃n,ao W' g2 41 #[.string n])∧(∃a,ao W' g3 3 #[.int .i64 a])∧∃k,ao W' g4 34 #[.int .i64 k]))] (fun W'=>(∃n,ao W' g2 41 #[.string n])∧(∃a,ao W' g3 3 #[.int .i64 a])∧∃k,ao W' g4 34 #[.int .i64 k]) (fun i j=>i==4&&j==5) (by kernel_rfl) (by kernel_rfl) (by kernel_rfl) (by kernel_rfl) (by kernel_rfl) ⟨Is.ah _,Is.ah _,Is.ah _,Is.ah _,fun _ _ _ _ _ h=>h,fun _ _ _ _ _ h=>h,trivial⟩ ⟨(fun _ _ _ m h=>⟨(by obtain⟨a,f⟩:=h.1;exact⟨a,f.fr m (fun x=>x)⟩),(by obtain⟨a,f⟩:=h.2.1;exact⟨a,f.fr m (fun x=>x)⟩),(by obtain⟨a,f⟩:=h.2.2;exact⟨a,f.fr m (fun x=>x)⟩)⟩),(fun _ _ _ m h=>⟨(by obtain⟨a,f⟩:=h.1;exact⟨a,f.fr m (fun x=>x)⟩),(by obtain⟨a,f⟩:=h.2.1;exact⟨a,f.fr m (fun x=>x)⟩),(by obtain⟨a,f⟩:=h.2.2;exact⟨a,f.fr m (fun x=>x)⟩)⟩),trivial⟩ (fun _ _ _ m h=>⟨(by obtain⟨a,f⟩:=h.1;exact⟨a,f.fr m (fun x=>x)⟩),(by obtain⟨a,f⟩:=h.2.1;exact⟨a,f.fr m (fun x=>x)⟩),(by obtain⟨a,f⟩:=h.2.2;exact⟨a,f.fr m (fun x=>x)⟩)⟩) ⟨Q.out.b2,Q.out.b3,Q.out.b4⟩ ?_ ?_
   ·refine⟨?_,?_,?_,?_,?_,?_,trivial⟩;all_goals intro u w' d m C ar aq Y
    all_goals simp only[bJ,bK,bL,bM,au,Act.put,bN,bO,bP,Nat.reduceAdd,Nat.zero_add]
    ·clear C ar aq Y;refine aj ?_;go_simp;exact⟨_,rfl,al⟩
    ·have bB:u 0=_:=C 0;clear C ar aq Y;simp only[bB];refine aj ?_;have q:w'.cell? ⟨g,1,none⟩=some _:=(a4.out.fr m ba.out).cell 1;go_simp;exact⟨_,rfl,al⟩
    ·clear C ar aq Y;refine aj ?_;go_simp;exact⟨_,rfl,al⟩
    ·have c:u 2=_:=C 2;clear C ar aq Y;simp only[c];refine aj ?_;have q:w'.cell? ⟨g,2,none⟩=some _:=(a4.out.fr m ba.out).cell 2;go_simp;exact⟨_,rfl,al⟩
    ·clear C ar aq;refine aj ?_;obtain⟨⟨n,c⟩,G,H⟩:=th (by simp) Y;refine kV 41 (.tmp 2) _ rfl g2 0 (.string ByteArray.empty) rfl rfl rfl yz _ _ #[.string ByteArray.empty] c (by simp) rfl ?_;intro aP ae F;refine⟨_,rfl,F.mono (fun i _ h=> .inl h),trivial,⟨_,ae⟩,?_,?_⟩;·obtain⟨a,f⟩:=G;exact⟨a,f.fr F (fun e=>NE.out.1 e.symm)⟩
     ·obtain⟨a,f⟩:=H;exact⟨a,f.fr F (fun e=>NE.out.2.1 e.symm)⟩
    ·have v:u 1=_:=C 1;clear C ar aq;simp only[v];refine aj ?_;obtain⟨c,⟨n,G⟩,H⟩:=th (by simp) Y;refine kV 3 (.tmp 3) _ rfl g3 0 (.int .i64 x.at_) rfl rfl rfl yx _ _ #[.int .i64 x.at_] G (by simp) rfl ?_;intro aP ae F;refine⟨_,rfl,F.mono (fun i _ h=> .inr h),trivial,?_,⟨_,ae⟩,?_⟩;·obtain⟨a,f⟩:=c;exact⟨a,f.fr F (fun e=>NE.out.1 e)⟩
     ·obtain⟨a,f⟩:=H;exact⟨a,f.fr F (fun e=>NE.out.2.2 e.symm)⟩
   ·intro u w' m C Y;have br:u 3=_:=C 3 (by omega);obtain⟨c,G,k,H⟩:=Y;have aT:=af c;have aU:=af G;have aV:=af H;have bw:=af m;clear C c G H m;simp only[bJ,bK,bL,bM,au,Act.put,bN,bO,bP,dL,dM,Nat.reduceAdd,Nat.zero_add,br];clear br;go_wp2_with(refine aS rfl 34 (.tmp 4) _ rfl g4 0 (.int .i64 x.e) rfl rfl rfl yw _ _ #[.int .i64 x.e] aV.out (by simp) rfl ?_);intro aP ae F;have Z:Fr (fun k=>k=g2∨k=g3∨k=g4) W aP:=(bw.out.mono (fun i _ h=>h.elim .inl (fun h=> .inr (.inl h)))).trans (F.mono (fun i _ h=> .inr (.inr h)));have a5:∀k,k=g2∨k=g3∨k=g4→∃t cs,ao W k t cs∧t≠9∧t≠270:=by
     rintro k(rfl|rfl|rfl);·obtain⟨n,b⟩:=Q.out.b2;exact⟨_,_,b,by decide,by decide⟩
     ·obtain⟨n,b⟩:=Q.out.b3;exact⟨_,_,b,by decide,by decide⟩
     ·obtain⟨n,b⟩:=Q.out.b4;exact⟨_,_,b,by decide,by decide⟩
    have bx:KP W aP:=KP.fr Z (fun q t cs bE z aH=>by
     obtain⟨bH,cs',hb',v,c⟩:=a5 q aH;unfold ao at z hb';rw[z]at hb';cases hb';rcases bE with rfl|rfl;·exact v rfl
     ·exact c rfl);refine⟨?_,rfl⟩;gi_wp2;refine⟨⟨Z.size,fun q o bQ U aG=>(Z.block q (Array.getElem?_eq_some_iff.1 U).1 (fun aH=>?_)).trans U⟩,⟨⟨?_,Q.out.kp.trans bx,?_,?_,⟨_,ae⟩⟩,x,by simp,aR.out,ae,rfl⟩⟩;·obtain⟨bH,cs',hb',_,_⟩:=a5 q aH;unfold ao at hb';rw[U]at hb';cases hb';simp[Obj.isCells]at aG
    ·exact Q.out.fr.aw Z (fun i aM e=>by
      have c:=bl;have G:=bm;have H:=bn;unfold Sz at c G H;omega)
    ·obtain⟨n,b⟩:=aT.out;exact⟨n,b.fr F (fun e=>NE.out.2.1 e)⟩
    ·obtain⟨n,b⟩:=aU.out;exact⟨n,b.fr F (fun e=>NE.out.2.2 e)⟩
 case done=>
  rintro D xs W aD rfl J S;obtain⟨I,T⟩:=J;have E:Fr (fun k=>some k=some D) W (W.putObj D (.deferred none)):=Fr.grown (grownBy_putObj' W D _);have aa:=af S;have aY:Hid (dd s=true):=by
   simp only[Hid,dd,List.all_eq_true,beq_iff_eq];exact T
  obtain⟨n,b2⟩:=I.b2;obtain⟨a,b3⟩:=I.b3;obtain⟨k,b4⟩:=I.b4;have O:=af b2;have P:=af b3;have ay:=af b4;have ad:=af I;have aQ:=af aD;clear E I b2 b3 b4 aD S T;go_wp2_with(refine aS rfl 41 (.tmp 2) _ rfl g2 0 (.string s) rfl rfl rfl yz _ _ #[.string s] O.out (by simp) rfl ?_);intro bT bo aJ;have bg:=af (P.out.fr aJ (fun e=>NE.out.1 e.symm));have bh:=af (ay.out.fr aJ (fun e=>NE.out.2.1 e.symm));have bf:=af bo;have a8:=af aJ;clear bo aJ O P ay;go_wp2_with(refine aS rfl 3 (.tmp 3) _ rfl g3 0 (.int .i64 0) rfl rfl rfl yx _ _ #[.int .i64 0] bg.out (by simp) rfl ?_);intro bU BV aK;have bi:=af (bf.out.fr aK (fun e=>NE.out.1 e));have bk:=af (bh.out.fr aK (fun e=>NE.out.2.2 e.symm));have bj:=af BV;have a9:=af aK;clear BV aK bf bg bh;go_wp2_with(refine aS rfl 34 (.tmp 4) _ rfl g4 0 (.int .i64 0) rfl rfl rfl yw _ _ #[.int .i64 0] bk.out (by simp) rfl ?_);intro av bp aL;have bc:=af (bi.out.fr aL (fun e=>NE.out.2.1 e));have bd:=af (bj.out.fr aL (fun e=>NE.out.2.2 e));have be:=af bp;have Z:Hid (Fr (fun k=>k=g2∨k=g3∨k=g4) W av):=((a8.out.mono (fun i _ h=> .inl h)).trans (a9.out.mono (fun i _ h=> .inr (.inl h)))).trans (aL.mono (fun i _ h=> .inr (.inr h)));have aC:Hid (av.heap[D]? =some (.deferred (some []))):=by
   refine(Z.out.block D (Array.getElem?_eq_some_iff.1 aa.out).1 (fun aH=>?_)).trans aa.out;have aZ:=aa.out;rcases aH with rfl|rfl|rfl;·obtain⟨n,b⟩:=ad.out.b2;unfold ao at b;rw[aZ]at b;cases b
   ·obtain⟨n,b⟩:=ad.out.b3;unfold ao at b;rw[aZ]at b;cases b
   ·obtain⟨n,b⟩:=ad.out.b4;unfold ao at b;rw[aZ]at b;cases b
  clear bp aL a8 a9 aa bi bj bk;go_wp2;refine⟨by simp, .inl ⟨_,_,rfl,run_takeDeferred aC.out,?_⟩⟩;have E:Fr (fun k=>some k=some D) av (av.putObj D (.deferred none)):=Fr.grown (grownBy_putObj' av D _);have ab:∀g t cs,ao av g t cs→¬(some g=some D):=fun g t cs z e=>by
   have am:g=D:=by simpa using e
   subst am;unfold ao at z;rw[aC.out]at z;cases z
  refine⟨_,oR _ _ g2 g3 g4 s 0 0 rfl rfl rfl (bc.out.fr E (ab _ _ _ bc.out)) (bd.out.fr E (ab _ _ _ bd.out)) (be.out.fr E (ab _ _ _ be.out)),⟨_,_,_,rfl,?_,?_⟩⟩;·rw[aY.out];rfl
  ·refine(ad.out.fr.aw Z.out (fun i aM e=>?_)).aw E (fun i aM e=>?_);·have c:=bl;have G:=bm;have H:=bn;unfold Sz at c G H;omega
   ·have am:i=D:=by simpa using e
    have:=aQ.out;have:=az.out.fr.size;omega
 case stop=>
  rintro D aX pre W aD V⟨I,x,aN,X,aE,rfl⟩S;have aa:=af S;have aQ:=af aD;have aY:Hid (dd s=false):=by
   simp only[Hid];rw[Bool.eq_false_iff];intro h;rw[dd,List.all_eq_true]at h;have:=h x (V.subset aN);simp only[beq_iff_eq]at this;exact X this
  obtain⟨n,b2⟩:=I.b2;obtain⟨a,b3⟩:=I.b3;have ad:=af I;have aR:=af X;have O:=af b2;have P:=af b3;have ay:=af aE;clear I b2 b3 aE X S aD V aN;gi_wp2;refine⟨by simp, .inl ⟨_,_,rfl,run_takeDeferred aa.out,?_⟩⟩;have E:Fr (fun k=>some k=some D) W (W.putObj D (.deferred none)):=Fr.grown (grownBy_putObj' W D _);have ab:∀g t cs,ao W g t cs→¬(some g=some D):=fun g t cs z e=>by
   have am:g=D:=by simpa using e
   subst am;unfold ao at z;rw[aa.out]at z;cases z
  refine⟨_,oR _ _ g2 g3 g4 n a x.e rfl rfl rfl (O.out.fr E (ab _ _ _ O.out)) (P.out.fr E (ab _ _ _ P.out)) (ay.out.fr E (ab _ _ _ ay.out)),⟨_,_,_,rfl,?_,?_⟩⟩;·rw[aY.out,beq_eq_false_iff_ne];have:=aR.out;omega
  ·refine ad.out.fr.aw E (fun i aM e=>?_);have am:i=D:=by simpa using e
   have:=aQ.out;have:=az.out.fr.size;omega
theorem nh(s:ByteArray)(w:World)(g:s.size≤1099511627776):Calls Tryz.prog 151 #[.string s] w (aK w (.bool (dd s))):=by
 have b:=af (Bx s w g);go_enter Tryz.func151,Tryz.ntmps151;go_wp2_with fail;refine b.out.mono ?_;rintro e w1⟨n,a,k,rfl,c,f1⟩;have f:=af c;have d:=af f1;clear c f1 b;go_wp2;go_ret;rw[f.out];exact⟨rfl,d.out⟩
end Go.Proofs.YtphjagkehiklkaaGreatDoor
