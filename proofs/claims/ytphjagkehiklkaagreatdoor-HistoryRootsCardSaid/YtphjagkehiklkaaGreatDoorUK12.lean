/- Texts. -/
import Derived.Test.YtphjagkehiklkaaGreatDoorUK10
set_option linter.unusedVariables false
set_option linter.unusedSimpArgs false
set_option maxRecDepth 100000
set_option maxHeartbeats 4000000
namespace Go.Proofs.YtphjagkehiklkaaGreatDoor
open Go.RowKit Go.Shelf
abbrev Ent:=aD×ByteArray
def eC(L:List Ent):Prop:=L.Pairwise (fun a b=>cp a.1 b.1<0)
def dq(nm:aD)(v:ByteArray):List Ent→List Ent
 |[]=>[(nm,v)]
 |x::r=>if cp nm x.1<0 then(nm,v)::x::r else if cp nm x.1=0 then(nm,v)::r else x::dq nm v r
def cT(nm:aD):List Ent→List Ent
 |[]=>[]
 |x::r=>if cp nm x.1=0 then r else x::cT nm r
def dY(nm:aD):List Ent→Option ByteArray
 |[]=>none
 |x::r=>if cp nm x.1=0 then some x.2 else dY nm r
theorem yh{nm:aD}{v:ByteArray}{x:Ent}(h:cp nm x.1<0):∀(L a:List Ent),dq nm v (L++x::a)=dq nm v L++x::a
 |[],a=>by simp[dq,h]
 |y::L,a=>by
  simp only[List.cons_append,dq];split;·rfl
  ·split;·rfl
   ·rw[yh h L a];rfl
theorem pU{nm:aD}{v:ByteArray}:∀(L M:List Ent),(∀y∈L,0<cp nm y.1)→dq nm v (L++M)=L++dq nm v M
 |[],_,_=>rfl
 |y::L,M,h=>by
  have b:=h y (by simp);simp only[List.cons_append,dq];rw[if_neg (by omega),if_neg (by omega),pU L M (fun z a=>h z (by simp[a]))]
theorem sR{nm:aD}:∀(L M:List Ent),(∀y∈L,0<cp nm y.1)→cT nm (L++M)=L++cT nm M
 |[],_,_=>rfl
 |y::L,M,h=>by
  have b:=h y (by simp);simp only[List.cons_append,cT];rw[if_neg (by omega),sR L M (fun z a=>h z (by simp[a]))]
theorem qu{nm:aD}:∀(L M:List Ent),(∀y∈L,0<cp nm y.1)→dY nm (L++M)=dY nm M
 |[],_,_=>rfl
 |y::L,M,h=>by
  have b:=h y (by simp);simp only[List.cons_append,dY];rw[if_neg (by omega),qu L M (fun z a=>h z (by simp[a]))]
theorem xX{nm:aD}:∀(L M:List Ent),(∀y∈M,cp nm y.1<0)→(∃v,(nm,v)∈L)→cT nm (L++M)=cT nm L++M
 |[],_,_,h=>by obtain⟨v,b⟩:=h;cases b
 |y::L,M,h,hm=>by
  simp only[List.cons_append,cT];by_cases e:cp nm y.1=0;·rw[if_pos e,if_pos e]
  ·rw[if_neg e,if_neg e,xX L M h,List.cons_append];obtain⟨v,b⟩:=hm;rcases List.mem_cons.1 b with a|a;·rw[←a]at e;exact absurd (cq.refl nm) e
   ·exact⟨v,a⟩
theorem ru{nm:aD}:∀(M:List Ent),(∀y∈M,cp nm y.1<0)→dY nm M=none
 |[],_=>rfl
 |y::M,h=>by
  have b:=h y (by simp);rw[dY,if_neg (by omega),ru M (fun z a=>h z (by simp[a]))]
theorem uW{nm:aD}:∀(L M:List Ent),(∀y∈M,cp nm y.1<0)→dY nm (L++M)=dY nm L
 |[],M,h=>ru M h
 |y::L,M,h=>by
  simp only[List.cons_append,dY];rw[uW L M h]
theorem ta{nm:aD}{v:ByteArray}:∀{L:List Ent},dY nm L=some v→(nm,v)∈L
 |[],h=>by simp[dY]at h
 |y::L,h=>by
  rw[dY]at h;split at h;·rename_i e;have a:=cq.eq _ _ e;simp only[Option.some.injEq]at h;rw[a,←h];simp
  ·exact List.mem_cons_of_mem _ (ta h)
theorem eC.parts{L b:List Ent}{x:Ent}(h:eC (L++x::b)):eC L∧eC b∧(∀y∈L,cp y.1 x.1<0)∧(∀y∈b,cp x.1 y.1<0):=by
 unfold eC at h;rw[List.pairwise_append,List.pairwise_cons]at h;exact⟨h.1,h.2.1.2,fun y a=>h.2.2 y a x (by simp),h.2.1.1⟩
theorem ja{a b:aD}(h:cp a b<0):0<cp b a:=by rw[cq.kN a b];omega
theorem lL{a b:aD}(h:0<cp a b):cp b a<0:=by rw[cq.kN a b];omega
theorem mq{nm:aD}{v:ByteArray}:∀{L:List Ent},eC L→eC (dq nm v L)∧∀x∈dq nm v L,x=(nm,v)∨x∈L
 |[],_=>by simp[dq,eC]
 |y::L,h=>by
  have b:=List.pairwise_cons.1 h;rw[dq];split
  ·rename_i c;refine⟨List.pairwise_cons.2 ⟨fun z a=>?_,h⟩,fun x d=>by simpa using d⟩;rcases List.mem_cons.1 a with rfl|a;·exact c
   ·exact cq.trans _ _ _ c (b.1 z a)
  ·split
   ·rename_i _ he;have e:=cq.eq _ _ he;refine⟨List.pairwise_cons.2 ⟨fun z a=>?_,b.2⟩,fun x d=>?_⟩;·simp only;rw[e];exact b.1 z a
    ·rcases List.mem_cons.1 d with h|h;·exact .inl h
     ·exact .inr (List.mem_cons_of_mem _ h)
   ·rename_i f he;obtain⟨i1,i2⟩:=mq (nm:=nm) (v:=v) b.2;refine⟨List.pairwise_cons.2 ⟨fun z a=>?_,i1⟩,fun x d=>?_⟩
    ·rcases i2 z a with rfl|a;·exact lL (by simp only;omega)
     ·exact b.1 z a
    ·rcases List.mem_cons.1 d with h|h;·exact .inr (by simp[h])
     ·rcases i2 x h with h|h;·exact .inl h
      ·exact .inr (List.mem_cons_of_mem _ h)
theorem qp{nm:aD}:∀(L:List Ent),(cT nm L).Sublist L
 |[]=> .slnil
 |y::L=>by
  rw[cT];split;·exact List.sublist_cons_self _ _
  ·exact(qp L).cons_cons _
theorem zL{nm:aD}{L:List Ent}(h:eC L):eC (cT nm L):=h.sublist (qp L)
def iR(L:List Ent):Prop:=∀x∈L,x.1.owner.size≤1099511627776
def Dl(w:World):Value→Nat
 | .pointer (some a)=>match w.cell? ⟨a.block,8,none⟩with
  |some (.int _ h)=>h.toNat
  |_=>0
 |_=>0
theorem pR{w:World}{a:Option Addr}{t:Tr}(h:bO w a t):Dl w (.pointer a)=t.bQ:=by
 cases t with
 |leaf=>
  obtain rfl:a=none:=h;rfl
 |node l nm v r=>
  obtain⟨g,d,e,rfl,_,_,b⟩:=h;have c:w.cell? ⟨g,8,none⟩=some (.int .i64 ((Tr.node l nm v r).bQ:Nat)):=b.cell 8;simp only[Dl,c,Int.toNat_natCast]
def Found(w:World)(nm:aD)(L:List Ent)(e:Ending)(w':World):Prop:=∃p,e= .returned (.pointer p)∧Fr af w w'∧((∃g v,p=some ⟨g,0,none⟩∧dY nm L=some v∧Mid w' g nm v)∨(p=none∧dY nm L=none))
theorem uX(n:aD)(a:Option Addr)(t:Tr)(w:World)(I:bO w a t)(J:eC t.aW)(aa:n.owner.size≤1099511627776)(ab:iR t.aW):
  Calls Tryz.prog 108 #[.pointer a, .agg n.cells.toArray] w (Found w n t.aW):=by
 have am:=Lib.hid I;have ap:=Lib.hid J;have ao:=Lib.hid ab;have R:=Lib.hid aa;clear I J aa ab;go_enter Tryz.func108,Tryz.ntmps108;go_wp2_with(refine au rfl 106 (.tmp 1) rfl n.cells.toArray rfl ?_);intro w1 n1;have Q:=Lib.hid n1.fr;have N:=Lib.hid n1.az;clear n1;generalize w.heap.size=Y at*;have aq:Hid (ak w1 Y 106 n.cells.toArray):=N.out;clear N;go_wp2;go_loopw[0](fun i wr=>∃(b:Option Addr)(u:Tr),i= .pointer b∧bO wr b u∧eC u.aW∧iR u.aW∧dY n u.aW=dY n t.aW∧Fr af w1 wr)(fun i wr=>Dl wr i);case atStart=>exact⟨a,t,rfl,am.out.al Q.out,ap.out,ao.out,rfl,Fr.refl _ _⟩
 case round=>
  obtain⟨b,u,rfl,I,J,O,hF,B⟩:=hrel;have z:=Lib.hid B;have s:=Lib.hid hF;cases u with
  |leaf=>
   obtain rfl:b=none:=I;clear J O hF B;go_wp2;go_ret;exact⟨_,rfl,Q.out.trans z.out, .inr ⟨rfl,s.out.symm⟩⟩
  |node l nm v r=>
   have L:=Lib.hid (pR I);obtain⟨D,ad,ae,rfl,Z,ac,P⟩:=I;have V:=Lib.hid Z;have X:=Lib.hid ac;have W:Hid (Mid wr D nm v):=Mid.of P;have ah:Hid (wr.cell? ⟨D,0,none⟩=some (.pointer ad)):=P.cell 0;have ai:Hid (wr.cell? ⟨D,1,none⟩=some (.pointer ae)):=P.cell 1;have o:=Lib.hid (eC.parts J);have M:=Lib.hid O;have S:=Lib.hid (aq.out.fr B (fun x=>x));have U:Hid (∀w',Calls Tryz.prog 128 #[.agg n.cells.toArray, .agg nm.cells.toArray] w' (aH w' (.int .i64 (cp n nm)))):=fun w'=>fO n nm w' R.out (O (nm,v) (by simp[Tr.aW]));obtain⟨C,F⟩:∃C,C=cp n nm:=⟨_,rfl⟩;rw[←F]at U;have g:=Lib.hid F;clear Z ac P J O hF B F;go_upto_region 2 with fail;refine aA 7 af [Is (.agg n.cells.toArray),Is (.pointer (some ⟨D,0,none⟩)),Is (.pointer (some ⟨D,0,none⟩)),Is (.pointer (some ⟨D,2,none⟩)),Is (.agg nm.cells.toArray),Is (.int .i64 C),Is (.int .i64 C)] [] (fun _=>True) (fun _ _=>false) (by kernel_rfl) (by kernel_rfl) (by kernel_rfl) (by kernel_rfl) ⟨Is.ag _,Is.ag _,Is.ag _,Is.ag _,Is.ag _,Is.ag _,Is.ag _,trivial⟩ trivial (fun _ _ _ _ h=>h) trivial ?_ ?_
   ·refine⟨fun u w' d p c m k f=>?_,fun u w' d p c m k f=>?_,fun u w' d p c m k f=>?_,fun u w' d p c m k f=>?_,fun u w' d p c m k f=>?_,fun u w' d p c m k f=>?_,fun u w' d p c m k f=>?_,trivial⟩;all_goals simp only[List.take_succ_cons,List.take_zero,List.map_cons,List.map_nil,an,Act.put,List.setIfInBounds_toArray,List.set_cons_zero,List.set_cons_succ,Nat.reduceAdd,Nat.zero_add]
    ·clear c m k f;refine .inl ⟨by kernel_rfl,?_⟩;exact ar _ _ rfl ⟨Y,0,none⟩ rfl n.cells _ (fun j x G=>by rw[Addr.add_mid,Nat.zero_add];exact(S.out.fr p (fun x=>x)).cell j|>.trans (by rw[List.getElem?_toArray];exact G)) Tryz.underlying106 rfl aX ⟨_,rfl,Fr.refl _ _,rfl,trivial⟩
    ·clear c m k f;refine .inl ⟨by kernel_rfl,?_⟩;go_simp;exact⟨_,rfl,Fr.refl _ _,rfl,trivial⟩
    ·have E:u 1=_:=c 1 (by kernel_rfl);clear c m k f;simp only[E];refine .inl ⟨by kernel_rfl,?_⟩;go_simp;exact⟨_,rfl,Fr.refl _ _,rfl,trivial⟩
    ·have T:u 2=_:=c 2 (by kernel_rfl);clear c m k f;simp only[T];refine .inl ⟨by kernel_rfl,?_⟩;go_simp;exact⟨_,rfl,Fr.refl _ _,rfl,trivial⟩
    ·have av:u 3=_:=c 3 (by kernel_rfl);clear c m k f;simp only[av];refine .inl ⟨by kernel_rfl,?_⟩;exact ar _ _ rfl ⟨D,2,none⟩ rfl nm.cells _ (fun j x G=>by rw[Addr.add_mid];exact p.aj (W.out.name j x G) (fun x=>x)) Tryz.underlying106 rfl aX ⟨_,rfl,Fr.refl _ _,rfl,trivial⟩
    ·have A:u 0=_:=c 0 (by kernel_rfl);have aw:u 4=_:=c 4 (by kernel_rfl);clear c m k f;simp only[A,aw];refine .inl ⟨by kernel_rfl,?_⟩;go_simp;refine(U.out _).mono ?_;rintro e aE⟨rfl,f4⟩;exact⟨_,rfl,f4.bA,rfl,trivial⟩
    ·have ax:u 5=_:=c 5 (by kernel_rfl);clear c m k f;simp only[ax];refine .inl ⟨by kernel_rfl,?_⟩;go_simp;exact⟨_,rfl,Fr.refl _ _,rfl,trivial⟩
   ·intro u w' p c f;have k6:u 6=_:=c 6 (by omega);clear c f;simp only[List.take_succ_cons,List.take_zero,List.map_cons,List.map_nil,an,Act.put,List.setIfInBounds_toArray,List.set_cons_zero,List.set_cons_succ,List.drop_succ_cons,List.drop_zero,Nat.reduceAdd,Nat.zero_add,k6];have q:=Lib.hid p;clear p k6;by_cases A:C=0
    ·have t0:=Ez A;have K:=Lib.hid A;clear A;go_wp2;go_ret;refine⟨_,rfl,Q.out.trans (z.out.trans q.out), .inl ⟨D,v,rfl,?_,?_⟩⟩;·rw[←s.out,Tr.aW,qu _ _ (fun y H=>?_),dY,if_pos (by simp only;rw[←g.out];exact K.out)];have e:=cq.eq n nm (by rw[←g.out];exact K.out);rw[e];exact ja (o.out.2.2.1 y H)
     ·have e:=cq.eq n nm (by rw[←g.out];exact K.out);rw[e];exact W.out.al q.out
    ·have t0:=re A;have K:=Lib.hid A;by_cases E:C<0
     ·have t1:decide (C<0)=true:=decide_eq_true E;have H1:=Lib.hid E;have aB:=q.out.aj ah.out (fun x=>x);clear A;go_wp2;go_roundw;case rel=>
       refine⟨ad,l,rfl,V.out.al q.out,o.out.1,fun x G=>M.out x (by simp[Tr.aW,G]),?_,z.out.trans q.out⟩;rw[←s.out,Tr.aW,uW _ _ (fun y H=>?_)];rcases List.mem_cons.1 H with rfl|H;·have:=H1.out;rw[g.out]at this;exact this
       ·have:=H1.out;rw[g.out]at this;exact cq.trans _ _ _ this (o.out.2.2.2 y H)
      case measure=>
       rw[pR (V.out.al q.out),L.out];simp only[Tr.bQ];omega
     ·have t1:decide (C<0)=false:=decide_eq_false E;have H1:=Lib.hid E;have aC:=q.out.aj ai.out (fun x=>x);clear A;go_wp2;go_roundw;case rel=>
       refine⟨ae,r,rfl,X.out.al q.out,o.out.2.1,fun x G=>M.out x (by simp[Tr.aW,G]),?_,z.out.trans q.out⟩;have ay:0<cp n nm:=by have E:=K.out;have T:=H1.out;rw[g.out]at E T;omega
       rw[←s.out,Tr.aW,qu _ _ (fun y H=>?_),dY,if_neg (by simp only;omega)];exact ja (cq.trans _ _ _ (o.out.2.2.1 y H) (lL ay))
      case measure=>
       rw[pR (X.out.al q.out),L.out];simp only[Tr.bQ];omega
end Go.Proofs.YtphjagkehiklkaaGreatDoor
namespace Go.Proofs.YtphjagkehiklkaaGreatDoor
open Go.RowKit
def xu(w:World)(a:Nat)(b:TypeId)(cs:List Value)(e:Ending)(w':World):Prop:=
 e= .returned (.tuple #[])∧Fr (fun k=>k=a) w w'∧ak w' a b cs.toArray
theorem Ip(a c:Nat)(d:a<256)(e:c<256):bits .or .u32 ((a*16777216:Nat):Int) ((c*65536:Nat):Int)=((a*16777216+c*65536:Nat):Int):=by
 rw[u32_or_nat _ _ (by omega) (by omega)];have:=Nat.two_pow_add_eq_or_of_lt (i:=24) (b:=c*65536) (by omega) a;rw[show a*16777216=2^24*a by omega,←this]
theorem Iq(a c d:Nat)(e:a<256)(f:c<256)(g:d<256):bits .or .u32 ((a*16777216+c*65536:Nat):Int) ((d*256:Nat):Int)=((a*16777216+c*65536+d*256:Nat):Int):=by
 rw[u32_or_nat _ _ (by omega) (by omega)];have:=Nat.two_pow_add_eq_or_of_lt (i:=16) (b:=d*256) (by omega) (a*256+c);rw[show a*16777216+c*65536=2^16*(a*256+c)by omega,←this]
theorem Ir(a c d x3:Nat)(e:a<256)(f:c<256)(g:d<256)(h:x3<256):bits .or .u32 ((a*16777216+c*65536+d*256:Nat):Int) ((x3:Nat):Int)=((qR a c d x3:Nat):Int):=by
 rw[u32_or_nat _ _ (by omega) (by omega)];have:=Nat.two_pow_add_eq_or_of_lt (i:=8) (b:=x3) (by omega) (a*65536+c*256+d);rw[show a*16777216+c*65536+d*256=2^8*(a*65536+c*256+d)by omega,←this];unfold qR;congr 1;omega
theorem yW(a b c x3:Nat)(d:a<256)(e:b<256)(f:c<256)(j:x3<256):
  ∃g h i s1 s2:Nat,IntKind.u32.wrap ((a:Int)*16777216)=(g:Int)∧IntKind.u32.wrap ((b:Int)*65536)=(h:Int)∧IntKind.u32.wrap ((c:Int)*256)=(i:Int)∧
   bits .or .u32 (g:Int) (h:Int)=(s1:Int)∧bits .or .u32 (s1:Int) (i:Int)=(s2:Int)∧bits .or .u32 (s2:Int) (x3:Int)=((qR a b c x3:Nat):Int):=
 ⟨_,_,_,_,_,(IntWalk.u32_in _ (by omega)).trans (by omega:((a:Int)*16777216)=((a*16777216:Nat):Int)),(IntWalk.u32_in _ (by omega)).trans (by omega:((b:Int)*65536)=((b*65536:Nat):Int)),
  (IntWalk.u32_in _ (by omega)).trans (by omega:((c:Int)*256)=((c*256:Nat):Int)),Ip a b d e,Iq a b c d e f,Ir a b c x3 d e f j⟩
theorem ak.kr{w:World}{a os:Nat}{t:TypeId}{pre kr post:List Value}(h:ak w a t (pre++kr++post).toArray)(c:pre.length=os){j:Nat}(b:j<kr.length):w.cell? ⟨a,os+j,none⟩=kr[j]? :=by
 subst c;rw[h.cell,List.getElem?_toArray,List.append_assoc,List.getElem?_append_right (by omega),Nat.add_sub_cancel_left,List.getElem?_append_left b]
theorem ak.FT{w:World}{a os:Nat}{t:TypeId}{pre kr post:List Value}(h:ak w a t (pre++kr++post).toArray)(c:pre.length=os){j:Nat}(b:j<kr.length)(u:Value):
  ak (w.setCell ⟨a,os+j,none⟩ u) a t (pre++kr.set j u++post).toArray:=by
 subst c;have:=h.iV (pre.length+j) u;rw[List.setIfInBounds_toArray,List.append_assoc,List.set_append_right _ _ (by omega),Nat.add_sub_cancel_left,List.set_append_left _ _ b,←List.append_assoc]at this;exact this
theorem vD{w:World}{i os:Nat}{t:TypeId}{pre post:List Value}{s:cm}(h:ak w i t (pre++eB s++post).toArray)(k:pre.length=os):
  w.cell? ⟨i,os,none⟩=some (.int .u32 s.a)∧w.cell? ⟨i,os+1,none⟩=some (.int .u32 s.b)∧w.cell? ⟨i,os+2,none⟩=some (.int .u32 s.c)∧w.cell? ⟨i,os+3,none⟩=some (.int .u32 s.d)∧
  w.cell? ⟨i,os+4,none⟩=some (.int .u32 s.e)∧w.cell? ⟨i,os+5,none⟩=some (.int .u32 s.f)∧w.cell? ⟨i,os+6,none⟩=some (.int .u32 s.g)∧w.cell? ⟨i,os+7,none⟩=some (.int .u32 s.h):=
 ⟨h.kr k (j:=0) (by simp[eB]),h.kr k (j:=1) (by simp[eB]),h.kr k (j:=2) (by simp[eB]),h.kr k (j:=3) (by simp[eB]),h.kr k (j:=4) (by simp[eB]),h.kr k (j:=5) (by simp[eB]),h.kr k (j:=6) (by simp[eB]),h.kr k (j:=7) (by simp[eB])⟩
theorem tM(n x:Nat)(w:World)(a:1≤n)(b:n≤31)(c:x<4294967296):
  Calls Tryz.prog 159 #[.int .i64 n, .int .u32 x] w fun e w'=>e= .returned (.int .u32 (cZ n x:Nat))∧w'=w:=(gI n x w a b c).mono fun _ _ h=>⟨h.1,h.2.symm⟩
theorem GU(x:Nat)(w:World)(a:x<4294967296):Calls Tryz.prog 159 #[.int .i64 6, .int .u32 x] w fun e w'=>e= .returned (.int .u32 (cZ 6 x:Nat))∧w'=w:=tM 6 x w (by omega) (by omega) a
theorem Fz(x:Nat)(w:World)(a:x<4294967296):Calls Tryz.prog 159 #[.int .i64 11, .int .u32 x] w fun e w'=>e= .returned (.int .u32 (cZ 11 x:Nat))∧w'=w:=tM 11 x w (by omega) (by omega) a
theorem FD(x:Nat)(w:World)(a:x<4294967296):Calls Tryz.prog 159 #[.int .i64 25, .int .u32 x] w fun e w'=>e= .returned (.int .u32 (cZ 25 x:Nat))∧w'=w:=tM 25 x w (by omega) (by omega) a
theorem uy(o:cm)(a:o.ok)(k w:Nat):∃j l d m n y3 y4 a2 a3:Nat,
  bits .xor .u32 ((cZ 6 o.e:Nat):Int) ((cZ 11 o.e:Nat):Int)=(j:Int)∧bits .xor .u32 (j:Int) ((cZ 25 o.e:Nat):Int)=(l:Int)∧IntKind.u32.wrap ((o.h:Int)+(l:Int))=(d:Int)∧
  bits .and .u32 (o.e:Int) (o.f:Int)=(m:Int)∧bits .xor .u32 (if IntKind.u32.signed=true then-1 else IntKind.u32.max) (o.e:Int)=(n:Int)∧bits .and .u32 (n:Int) (o.g:Int)=(y3:Int)∧bits .xor .u32 (m:Int) (y3:Int)=(y4:Int)∧
  IntKind.u32.wrap ((d:Int)+(y4:Int))=(a2:Int)∧IntKind.u32.wrap ((a2:Int)+(k:Int))=(a3:Int)∧IntKind.u32.wrap ((a3:Int)+(w:Int))=((lk o k w:Nat):Int):=by
 have i:=eT 6 o.e a.e;have b:=eT 11 o.e a.e;have c:=eT 25 o.e a.e;refine⟨ed (cZ 6 o.e) (cZ 11 o.e),ed (ed (cZ 6 o.e) (cZ 11 o.e)) (cZ 25 o.e),_,fU o.e o.f,nE o.e,fU (nE o.e) o.g,ed (fU o.e o.f) (fU (nE o.e) o.g),_,_,
  u32_xor_nat _ _ i b,u32_xor_nat _ _ (lU i b) c,dN _ _,u32_and_nat _ _ a.e a.f,?_,u32_and_nat _ _ (vp _) a.g,u32_xor_nat _ _ (iY a.e) (iY (vp _)),dN _ _,dN _ _,?_⟩;·have:=u32_xor_nat 4294967295 o.e (by omega) a.e;rw[Ai _ a.e]at this;exact this
 ·rw[dN];rfl
theorem uz(i:cm)(d:i.ok):∃g h z1 z2 z3 z4 z5:Nat,
  bits .xor .u32 ((cZ 2 i.a:Nat):Int) ((cZ 13 i.a:Nat):Int)=(g:Int)∧bits .xor .u32 (g:Int) ((cZ 22 i.a:Nat):Int)=(h:Int)∧
  bits .and .u32 (i.a:Int) (i.b:Int)=(z1:Int)∧bits .and .u32 (i.a:Int) (i.c:Int)=(z2:Int)∧bits .xor .u32 (z1:Int) (z2:Int)=(z3:Int)∧bits .and .u32 (i.b:Int) (i.c:Int)=(z4:Int)∧bits .xor .u32 (z3:Int) (z4:Int)=(z5:Int)∧
  IntKind.u32.wrap ((h:Int)+(z5:Int))=((qb i:Nat):Int):=by
 have l2:=eT 2 i.a d.a;have e:=eT 13 i.a d.a;have f:=eT 22 i.a d.a;refine⟨ed (cZ 2 i.a) (cZ 13 i.a),ed (ed (cZ 2 i.a) (cZ 13 i.a)) (cZ 22 i.a),fU i.a i.b,fU i.a i.c,ed (fU i.a i.b) (fU i.a i.c),fU i.b i.c,ed (ed (fU i.a i.b) (fU i.a i.c)) (fU i.b i.c),
  u32_xor_nat _ _ l2 e,u32_xor_nat _ _ (lU l2 e) f,u32_and_nat _ _ d.a d.b,u32_and_nat _ _ d.a d.c,u32_xor_nat _ _ (iY d.a) (iY d.a),u32_and_nat _ _ d.b d.c,u32_xor_nat _ _ (lU (iY d.a) (iY d.a)) (iY d.b),?_⟩;rw[dN];rfl
theorem Gt(w:World)(V:cm):(Instr.index 141 (Value.agg #[.int .u32 V.a, .int .u32 V.b, .int .u32 V.c, .int .u32 V.d, .int .u32 V.e, .int .u32 V.f, .int .u32 V.g, .int .u32 V.h]) (.int .i64 0)).run Tryz.prog w= .ok (.int .u32 V.a) w:=by kernel_rfl
theorem Gu(w:World)(V:cm):(Instr.index 141 (Value.agg #[.int .u32 V.a, .int .u32 V.b, .int .u32 V.c, .int .u32 V.d, .int .u32 V.e, .int .u32 V.f, .int .u32 V.g, .int .u32 V.h]) (.int .i64 1)).run Tryz.prog w= .ok (.int .u32 V.b) w:=by kernel_rfl
theorem Gv(w:World)(V:cm):(Instr.index 141 (Value.agg #[.int .u32 V.a, .int .u32 V.b, .int .u32 V.c, .int .u32 V.d, .int .u32 V.e, .int .u32 V.f, .int .u32 V.g, .int .u32 V.h]) (.int .i64 2)).run Tryz.prog w= .ok (.int .u32 V.c) w:=by kernel_rfl
theorem Gw(w:World)(V:cm):(Instr.index 141 (Value.agg #[.int .u32 V.a, .int .u32 V.b, .int .u32 V.c, .int .u32 V.d, .int .u32 V.e, .int .u32 V.f, .int .u32 V.g, .int .u32 V.h]) (.int .i64 3)).run Tryz.prog w= .ok (.int .u32 V.d) w:=by kernel_rfl
theorem Gx(w:World)(V:cm):(Instr.index 141 (Value.agg #[.int .u32 V.a, .int .u32 V.b, .int .u32 V.c, .int .u32 V.d, .int .u32 V.e, .int .u32 V.f, .int .u32 V.g, .int .u32 V.h]) (.int .i64 4)).run Tryz.prog w= .ok (.int .u32 V.e) w:=by kernel_rfl
theorem Gy(w:World)(V:cm):(Instr.index 141 (Value.agg #[.int .u32 V.a, .int .u32 V.b, .int .u32 V.c, .int .u32 V.d, .int .u32 V.e, .int .u32 V.f, .int .u32 V.g, .int .u32 V.h]) (.int .i64 5)).run Tryz.prog w= .ok (.int .u32 V.f) w:=by kernel_rfl
theorem Gz(w:World)(V:cm):(Instr.index 141 (Value.agg #[.int .u32 V.a, .int .u32 V.b, .int .u32 V.c, .int .u32 V.d, .int .u32 V.e, .int .u32 V.f, .int .u32 V.g, .int .u32 V.h]) (.int .i64 6)).run Tryz.prog w= .ok (.int .u32 V.g) w:=by kernel_rfl
theorem GA(w:World)(V:cm):(Instr.index 141 (Value.agg #[.int .u32 V.a, .int .u32 V.b, .int .u32 V.c, .int .u32 V.d, .int .u32 V.e, .int .u32 V.f, .int .u32 V.g, .int .u32 V.h]) (.int .i64 7)).run Tryz.prog w= .ok (.int .u32 V.h) w:=by kernel_rfl
def rA(s v:cm)(k:Nat):cm:=
 ⟨if 0<k then bP s.a v.a else s.a,if 1<k then bP s.b v.b else s.b,if 2<k then bP s.c v.c else s.c,if 3<k then bP s.d v.d else s.d,if 4<k then bP s.e v.e else s.e,if 5<k then bP s.f v.f else s.f,if 6<k then bP s.g v.g else s.g,if 7<k then bP s.h v.h else s.h⟩
theorem Ik(s V:cm):rA s V 0=s:=rfl
theorem Il(s V:cm):rA s V 8=Bj s V:=rfl
theorem xF(s:cm)(b:List UInt8):eJ s b=Bj s (rounds (cN b 64) s 64):=rfl
def ev(s:cm):Nat→Nat
 |0=>s.a
 |1=>s.b
 |2=>s.c
 |3=>s.d
 |4=>s.e
 |5=>s.f
 |6=>s.g
 |_=>s.h
theorem rZ{k:Nat}(h:k<8):k=0∨k=1∨k=2∨k=3∨k=4∨k=5∨k=6∨k=7:=by omega
theorem uZ(w:World)(V:cm)(k:Nat)(h:k<8):(Instr.index 141 (Value.agg #[.int .u32 V.a, .int .u32 V.b, .int .u32 V.c, .int .u32 V.d, .int .u32 V.e, .int .u32 V.f, .int .u32 V.g, .int .u32 V.h]) (.int .i64 k)).run Tryz.prog w= .ok (.int .u32 (ev V k)) w:=by
 rcases rZ h with rfl|rfl|rfl|rfl|rfl|rfl|rfl|rfl;·exact Gt w V
 ·exact Gu w V
 ·exact Gv w V
 ·exact Gw w V
 ·exact Gx w V
 ·exact Gy w V
 ·exact Gz w V
 ·exact GA w V
theorem GM(s V:cm)(k:Nat)(h:k<8):(eB (rA s V k))[k]? =some (.int .u32 (ev s k)):=by
 rcases rZ h with rfl|rfl|rfl|rfl|rfl|rfl|rfl|rfl<;>rfl
theorem Fi(s V:cm)(k:Nat)(h:k<8):(eB (rA s V k)).set k (.int .u32 ((bP (ev s k) (ev V k):Nat):Int))=eB (rA s V (k+1)):=by
 rcases rZ h with rfl|rfl|rfl|rfl|rfl|rfl|rfl|rfl<;>rfl
theorem lA(q os bb ob:Nat)(ag:TypeId)(pre post:List Value)(s:cm)(bh:s.ok)(b:List UInt8)(w:World)
  (aQ:ak w q ag (pre++eB s++post).toArray)(ad:pre.length=os)
  (Z:∀j,j<64→w.cell? ⟨bb,ob+j,none⟩=some (aU (b[j]?.getD 0)))
  (aP:∀j,j<64→w.cell? ⟨2,j,none⟩=some (iK (rz[j]?.getD 0))):
  Calls Tryz.prog 126 #[.pointer (some ⟨q,os,none⟩), .pointer (some ⟨bb,ob,none⟩)] w (xu w q ag (pre++eB (eJ s b)++post)):=by
 have aK:=Lib.hid aQ;have HB:=Lib.hid Z;have a1:=Lib.hid aP;have ai:=Lib.hid ad;clear aQ Z aP ad;go_enter Tryz.func126,Tryz.ntmps126;go_wp2;have ae:Hid (eH w (w.alloc (.cells (Array.replicate 64 (.int .u32 0)) 242)) w.heap.size []):=
  ⟨(Fr.refl _ _).alloc _,rfl,ak.new _ _ _⟩;generalize aS:w.heap.size=g at ae⊢;have bx:=Lib.hid aS;clear aS;go_loopw[24](fun i wr=>∃k:Nat,k≤16∧i= .int .i64 k∧eH w wr g (cN b k))(fun i _=>16-(intOf i).toNat);case atStart=>exact⟨0,by omega,rfl,ae.out⟩
 case round=>
  obtain⟨k,aF,rfl,hw⟩:=hrel;have O:=Lib.hid hw;clear hw;by_cases t:k<16
  ·as_aux_lemma=>
    have S:∀j,j<64→wr.drew.cell? ⟨bb,ob+j,none⟩=some (aU (b[j]?.getD 0)):=fun j bg=>O.out.1.aj (HB.out j bg) (fun x=>x);have a8:=S (4*k) (by omega);have a9:=S (4*k+1) (by omega);have ba:=S (4*k+2) (by omega);have bc:=S (4*k+3) (by omega);have al:Ea b k=qR ((b[4*k]?.getD 0).toNat) ((b[4*k+1]?.getD 0).toNat) ((b[4*k+2]?.getD 0).toNat) ((b[4*k+3]?.getD 0).toNat):=rfl;have b0:=(b[4*k]?.getD 0).toNat_lt;have b1:=(b[4*k+1]?.getD 0).toNat_lt;have b2:=(b[4*k+2]?.getD 0).toNat_lt;have b3:=(b[4*k+3]?.getD 0).toNat_lt;unfold aU at a8 a9 ba bc;generalize(b[4*k]?.getD 0).toNat=aJ at*;generalize(b[4*k+1]?.getD 0).toNat=am at*;generalize(b[4*k+2]?.getD 0).toNat=r at*;generalize(b[4*k+3]?.getD 0).toNat=x3 at*;have a4:=Lib.hid al;clear al S;have m0:IntKind.i64.wrap (4*(k:Int))=((4*k:Nat):Int):=(IntWalk.i64_in _ (by omega)).trans (by omega);have m1:IntKind.i64.wrap (((4*k:Nat):Int)+1)=((4*k+1:Nat):Int):=(IntWalk.i64_in _ (by omega)).trans (by omega);have m2:IntKind.i64.wrap (((4*k:Nat):Int)+2)=((4*k+2:Nat):Int):=(IntWalk.i64_in _ (by omega)).trans (by omega);have m3:IntKind.i64.wrap (((4*k:Nat):Int)+3)=((4*k+3:Nat):Int):=(IntWalk.i64_in _ (by omega)).trans (by omega);have bK:((4*k:Nat):Int)<64:=by omega
    have bL:((4*k+1:Nat):Int)<64:=by omega
    have aX:((4*k+2:Nat):Int)<64:=by omega
    have bM:((4*k+3:Nat):Int)<64:=by omega
    have bN:(k:Int)<64:=by omega
    generalize 4*k+1=i1 at*;generalize 4*k+2=i2 at*;generalize 4*k+3=i3 at*;generalize 4*k=i0 at*;have bV:IntKind.u32.wrap (aJ:Int)=(aJ:Int):=IntWalk.u32_in _ (by omega);have w1:IntKind.u32.wrap (am:Int)=(am:Int):=IntWalk.u32_in _ (by omega);have w2:IntKind.u32.wrap (r:Int)=(r:Int):=IntWalk.u32_in _ (by omega);have aZ:IntKind.u32.wrap (x3:Int)=(x3:Int):=IntWalk.u32_in _ (by omega);obtain⟨bD,bi,bj,s1,s2,bY,bv,bw,z1,z2,z3⟩:=yW aJ am r x3 b0 b1 b2 b3;rw[←a4.out]at z3;obtain⟨aY,K⟩:=O.out.at_ (k:=k) (by omega);have aW:wr.drew.cell? ⟨g,k,none⟩=some aY:=K;have aE:wr.drew.frozen? ⟨g,k,none⟩=false:=O.out.2.2.frozen k;clear K;go_wp2;go_still_tail 39,(by kernel_rfl);change wpList _ _ _ _ _ wr.drew;go_wp2;go_roundw;case rel=>
     refine⟨k+1,by omega,by go_num,?_⟩;have h:=O.out.drew.put (iJ b k) (by omega) (Ea b k);have e:cN b (k+1)=cN b k++[Ea b k]:=by simp[cN,t]
     rw[e];exact h
    case measure=>simp[intOf];omega
  ·have bd:decide ((k:Int)<16)=false:=by simp;omega
   rw[show k=16 by omega]at O;clear t;go_wp2;go_loopw[6](fun i T=>∃k:Nat,16≤k∧k≤64∧i= .int .i64 k∧eH w T g (cN b k))(fun i _=>64-(intOf i).toNat);case atStart=>exact⟨16,by omega,by omega,rfl,O.out⟩
   case round=>
    clear bd;obtain⟨k,t,aF,rfl,hw⟩:=hrel;have E:=Lib.hid hw;clear hw;by_cases m:k<64
    ·as_aux_lemma=>
      have aT:(cN b k).length=k:=iJ b k;have G:=E.out.get (k:=k-15) (by omega);have I:=E.out.get (k:=k-2) (by omega);have m15:IntKind.i64.wrap ((k:Int)-15)=((k-15:Nat):Int):=(IntWalk.i64_in _ (by omega)).trans (by omega);have m2:IntKind.i64.wrap ((k:Int)-2)=((k-2:Nat):Int):=(IntWalk.i64_in _ (by omega)).trans (by omega);have aH:((k-15:Nat):Int)<64:=by omega
      have aX:((k-2:Nat):Int)<64:=by omega
      obtain⟨n,u⟩:∃x,x=(cN b k)[k-15]?.getD 0:=⟨_,rfl⟩;obtain⟨r,L⟩:∃x,x=(cN b k)[k-2]?.getD 0:=⟨_,rfl⟩;obtain⟨i15,B⟩:∃x,x=k-15:=⟨_,rfl⟩;obtain⟨i2,aa⟩:∃x,x=k-2:=⟨_,rfl⟩;rw[←u]at G;rw[←L]at I;rw[←B]at G m15 aH;rw[←aa]at I m2 aX;unfold iK at G I;have N:=Lib.hid aT;have z:=Lib.hid u;have Y:=Lib.hid L;clear aT u L B aa;go_wp2;go_quiet(fail);have F:n<4294967296:=qM _ _ _ _ z.out;have aw:r<4294967296:=qM _ _ _ _ Y.out;obtain⟨bl,bm,bQ⟩:=yQ n F;obtain⟨bR,bS,bT⟩:=yS r aw;go_wp2_with fail;refine(gI 7 n _ (by omega) (by omega) F).mono ?_;rintro e w1⟨rfl,rfl⟩;go_wp2_with fail;refine(gI 18 n _ (by omega) (by omega) F).mono ?_;rintro e w1⟨rfl,rfl⟩;go_wp2_with fail;refine(gI 17 r _ (by omega) (by omega) aw).mono ?_;rintro e w1⟨rfl,rfl⟩;go_wp2_with fail;refine(gI 19 r _ (by omega) (by omega) aw).mono ?_;rintro e w1⟨rfl,rfl⟩;have A:=Lib.hid (E.out.drewN nq).drew;have H:=A.out.get (k:=k-16) (by rw[N.out];omega);have aB:=A.out.get (k:=k-7) (by rw[N.out];omega);have m16:IntKind.i64.wrap ((k:Int)-16)=((k-16:Nat):Int):=(IntWalk.i64_in _ (by omega)).trans (by omega);have m7:IntKind.i64.wrap ((k:Int)-7)=((k-7:Nat):Int):=(IntWalk.i64_in _ (by omega)).trans (by omega);have aI:((k-16:Nat):Int)<64:=by omega
      have bk:((k-7:Nat):Int)<64:=by omega
      have bO:(k:Int)<64:=by omega
      obtain⟨y,v⟩:∃x,x=(cN b k)[k-16]?.getD 0:=⟨_,rfl⟩;obtain⟨an,M⟩:∃x,x=(cN b k)[k-7]?.getD 0:=⟨_,rfl⟩;obtain⟨i16,C⟩:∃x,x=k-16:=⟨_,rfl⟩;obtain⟨i7,ab⟩:∃x,x=k-7:=⟨_,rfl⟩;rw[←v]at H;rw[←M]at aB;rw[←C]at H m16 aI;rw[←ab]at aB m7 bk;unfold iK at H aB;have X:=Lib.hid v;have aq:=Lib.hid M;clear v M C ab;have a7:=dN y (tY n);have a2:=dN (bP y (tY n)) an;have a3:=dN (bP (bP y (tY n)) an) (yR r);obtain⟨aY,K⟩:=A.out.at_ (k:=k) (by omega);have aE:=A.out.2.2.frozen k;go_wp2;generalize wr.drewN nq=bu at*;go_still_tail 15,(by kernel_rfl);change wpList _ _ _ _ _ bu.drew;go_wp2;go_roundw;case rel=>
       refine⟨k+1,by omega,by omega,by go_num,?_⟩;have h:=A.out.put N.out m (bP (bP (bP y (tY n)) an) (yR r));have e:cN b (k+1)=cN b k++[bP (bP (bP y (tY n)) an) (yR r)]:=by
        rw[cN,if_neg (by omega),X.out,z.out,aq.out,Y.out]
       rw[e];exact h
      case measure=>simp[intOf];omega
    ·have aC:decide ((k:Int)<64)=false:=by simp;omega
     rw[show k=64 by omega]at E;clear m;have ay:=Lib.hid (aK.out.fr E.out.1 (fun x=>x));obtain⟨g0,g1,g2,g3,g4,g5,g6,g7⟩:=vD ay.out ai.out;go_wp2;go_quiet(fail);have aM:=Lib.hid (E.out.drewN nq);have az:=Lib.hid (ay.out.drewN nq);clear g0 g1 g2 g3 g4 g5 g6 g7 E ay;generalize wr.drewN nq=aZ at*;obtain⟨g0,g1,g2,g3,g4,g5,g6,g7⟩:=vD az.out ai.out;go_wp2;go_quiet(fail);have A:=Lib.hid (aM.out.drewN nq);have a6:=Lib.hid (az.out.drewN nq);clear g0 g1 g2 g3 g4 g5 g6 g7 aM az;generalize aZ.drewN nq=bW at*;go_wp2;have N:=Lib.hid (iJ b 64);have ao:=Lib.hid (fun i x al=>qM b 64 i x al);generalize aR:cN b 64=W at*;have ap:=Lib.hid aR;clear aR;go_loopw[142,11,12,13,14,15,16,17,18](fun i va bn bo bp bq br bs bt T=>∃k:Nat,k≤64∧i= .int .i64 k∧va= .int .u32 (rounds W s k).a∧bn= .int .u32 (rounds W s k).b∧bo= .int .u32 (rounds W s k).c∧bp= .int .u32 (rounds W s k).d∧bq= .int .u32 (rounds W s k).e∧br= .int .u32 (rounds W s k).f∧bs= .int .u32 (rounds W s k).g∧bt= .int .u32 (rounds W s k).h∧eH w T g W)(fun i _ _ _ _ _ _ _ _ _=>64-(intOf i).toNat);case atStart=>exact⟨0,by omega,rfl,rfl,rfl,rfl,rfl,rfl,rfl,rfl,rfl,A.out⟩
     case round=>
      obtain⟨k,aF,rfl,rfl,rfl,rfl,rfl,rfl,rfl,rfl,rfl,aV⟩:=hrel;have D:=Lib.hid aV;have J:=tO W s bh k;clear aV A aC;by_cases m:k<64
      ·as_aux_lemma=>
        have ah:Hid (rounds W s (k+1)=round (rounds W s k) (rz[k]?.getD 0) (W[k]?.getD 0)):=rfl;have aA:=D.out.1.aj (a1.out k m) (fun x=>x);have I:=D.out.get (k:=k) (by rw[N.out];exact m);obtain⟨kk,ac⟩:∃x,x=rz[k]?.getD 0:=⟨_,rfl⟩;obtain⟨ww,af⟩:∃x,x=W[k]?.getD 0:=⟨_,rfl⟩;rw[←ac]at aA ah;rw[←af]at I ah;unfold iK at aA I;clear ac af;generalize rounds W s k=R at*;obtain⟨am,r,a7,bv,bw,y3,y4,a2,a3,t1,t2,t3,t4,t5,t6,t7,t8,t9,t10⟩:=uy R J kk ww;obtain⟨bB,bC,z1,z2,z3,z4,z5,bi,bj,bE,bF,bG,bH,bI,bJ⟩:=uz R J;have bl:=dN (lk R kk ww) (qb R);have bm:=dN R.d (lk R kk ww);have l:Hid (rounds W s (k+1)=⟨bP (lk R kk ww) (qb R),R.a,R.b,R.c,bP R.d (lk R kk ww),R.e,R.f,R.g⟩):=ah.out;have La:=J.a;have ax:=J.e;have bz:=Lib.hid J;clear ah J;have aG:(k:Int)<64:=by omega
        generalize lk R kk ww=P at*;generalize qb R=Q at*;go_wp2;go_quiet(first|(go_at_call_of 159(Value.int IntKind.i64 6);exact Calls.quiet_of_same (GU R.e _ ax))|(go_at_call_of 159(Value.int IntKind.i64 11);exact Calls.quiet_of_same (Fz R.e _ ax))|(go_at_call_of 159(Value.int IntKind.i64 25);exact Calls.quiet_of_same (FD R.e _ ax)));have a5:=Lib.hid (D.out.drewN nq);clear D aA I t1 t2 t3 t4 t5 t6 t7 t8 t9 t10;generalize wr.drewN nq=bX at*;go_wp2_with fail;refine(gI 2 R.a _ (by omega) (by omega) La).mono ?_;rintro e w1⟨rfl,rfl⟩;go_wp2_with fail;refine(gI 13 R.a _ (by omega) (by omega) La).mono ?_;rintro e w1⟨rfl,rfl⟩;go_wp2_with fail;refine(gI 22 R.a _ (by omega) (by omega) La).mono ?_;rintro e w1⟨rfl,rfl⟩;go_wp2;go_roundw;case rel=>
         exact⟨k+1,by omega,by go_num,by rw[l.out],by rw[l.out],by rw[l.out],by rw[l.out],by rw[l.out],by rw[l.out],by rw[l.out],by rw[l.out],a5.out⟩
        case measure=>simp[intOf];omega
      ·have aD:decide ((k:Int)<64)=false:=by simp;omega
       have U:Hid (Fr (fun k=>k=q) w wr):=D.out.1.bA;have aL:Hid (ak wr q ag (pre++eB (rA s (rounds W s k) 0)++post).toArray):=by
        rw[Ik];exact aK.out.fr D.out.1 (fun x=>x)
       have l:Hid (rounds W s k=rounds W s 64):=by
        have e:k=64:=by omega
        subst e;exact rfl
       clear m J a6 D N ao;generalize rounds W s k=V at*;go_wp2;go_loopw[214](fun i T=>∃k:Nat,k≤8∧i= .int .i64 k∧Fr (fun k=>k=q) w T∧ak T q ag (pre++eB (rA s V k)++post).toArray)(fun i _=>8-(intOf i).toNat);case atStart=>exact⟨0,by omega,rfl,U.out,aL.out⟩
       case round=>
        clear aD aL U;obtain⟨k,aF,rfl,hF,Z⟩:=hrel;have au:=Lib.hid hF;have KB:=Lib.hid Z;clear hF Z;by_cases o:k<8
        ·as_aux_lemma=>
          have S:wr.drew.cell? ⟨q,os+k,none⟩=some (.int .u32 (ev s k)):=(KB.out.drew.kr ai.out (j:=k) (by simpa[eB]using o)).trans (GM s V k o);have f0:wr.drew.frozen? ⟨q,os+k,none⟩=false:=KB.out.drew.frozen _;have bf:=uZ wr V k o;have a0:=dN (ev s k) (ev V k);have ar:Hid (ak (wr.drew.setCell ⟨q,os+k,none⟩ (.int .u32 ((bP (ev s k) (ev V k):Nat):Int))) q ag (pre++eB (rA s V (k+1))++post).toArray):=by
           have h:=KB.out.drew.FT ai.out (j:=k) (by simpa[eB]using o) (.int .u32 ((bP (ev s k) (ev V k):Nat):Int));rw[Fi s V k o]at h;exact h
          have av:Hid (Fr (fun k=>k=q) w (wr.drew.setCell ⟨q,os+k,none⟩ (.int .u32 ((bP (ev s k) (ev V k):Nat):Int)))):=au.out.drew.setCell (p:=⟨q,os+k,none⟩) (fun _=>rfl) _;have aG:(k:Int)<8:=by omega
          clear KB au o;generalize ev s k=bU at*;generalize ev V k=vk at*;go_wp2;go_still_tail 9,(by kernel_rfl);change wpList _ _ _ _ _ wr.drew;go_wp2;go_roundw;case rel=>exact⟨k+1,by omega,by go_num,av.out,ar.out⟩
          case measure=>simp[intOf];omega
        ·have be:decide ((k:Int)<8)=false:=by simp;omega
         have aN:k=8:=by omega
         rw[aN]at KB;clear aN o;go_wp2;refine bodyPost_ret (results_none rfl _ _ _) rfl ?_;refine⟨rfl,au.out,?_⟩;have aO:=KB.out;rw[Il,l.out,←ap.out]at aO;rw[xF];exact aO
end Go.Proofs.YtphjagkehiklkaaGreatDoor
namespace Go.Proofs
open Go.Shelf
def Tryz.wW:Go.Shelf.Ren:=⟨fun|125=>150|128=>172|129=>173|n=>n,fun|46=>205|3=>3|51=>140|53=>187|4=>4|5=>5|9=>9|n=>n,fun|n=>n⟩
theorem Tryz.Fg:Go.Proofs.Lays.n125 Tryz.prog Tryz.wW:={
 mixed:=by kernel_rfl
 f125:=Tryz.func150.trans (congrArg some (by kernel_rfl))
 f128:=Tryz.func172.trans (congrArg some (by kernel_rfl))
 f129:=Tryz.func173.trans (congrArg some (by kernel_rfl))
 t3:=Tryz.underlying3
 a3:=Tryz.isAgg3
 z3:=Tryz.sizeOf3
 v3:=Tryz.zeroValue3
 t4:=Tryz.underlying4
 a4:=Tryz.isAgg4
 z4:=Tryz.sizeOf4
 v4:=Tryz.zeroValue4
 t5:=Tryz.underlying5
 a5:=Tryz.isAgg5
 z5:=Tryz.sizeOf5
 v5:=Tryz.zeroValue5
 t9:=Tryz.underlying9
 a9:=Tryz.isAgg9
 z9:=Tryz.sizeOf9
 v9:=Tryz.zeroValue9
 t46:=Tryz.underlying205
 a46:=Tryz.isAgg205
 z46:=Tryz.sizeOf205
 v46:=Tryz.zeroValue205
 t51:=Tryz.underlying140
 a51:=Tryz.isAgg140
 z51:=Tryz.sizeOf140
 v51:=Tryz.zeroValue140
 t53:=Tryz.underlying187
 a53:=Tryz.isAgg187
 z53:=Tryz.sizeOf187
 v53:=Tryz.zeroValue187}
theorem Tryz.bits_Len(x:Int)(w:World)(a:0≤x)(b:x≤18446744073709551615):
  Calls Tryz.prog 150 #[.int .u64 x] w fun e w'=>e= .returned (.int .i64 (Lib.bitLen x.toNat))∧w'=w:=Any.bits_Len Tryz.Fg x w a b
end Go.Proofs
