/- Texts. -/
import Derived.Test.YtphjagkehiklkaaGreatDoorWK11
set_option linter.unusedVariables false
set_option linter.unusedSimpArgs false
set_option maxRecDepth 100000
set_option maxHeartbeats 4000000
namespace Go.Proofs.YtphjagkehiklkaaGreatDoor
open Go.RowKit Go.Shelf
abbrev Ent:=aK×ByteArray
def fF(L:List Ent):Prop:=L.Pairwise (fun a b=>cT a.1 b.1<0)
def dY(nm:aK)(v:ByteArray):List Ent→List Ent
 |[]=>[(nm,v)]
 |x::r=>if cT nm x.1<0 then(nm,v)::x::r else if cT nm x.1=0 then(nm,v)::r else x::dY nm v r
def dz(nm:aK):List Ent→List Ent
 |[]=>[]
 |x::r=>if cT nm x.1=0 then r else x::dz nm r
def eU(nm:aK):List Ent→Option ByteArray
 |[]=>none
 |x::r=>if cT nm x.1=0 then some x.2 else eU nm r
theorem zy{nm:aK}{v:ByteArray}{x:Ent}(h:cT nm x.1<0):∀(L a:List Ent),dY nm v (L++x::a)=dY nm v L++x::a
 |[],a=>by simp[dY,h]
 |y::L,a=>by
  simp only[List.cons_append,dY];split;·rfl
  ·split;·rfl
   ·rw[zy h L a];rfl
theorem qV{nm:aK}{v:ByteArray}:∀(L M:List Ent),(∀y∈L,0<cT nm y.1)→dY nm v (L++M)=L++dY nm v M
 |[],_,_=>rfl
 |y::L,M,h=>by
  have b:=h y (by simp);simp only[List.cons_append,dY];rw[if_neg (by omega),if_neg (by omega),qV L M (fun z a=>h z (by simp[a]))]
theorem uc{nm:aK}:∀(L M:List Ent),(∀y∈L,0<cT nm y.1)→dz nm (L++M)=L++dz nm M
 |[],_,_=>rfl
 |y::L,M,h=>by
  have b:=h y (by simp);simp only[List.cons_append,dz];rw[if_neg (by omega),uc L M (fun z a=>h z (by simp[a]))]
theorem rF{nm:aK}:∀(L M:List Ent),(∀y∈L,0<cT nm y.1)→eU nm (L++M)=eU nm M
 |[],_,_=>rfl
 |y::L,M,h=>by
  have b:=h y (by simp);simp only[List.cons_append,eU];rw[if_neg (by omega),rF L M (fun z a=>h z (by simp[a]))]
theorem zi{nm:aK}:∀(L M:List Ent),(∀y∈M,cT nm y.1<0)→(∃v,(nm,v)∈L)→dz nm (L++M)=dz nm L++M
 |[],_,_,h=>by obtain⟨v,b⟩:=h;cases b
 |y::L,M,h,hm=>by
  simp only[List.cons_append,dz];by_cases e:cT nm y.1=0;·rw[if_pos e,if_pos e]
  ·rw[if_neg e,if_neg e,zi L M h,List.cons_append];obtain⟨v,b⟩:=hm;rcases List.mem_cons.1 b with a|a;·rw[←a]at e;exact absurd (cU.refl nm) e
   ·exact⟨v,a⟩
theorem sC{nm:aK}:∀(M:List Ent),(∀y∈M,cT nm y.1<0)→eU nm M=none
 |[],_=>rfl
 |y::M,h=>by
  have b:=h y (by simp);rw[eU,if_neg (by omega),sC M (fun z a=>h z (by simp[a]))]
theorem wM{nm:aK}:∀(L M:List Ent),(∀y∈M,cT nm y.1<0)→eU nm (L++M)=eU nm L
 |[],M,h=>sC M h
 |y::L,M,h=>by
  simp only[List.cons_append,eU];rw[wM L M h]
theorem uu{nm:aK}{v:ByteArray}:∀{L:List Ent},eU nm L=some v→(nm,v)∈L
 |[],h=>by simp[eU]at h
 |y::L,h=>by
  rw[eU]at h;split at h;·rename_i e;have a:=cU.eq _ _ e;simp only[Option.some.injEq]at h;rw[a,←h];simp
  ·exact List.mem_cons_of_mem _ (uu h)
theorem fF.parts{L b:List Ent}{x:Ent}(h:fF (L++x::b)):fF L∧fF b∧(∀y∈L,cT y.1 x.1<0)∧(∀y∈b,cT x.1 y.1<0):=by
 unfold fF at h;rw[List.pairwise_append,List.pairwise_cons]at h;exact⟨h.1,h.2.1.2,fun y a=>h.2.2 y a x (by simp),h.2.1.1⟩
theorem jG{a b:aK}(h:cT a b<0):0<cT b a:=by rw[cU.lS a b];omega
theorem mI{a b:aK}(h:0<cT a b):cT b a<0:=by rw[cU.lS a b];omega
theorem nH{nm:aK}{v:ByteArray}:∀{L:List Ent},fF L→fF (dY nm v L)∧∀x∈dY nm v L,x=(nm,v)∨x∈L
 |[],_=>by simp[dY,fF]
 |y::L,h=>by
  have b:=List.pairwise_cons.1 h;rw[dY];split
  ·rename_i c;refine⟨List.pairwise_cons.2 ⟨fun z a=>?_,h⟩,fun x d=>by simpa using d⟩;rcases List.mem_cons.1 a with rfl|a;·exact c
   ·exact cU.trans _ _ _ c (b.1 z a)
  ·split
   ·rename_i _ he;have e:=cU.eq _ _ he;refine⟨List.pairwise_cons.2 ⟨fun z a=>?_,b.2⟩,fun x d=>?_⟩;·simp only;rw[e];exact b.1 z a
    ·rcases List.mem_cons.1 d with h|h;·exact .inl h
     ·exact .inr (List.mem_cons_of_mem _ h)
   ·rename_i f he;obtain⟨i1,i2⟩:=nH (nm:=nm) (v:=v) b.2;refine⟨List.pairwise_cons.2 ⟨fun z a=>?_,i1⟩,fun x d=>?_⟩
    ·rcases i2 z a with rfl|a;·exact mI (by simp only;omega)
     ·exact b.1 z a
    ·rcases List.mem_cons.1 d with h|h;·exact .inr (by simp[h])
     ·rcases i2 x h with h|h;·exact .inl h
      ·exact .inr (List.mem_cons_of_mem _ h)
theorem rC{nm:aK}:∀(L:List Ent),(dz nm L).Sublist L
 |[]=> .slnil
 |y::L=>by
  rw[dz];split;·exact List.sublist_cons_self _ _
  ·exact(rC L).cons_cons _
theorem Be{nm:aK}{L:List Ent}(h:fF L):fF (dz nm L):=h.sublist (rC L)
def jA(L:List Ent):Prop:=∀x∈L,x.1.owner.size≤1099511627776
def ES(w:World):Value→Nat
 | .pointer (some a)=>match w.cell? ⟨a.block,8,none⟩with
  |some (.int _ h)=>h.toNat
  |_=>0
 |_=>0
theorem qR{w:World}{a:Option Addr}{t:Tr}(h:cE w a t):ES w (.pointer a)=t.cG:=by
 cases t with
 |leaf=>
  obtain rfl:a=none:=h;rfl
 |node l nm v r=>
  obtain⟨g,d,ra,rfl,_,_,b⟩:=h;have c:w.cell? ⟨g,8,none⟩=some (.int .i64 ((Tr.node l nm v r).cG:Nat)):=b.cell 8;simp only[ES,c,Int.toNat_natCast]
def Found(w:World)(nm:aK)(L:List Ent)(e:Ending)(w':World):Prop:=∃p,e= .returned (.pointer p)∧Fr ag w w'∧((∃g v,p=some ⟨g,0,none⟩∧eU nm L=some v∧Mid w' g nm v)∨(p=none∧eU nm L=none))
theorem wN(n:aK)(a:Option Addr)(t:Tr)(w:World)(H:cE w a t)(I:fF t.bC)(aa:n.owner.size≤1099511627776)(ab:jA t.bC):
  Calls Tryz.prog 108 #[.pointer a, .agg n.cells.toArray] w (Found w n t.bC):=by
 have ak:=af H;have ao:=af I;have am:=af ab;have R:=af aa;clear H I aa ab;go_enter Tryz.func108,Tryz.ntmps108;go_wp2_with(refine aA rfl 106 (.tmp 1) rfl n.cells.toArray rfl ?_);intro w1 n1;have Q:=af n1.fr;have M:=af n1.aH;clear n1;generalize w.heap.size=Y at*;have ap:Hid (aq w1 Y 106 n.cells.toArray):=M.out;clear M;go_wp2;go_loopw[0](fun i wr=>∃(b:Option Addr)(u:Tr),i= .pointer b∧cE wr b u∧fF u.bC∧jA u.bC∧eU n u.bC=eU n t.bC∧Fr ag w1 wr)(fun i wr=>ES wr i);case atStart=>exact⟨a,t,rfl,ak.out.ar Q.out,ao.out,am.out,rfl,aD⟩
 case round=>
  obtain⟨b,u,rfl,H,I,O,hF,q⟩:=hrel;have o:=af q;have m:=af hF;cases u with
  |leaf=>
   obtain rfl:b=none:=H;clear I O hF q;go_wp2;go_ret;exact⟨_,rfl,Q.out.trans o.out, .inr ⟨rfl,m.out.symm⟩⟩
  |node l nm v r=>
   have K:=af (qR H);obtain⟨A,ad,ra,rfl,Z,ac,P⟩:=H;have V:=af Z;have X:=af ac;have W:Hid (Mid wr A nm v):=Mid.of P;have ae:Hid (wr.cell? ⟨A,0,none⟩=some (.pointer ad)):=P.cell 0;have ai:Hid (wr.cell? ⟨A,1,none⟩=some (.pointer ra)):=P.cell 1;have g:=af (fF.parts I);have L:=af O;have S:=af (ap.out.fr q (fun x=>x));have U:Hid (∀w',Calls Tryz.prog 128 #[.agg n.cells.toArray, .agg nm.cells.toArray] w' (aJ w' (.int .i64 (cT n nm)))):=fun w'=>gN n nm w' R.out (O (nm,v) (by simp[Tr.bC]));obtain⟨z,C⟩:∃z,z=cT n nm:=⟨_,rfl⟩;rw[←C]at U;have f:=af C;clear Z ac P I O hF q C;go_upto_region 2 with fail;refine aC 7 ag [Is (.agg n.cells.toArray),Is (.pointer (some ⟨A,0,none⟩)),Is (.pointer (some ⟨A,0,none⟩)),Is (.pointer (some ⟨A,2,none⟩)),Is (.agg nm.cells.toArray),Is (.int .i64 z),Is (.int .i64 z)] [] (fun _=>True) (fun _ _=>false) (by kernel_rfl) (by kernel_rfl) (by kernel_rfl) (by kernel_rfl) ⟨Is.ah _,Is.ah _,Is.ah _,Is.ah _,Is.ah _,Is.ah _,Is.ah _,trivial⟩ trivial (fun _ _ _ _ h=>h) trivial ?_ ?_
   ·refine⟨?_,?_,?_,?_,?_,?_,?_,trivial⟩;all_goals intro u w' d N c G F s
    all_goals simp only[bH,bI,bJ,bK,ay,Act.put,bL,bM,bN,Nat.reduceAdd,Nat.zero_add]
    ·clear c G F s;refine aj ?_;exact az _ _ rfl ⟨Y,0,none⟩ rfl n.cells _ (fun j x D=>by rw[Addr.add_mid,Nat.zero_add];exact(S.out.fr N (fun x=>x)).cell j|>.trans (by rw[bR];exact D)) Tryz.underlying106 rfl bD ⟨_,rfl,al⟩
    ·clear c G F s;refine aj ?_;go_simp;exact⟨_,rfl,al⟩
    ·have B:u 1=_:=c 1;clear c G F s;simp only[B];refine aj ?_;go_simp;exact⟨_,rfl,al⟩
    ·have T:u 2=_:=c 2;clear c G F s;simp only[T];refine aj ?_;go_simp;exact⟨_,rfl,al⟩
    ·have au:u 3=_:=c 3;clear c G F s;simp only[au];refine aj ?_;exact az _ _ rfl ⟨A,2,none⟩ rfl nm.cells _ (fun j x D=>by rw[Addr.add_mid];exact N.an (W.out.name j x D) (fun x=>x)) Tryz.underlying106 rfl bD ⟨_,rfl,al⟩
    ·have p:u 0=_:=c 0;have av:u 4=_:=c 4;clear c G F s;simp only[p,av];refine aj ?_;go_simp;refine(U.out _).mono ?_;rintro e aF⟨rfl,f4⟩;exact⟨_,rfl,f4.bP,rfl,trivial⟩
    ·have aw:u 5=_:=c 5;clear c G F s;simp only[aw];refine aj ?_;go_simp;exact⟨_,rfl,al⟩
   ·intro u w' N c s;have k6:u 6=_:=c 6 (by omega);clear c s;simp only[bH,bI,bJ,bK,ay,Act.put,bL,bM,bN,dD,dE,Nat.reduceAdd,Nat.zero_add,k6];have k:=af N;clear N k6;by_cases p:z=0
    ·have t0:=GA p;have J:=af p;clear p;go_wp2;go_ret;refine⟨_,rfl,Q.out.trans (o.out.trans k.out), .inl ⟨A,v,rfl,?_,?_⟩⟩;·rw[←m.out,Tr.bC,rF _ _ (fun y E=>?_),eU,if_pos (by simp only;rw[←f.out];exact J.out)];have e:=cU.eq n nm (by rw[←f.out];exact J.out);rw[e];exact jG (g.out.2.2.1 y E)
     ·have e:=cU.eq n nm (by rw[←f.out];exact J.out);rw[e];exact W.out.ar k.out
    ·have t0:=sj p;have J:=af p;by_cases B:z<0
     ·have t1:decide (z<0)=true:=decide_eq_true B;have H1:=af B;have aB:=k.out.an ae.out (fun x=>x);clear p;go_wp2;go_roundw;case rel=>
       refine⟨ad,l,rfl,V.out.ar k.out,g.out.1,fun x D=>L.out x (by simp[Tr.bC,D]),?_,o.out.trans k.out⟩;rw[←m.out,Tr.bC,wM _ _ (fun y E=>?_)];rcases List.mem_cons.1 E with rfl|E;·have:=H1.out;rw[f.out]at this;exact this
       ·have:=H1.out;rw[f.out]at this;exact cU.trans _ _ _ this (g.out.2.2.2 y E)
      case measure=>
       rw[qR (V.out.ar k.out),K.out];simp only[Tr.cG];omega
     ·have t1:decide (z<0)=false:=decide_eq_false B;have H1:=af B;have aE:=k.out.an ai.out (fun x=>x);clear p;go_wp2;go_roundw;case rel=>
       refine⟨ra,r,rfl,X.out.ar k.out,g.out.2.1,fun x D=>L.out x (by simp[Tr.bC,D]),?_,o.out.trans k.out⟩;have ax:0<cT n nm:=by have B:=J.out;have T:=H1.out;rw[f.out]at B T;omega
       rw[←m.out,Tr.bC,rF _ _ (fun y E=>?_),eU,if_neg (by simp only;omega)];exact jG (cU.trans _ _ _ (g.out.2.2.1 y E) (mI ax))
      case measure=>
       rw[qR (X.out.ar k.out),K.out];simp only[Tr.cG];omega
end Go.Proofs.YtphjagkehiklkaaGreatDoor
namespace Go.Proofs.YtphjagkehiklkaaGreatDoor
open Go.RowKit
def yB(w:World)(a:Nat)(b:TypeId)(cs:List Value)(e:Ending)(w':World):Prop:=
 e= .returned (.tuple #[])∧Fr (fun k=>k=a) w w'∧aq w' a b cs.toArray
theorem Kc(a c:Nat)(d:a<256)(e:c<256):bits .or .u32 ((a*16777216:Nat):Int) ((c*65536:Nat):Int)=((a*16777216+c*65536:Nat):Int):=by
 rw[u32_or_nat _ _ (by omega) (by omega)];have:=Nat.two_pow_add_eq_or_of_lt (i:=24) (b:=c*65536) (by omega) a;rw[show a*16777216=2^24*a by omega,←this]
theorem Kd(a c d:Nat)(e:a<256)(f:c<256)(g:d<256):bits .or .u32 ((a*16777216+c*65536:Nat):Int) ((d*256:Nat):Int)=((a*16777216+c*65536+d*256:Nat):Int):=by
 rw[u32_or_nat _ _ (by omega) (by omega)];have:=Nat.two_pow_add_eq_or_of_lt (i:=16) (b:=d*256) (by omega) (a*256+c);rw[show a*16777216+c*65536=2^16*(a*256+c)by omega,←this]
theorem Ke(a c d x3:Nat)(e:a<256)(f:c<256)(g:d<256)(h:x3<256):bits .or .u32 ((a*16777216+c*65536+d*256:Nat):Int) ((x3:Nat):Int)=((sb a c d x3:Nat):Int):=by
 rw[u32_or_nat _ _ (by omega) (by omega)];have:=Nat.two_pow_add_eq_or_of_lt (i:=8) (b:=x3) (by omega) (a*65536+c*256+d);rw[show a*16777216+c*65536+d*256=2^8*(a*65536+c*256+d)by omega,←this];unfold sb;congr 1;omega
theorem Aj(a b c x3:Nat)(d:a<256)(e:b<256)(f:c<256)(j:x3<256):
  ∃g h i s1 s2:Nat,IntKind.u32.wrap ((a:Int)*16777216)=(g:Int)∧IntKind.u32.wrap ((b:Int)*65536)=(h:Int)∧IntKind.u32.wrap ((c:Int)*256)=(i:Int)∧
   bits .or .u32 (g:Int) (h:Int)=(s1:Int)∧bits .or .u32 (s1:Int) (i:Int)=(s2:Int)∧bits .or .u32 (s2:Int) (x3:Int)=((sb a b c x3:Nat):Int):=
 ⟨_,_,_,_,_,(IntWalk.u32_in _ (by omega)).trans (by omega:((a:Int)*16777216)=((a*16777216:Nat):Int)),(IntWalk.u32_in _ (by omega)).trans (by omega:((b:Int)*65536)=((b*65536:Nat):Int)),
  (IntWalk.u32_in _ (by omega)).trans (by omega:((c:Int)*256)=((c*256:Nat):Int)),Kc a b d e,Kd a b c d e f,Ke a b c x3 d e f j⟩
theorem aq.lA{w:World}{a os:Nat}{t:TypeId}{pre lA post:List Value}(h:aq w a t (pre++lA++post).toArray)(c:pre.length=os){j:Nat}(b:j<lA.length):w.cell? ⟨a,os+j,none⟩=lA[j]? :=by
 subst c;rw[h.cell,bR,List.append_assoc,List.getElem?_append_right (by omega),Nat.add_sub_cancel_left,List.getElem?_append_left b]
theorem aq.Il{w:World}{a os:Nat}{t:TypeId}{pre lA post:List Value}(h:aq w a t (pre++lA++post).toArray)(c:pre.length=os){j:Nat}(b:j<lA.length)(u:Value):
  aq (w.setCell ⟨a,os+j,none⟩ u) a t (pre++lA.set j u++post).toArray:=by
 subst c;have:=h.jC (pre.length+j) u;rw[List.setIfInBounds_toArray,List.append_assoc,List.set_append_right _ _ (by omega),Nat.add_sub_cancel_left,List.set_append_left _ _ b,←List.append_assoc]at this;exact this
theorem xd{w:World}{i os:Nat}{t:TypeId}{pre post:List Value}{s:cS}(h:aq w i t (pre++fC s++post).toArray)(k:pre.length=os):
  w.cell? ⟨i,os,none⟩=some (.int .u32 s.a)∧w.cell? ⟨i,os+1,none⟩=some (.int .u32 s.b)∧w.cell? ⟨i,os+2,none⟩=some (.int .u32 s.c)∧w.cell? ⟨i,os+3,none⟩=some (.int .u32 s.d)∧
  w.cell? ⟨i,os+4,none⟩=some (.int .u32 s.e)∧w.cell? ⟨i,os+5,none⟩=some (.int .u32 s.f)∧w.cell? ⟨i,os+6,none⟩=some (.int .u32 s.g)∧w.cell? ⟨i,os+7,none⟩=some (.int .u32 s.h):=
 ⟨h.lA k (j:=0) (by simp[fC]),h.lA k (j:=1) (by simp[fC]),h.lA k (j:=2) (by simp[fC]),h.lA k (j:=3) (by simp[fC]),h.lA k (j:=4) (by simp[fC]),h.lA k (j:=5) (by simp[fC]),h.lA k (j:=6) (by simp[fC]),h.lA k (j:=7) (by simp[fC])⟩
theorem uR(n x:Nat)(w:World)(a:1≤n)(b:n≤31)(c:x<4294967296):
  Calls Tryz.prog 159 #[.int .i64 n, .int .u32 x] w fun e w'=>e= .returned (.int .u32 (dH n x:Nat))∧w'=w:=(iB n x w a b c).mono fun _ _ h=>⟨h.1,h.2.symm⟩
theorem Jg(x:Nat)(w:World)(a:x<4294967296):Calls Tryz.prog 159 #[.int .i64 6, .int .u32 x] w fun e w'=>e= .returned (.int .u32 (dH 6 x:Nat))∧w'=w:=uR 6 x w (by omega) (by omega) a
theorem Ib(x:Nat)(w:World)(a:x<4294967296):Calls Tryz.prog 159 #[.int .i64 11, .int .u32 x] w fun e w'=>e= .returned (.int .u32 (dH 11 x:Nat))∧w'=w:=uR 11 x w (by omega) (by omega) a
theorem Ic(x:Nat)(w:World)(a:x<4294967296):Calls Tryz.prog 159 #[.int .i64 25, .int .u32 x] w fun e w'=>e= .returned (.int .u32 (dH 25 x:Nat))∧w'=w:=uR 25 x w (by omega) (by omega) a
theorem vR(o:cS)(a:o.ok)(k w:Nat):∃j l d m n y3 y4 a2 a3:Nat,
  bits .xor .u32 ((dH 6 o.e:Nat):Int) ((dH 11 o.e:Nat):Int)=(j:Int)∧bits .xor .u32 (j:Int) ((dH 25 o.e:Nat):Int)=(l:Int)∧IntKind.u32.wrap ((o.h:Int)+(l:Int))=(d:Int)∧
  bits .and .u32 (o.e:Int) (o.f:Int)=(m:Int)∧bits .xor .u32 (if IntKind.u32.signed=true then-1 else IntKind.u32.max) (o.e:Int)=(n:Int)∧bits .and .u32 (n:Int) (o.g:Int)=(y3:Int)∧bits .xor .u32 (m:Int) (y3:Int)=(y4:Int)∧
  IntKind.u32.wrap ((d:Int)+(y4:Int))=(a2:Int)∧IntKind.u32.wrap ((a2:Int)+(k:Int))=(a3:Int)∧IntKind.u32.wrap ((a3:Int)+(w:Int))=((mq o k w:Nat):Int):=by
 have i:=fS 6 o.e a.e;have b:=fS 11 o.e a.e;have c:=fS 25 o.e a.e;refine⟨eX (dH 6 o.e) (dH 11 o.e),eX (eX (dH 6 o.e) (dH 11 o.e)) (dH 25 o.e),_,gU o.e o.f,oP o.e,gU (oP o.e) o.g,eX (gU o.e o.f) (gU (oP o.e) o.g),_,_,
  u32_xor_nat _ _ i b,u32_xor_nat _ _ (mU i b) c,eG _ _,u32_and_nat _ _ a.e a.f,?_,u32_and_nat _ _ (wV _) a.g,u32_xor_nat _ _ (jE a.e) (jE (wV _)),eG _ _,eG _ _,?_⟩;·have:=u32_xor_nat 4294967295 o.e (by omega) a.e;rw[Ca _ a.e]at this;exact this
 ·rw[eG];rfl
theorem vS(i:cS)(d:i.ok):∃g h z1 z2 z3 z4 z5:Nat,
  bits .xor .u32 ((dH 2 i.a:Nat):Int) ((dH 13 i.a:Nat):Int)=(g:Int)∧bits .xor .u32 (g:Int) ((dH 22 i.a:Nat):Int)=(h:Int)∧
  bits .and .u32 (i.a:Int) (i.b:Int)=(z1:Int)∧bits .and .u32 (i.a:Int) (i.c:Int)=(z2:Int)∧bits .xor .u32 (z1:Int) (z2:Int)=(z3:Int)∧bits .and .u32 (i.b:Int) (i.c:Int)=(z4:Int)∧bits .xor .u32 (z3:Int) (z4:Int)=(z5:Int)∧
  IntKind.u32.wrap ((h:Int)+(z5:Int))=((rh i:Nat):Int):=by
 have l2:=fS 2 i.a d.a;have e:=fS 13 i.a d.a;have f:=fS 22 i.a d.a;refine⟨eX (dH 2 i.a) (dH 13 i.a),eX (eX (dH 2 i.a) (dH 13 i.a)) (dH 22 i.a),gU i.a i.b,gU i.a i.c,eX (gU i.a i.b) (gU i.a i.c),gU i.b i.c,eX (eX (gU i.a i.b) (gU i.a i.c)) (gU i.b i.c),
  u32_xor_nat _ _ l2 e,u32_xor_nat _ _ (mU l2 e) f,u32_and_nat _ _ d.a d.b,u32_and_nat _ _ d.a d.c,u32_xor_nat _ _ (jE d.a) (jE d.a),u32_and_nat _ _ d.b d.c,u32_xor_nat _ _ (mU (jE d.a) (jE d.a)) (jE d.b),?_⟩;rw[eG];rfl
theorem IM(w:World)(V:cS):(Instr.index 141 (Value.agg #[.int .u32 V.a, .int .u32 V.b, .int .u32 V.c, .int .u32 V.d, .int .u32 V.e, .int .u32 V.f, .int .u32 V.g, .int .u32 V.h]) (.int .i64 0)).run Tryz.prog w= .ok (.int .u32 V.a) w:=by kernel_rfl
theorem IP(w:World)(V:cS):(Instr.index 141 (Value.agg #[.int .u32 V.a, .int .u32 V.b, .int .u32 V.c, .int .u32 V.d, .int .u32 V.e, .int .u32 V.f, .int .u32 V.g, .int .u32 V.h]) (.int .i64 1)).run Tryz.prog w= .ok (.int .u32 V.b) w:=by kernel_rfl
theorem IQ(w:World)(V:cS):(Instr.index 141 (Value.agg #[.int .u32 V.a, .int .u32 V.b, .int .u32 V.c, .int .u32 V.d, .int .u32 V.e, .int .u32 V.f, .int .u32 V.g, .int .u32 V.h]) (.int .i64 2)).run Tryz.prog w= .ok (.int .u32 V.c) w:=by kernel_rfl
theorem IS(w:World)(V:cS):(Instr.index 141 (Value.agg #[.int .u32 V.a, .int .u32 V.b, .int .u32 V.c, .int .u32 V.d, .int .u32 V.e, .int .u32 V.f, .int .u32 V.g, .int .u32 V.h]) (.int .i64 3)).run Tryz.prog w= .ok (.int .u32 V.d) w:=by kernel_rfl
theorem IT(w:World)(V:cS):(Instr.index 141 (Value.agg #[.int .u32 V.a, .int .u32 V.b, .int .u32 V.c, .int .u32 V.d, .int .u32 V.e, .int .u32 V.f, .int .u32 V.g, .int .u32 V.h]) (.int .i64 4)).run Tryz.prog w= .ok (.int .u32 V.e) w:=by kernel_rfl
theorem IU(w:World)(V:cS):(Instr.index 141 (Value.agg #[.int .u32 V.a, .int .u32 V.b, .int .u32 V.c, .int .u32 V.d, .int .u32 V.e, .int .u32 V.f, .int .u32 V.g, .int .u32 V.h]) (.int .i64 5)).run Tryz.prog w= .ok (.int .u32 V.f) w:=by kernel_rfl
theorem IV(w:World)(V:cS):(Instr.index 141 (Value.agg #[.int .u32 V.a, .int .u32 V.b, .int .u32 V.c, .int .u32 V.d, .int .u32 V.e, .int .u32 V.f, .int .u32 V.g, .int .u32 V.h]) (.int .i64 6)).run Tryz.prog w= .ok (.int .u32 V.g) w:=by kernel_rfl
theorem IW(w:World)(V:cS):(Instr.index 141 (Value.agg #[.int .u32 V.a, .int .u32 V.b, .int .u32 V.c, .int .u32 V.d, .int .u32 V.e, .int .u32 V.f, .int .u32 V.g, .int .u32 V.h]) (.int .i64 7)).run Tryz.prog w= .ok (.int .u32 V.h) w:=by kernel_rfl
def sF(s v:cS)(k:Nat):cS:=
 ⟨if 0<k then cF s.a v.a else s.a,if 1<k then cF s.b v.b else s.b,if 2<k then cF s.c v.c else s.c,if 3<k then cF s.d v.d else s.d,if 4<k then cF s.e v.e else s.e,if 5<k then cF s.f v.f else s.f,if 6<k then cF s.g v.g else s.g,if 7<k then cF s.h v.h else s.h⟩
theorem J1(s V:cS):sF s V 0=s:=rfl
theorem J2(s V:cS):sF s V 8=Ds s V:=rfl
theorem yP(s:cS)(b:List UInt8):fN s b=Ds s (rounds (dt b 64) s 64):=rfl
def fo(s:cS):Nat→Nat
 |0=>s.a
 |1=>s.b
 |2=>s.c
 |3=>s.d
 |4=>s.e
 |5=>s.f
 |6=>s.g
 |_=>s.h
theorem tc{k:Nat}(h:k<8):k=0∨k=1∨k=2∨k=3∨k=4∨k=5∨k=6∨k=7:=by omega
theorem wP(w:World)(V:cS)(k:Nat)(h:k<8):(Instr.index 141 (Value.agg #[.int .u32 V.a, .int .u32 V.b, .int .u32 V.c, .int .u32 V.d, .int .u32 V.e, .int .u32 V.f, .int .u32 V.g, .int .u32 V.h]) (.int .i64 k)).run Tryz.prog w= .ok (.int .u32 (fo V k)) w:=by
 rcases tc h with rfl|rfl|rfl|rfl|rfl|rfl|rfl|rfl;·exact IM w V
 ·exact IP w V
 ·exact IQ w V
 ·exact IS w V
 ·exact IT w V
 ·exact IU w V
 ·exact IV w V
 ·exact IW w V
theorem Ja(s V:cS)(k:Nat)(h:k<8):(fC (sF s V k))[k]? =some (.int .u32 (fo s k)):=by
 rcases tc h with rfl|rfl|rfl|rfl|rfl|rfl|rfl|rfl<;>rfl
theorem Hl(s V:cS)(k:Nat)(h:k<8):(fC (sF s V k)).set k (.int .u32 ((cF (fo s k) (fo V k):Nat):Int))=fC (sF s V (k+1)):=by
 rcases tc h with rfl|rfl|rfl|rfl|rfl|rfl|rfl|rfl<;>rfl
theorem my(q os bb ob:Nat)(ah:TypeId)(pre post:List Value)(s:cS)(bi:s.ok)(b:List UInt8)(w:World)
  (aT:aq w q ah (pre++fC s++post).toArray)(ad:pre.length=os)
  (Z:∀j,j<64→w.cell? ⟨bb,ob+j,none⟩=some (aS (b[j]?.getD 0)))
  (aR:∀j,j<64→w.cell? ⟨2,j,none⟩=some (ju (sE[j]?.getD 0))):
  Calls Tryz.prog 126 #[.pointer (some ⟨q,os,none⟩), .pointer (some ⟨bb,ob,none⟩)] w (yB w q ah (pre++fC (fN s b)++post)):=by
 have aM:=af aT;have HB:=af Z;have a4:=af aR;have aj:=af ad;clear aT Z aR ad;go_enter Tryz.func126,Tryz.ntmps126;go_wp2;have ae:Hid (fL w (w.alloc (.cells (Array.replicate 64 (.int .u32 0)) 242)) w.heap.size []):=
  ⟨aD.alloc _,rfl,aq.new _ _ _⟩;generalize aV:w.heap.size=g at ae⊢;have bz:=af aV;clear aV;go_loopw[24](fun i wr=>∃k:Nat,k≤16∧i= .int .i64 k∧fL w wr g (dt b k))(fun i _=>16-(intOf i).toNat);case atStart=>exact⟨0,by omega,rfl,ae.out⟩
 case round=>
  obtain⟨k,aH,rfl,hw⟩:=hrel;have O:=af hw;clear hw;by_cases t:k<16
  ·as_aux_lemma=>
    have S:∀j,j<64→wr.drew.cell? ⟨bb,ob+j,none⟩=some (aS (b[j]?.getD 0)):=fun j bh=>O.out.1.an (HB.out j bh) (fun x=>x);have a9:=S (4*k) (by omega);have ba:=S (4*k+1) (by omega);have bc:=S (4*k+2) (by omega);have bd:=S (4*k+3) (by omega);have ak:Ga b k=sb ((b[4*k]?.getD 0).toNat) ((b[4*k+1]?.getD 0).toNat) ((b[4*k+2]?.getD 0).toNat) ((b[4*k+3]?.getD 0).toNat):=rfl;have b0:=(b[4*k]?.getD 0).toNat_lt;have b1:=(b[4*k+1]?.getD 0).toNat_lt;have b2:=(b[4*k+2]?.getD 0).toNat_lt;have b3:=(b[4*k+3]?.getD 0).toNat_lt;unfold aS at a9 ba bc bd;generalize(b[4*k]?.getD 0).toNat=aL at*;generalize(b[4*k+1]?.getD 0).toNat=al at*;generalize(b[4*k+2]?.getD 0).toNat=r at*;generalize(b[4*k+3]?.getD 0).toNat=x3 at*;have a5:=af ak;clear ak S;have m0:IntKind.i64.wrap (4*(k:Int))=((4*k:Nat):Int):=(IntWalk.i64_in _ (by omega)).trans (by omega);have m1:IntKind.i64.wrap (((4*k:Nat):Int)+1)=((4*k+1:Nat):Int):=(IntWalk.i64_in _ (by omega)).trans (by omega);have m2:IntKind.i64.wrap (((4*k:Nat):Int)+2)=((4*k+2:Nat):Int):=(IntWalk.i64_in _ (by omega)).trans (by omega);have m3:IntKind.i64.wrap (((4*k:Nat):Int)+3)=((4*k+3:Nat):Int):=(IntWalk.i64_in _ (by omega)).trans (by omega);have bK:((4*k:Nat):Int)<64:=by omega
    have bL:((4*k+1:Nat):Int)<64:=by omega
    have aZ:((4*k+2:Nat):Int)<64:=by omega
    have bM:((4*k+3:Nat):Int)<64:=by omega
    have bN:(k:Int)<64:=by omega
    generalize 4*k+1=i1 at*;generalize 4*k+2=i2 at*;generalize 4*k+3=i3 at*;generalize 4*k=i0 at*;have bV:IntKind.u32.wrap (aL:Int)=(aL:Int):=IntWalk.u32_in _ (by omega);have w1:IntKind.u32.wrap (al:Int)=(al:Int):=IntWalk.u32_in _ (by omega);have w2:IntKind.u32.wrap (r:Int)=(r:Int):=IntWalk.u32_in _ (by omega);have w3:IntKind.u32.wrap (x3:Int)=(x3:Int):=IntWalk.u32_in _ (by omega);obtain⟨bD,bj,bk,s1,s2,bY,bw,bx,z1,z2,z3⟩:=Aj aL al r x3 b0 b1 b2 b3;rw[←a5.out]at z3;obtain⟨a1,K⟩:=O.out.at_ (k:=k) (by omega);have aY:wr.drew.cell? ⟨g,k,none⟩=some a1:=K;have aG:wr.drew.frozen? ⟨g,k,none⟩=false:=O.out.2.2.frozen k;clear K;go_wp2;go_still_tail 39,(by kernel_rfl);change wpList _ _ _ _ _ wr.drew;go_wp2;go_roundw;case rel=>
     refine⟨k+1,by omega,by go_num,?_⟩;have h:=O.out.drew.put (jt b k) (by omega) (Ga b k);have e:dt b (k+1)=dt b k++[Ga b k]:=by simp[dt,t]
     rw[e];exact h
    case measure=>simp[intOf];omega
  ·have be:decide ((k:Int)<16)=false:=by simp;omega
   rw[show k=16 by omega]at O;clear t;go_wp2;go_loopw[6](fun i T=>∃k:Nat,16≤k∧k≤64∧i= .int .i64 k∧fL w T g (dt b k))(fun i _=>64-(intOf i).toNat);case atStart=>exact⟨16,by omega,by omega,rfl,O.out⟩
   case round=>
    clear be;obtain⟨k,t,aH,rfl,hw⟩:=hrel;have E:=af hw;clear hw;by_cases m:k<64
    ·as_aux_lemma=>
      have aW:(dt b k).length=k:=jt b k;have G:=E.out.get (k:=k-15) (by omega);have I:=E.out.get (k:=k-2) (by omega);have m15:IntKind.i64.wrap ((k:Int)-15)=((k-15:Nat):Int):=(IntWalk.i64_in _ (by omega)).trans (by omega);have m2:IntKind.i64.wrap ((k:Int)-2)=((k-2:Nat):Int):=(IntWalk.i64_in _ (by omega)).trans (by omega);have aJ:((k-15:Nat):Int)<64:=by omega
      have aZ:((k-2:Nat):Int)<64:=by omega
      obtain⟨n,u⟩:∃x,x=(dt b k)[k-15]?.getD 0:=⟨_,rfl⟩;obtain⟨r,L⟩:∃x,x=(dt b k)[k-2]?.getD 0:=⟨_,rfl⟩;obtain⟨i15,B⟩:∃x,x=k-15:=⟨_,rfl⟩;obtain⟨i2,aa⟩:∃x,x=k-2:=⟨_,rfl⟩;rw[←u]at G;rw[←L]at I;rw[←B]at G m15 aJ;rw[←aa]at I m2 aZ;unfold ju at G I;have N:=af aW;have z:=af u;have Y:=af L;clear aW u L B aa;go_wp2;go_quiet(fail);have F:n<4294967296:=rX _ _ _ _ z.out;have ax:r<4294967296:=rX _ _ _ _ Y.out;obtain⟨bm,bn,bQ⟩:=Ae n F;obtain⟨bR,bS,bT⟩:=Ag r ax;go_wp2_with fail;refine(iB 7 n _ (by omega) (by omega) F).mono ?_;rintro e w1⟨rfl,rfl⟩;go_wp2_with fail;refine(iB 18 n _ (by omega) (by omega) F).mono ?_;rintro e w1⟨rfl,rfl⟩;go_wp2_with fail;refine(iB 17 r _ (by omega) (by omega) ax).mono ?_;rintro e w1⟨rfl,rfl⟩;go_wp2_with fail;refine(iB 19 r _ (by omega) (by omega) ax).mono ?_;rintro e w1⟨rfl,rfl⟩;have A:=af (E.out.drewN nq).drew;have H:=A.out.get (k:=k-16) (by rw[N.out];omega);have aC:=A.out.get (k:=k-7) (by rw[N.out];omega);have m16:IntKind.i64.wrap ((k:Int)-16)=((k-16:Nat):Int):=(IntWalk.i64_in _ (by omega)).trans (by omega);have m7:IntKind.i64.wrap ((k:Int)-7)=((k-7:Nat):Int):=(IntWalk.i64_in _ (by omega)).trans (by omega);have aK:((k-16:Nat):Int)<64:=by omega
      have bl:((k-7:Nat):Int)<64:=by omega
      have bO:(k:Int)<64:=by omega
      obtain⟨y,v⟩:∃x,x=(dt b k)[k-16]?.getD 0:=⟨_,rfl⟩;obtain⟨am,M⟩:∃x,x=(dt b k)[k-7]?.getD 0:=⟨_,rfl⟩;obtain⟨i16,C⟩:∃x,x=k-16:=⟨_,rfl⟩;obtain⟨i7,ab⟩:∃x,x=k-7:=⟨_,rfl⟩;rw[←v]at H;rw[←M]at aC;rw[←C]at H m16 aK;rw[←ab]at aC m7 bl;unfold ju at H aC;have X:=af v;have ar:=af M;clear v M C ab;have a8:=eG y (vi n);have a2:=eG (cF y (vi n)) am;have a3:=eG (cF (cF y (vi n)) am) (Af r);obtain⟨a1,K⟩:=A.out.at_ (k:=k) (by omega);have aG:=A.out.2.2.frozen k;go_wp2;generalize wr.drewN nq=bv at*;go_still_tail 15,(by kernel_rfl);change wpList _ _ _ _ _ bv.drew;go_wp2;go_roundw;case rel=>
       refine⟨k+1,by omega,by omega,by go_num,?_⟩;have h:=A.out.put N.out m (cF (cF (cF y (vi n)) am) (Af r));have e:dt b (k+1)=dt b k++[cF (cF (cF y (vi n)) am) (Af r)]:=by
        rw[dt,if_neg (by omega),X.out,z.out,ar.out,Y.out]
       rw[e];exact h
      case measure=>simp[intOf];omega
    ·have aE:decide ((k:Int)<64)=false:=by simp;omega
     rw[show k=64 by omega]at E;clear m;have az:=af (aM.out.fr E.out.1 (fun x=>x));obtain⟨g0,g1,g2,g3,g4,g5,g6,g7⟩:=xd az.out aj.out;go_wp2;go_quiet(fail);have aO:=af (E.out.drewN nq);have aA:=af (az.out.drewN nq);clear g0 g1 g2 g3 g4 g5 g6 g7 E az;generalize wr.drewN nq=w3 at*;obtain⟨g0,g1,g2,g3,g4,g5,g6,g7⟩:=xd aA.out aj.out;go_wp2;go_quiet(fail);have A:=af (aO.out.drewN nq);have a7:=af (aA.out.drewN nq);clear g0 g1 g2 g3 g4 g5 g6 g7 aO aA;generalize w3.drewN nq=bW at*;go_wp2;have N:=af (jt b 64);have ao:=af (fun i x ak=>rX b 64 i x ak);generalize aU:dt b 64=W at*;have ap:=af aU;clear aU;go_loopw[142,11,12,13,14,15,16,17,18](fun i va bo bp bq br bs bt bu T=>∃k:Nat,k≤64∧i= .int .i64 k∧va= .int .u32 (rounds W s k).a∧bo= .int .u32 (rounds W s k).b∧bp= .int .u32 (rounds W s k).c∧bq= .int .u32 (rounds W s k).d∧br= .int .u32 (rounds W s k).e∧bs= .int .u32 (rounds W s k).f∧bt= .int .u32 (rounds W s k).g∧bu= .int .u32 (rounds W s k).h∧fL w T g W)(fun i _ _ _ _ _ _ _ _ _=>64-(intOf i).toNat);case atStart=>exact⟨0,by omega,rfl,rfl,rfl,rfl,rfl,rfl,rfl,rfl,rfl,A.out⟩
     case round=>
      obtain⟨k,aH,rfl,rfl,rfl,rfl,rfl,rfl,rfl,rfl,rfl,aX⟩:=hrel;have D:=af aX;have J:=uS W s bi k;clear aX A aE;by_cases m:k<64
      ·as_aux_lemma=>
        have ai:Hid (rounds W s (k+1)=round (rounds W s k) (sE[k]?.getD 0) (W[k]?.getD 0)):=rfl;have aB:=D.out.1.an (a4.out k m) (fun x=>x);have I:=D.out.get (k:=k) (by rw[N.out];exact m);obtain⟨kk,ac⟩:∃x,x=sE[k]?.getD 0:=⟨_,rfl⟩;obtain⟨ww,ag⟩:∃x,x=W[k]?.getD 0:=⟨_,rfl⟩;rw[←ac]at aB ai;rw[←ag]at I ai;unfold ju at aB I;clear ac ag;generalize rounds W s k=R at*;obtain⟨al,r,a8,bw,bx,y3,y4,a2,a3,t1,t2,t3,t4,t5,t6,t7,t8,t9,t10⟩:=vR R J kk ww;obtain⟨bB,bC,z1,z2,z3,z4,z5,bj,bk,bE,bF,bG,bH,bI,bJ⟩:=vS R J;have bm:=eG (mq R kk ww) (rh R);have bn:=eG R.d (mq R kk ww);have l:Hid (rounds W s (k+1)=⟨cF (mq R kk ww) (rh R),R.a,R.b,R.c,cF R.d (mq R kk ww),R.e,R.f,R.g⟩):=ai.out;have La:=J.a;have ay:=J.e;have bA:=af J;clear ai J;have aI:(k:Int)<64:=by omega
        generalize mq R kk ww=P at*;generalize rh R=Q at*;go_wp2;go_quiet(first|(go_at_call_of 159(Value.int IntKind.i64 6);exact Calls.quiet_of_same (Jg R.e _ ay))|(go_at_call_of 159(Value.int IntKind.i64 11);exact Calls.quiet_of_same (Ib R.e _ ay))|(go_at_call_of 159(Value.int IntKind.i64 25);exact Calls.quiet_of_same (Ic R.e _ ay)));have a6:=af (D.out.drewN nq);clear D aB I t1 t2 t3 t4 t5 t6 t7 t8 t9 t10;generalize wr.drewN nq=bX at*;go_wp2_with fail;refine(iB 2 R.a _ (by omega) (by omega) La).mono ?_;rintro e w1⟨rfl,rfl⟩;go_wp2_with fail;refine(iB 13 R.a _ (by omega) (by omega) La).mono ?_;rintro e w1⟨rfl,rfl⟩;go_wp2_with fail;refine(iB 22 R.a _ (by omega) (by omega) La).mono ?_;rintro e w1⟨rfl,rfl⟩;go_wp2;go_roundw;case rel=>
         exact⟨k+1,by omega,by go_num,by rw[l.out],by rw[l.out],by rw[l.out],by rw[l.out],by rw[l.out],by rw[l.out],by rw[l.out],by rw[l.out],a6.out⟩
        case measure=>simp[intOf];omega
      ·have aF:decide ((k:Int)<64)=false:=by simp;omega
       have U:Hid (Fr (fun k=>k=q) w wr):=D.out.1.bP;have aN:Hid (aq wr q ah (pre++fC (sF s (rounds W s k) 0)++post).toArray):=by
        rw[J1];exact aM.out.fr D.out.1 (fun x=>x)
       have l:Hid (rounds W s k=rounds W s 64):=by
        have e:k=64:=by omega
        subst e;exact rfl
       clear m J a7 D N ao;generalize rounds W s k=V at*;go_wp2;go_loopw[214](fun i T=>∃k:Nat,k≤8∧i= .int .i64 k∧Fr (fun k=>k=q) w T∧aq T q ah (pre++fC (sF s V k)++post).toArray)(fun i _=>8-(intOf i).toNat);case atStart=>exact⟨0,by omega,rfl,U.out,aN.out⟩
       case round=>
        clear aF aN U;obtain⟨k,aH,rfl,hF,Z⟩:=hrel;have av:=af hF;have KB:=af Z;clear hF Z;by_cases o:k<8
        ·as_aux_lemma=>
          have S:wr.drew.cell? ⟨q,os+k,none⟩=some (.int .u32 (fo s k)):=(KB.out.drew.lA aj.out (j:=k) (by simpa[fC]using o)).trans (Ja s V k o);have f0:wr.drew.frozen? ⟨q,os+k,none⟩=false:=KB.out.drew.frozen _;have bg:=wP wr V k o;have a0:=eG (fo s k) (fo V k);have au:Hid (aq (wr.drew.setCell ⟨q,os+k,none⟩ (.int .u32 ((cF (fo s k) (fo V k):Nat):Int))) q ah (pre++fC (sF s V (k+1))++post).toArray):=by
           have h:=KB.out.drew.Il aj.out (j:=k) (by simpa[fC]using o) (.int .u32 ((cF (fo s k) (fo V k):Nat):Int));rw[Hl s V k o]at h;exact h
          have aw:Hid (Fr (fun k=>k=q) w (wr.drew.setCell ⟨q,os+k,none⟩ (.int .u32 ((cF (fo s k) (fo V k):Nat):Int)))):=av.out.drew.setCell (p:=⟨q,os+k,none⟩) (fun _=>rfl) _;have aI:(k:Int)<8:=by omega
          clear KB av o;generalize fo s k=bU at*;generalize fo V k=vk at*;go_wp2;go_still_tail 9,(by kernel_rfl);change wpList _ _ _ _ _ wr.drew;go_wp2;go_roundw;case rel=>exact⟨k+1,by omega,by go_num,aw.out,au.out⟩
          case measure=>simp[intOf];omega
        ·have bf:decide ((k:Int)<8)=false:=by simp;omega
         have aP:k=8:=by omega
         rw[aP]at KB;clear aP o;go_wp2;refine bodyPost_ret (results_none rfl _ _ _) rfl ?_;refine⟨rfl,av.out,?_⟩;have aQ:=KB.out;rw[J2,l.out,←ap.out]at aQ;rw[yP];exact aQ
def aB:Array Value:=Array.replicate 32 (.int .u8 0)
def aI:Value:= .agg aB
theorem JB(w:World):(zeroValue 37).run Tryz.prog w= .ok aI w:=by kernel_rfl
theorem Dy:(Tryz.prog.info? 37).map (·.size)=some 32:=by kernel_rfl
def lX(V:cS)(k:Nat):List UInt8:=(dR V).take k++List.replicate (32-k) 0
theorem xK(V:cS)(k:Nat)(h:k≤32):(lX V k).length=32:=by
 simp[lX,iX];omega
theorem pj(V:cS)(k:Nat)(x:UInt8)(h:k<32)(c:(dR V)[k]? =some x):((lX V k).map aS).set k (aS x)=(lX V (k+1)).map aS:=by
 rw[←List.map_set];congr 1;have a:((dR V).take k).length=k:=by simp[iX];omega
 unfold lX;rw[List.set_append_right _ _ (by omega),a,Nat.sub_self,show 32-k=(32-(k+1))+1 by omega,List.replicate_succ,List.set_cons_zero];have b:(dR V).take (k+1)=(dR V).take k++[x]:=by
  rw[List.take_add_one,c];rfl
 rw[b];simp
theorem GQ(V:cS):lX V 32=dR V:=by
 unfold lX;rw[List.take_of_length_le (by rw[iX];exact Nat.le_refl _)];simp
theorem td(V:cS)(q r:Nat)(b:q<8)(c:r<4):(dR V)[4*q+r]? =some (ij (fo V q/2^(24-8*r))):=by
 have a:r=0∨r=1∨r=2∨r=3:=by omega
 rcases tc b with rfl|rfl|rfl|rfl|rfl|rfl|rfl|rfl<;>rcases a with rfl|rfl|rfl|rfl<;>simp[dR,ee,fo]
theorem Bf(V:cS):((lX V 0).map aS).toArray=aB:=by
 unfold lX aB;rw[List.take_zero,List.nil_append,List.map_replicate,List.toArray_replicate];rfl
theorem kZ(l:List UInt8):(l.map aS).toArray.all (·.oneCell')=true:=by
 rw[Array.all_eq_true_iff_forall_mem];intro v a;simp only[List.mem_toArray,List.mem_map]at a;obtain⟨x,_,rfl⟩:=a;rfl
theorem Jl(V:cS)(h:V.ok)(q:Nat):fo V q<4294967296:=by
 unfold fo;split;·exact h.a
 ·exact h.b
 ·exact h.c
 ·exact h.d
 ·exact h.e
 ·exact h.f
 ·exact h.g
 ·exact h.h
end Go.Proofs.YtphjagkehiklkaaGreatDoor
