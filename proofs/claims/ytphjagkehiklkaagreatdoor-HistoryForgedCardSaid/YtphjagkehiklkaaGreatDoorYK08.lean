/- Texts. -/
import Derived.Test.YtphjagkehiklkaaGreatDoorYK06
set_option linter.unusedVariables false
set_option linter.unusedSimpArgs false
set_option maxRecDepth 100000
set_option maxHeartbeats 4000000
namespace Go.Proofs.YtphjagkehiklkaaGreatDoor
open Go.RowKit Go.Shelf
abbrev Ent:=aI×ByteArray
def cQ(L:List Ent):Prop:=L.Pairwise (fun a b=>bX a.1 b.1<0)
def dC(nm:aI)(v:ByteArray):List Ent→List Ent
 |[]=>[(nm,v)]
 |x::r=>if bX nm x.1<0 then(nm,v)::x::r else if bX nm x.1=0 then(nm,v)::r else x::dC nm v r
def di(nm:aI):List Ent→List Ent
 |[]=>[]
 |x::r=>if bX nm x.1=0 then r else x::di nm r
def eW(nm:aI):List Ent→Option ByteArray
 |[]=>none
 |x::r=>if bX nm x.1=0 then some x.2 else eW nm r
theorem zZ{nm:aI}{v:ByteArray}{x:Ent}(h:bX nm x.1<0):∀(L a:List Ent),dC nm v (L++x::a)=dC nm v L++x::a
 |[],a=>by simp[dC,h]
 |y::L,a=>by
  simp only[List.cons_append,dC];split;·rfl
  ·split;·rfl
   ·rw[zZ h L a];rfl
theorem lG{nm:aI}{v:ByteArray}:∀(L M:List Ent),(∀y∈L,0<bX nm y.1)→dC nm v (L++M)=L++dC nm v M
 |[],_,_=>rfl
 |y::L,M,h=>by
  have b:=h y (by simp);simp only[List.cons_append,dC];rw[if_neg (by omega),if_neg (by omega),lG L M (fun z a=>h z (by simp[a]))]
theorem qX{nm:aI}:∀(L M:List Ent),(∀y∈L,0<bX nm y.1)→di nm (L++M)=L++di nm M
 |[],_,_=>rfl
 |y::L,M,h=>by
  have b:=h y (by simp);simp only[List.cons_append,di];rw[if_neg (by omega),qX L M (fun z a=>h z (by simp[a]))]
theorem rQ{nm:aI}:∀(L M:List Ent),(∀y∈L,0<bX nm y.1)→eW nm (L++M)=eW nm M
 |[],_,_=>rfl
 |y::L,M,h=>by
  have b:=h y (by simp);simp only[List.cons_append,eW];rw[if_neg (by omega),rQ L M (fun z a=>h z (by simp[a]))]
theorem zL{nm:aI}:∀(L M:List Ent),(∀y∈M,bX nm y.1<0)→(∃v,(nm,v)∈L)→di nm (L++M)=di nm L++M
 |[],_,_,h=>by obtain⟨v,b⟩:=h;cases b
 |y::L,M,h,hm=>by
  simp only[List.cons_append,di];by_cases e:bX nm y.1=0;·rw[if_pos e,if_pos e]
  ·rw[if_neg e,if_neg e,zL L M h,List.cons_append];obtain⟨v,b⟩:=hm;rcases List.mem_cons.1 b with a|a;·rw[←a]at e;exact absurd (cm.refl nm) e
   ·exact⟨v,a⟩
theorem sS{nm:aI}:∀(M:List Ent),(∀y∈M,bX nm y.1<0)→eW nm M=none
 |[],_=>rfl
 |y::M,h=>by
  have b:=h y (by simp);rw[eW,if_neg (by omega),sS M (fun z a=>h z (by simp[a]))]
theorem xm{nm:aI}:∀(L M:List Ent),(∀y∈M,bX nm y.1<0)→eW nm (L++M)=eW nm L
 |[],M,h=>sS M h
 |y::L,M,h=>by
  simp only[List.cons_append,eW];rw[xm L M h]
theorem uO{nm:aI}{v:ByteArray}:∀{L:List Ent},eW nm L=some v→(nm,v)∈L
 |[],h=>by simp[eW]at h
 |y::L,h=>by
  rw[eW]at h;split at h;·rename_i e;have a:=cm.eq _ _ e;simp only[Option.some.injEq]at h;rw[a,←h];simp
  ·exact List.mem_cons_of_mem _ (uO h)
theorem cQ.parts{L b:List Ent}{x:Ent}(h:cQ (L++x::b)):cQ L∧cQ b∧(∀y∈L,bX y.1 x.1<0)∧(∀y∈b,bX x.1 y.1<0):=by
 unfold cQ at h;rw[List.pairwise_append,List.pairwise_cons]at h;exact⟨h.1,h.2.1.2,fun y a=>h.2.2 y a x (by simp),h.2.1.1⟩
theorem gv{a b:aI}(h:bX a b<0):0<bX b a:=by rw[cm.lg a b];omega
theorem kX{a b:aI}(h:0<bX a b):bX b a<0:=by rw[cm.lg a b];omega
theorem nG{nm:aI}{v:ByteArray}:∀{L:List Ent},cQ L→cQ (dC nm v L)∧∀x∈dC nm v L,x=(nm,v)∨x∈L
 |[],_=>by simp[dC,cQ]
 |y::L,h=>by
  have b:=List.pairwise_cons.1 h;rw[dC];split
  ·rename_i c;refine⟨List.pairwise_cons.2 ⟨fun z a=>?_,h⟩,fun x d=>by simpa using d⟩;rcases List.mem_cons.1 a with rfl|a;·exact c
   ·exact cm.trans _ _ _ c (b.1 z a)
  ·split
   ·rename_i _ he;have e:=cm.eq _ _ he;refine⟨List.pairwise_cons.2 ⟨fun z a=>?_,b.2⟩,fun x d=>?_⟩;·simp only;rw[e];exact b.1 z a
    ·rcases List.mem_cons.1 d with h|h;·exact .inl h
     ·exact .inr (List.mem_cons_of_mem _ h)
   ·rename_i f he;obtain⟨i1,i2⟩:=nG (nm:=nm) (v:=v) b.2;refine⟨List.pairwise_cons.2 ⟨fun z a=>?_,i1⟩,fun x d=>?_⟩
    ·rcases i2 z a with rfl|a;·exact kX (by simp only;omega)
     ·exact b.1 z a
    ·rcases List.mem_cons.1 d with h|h;·exact .inr (by simp[h])
     ·rcases i2 x h with h|h;·exact .inl h
      ·exact .inr (List.mem_cons_of_mem _ h)
theorem rM{nm:aI}:∀(L:List Ent),(di nm L).Sublist L
 |[]=> .slnil
 |y::L=>by
  rw[di];split;·exact List.sublist_cons_self _ _
  ·exact(rM L).cons_cons _
theorem Ch{nm:aI}{L:List Ent}(h:cQ L):cQ (di nm L):=h.sublist (rM L)
def jG(L:List Ent):Prop:=∀x∈L,x.1.owner.size≤1099511627776
def Ge(w:World):Value→Nat
 | .pointer (some a)=>match w.cell? ⟨a.block,8,none⟩with
  |some (.int _ h)=>h.toNat
  |_=>0
 |_=>0
theorem re{w:World}{a:Option Addr}{t:Tr}(h:cq w a t):Ge w (.pointer a)=t.cD:=by
 cases t with
 |leaf=>
  obtain rfl:a=none:=h;rfl
 |node l nm v r=>
  obtain⟨g,d,e,rfl,_,_,b⟩:=h;have c:w.cell? ⟨g,8,none⟩=some (.int .i64 ((Tr.node l nm v r).cD:Nat)):=b.cell 8;simp only[Ge,c,Int.toNat_natCast]
def Found(w:World)(nm:aI)(L:List Ent)(e:Ending)(w':World):Prop:=∃p,e= .returned (.pointer p)∧Fr ag w w'∧((∃g v,p=some ⟨g,0,none⟩∧eW nm L=some v∧Mid w' g nm v)∨(p=none∧eW nm L=none))
theorem xn(n:aI)(a:Option Addr)(t:Tr)(w:World)(H:cq w a t)(I:cQ t.bA)(aa:n.owner.size≤1099511627776)(ab:jG t.bA):
  Calls Tryz.prog 108 #[.pointer a, .agg n.cells.toArray] w (Found w n t.bA):=by
 have am:=af H;have ar:=af I;have ap:=af ab;have R:=af aa;clear H I aa ab;go_enter Tryz.func108,Tryz.ntmps108;go_wp2_with(refine ay rfl 106 (.tmp 1) rfl n.cells.toArray rfl ?_);intro w1 n1;have Q:=af n1.fr;have M:=af n1.aF;clear n1;generalize w.heap.size=Y at*;have av:Hid (ao w1 Y 106 n.cells.toArray):=M.out;clear M;go_wp2;go_loopw[0](fun i wr=>∃(b:Option Addr)(u:Tr),i= .pointer b∧cq wr b u∧cQ u.bA∧jG u.bA∧eW n u.bA=eW n t.bA∧Fr ag w1 wr)(fun i wr=>Ge wr i);case atStart=>exact⟨a,t,rfl,am.out.aq Q.out,ar.out,ap.out,rfl,aA⟩
 case round=>
  obtain⟨b,u,rfl,H,I,O,hF,q⟩:=hrel;have o:=af q;have m:=af hF;cases u with
  |leaf=>
   obtain rfl:b=none:=H;clear I O hF q;go_wp2;go_ret;exact⟨_,rfl,Q.out.trans o.out, .inr ⟨rfl,m.out.symm⟩⟩
  |node l nm v r=>
   have K:=af (re H);obtain⟨A,ad,ae,rfl,Z,ac,P⟩:=H;have V:=af Z;have X:=af ac;have W:Hid (Mid wr A nm v):=Mid.of P;have ai:Hid (wr.cell? ⟨A,0,none⟩=some (.pointer ad)):=P.cell 0;have ak:Hid (wr.cell? ⟨A,1,none⟩=some (.pointer ae)):=P.cell 1;have g:=af (cQ.parts I);have L:=af O;have S:=af (av.out.fr q (fun x=>x));have U:Hid (∀w',Calls Tryz.prog 128 #[.agg n.cells.toArray, .agg nm.cells.toArray] w' (aK w' (.int .i64 (bX n nm)))):=fun w'=>gT n nm w' R.out (O (nm,v) (by simp[Tr.bA]));obtain⟨z,C⟩:∃z,z=bX n nm:=⟨_,rfl⟩;rw[←C]at U;have f:=af C;clear Z ac P I O hF q C;go_upto_region 2 with fail;refine aE 7 ag [Is (.agg n.cells.toArray),Is (.pointer (some ⟨A,0,none⟩)),Is (.pointer (some ⟨A,0,none⟩)),Is (.pointer (some ⟨A,2,none⟩)),Is (.agg nm.cells.toArray),Is (.int .i64 z),Is (.int .i64 z)] [] (fun _=>True) (fun _ _=>false) (by kernel_rfl) (by kernel_rfl) (by kernel_rfl) (by kernel_rfl) ⟨Is.ah _,Is.ah _,Is.ah _,Is.ah _,Is.ah _,Is.ah _,Is.ah _,trivial⟩ trivial (fun _ _ _ _ h=>h) trivial ?_ ?_
   ·refine⟨?_,?_,?_,?_,?_,?_,?_,trivial⟩;all_goals intro u w' d N c G F s
    all_goals simp only[bJ,bK,bL,bM,au,Act.put,bN,bO,bP,Nat.reduceAdd,Nat.zero_add]
    ·clear c G F s;refine aj ?_;exact az _ _ rfl ⟨Y,0,none⟩ rfl n.cells _ (fun j x D=>by rw[Addr.add_mid,Nat.zero_add];exact(S.out.fr N (fun x=>x)).cell j|>.trans (by rw[bD];exact D)) Tryz.underlying106 rfl bB ⟨_,rfl,al⟩
    ·clear c G F s;refine aj ?_;go_simp;exact⟨_,rfl,al⟩
    ·have B:u 1=_:=c 1;clear c G F s;simp only[B];refine aj ?_;go_simp;exact⟨_,rfl,al⟩
    ·have T:u 2=_:=c 2;clear c G F s;simp only[T];refine aj ?_;go_simp;exact⟨_,rfl,al⟩
    ·have aw:u 3=_:=c 3;clear c G F s;simp only[aw];refine aj ?_;exact az _ _ rfl ⟨A,2,none⟩ rfl nm.cells _ (fun j x D=>by rw[Addr.add_mid];exact N.an (W.out.name j x D) (fun x=>x)) Tryz.underlying106 rfl bB ⟨_,rfl,al⟩
    ·have p:u 0=_:=c 0;have ax:u 4=_:=c 4;clear c G F s;simp only[p,ax];refine aj ?_;go_simp;refine(U.out _).mono ?_;rintro e aH⟨rfl,f4⟩;exact⟨_,rfl,f4.bI,rfl,trivial⟩
    ·have aB:u 5=_:=c 5;clear c G F s;simp only[aB];refine aj ?_;go_simp;exact⟨_,rfl,al⟩
   ·intro u w' N c s;have k6:u 6=_:=c 6 (by omega);clear c s;simp only[bJ,bK,bL,bM,au,Act.put,bN,bO,bP,dL,dM,Nat.reduceAdd,Nat.zero_add,k6];have k:=af N;clear N k6;by_cases p:z=0
    ·have t0:=Ia p;have J:=af p;clear p;go_wp2;go_ret;refine⟨_,rfl,Q.out.trans (o.out.trans k.out), .inl ⟨A,v,rfl,?_,?_⟩⟩;·rw[←m.out,Tr.bA,rQ _ _ (fun y E=>?_),eW,if_pos (by simp only;rw[←f.out];exact J.out)];have e:=cm.eq n nm (by rw[←f.out];exact J.out);rw[e];exact gv (g.out.2.2.1 y E)
     ·have e:=cm.eq n nm (by rw[←f.out];exact J.out);rw[e];exact W.out.aq k.out
    ·have t0:=sH p;have J:=af p;by_cases B:z<0
     ·have t1:decide (z<0)=true:=decide_eq_true B;have H1:=af B;have aD:=k.out.an ai.out (fun x=>x);clear p;go_wp2;go_roundw;case rel=>
       refine⟨ad,l,rfl,V.out.aq k.out,g.out.1,fun x D=>L.out x (by simp[Tr.bA,D]),?_,o.out.trans k.out⟩;rw[←m.out,Tr.bA,xm _ _ (fun y E=>?_)];rcases List.mem_cons.1 E with rfl|E;·have:=H1.out;rw[f.out]at this;exact this
       ·have:=H1.out;rw[f.out]at this;exact cm.trans _ _ _ this (g.out.2.2.2 y E)
      case measure=>
       rw[re (V.out.aq k.out),K.out];simp only[Tr.cD];omega
     ·have t1:decide (z<0)=false:=decide_eq_false B;have H1:=af B;have aG:=k.out.an ak.out (fun x=>x);clear p;go_wp2;go_roundw;case rel=>
       refine⟨ae,r,rfl,X.out.aq k.out,g.out.2.1,fun x D=>L.out x (by simp[Tr.bA,D]),?_,o.out.trans k.out⟩;have aC:0<bX n nm:=by have B:=J.out;have T:=H1.out;rw[f.out]at B T;omega
       rw[←m.out,Tr.bA,rQ _ _ (fun y E=>?_),eW,if_neg (by simp only;omega)];exact gv (cm.trans _ _ _ (g.out.2.2.1 y E) (kX aC))
      case measure=>
       rw[re (X.out.aq k.out),K.out];simp only[Tr.cD];omega
theorem Lf(a b:ByteArray):(a==b)=true↔a=b:=by
 constructor;·intro h;have c:(a.data==b.data)=true:=h;exact ByteArray.ext (by simpa using c)
 ·rintro rfl;have c:(a.data==a.data)=true:=by simp
  exact c
def Im(x:Ent):CV:=⟨x.1,ByteArray.empty,true⟩
def Ja(y:Ent):CV:=⟨y.1,y.2,false⟩
def iQ:List Ent→List Ent→List CV
 |[],[]=>[]
 |x::a,[]=>Im x::iQ a []
 |[],y::b=>Ja y::iQ [] b
 |x::a,y::b=>if bX x.1 y.1<0 then Im x::iQ a (y::b)else if 0<bX x.1 y.1 then Ja y::iQ (x::a) b else if(x.2==y.2)=true then iQ a b else Ja y::iQ a b
termination_by a b=>a.length+b.length
end Go.Proofs.YtphjagkehiklkaaGreatDoor
