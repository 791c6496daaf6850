/- Texts. -/
import Derived.Deep.AppendLies
import Derived.Deep.DeepCutAuto
import Derived.Deep.Fields
import Derived.Deep.RegionHeld3
import Derived.Great.Ranges
import Derived.LaidMore
import Derived.Lib.ConvBytes
import Derived.Lib.Hide
import Derived.Lib.ItoaNum
import Derived.Lib.LazyBuf
import Derived.Lib.ReflectliteSwap
import Derived.LoopIn
import Derived.LoopNIn
import Derived.OpenShut
import Derived.OwnWalkIn
import Derived.ProofKit
import Derived.RangeFuncBound
import Derived.RangeFuncNested
import Derived.Shelf.RegionOpen
import Derived.Shelf.Small.Bits
import Derived.StillTailTactics
import Derived.Stop.LaidErr
import Derived.Test.YtphjagkehiklkaaGreatDoorRows
import Derived.WalkLawsBesides
import Derived.WalkSpells
set_option linter.unusedVariables false
set_option linter.unusedSimpArgs false
set_option maxHeartbeats 4000000
set_option maxRecDepth 100000
namespace Go.Proofs.YtphjagkehiklkaaGreatDoor
open Proofs.Tryz Go.RowKit
theorem bC{α:Type}{n:Nat}{a:α}{l:List α}:(a::l).take (n+1)=a::l.take n:=rfl
theorem bD{α:Type}{l:List α}:l.take 0=[]:=rfl
theorem bE{α β:Type}{f:α->β}{a:α}{l:List α}:(a::l).map f=f a::l.map f:=rfl
theorem bF{α β:Type}{f:α->β}:([]:List α).map f=[]:=rfl
theorem bG{α:Type}{i:Nat}{a:α}{l:List α}:l.toArray.setIfInBounds i a=(l.set i a).toArray:=List.setIfInBounds_toArray ..
theorem bH{α:Type}{a b:α}{l:List α}:(a::l).set 0 b=b::l:=rfl
theorem bI{α:Type}{n:Nat}{a b:α}{l:List α}:(a::l).set (n+1) b=a::l.set n b:=rfl
theorem dt{α:Type}{n:Nat}{a:α}{l:List α}:(a::l).drop (n+1)=l.drop n:=rfl
theorem du{α:Type}{l:List α}:l.drop 0=l:=rfl
theorem af{p:Prop}(h:p):RowKit.Hid p:=h
theorem ct{p:Prop}[Decidable p](h:¬p):decide p=false:=decide_eq_false h
theorem cX{p:Prop}[Decidable p](h:p):decide p=true:=decide_eq_true h
theorem jr{α:Type}[BEq α][LawfulBEq α]{a b:α}(h:a≠b):(a==b)=false:=beq_eq_false_iff_ne.2 h
theorem aj{a b c:Prop}(h:b)(d:a:=by kernel_rfl):(a/\b)\/c:= .inl ⟨d,h⟩
theorem aT{α:Type}{l m:List α}:(l++m).length=l.length+m.length:=List.length_append
theorem ah{α:Type}{a b:α}(h:a=b):a=b:=h
theorem bP{α:Type}{l:List α}{i:Nat}:l.toArray[i]? =l[i]? :=List.getElem?_toArray
structure Fr(T:Nat->Prop)(w w':World):Prop where
 os:w'.os=w.os
 tape:w'.tape=w.tape
 output:w'.output=w.output
 size:w.heap.size<=w'.heap.size
 block:∀k,k<w.heap.size->¬T k->w'.heap[k]? =w.heap[k]?
def Nothing:Nat->Prop:=λ_=>False
def od(v:Value):Nat->Prop:=λk=>v.ownBlock=some k
section
variable{T T':Nat->Prop}{a b c w w':World}
theorem Fr.refl(T:Nat->Prop)(w:World):Fr T w w:=⟨rfl,rfl,rfl,Nat.le_refl _,λ_ _ _=>rfl⟩
theorem Fr.trans(h:Fr T a b)(k:Fr T b c):Fr T a c:=
 ⟨k.os.trans h.os,k.tape.trans h.tape,k.output.trans h.output,Nat.le_trans h.size k.size,λi d e=>(k.block i (Nat.lt_of_lt_of_le d h.size) e).trans (h.block i d e)⟩
theorem Fr.aw(h:Fr T a b)(k:Fr T' b c)(hT:∀i,i<a.heap.size->T' i->T i):Fr T a c:=
 ⟨k.os.trans h.os,k.tape.trans h.tape,k.output.trans h.output,Nat.le_trans h.size k.size,λi d e=>(k.block i (Nat.lt_of_lt_of_le d h.size) (λf=>e (hT i d f))).trans (h.block i d e)⟩
theorem Fr.mono(h:Fr T a b)(hT:∀i,i<a.heap.size->T i->T' i):Fr T' a b:=
 ⟨h.os,h.tape,h.output,h.size,λi c e=>h.block i c (λd=>e (hT i c d))⟩
theorem Fr.bR(h:Fr Nothing a b):Fr T a b:=h.mono (λ_ _ x=>x.elim)
theorem aA{T:Nat->Prop}{w:World}:Fr T w w:=Fr.refl T w
theorem al{T:Nat->Prop}{w:World}{α:Type}{a:α}:Fr T w w/\a=a/\True:=⟨Fr.refl T w,rfl,trivial⟩
theorem gI{T:Nat->Prop}{w:World}{α:Type}{a:α}:a=a/\True/\Fr T w w:=⟨rfl,trivial,Fr.refl T w⟩
theorem aR{T:Nat->Prop}{w:World}{α:Type}{a:α}:a=a/\Fr T w w:=⟨rfl,Fr.refl T w⟩
theorem Fr.drew(h:Fr T a w):Fr T a w.drew:=⟨h.os,h.tape,h.output,h.size,h.block⟩
theorem Fr.drewN(h:Fr T a w)(n:Nat):Fr T a (w.drewN n):=⟨h.os,h.tape,h.output,h.size,h.block⟩
theorem Fr.alloc(h:Fr T a w)(c:Obj):Fr T a (w.alloc c):=
 h.trans ⟨rfl,rfl,rfl,by simp,λk b _=>Below.heap_alloc _ _ _ b⟩
theorem Fr.setCell(h:Fr T a w){p:Addr}(c:p.block<a.heap.size->T p.block)(u:Value):Fr T a (w.setCell p u):=
 h.aw (T':=λk=>k=p.block) ⟨rfl,rfl,rfl,by simp[World.setCell],λk _ d=>Below.heap_setCell _ _ _ _ d⟩ (λi b e=>by subst e;exact c b)
theorem Fr.grown{row:Option Nat}(a:w.grownBy w' row):Fr (λk=>some k=row) w w':=⟨a.os,a.tape,a.output,a.size,a.block⟩
theorem Fr.below{B:Nat}(h:Fr T a b)(d:B<=a.heap.size)(hT:∀i,T i->B<=i):Below B a b:=
 ⟨h.os,h.tape,h.output,h.size,λk e=>h.block k (by omega) (λc=>by have:=hT k c;omega)⟩
theorem Fr.Lm(h:Fr Nothing a b):Below a.heap.size a b:=h.below (Nat.le_refl _) (λ_ x=>x.elim)
theorem Fr.cell(h:Fr T a b){p:Addr}(c:p.block<a.heap.size)(d:¬T p.block):b.cell? p=a.cell? p:=World.cell?_of_block (h.block p.block c d)
theorem Fr.frozen(h:Fr T a b){p:Addr}(c:p.block<a.heap.size)(d:¬T p.block):b.frozen? p=a.frozen? p:=World.frozen?_of_block (h.block p.block c d)
theorem Fr.ak(h:Fr T a b){p:Addr}{v:Value}(c:a.cell? p=some v)(d:¬T p.block):b.cell? p=some v:=(h.cell (World.block_lt_of_cell? a p c) d).trans c
end
theorem kS(a:Addr)(n:Nat):(a.add n).block=a.block:=by unfold Addr.add;split<;>rfl
theorem iQ(a:Addr)(i j:Nat):(a.add i).add j=a.add (i+j):=by
 unfold Addr.add;by_cases b:i=0<;>by_cases c:j=0<;>simp[b,c,Nat.add_assoc]
def Rd(w:World)(S:Nat->Prop)(size:Nat)(A:Option Addr)(n:Nat)(xs:List Value):Prop:=
 xs.length=n*size/\(0<n->∃a,A=some a/\S a.block/\∀j u,xs[j]? =some u->w.cell? (a.add j)=some u)
section
variable{w w':World}{S S' T:Nat->Prop}{size n:Nat}{A:Option Addr}{xs:List Value}
theorem Rd.none_:Rd w S size A 0 []:=⟨by simp,λh=>absurd h (by omega)⟩
theorem Rd.at_{k:Nat}(h:Rd w S 1 A n xs)(f:k<n):∃a u,A=some a/\S a.block/\xs[k]? =some u/\w.cell? (a.add k)=some u:=by
 obtain⟨a,e,c,d⟩:=h.2 (by omega);have b:k<xs.length:=by have:=h.1;omega
 exact⟨a,xs[k],e,c,List.getElem?_eq_getElem b,d k _ (List.getElem?_eq_getElem b)⟩
theorem Rd.kl(h:Rd w S size A n xs)(d:∀p:Addr,S p.block->∀u,w.cell? p=some u->w'.cell? p=some u):Rd w' S size A n xs:=
 ⟨h.1,λf=>by
  obtain⟨b,e,a,c⟩:=h.2 f;exact⟨b,e,a,λj u hu=>d _ (by rw[kS];exact a) u (c j u hu)⟩⟩
theorem Rd.fr(h:Rd w S size A n xs)(b:Fr T w w')(a:∀k,S k->¬T k):Rd w' S size A n xs:=h.kl λ_ c _ hu=>b.ak hu (a _ c)
theorem Rd.ao(h:Rd w S size A n xs)(a:Fr Nothing w w'):Rd w' S size A n xs:=h.fr a (λ_ _ x=>x)
theorem Rd.mono(h:Rd w S size A n xs)(b:∀k,S k->S' k):Rd w S' size A n xs:=
 ⟨h.1,λf=>by
  obtain⟨a,e,c,d⟩:=h.2 f;exact⟨a,e,b _ c,d⟩⟩
theorem Rd.cut(h:Rd w S size A n xs){k cap:Nat}(e:k<=n)(d:n<=cap):
  Rd w S size (if cap=k then A else A.map (·.add (k*size))) (n-k) (xs.drop (k*size)):=by
 refine⟨by rw[List.length_drop,h.1,Nat.sub_mul],λf=>?_⟩;obtain⟨b,rfl,c,a⟩:=h.2 (by omega);rw[if_neg (by omega)];refine⟨b.add (k*size),rfl,by rw[kS];exact c,λj u hu=>?_⟩;rw[iQ];exact a _ u (by rw[<-hu,List.getElem?_drop])
theorem Rd.take(h:Rd w S size A n xs){k:Nat}(d:k<=n):Rd w S size A k (xs.take (k*size)):=by
 refine⟨by rw[List.length_take,h.1];exact Nat.min_eq_left (Nat.mul_le_mul_right _ d),λe=>?_⟩;obtain⟨b,rfl,c,a⟩:=h.2 (by omega);refine⟨b,rfl,c,λj u hu=>a j u ?_⟩;rw[List.getElem?_take]at hu;split at hu;·exact hu
 ·cases hu
theorem Rd.ia{base:Nat}{e:TypeId}{c:Nat}(h:w.ownsRow base e size (.slice A n c) n xs):Rd w (od (.slice A n c)) size A n xs:=by
 refine⟨h.1,λd=>?_⟩;obtain⟨g,cap,f,_,b⟩:=h.form d;have a:A=some ⟨g,0,none⟩:=by injection f
 subst a;exact⟨_,rfl,rfl,h.cells (g:=g) rfl⟩
end
def aq(w:World)(g:Nat)(t:TypeId)(cs:Array Value):Prop:=w.heap[g]? =some (.cells cs t (0,0))
section
variable{w w':World}{g:Nat}{t:TypeId}{cs:Array Value}{T:Nat->Prop}
theorem aq.lt(h:aq w g t cs):g<w.heap.size:=by
 rcases Nat.lt_or_ge g w.heap.size with b|a;·exact b
 ·unfold aq at h;rw[Array.getElem?_eq_none a]at h;cases h
theorem aq.cell(h:aq w g t cs)(i:Nat):w.cell? ⟨g,i,none⟩=cs[i]? :=cell_of_row w g i cs t (0,0) h
theorem aq.frozen(h:aq w g t cs)(i:Nat):w.frozen? ⟨g,i,none⟩=false:=by
 unfold aq at h;simp[World.frozen?,h]
theorem aq.new(w:World)(t:TypeId)(cs:Array Value):aq (w.alloc (.cells cs t)) w.heap.size t cs:=heap_alloc_new w _
theorem aq.drew(h:aq w g t cs):aq w.drew g t cs:=h
theorem aq.drewN(h:aq w g t cs)(n:Nat):aq (w.drewN n) g t cs:=h
theorem aq.alloc(h:aq w g t cs)(a:Obj):aq (w.alloc a) g t cs:=(Below.heap_alloc w a g h.lt).trans h
theorem aq.kq(h:aq w g t cs)(i:Nat)(u:Value):aq (w.setCell ⟨g,i,none⟩ u) g t (cs.setIfInBounds i u):=by
 unfold aq at h⊢;simp[World.setCell,Array.getElem?_modify,h]
theorem aq.cJ(h:aq w g t cs){p:Addr}(a:g≠p.block)(u:Value):aq (w.setCell p u) g t cs:=(Below.heap_setCell w p u g a).trans h
theorem aq.fr(h:aq w g t cs)(a:Fr T w w')(hT:¬T g):aq w' g t cs:=(a.block g h.lt hT).trans h
theorem ly{w:World}{g:Nat}{t:TypeId}{l:List Value}(h:aq w g t l.toArray):∀j v,l[j]? =some v->w.cell? ((⟨g,0,none⟩:Addr).add j)=some v:=λj v a=>by
 rw[show(⟨g,0,none⟩:Addr).add j=⟨g,j,none⟩from by unfold Addr.add;split<;>simp_all,h.cell j,bP];exact a
theorem aq.qW{c:Nat}{d:TypeId}{cs':Array Value}(h:aq w g t cs)(a:aq w c d cs')(b:t≠d):g≠c:=by
 rintro rfl;unfold aq at h a;rw[h]at a;injection a with a;injection a with _ e;exact b e
theorem bO{base:Nat}{e:TypeId}{size n:Nat}{v:Value}{xs:List Value}(h:w.ownsRow base e size v n xs)(c:aq w g t cs)(a:e≠t):v.ownBlock≠some g:=by
 rcases h.2 with⟨rfl,_⟩|⟨b,cap,cur,rfl,_,d,_⟩;·simp[Value.ownBlock]
 ·intro he;have:b=g:=by simpa[Value.ownBlock]using he
  subst this;exact aq.qW (t:=e) d c a rfl
theorem aP{base:Nat}{e:TypeId}{size n:Nat}{v:Value}{xs:List Value}(h:w.ownsRow base e size v n xs)(c:Fr T w w')(hT:∀k,v.ownBlock=some k->¬T k):w'.ownsRow base e size v n xs:=by
 refine⟨h.1,?_⟩;rcases h.2 with d|⟨g,cap,cur,rfl,b,a,rest⟩;·exact .inl d
 ·exact .inr ⟨g,cap,cur,rfl,b,(c.block g (Array.getElem?_eq_some_iff.1 a).1 (hT g rfl)).trans a,rest⟩
end
end Go.Proofs.YtphjagkehiklkaaGreatDoor
namespace Go.Proofs.YtphjagkehiklkaaGreatDoor
open Proofs.Tryz Go.RowKit
theorem wF{w:World}{base:Nat}{e:TypeId}{size n:Nat}{v:Value}{xs:List Value}(h:w.ownsRow base e size v n xs):∃A c,v= .slice A n c/\n<=c:=by
 rcases h.2 with⟨rfl,rfl⟩|⟨g,cap,cur,rfl,_,_,a,_⟩;·exact⟨none,0,rfl,Nat.le_refl _⟩
 ·exact⟨_,cap,rfl,a⟩
theorem aK{w:World}{base:Nat}{e:TypeId}{size n:Nat}{v:Value}{xs:List Value}(h:w.ownsRow base e size v n xs):∃A m c,v= .slice A m c/\Hid (m=n)/\Hid (m<=c):=by
 obtain⟨A,c,a,b⟩:=wF h;exact⟨A,n,c,a,rfl,b⟩
structure bT(e:TypeId)(size:Nat)(w:World)(v:Value)(w':World)(a:Value)(n:Nat)(xs:List Value):Prop where
 own:w'.ownsRow 0 e size a n xs
 fr:Fr (od v) w w'
 eL:∀k,a.ownBlock=some k->v.ownBlock=some k\/w.heap.size<=k
theorem bT.start{e:TypeId}{size:Nat}{w:World}{v:Value}{n:Nat}{xs:List Value}(h:w.ownsRow 0 e size v n xs):bT e size w v w v n xs:=
 ⟨h,aA,λ_ a=> .inl a⟩
theorem bT.trans{e:TypeId}{size:Nat}{w w1 w2:World}{v v1 v2:Value}{n m:Nat}{xs c:List Value}(h:bT e size w v w1 v1 n xs)(k:bT e size w1 v1 w2 v2 m c):bT e size w v w2 v2 m c:=
  ⟨k.own,h.fr.aw k.fr (λi b d=>by rcases h.eL i d with a|a;exact a;omega),
   λi b=>by
    rcases k.eL i b with a|a;· exact h.eL i a
    · exact .inr (Nat.le_trans h.fr.size a)⟩
theorem bT.ahead{e:TypeId}{size:Nat}{w w1 w2:World}{v v2:Value}{m:Nat}{b:List Value}(h:Fr Nothing w w1)(k:bT e size w1 v w2 v2 m b):bT e size w v w2 v2 m b:=
 ⟨k.own,(h.bR).trans k.fr,λi c=>by
  rcases k.eL i c with a|a;·exact .inl a
  ·exact .inr (Nat.le_trans h.size a)⟩
theorem bT.behind{e:TypeId}{size:Nat}{w w1 w2:World}{v v1:Value}{m:Nat}{a:List Value}(h:bT e size w v w1 v1 m a)(k:Fr Nothing w1 w2):bT e size w v w2 v1 m a:=
 ⟨aP h.own k (λ_ _ x=>x),h.fr.trans k.bR,h.eL⟩
theorem bT.fresh{e:TypeId}{size:Nat}{w w1 w2:World}{v v2:Value}{m:Nat}{d:List Value}(h:Fr Nothing w w1)(c:∀k,v.ownBlock=some k->w.heap.size<=k)(k:bT e size w1 v w2 v2 m d):bT e size w (.slice none 0 0) w2 v2 m d:=
 ⟨k.own,(h.aw k.fr (λi b f=>by have:=c i f;omega)).bR,λi b=>by
  rcases k.eL i b with a|a;·exact .inr (c i a)
  ·exact .inr (Nat.le_trans h.size a)⟩
theorem bT.ao{e:TypeId}{size:Nat}{w w2:World}{v2:Value}{m:Nat}{a:List Value}(k:bT e size w (.slice none 0 0) w2 v2 m a):Fr Nothing w w2:=
 k.fr.mono (λi _ h=>by simp[od,Value.ownBlock]at h)
theorem bT.new{e:TypeId}{size:Nat}{w w2:World}{v2:Value}{m:Nat}{b:List Value}(k:bT e size w (.slice none 0 0) w2 v2 m b):∀i,v2.ownBlock=some i->w.heap.size<=i:=λi a=>by
 rcases k.eL i a with h|h;·simp[Value.ownBlock]at h
 ·exact h
section
variable{P:Program}(w:World)
theorem ri(base:Nat)(t ty e:TypeId)(i:TypeInfo)(size:Nat)(f:P.underlying t=some (.slice e))(d:P.info? e=some i)
  (v:Value)(n:Nat)(xs:List Value)(a:w.ownsRow base e size v n xs)(c:Nat):(Builtin.append_ #[t,t] ty #[v, .slice none 0 c]).run P w= .ok v w:=by
 rcases a.2 with⟨rfl,rfl⟩|⟨g,cap,cur,rfl,_,_,b,_⟩;·simp[Builtin.append_,run_underlying f,sizeOf,typeInfo,d,Builtin.lenOf,Builtin.firstCells]
 ·simp[Builtin.append_,run_underlying f,sizeOf,typeInfo,d,Builtin.lenOf,Builtin.firstCells,b,storeCells]
theorem Cq(t ty e:TypeId)(i:TypeInfo)(z:Value)(size bytes:Nat)(G:P.underlying t=some (.slice e))(F:P.info? e=some i)(M:i.zero=some z)
  (g:i.size=size)(B:i.bytes=bytes)(E:z.cells.size=size)(D:0<size)
  (v:Value)(n:Nat)(xs:List Value)(a:w.ownsRow 0 e size v n xs)
  (S:Nat->Prop)(A:Option Addr)(m c:Nat)(news:List Value)(p:Rd w S size A m news)(I:∀u∈news,u.oneCell'=true)
  (b:(n+m)*bytes<=140737488355328)(y:1<=bytes):
  ∃r w',(Builtin.append_ #[t,t] ty #[v, .slice A m c]).run P w= .ok r w'/\bT e size w v w' r (n+m) (xs++news):=by
 have x:n+m<=maxLen:=by
  have:n+m<=(n+m)*bytes:=Nat.le_mul_of_pos_right _ y;simp only[maxLen];omega
 rcases A with _|s
 ·have hm:m=0:=by
   rcases Nat.eq_zero_or_pos m with f|f;·exact f
   ·obtain⟨s,h,_⟩:=p.2 f;cases h
  subst hm;have C:news=[]:=List.eq_nil_of_length_eq_zero (by simpa using p.1);subst C;exact⟨v,w,ri w 0 t ty e i size G F v n xs a c,by simpa using bT.start a⟩
 ·have d:∀j u,news[j]? =some u->w.cell? (s.add j)=some u:=by
   intro j u hu;rcases Nat.eq_zero_or_pos m with f|f;·subst f;have C:news=[]:=List.eq_nil_of_length_eq_zero (by simpa using p.1);subst C;simp at hu
   ·obtain⟨H,h,_,L⟩:=p.2 f;injection h with h;subst h;exact L j u hu
  obtain⟨r,w',q,J,K,_,o⟩:=run_append_own_at (P:=P) w 0 t ty e i z size bytes G F M g B E D v n xs a s m c news p.1 d I x b (Nat.zero_le _);refine⟨r,w',q,J,(Fr.grown K).mono (λk _ l=>l.symm),λk l=>?_⟩;rcases o with o|o;·exact .inl (o▸l)
  ·rw[o]at l;exact .inr (by injection l with l;omega)
theorem uM{H:Oper}{a:Act}{K:Act->World->Prop}{Q:Exit->Act->World->Prop}(s x:Operand)(t:TypeId)
  (B:H.op= .call {callee:= .builtin .append,args:=#[s,x],argTypes:=#[t,t]})
  (e:TypeId)(i:TypeInfo)(z:Value)(size bytes:Nat)(E:P.underlying t=some (.slice e))(y:P.info? e=some i)(G:i.zero=some z)
  (d:i.size=size)(l:i.bytes=bytes)(p:z.cells.size=size)(o:0<size)
  (v:Value)(n:Nat)(xs:List Value)(D:a.eval s=v)(f:w.ownsRow 0 e size v n xs)
  (S:Nat->Prop)(A:Option Addr)(m c:Nat)(news:List Value)(F:a.eval x= .slice A m c)(C:Rd w S size A m news)(q:∀u∈news,u.oneCell'=true)
  (b:(n+m)*bytes<=140737488355328)(k:1<=bytes)
  (h:∀j w',bT e size w v w' j (n+m) (xs++news)->K (a.put H.dst j) w'):H.wp P a w K Q:=by
 obtain⟨j,w',g,r⟩:=Cq (P:=P) w t H.type e i z size bytes E y G d l p o v n xs f S A m c news C q b k;unfold Oper.wp execOp;simp only[B,resolve,invoke,builtin,Sem.run_bind,Sem.run_pure,Result.andThen_ok,List.map_toArray,List.map_cons,List.map_nil,D,F,g];exact h j w' r
theorem fJ{ops:Array Oper}{rest:List Oper}{I:Oper}{a:Act}{Q:Exit->Act->World->Prop}(l:I.guard=none)(s x:Operand)(t:TypeId)
  (C:I.op= .call {callee:= .builtin .append,args:=#[s,x],argTypes:=#[t,t]})
  (e:TypeId)(i:TypeInfo)(z:Value)(size bytes:Nat)(F:P.underlying t=some (.slice e))(B:P.info? e=some i)(H:i.zero=some z)
  (d:i.size=size)(k:i.bytes=bytes)(p:z.cells.size=size)(o:0<size)
  (v:Value)(n:Nat)(xs:List Value)(E:a.eval s=v)(f:w.ownsRow 0 e size v n xs)
  (S:Nat->Prop)(A:Option Addr)(m c:Nat)(news:List Value)(G:a.eval x= .slice A m c)(D:Rd w S size A m news)(q:∀u∈news,u.oneCell'=true)
  (b:(n+m)*bytes<=140737488355328)(j:1<=bytes)
  (h:∀g w',bT e size w v w' g (n+m) (xs++news)->wpList P ops Q rest (a.put I.dst g) w'):wpList P ops Q (I::rest) a w:=
 wpList_plain l λ_ y=>uM w s x t C e i z size bytes F B H d k p o v n xs E f S A m c news G D q b j λg w' r=>y _ _ (h g w' r)
theorem uL(cs:Array Value)(e:TypeId)(size n:Nat)(b:cs.size=n*size):Rd (w.alloc (.cells cs e)) (λk=>k=w.heap.size) size (some ⟨w.heap.size,0,none⟩) n cs.toList:=by
 refine⟨by simpa using b,λ_=>⟨_,rfl,rfl,λj u hu=>?_⟩⟩;have a:=aq.new w e cs;have h:=a.cell j;rw[show(⟨w.heap.size,0,none⟩:Addr).add j=⟨w.heap.size,j,none⟩by unfold Addr.add;split<;>simp_all];rw[h];simpa using hu
theorem cQ{ops:Array Oper}{rest:List Oper}{G:Oper}{a:Act}{Q:Exit->Act->World->Prop}(p:G.guard=none)(s x:Operand)(t:TypeId)
  (B:G.op= .call {callee:= .builtin .append,args:=#[s,x],argTypes:=#[t,t]})
  (e:TypeId)(i:TypeInfo)(z:Value)(size bytes:Nat)(D:P.underlying t=some (.slice e))(A:P.info? e=some i)(F:i.zero=some z)
  (c:i.size=size)(k:i.bytes=bytes)(r:z.cells.size=size)(q:0<size)
  (v:Value)(n:Nat)(xs:List Value)(C:a.eval s=v)(d:w.ownsRow 0 e size v n xs)
  (m:Nat)(cs:Array Value)(g:Nat)(o:g=w.heap.size)(E:a.eval x= .slice (some ⟨g,0,none⟩) m m)(l:cs.size=m*size)(y:∀u∈cs.toList,u.oneCell'=true)
  (b:(n+m)*bytes<=140737488355328)(j:1<=bytes)
  (h:∀f w',bT e size w v w' f (n+m) (xs++cs.toList)->wpList P ops Q rest (a.put G.dst f) w'):wpList P ops Q (G::rest) a (w.alloc (.cells cs e)):=by
 subst o;exact fJ _ p s x t B e i z size bytes D A F c k r q v n xs C (d.alloc _) _ _ m m cs.toList E (uL w cs e size m l) y b j
  (λf w' o=>h f w' (o.ahead (aA.alloc _)))
theorem uy(t u ty e:TypeId)(i:TypeInfo)(q:P.underlying t=some (.slice e))(hu:P.underlying u=some .string)(o:P.info? e=some i)(A:i.zero=some (.int .u8 0))
  (b:i.size=1)(h:i.bytes=1)
  (v:Value)(n:Nat)(xs:List Value)(c:w.ownsRow 0 e 1 v n xs)(s:ByteArray)(d:n+s.size<=140737488355328):
  ∃m w',(Builtin.append_ #[t,u] ty #[v, .string s]).run P w= .ok m w'/\bT e 1 w v w' m (n+s.size) (xs++Lib.strCells s):=by
 have r:n+s.size<=maxLen:=by simp only[maxLen];omega
 obtain⟨m,w',p,B,C,D⟩:=Lib.run_append_own_string (P:=P) w 0 t u ty e i q hu o A b h v n xs c s r d (Nat.zero_le _);refine⟨m,w',p,B,(Fr.grown C).mono (λk _ f=>f.symm),?_⟩;have z:xs.length=n:=by simpa using c.1
 rcases c.2 with⟨rfl,rfl⟩|⟨g,cap,cur,rfl,E,G,H,F,x,y⟩
 ·by_cases hm:s.size=0;·have:m= .slice none 0 0:=D.2 ⟨rfl,hm⟩;subst this;intro k f;simp[Value.ownBlock]at f
  ·have a:=run_append_nil_string (P:=P) w t u ty e i (.int .u8 0) q hu o A s (by omega) (by omega) (by rw[h];omega);rw[p]at a;injection a with a _;subst a;intro k f;simp[Value.ownBlock]at f;exact .inr (by omega)
 ·by_cases l:n+s.size<=cap;·have a:=Lib.run_append_room_string (P:=P) w t u ty e i q hu o b g n cap cur G s l (by rw[x];omega);rw[p]at a;injection a with a _;subst a;intro k f;exact .inl f
  ·have holds:∀j u,xs[j]? =some u->w.cell? ((⟨g,0,none⟩:Addr).add j)=some u:=c.cells (g:=g) rfl;have a:=Lib.run_append_grow_string (P:=P) w t u ty e i (.int .u8 0) q hu o A ⟨g,0,none⟩ n cap xs (by rw[b];simpa using z) holds s (by omega) (by omega) (by rw[h];exact growslice_fits (by omega) (by omega));rw[p]at a;injection a with a _;subst a;intro k f;simp[Value.ownBlock]at f;exact .inr (by omega)
theorem mI{ops:Array Oper}{rest:List Oper}{A:Oper}{a:Act}{Q:Exit->Act->World->Prop}(j:A.guard=none)(sl x:Operand)(t u:TypeId)
  (o:A.op= .call {callee:= .builtin .append,args:=#[sl,x],argTypes:=#[t,u]})
  (e:TypeId)(i:TypeInfo)(r:P.underlying t=some (.slice e))(hu:P.underlying u=some .string)(m:P.info? e=some i)(z:i.zero=some (.int .u8 0))
  (c:i.size=1)(g:i.bytes=1)
  (v:Value)(n:Nat)(xs:List Value)(q:a.eval sl=v)(d:w.ownsRow 0 e 1 v n xs)(s:ByteArray)(y:a.eval x= .string s)
  (b:n+s.size<=140737488355328)
  (h:∀f w',bT e 1 w v w' f (n+s.size) (xs++Lib.strCells s)->wpList P ops Q rest (a.put A.dst f) w'):wpList P ops Q (A::rest) a w:=by
 refine wpList_plain j λK l=>?_;obtain⟨f,w',p,k⟩:=uy (P:=P) w t u A.type e i r hu m z c g v n xs d s b;unfold Oper.wp execOp;simp only[o,resolve,invoke,builtin,Sem.run_bind,Sem.run_pure,Result.andThen_ok,List.map_toArray,List.map_cons,List.map_nil,q,y,p];exact l _ _ (h f w' k)
end
end Go.Proofs.YtphjagkehiklkaaGreatDoor
namespace Go.Proofs.YtphjagkehiklkaaGreatDoor
open Proofs.Tryz Go.RowKit
structure In(C:World->Prop)where
 w:World
 h:C w
theorem In.call{P:Program}{f:FuncId}{args:Array Value}{C:World->Prop}{x:In C}{v:Value}
  (h:Calls P f args x.w λe w'=>e= .returned v/\C w'):Calls P f args x.w λe a=>e= .returned v/\∃y:In C,a=y.w:=
 h.mono λ_ w'⟨he,b⟩=>⟨he,⟨w',b⟩,rfl⟩
theorem In.same{P:Program}{f:FuncId}{args:Array Value}{C:World->Prop}{x:In C}{v:Value}
  (h:Calls P f args x.w λe w'=>e= .returned v/\x.w=w'):Calls P f args x.w λe a=>e= .returned v/\∃y:In C,a=y.w:=
 h.mono λ_ _⟨he,hw⟩=>⟨he,x,hw.symm⟩
abbrev yT(a:World):World->Prop:=λw=>Fr Nothing a w
instance yT.ne(a:World):Nonempty (In (yT a)):=⟨⟨a,aA⟩⟩
theorem In.later{P:Program}{f:FuncId}{args:Array Value}{b:World}{x:In (yT b)}{v:Value}
  (h:Calls P f args x.w λe w'=>e= .returned v/\Fr Nothing x.w w'):Calls P f args x.w λe a=>e= .returned v/\∃y:In (yT b),a=y.w:=
 In.call (h.mono λ_ _⟨he,c⟩=>⟨he,x.h.trans c⟩)
end Go.Proofs.YtphjagkehiklkaaGreatDoor
namespace Go.Proofs.YtphjagkehiklkaaGreatDoor
open Proofs.Tryz Go.RowKit
abbrev Old(w:World):Nat->Prop:=λk=>k<w.heap.size
section
variable{X:Type}(cells:X->List Value)(size:Nat)
theorem rR(a:∀x,(cells x).length=size)(l:List X):(l.flatMap cells).length=l.length*size:=by
 induction l with
 |nil=>simp
 |cons x l b=>rw[List.flatMap_cons,aT,b,a,List.length_cons,Nat.succ_mul];omega
theorem Bf(a:∀x,(cells x).length=size):∀(l:List X)(k j:Nat)(x:X),l[k]? =some x->j<size->(l.flatMap cells)[k*size+j]? =(cells x)[j]?
 |[],k,j,x,h,_=>by simp at h
 |y::l,0,j,x,h,b=>by
  simp at h;subst h;rw[List.flatMap_cons,Nat.zero_mul,Nat.zero_add,List.getElem?_append_left (by rw[a];exact b)]
 |y::l,k+1,j,x,h,b=>by
  have e:(k+1)*size+j=size+(k*size+j):=by rw[Nat.succ_mul];omega
  rw[List.flatMap_cons,e,List.getElem?_append_right (by rw[a];omega),a,Nat.add_sub_cancel_left];exact Bf a l k j x (by simpa using h) b
theorem zS{w:World}{a:Addr}{len:Nat}(e:X->Prop)(g:∀x,(cells x).length=size)(A:0<size)
  (h:∀i,i<len->∃x:X,e x/\∀j u,(cells x)[j]? =some u->w.cell? ((a.add (i*size)).add j)=some u):
  ∃l:List X,l.length=len/\(∀x∈l,e x)/\Rd w (Old w) size (some a) len (l.flatMap cells):=by
 have D:∀i:Nat,∃x:Option X,i<len->∃y,x=some y/\e y/\∀j u,(cells y)[j]? =some u->w.cell? ((a.add (i*size)).add j)=some u:=by
  intro i;by_cases r:i<len;·obtain⟨x,c⟩:=h i r;exact⟨some x,λ_=>⟨x,rfl,c⟩⟩
  ·exact⟨none,λF=>absurd F r⟩
 obtain⟨f,q⟩:=Classical.axiomOfChoice D;have key:∀m,m<=len->∃l:List X,l.length=m/\(∀x∈l,e x)/\∀i,i<m->l[i]? =f i:=by
  intro m;induction m with
  |zero=>intro _;exact⟨[],rfl,by simp,by omega⟩
  |succ m J=>
   intro hm;obtain⟨l,d,n,o⟩:=J (by omega);obtain⟨y,k,H,_⟩:=q m (by omega);refine⟨l++[y],by simp[d],?_,λi r=>?_⟩
   ·intro x c;rcases List.mem_append.1 c with c|c;·exact n x c
    ·rw[List.mem_singleton.1 c];exact H
   ·rcases Nat.lt_or_ge i m with t|E;·rw[List.getElem?_append_left (by omega)];exact o i t
    ·obtain rfl:i=m:=by omega
     rw[List.getElem?_append_right (by omega),d,k];simp
 obtain⟨l,d,n,o⟩:=key len (Nat.le_refl _);have b:∀j u,(l.flatMap cells)[j]? =some u->w.cell? (a.add j)=some u:=by
  intro j u hu;have s:j<len*size:=by
   have:=(List.getElem?_eq_some_iff.1 hu).1;rw[rR cells size g,d]at this;exact this
  have C:j/size<len:=Nat.div_lt_of_lt_mul (by rw[Nat.mul_comm];exact s);have I:j%size<size:=Nat.mod_lt _ A;have B:j/size*size+j%size=j:=by rw[Nat.mul_comm];exact Nat.div_add_mod j size
  obtain⟨y,k,_,p⟩:=q (j/size) C;have v:l[j/size]? =some y:=(o _ C).trans k;rw[<-B,Bf cells size g l _ _ y v I]at hu;have:=p _ u hu;rw[iQ,B]at this;exact this
 refine⟨l,d,n,by rw[rR cells size g,d],λG=>⟨a,rfl,?_,b⟩⟩;obtain⟨y,k,_,p⟩:=q 0 G;have z:0<(cells y).length:=by rw[g];exact A
 have:=World.block_lt_of_cell? w _ (p 0 _ (List.getElem?_eq_getElem z));rw[kS,kS]at this;exact this
end
end Go.Proofs.YtphjagkehiklkaaGreatDoor
namespace Go.Proofs.YtphjagkehiklkaaGreatDoor
def dS(n x:Nat):Nat:=(x/2^n)|||(x*2^(32-n)%4294967296)
def cN(a b:Nat):Nat:=(a+b)%4294967296
def fG(a b:Nat):Nat:=a^^^b
def iF(a b:Nat):Nat:=a&&&b
def pI(a:Nat):Nat:=4294967295-a
theorem Kl{a b:Nat}(c:a<4294967296)(d:b<4294967296):a|||b<4294967296:=Nat.or_lt_two_pow (n:=32) (by omega) (by omega)
theorem nV{a b:Nat}(c:a<4294967296)(d:b<4294967296):fG a b<4294967296:=Nat.xor_lt_two_pow (n:=32) (by omega) (by omega)
theorem kt{a b:Nat}(c:a<4294967296):iF a b<4294967296:=Nat.lt_of_le_of_lt Nat.and_le_left c
theorem gL(a b:Nat):cN a b<4294967296:=Nat.mod_lt _ (by omega)
theorem yw(a:Nat):pI a<4294967296:=by unfold pI;omega
theorem gD(n x:Nat)(a:x<4294967296):dS n x<4294967296:=
 Kl (Nat.lt_of_le_of_lt (Nat.div_le_self _ _) a) (Nat.mod_lt _ (by omega))
theorem EK(a:Nat)(c:a<4294967296):4294967295^^^a=pI a:=by
 have b:(BitVec.allOnes 32^^^BitVec.ofNat 32 a).toNat=(~~~(BitVec.ofNat 32 a)).toNat:=by rw[BitVec.allOnes_xor]
 rw[BitVec.toNat_not,BitVec.toNat_xor,BitVec.toNat_allOnes,BitVec.toNat_ofNat,Nat.mod_eq_of_lt (by simpa using c)]at b;simpa[pI]using b
def ts(a b c d:Nat):Nat:=a*16777216+b*65536+c*256+d
def wZ(x:Nat):Nat:=fG (fG (dS 7 x) (dS 18 x)) (x/8)
def Ct(x:Nat):Nat:=fG (fG (dS 17 x) (dS 19 x)) (x/1024)
def I2(b:List UInt8)(t:Nat):Nat:=ts ((b[4*t]?.getD 0).toNat) ((b[4*t+1]?.getD 0).toNat) ((b[4*t+2]?.getD 0).toNat) ((b[4*t+3]?.getD 0).toNat)
def dA(b:List UInt8):Nat->List Nat
 |0=>[]
 |t+1=>dA b t++[if t<16 then I2 b t else
   cN (cN (cN ((dA b t)[t-16]?.getD 0) (wZ ((dA b t)[t-15]?.getD 0))) ((dA b t)[t-7]?.getD 0)) (Ct ((dA b t)[t-2]?.getD 0))]
structure cZ where
 a:Nat
 b:Nat
 c:Nat
 d:Nat
 e:Nat
 f:Nat
 g:Nat
 h:Nat
structure cZ.ok(s:cZ):Prop where
 a:s.a<4294967296
 b:s.b<4294967296
 c:s.c<4294967296
 d:s.d<4294967296
 e:s.e<4294967296
 f:s.f<4294967296
 g:s.g<4294967296
 h:s.h<4294967296
def nf(s:cZ)(k w:Nat):Nat:=cN (cN (cN (cN s.h (fG (fG (dS 6 s.e) (dS 11 s.e)) (dS 25 s.e))) (fG (iF s.e s.f) (iF (pI s.e) s.g))) k) w
def sc(s:cZ):Nat:=cN (fG (fG (dS 2 s.a) (dS 13 s.a)) (dS 22 s.a)) (fG (fG (iF s.a s.b) (iF s.a s.c)) (iF s.b s.c))
def round(s:cZ)(k w:Nat):cZ:=⟨cN (nf s k w) (sc s),s.a,s.b,s.c,cN s.d (nf s k w),s.e,s.f,s.g⟩
def tZ:List Nat:=[1116352408,1899447441,3049323471,3921009573,961987163,1508970993,2453635748,2870763221,3624381080,310598401,607225278,1426881987,1925078388,2162078206,2614888103,3248222580,3835390401,4022224774,264347078,604807628,770255983,1249150122,1555081692,1996064986,2554220882,2821834349,2952996808,3210313671,3336571891,3584528711,113926993,338241895,666307205,773529912,1294757372,1396182291,1695183700,1986661051,2177026350,2456956037,2730485921,2820302411,3259730800,3345764771,3516065817,3600352804,4094571909,275423344,430227734,506948616,659060556,883997877,958139571,1322822218,1537002063,1747873779,1955562222,2024104815,2227730452,2361852424,2428436474,2756734187,3204031479,3329325298]
def eC:cZ:=⟨1779033703,3144134277,1013904242,2773480762,1359893119,2600822924,528734635,1541459225⟩
def rounds(w:List Nat)(s:cZ):Nat->cZ
 |0=>s
 |t+1=>round (rounds w s t) (tZ[t]?.getD 0) (w[t]?.getD 0)
def Ga(s v:cZ):cZ:=⟨cN s.a v.a,cN s.b v.b,cN s.c v.c,cN s.d v.d,cN s.e v.e,cN s.f v.f,cN s.g v.g,cN s.h v.h⟩
def fZ(s:cZ)(b:List UInt8):cZ:=Ga s (rounds (dA b 64) s 64)
theorem cZ.Ki(s:cZ)(k w:Nat)(h:s.ok):(round s k w).ok:=
 ⟨gL _ _,h.a,h.b,h.c,gL _ _,h.e,h.f,h.g⟩
theorem wR(w:List Nat)(s:cZ)(h:s.ok):∀t,(rounds w s t).ok
 |0=>h
 |t+1=>cZ.Ki _ _ _ (wR w s h t)
theorem Ay(s v:cZ):(Ga s v).ok:=⟨gL _ _,gL _ _,gL _ _,gL _ _,gL _ _,gL _ _,gL _ _,gL _ _⟩
theorem Ml(b:List UInt8)(t:Nat):I2 b t<4294967296:=by
 unfold I2 ts;have a:=(b[4*t]?.getD 0).toNat_lt;have c:=(b[4*t+1]?.getD 0).toNat_lt;have d:=(b[4*t+2]?.getD 0).toNat_lt;have e:=(b[4*t+3]?.getD 0).toNat_lt;omega
theorem kb(b:List UInt8):∀t,(dA b t).length=t
 |0=>rfl
 |t+1=>by simp[dA,kb b t]
theorem wY(b:List UInt8):∀t,∀x∈dA b t,x<4294967296
 |0=>by simp[dA]
 |t+1=>by
  intro x a;simp only[dA,List.mem_append,List.mem_singleton]at a;rcases a with a|a;·exact wY b t x a
  ·rw[a];split;·exact Ml b t
   ·exact gL _ _
end Go.Proofs.YtphjagkehiklkaaGreatDoor
namespace Go.Proofs.YtphjagkehiklkaaGreatDoor
def iP(n:Nat):UInt8:=UInt8.ofNat n
def gO(s:cZ)(l:List UInt8):Nat->cZ
 |0=>s
 |k+1=>fZ (gO s l k) ((l.drop (64*k)).take 64)
def len8(n:Nat):List UInt8:=[iP (8*n/72057594037927936),iP (8*n/281474976710656),iP (8*n/1099511627776),iP (8*n/4294967296),iP (8*n/16777216),iP (8*n/65536),iP (8*n/256),iP (8*n)]
def ud(l:List UInt8):List UInt8:=l++128::(List.replicate ((119-l.length%64)%64) 0++len8 l.length)
def eG(x:Nat):List UInt8:=[iP (x/16777216),iP (x/65536),iP (x/256),iP x]
def ey(s:cZ):List UInt8:=eG s.a++eG s.b++eG s.c++eG s.d++eG s.e++eG s.f++eG s.g++eG s.h
def eW(l:List UInt8):List UInt8:=ey (gO eC (ud l) ((ud l).length/64))
def iG(tag:UInt8)(a:List (List UInt8)):List UInt8:=tag::iP a.length::a.flatMap λp=>eG p.length++p
theorem jA(s:cZ):(ey s).length=32:=rfl
theorem iq(l:List UInt8):(eW l).length=32:=rfl
theorem jh(n:Nat):(len8 n).length=8:=rfl
theorem rZ(l:List UInt8):(ud l).length=l.length+9+(119-l.length%64)%64:=by
 simp only[ud,aT,List.length_cons,List.length_replicate,jh];omega
theorem Cp(s:cZ)(l:List UInt8)(h:s.ok):∀k,(gO s l k).ok
 |0=>h
 |_+1=>Ay _ _
theorem yp:eC.ok:=by constructor<;>decide
theorem j9(s:cZ)(l r:List UInt8):∀k,64*k<=l.length->gO s (l++r) k=gO s l k
 |0,_=>rfl
 |k+1,a=>by
  rw[gO,gO,j9 s l r k (by omega)];congr 1;rw[List.drop_append_of_le_length (by omega),List.take_append_of_le_length (by rw[List.length_drop];omega)]
theorem rf(s:cZ)(l b:List UInt8)(k:Nat)(c:l.length=64*k)(a:b.length=64)(r:List UInt8):gO s (l++(b++r)) (k+1)=fZ (gO s l k) b:=by
 rw[gO,j9 s l _ k (by omega),<-c,List.drop_left,<-a,List.take_left]
theorem Fo(m t:List UInt8)(q:Nat)(hm:m.length=64*q)(c:t.length<56):
  eW (m++t)=ey (fZ (gO eC m q) (t++128::(List.replicate (55-t.length) 0++len8 (64*q+t.length)))):=by
 unfold eW;have a:(m++t).length=64*q+t.length:=by rw[aT,hm]
 have b:(ud (m++t)).length=64*(q+1):=by rw[rZ,a];omega
 rw[b,Nat.mul_div_cancel_left _ (by omega:0<64)];congr 1;unfold ud;rw[a,show(119-(64*q+t.length)%64)%64=55-t.length by omega,List.append_assoc];have:=rf eC m (t++128::(List.replicate (55-t.length) 0++len8 (64*q+t.length))) q hm (by simp[jh];omega) [];rw[List.append_nil]at this;exact this
theorem IS(m t:List UInt8)(q:Nat)(hm:m.length=64*q)(f:56<=t.length)(c:t.length<64):
  eW (m++t)=ey (fZ (fZ (gO eC m q) (t++128::List.replicate (63-t.length) 0)) (List.replicate 56 0++len8 (64*q+t.length))):=by
 unfold eW;have a:(m++t).length=64*q+t.length:=by rw[aT,hm]
 have b:(ud (m++t)).length=64*(q+2):=by rw[rZ,a];omega
 rw[b,Nat.mul_div_cancel_left _ (by omega:0<64)];congr 1;unfold ud;have d:List.replicate (119-t.length) (0:UInt8)=List.replicate (63-t.length) 0++List.replicate 56 0:=by
  rw[List.replicate_append_replicate];congr 1;omega
 rw[a,show(119-(64*q+t.length)%64)%64=119-t.length by omega,d];have e:m++t++128::(List.replicate (63-t.length) 0++List.replicate 56 0++len8 (64*q+t.length))=(m++(t++128::List.replicate (63-t.length) 0))++((List.replicate 56 0++len8 (64*q+t.length))++[]):=by simp
 rw[e,rf eC _ _ (q+1) (by simp[hm];omega) (by simp[jh])];have:=rf eC m (t++128::List.replicate (63-t.length) 0) q hm (by simp;omega) [];rw[List.append_nil]at this;rw[this]
end Go.Proofs.YtphjagkehiklkaaGreatDoor
namespace Go.Proofs.YtphjagkehiklkaaGreatDoor
def lJ(M rest:List UInt8):Prop:=rest.length=64/\rest.take (M.length%64)=M.drop (64*(M.length/64))
def cR(rest:List UInt8)(a:Nat)(X:List UInt8):List UInt8:=rest.take a++X++rest.drop (a+X.length)
theorem kD{rest:List UInt8}{a:Nat}{X:List UInt8}(h:rest.length=64)(b:a+X.length<=64):(cR rest a X).length=64:=by
 simp[cR];omega
theorem Er{M rest X:List UInt8}(h:lJ M rest)(c:M.length%64+X.length<64):
  lJ (M++X) (cR rest (M.length%64) X)/\gO eC (M++X) ((M++X).length/64)=gO eC M (M.length/64):=by
 have b:(M++X).length=M.length+X.length:=aT;have a:(M++X).length/64=M.length/64:=by rw[b];omega
 have hm:(M++X).length%64=M.length%64+X.length:=by rw[b];omega
 refine⟨⟨kD h.1 (by omega),?_⟩,?_⟩;·rw[hm,a,List.drop_append_of_le_length (by omega),<-h.2,cR];rw[List.take_left' (by have:=h.1;simp;omega)]
 ·rw[a];exact j9 eC M X _ (by omega)
theorem Ep{M rest X:List UInt8}(h:lJ M rest)(c:M.length%64+X.length=64):
  lJ (M++X) (cR rest (M.length%64) X)/\gO eC (M++X) ((M++X).length/64)=fZ (gO eC M (M.length/64)) (cR rest (M.length%64) X):=by
 have a:(M++X).length=M.length+X.length:=aT;have b:(M++X).length/64=M.length/64+1:=by rw[a];omega
 have hm:(M++X).length%64=0:=by rw[a];omega
 refine⟨⟨kD h.1 (by omega),?_⟩,?_⟩;·rw[hm,b,List.take_zero,List.drop_of_length_le (by rw[a];omega)]
 ·rw[b,gO,j9 eC M X _ (by omega),List.drop_append_of_le_length (by omega),<-h.2];congr 1;rw[cR,List.drop_of_length_le (by have:=h.1;omega),List.append_nil];exact List.take_of_length_le (by have:=h.1;simp;omega)
theorem Ig(rest:List UInt8)(h:rest.length=64):lJ [] rest:=⟨h,rfl⟩
theorem JS(M rest:List UInt8)(h:lJ M rest):M=M.take (64*(M.length/64))++rest.take (M.length%64):=by
 rw[h.2,List.take_append_drop]
end Go.Proofs.YtphjagkehiklkaaGreatDoor
namespace Go.Proofs.YtphjagkehiklkaaGreatDoor
end Go.Proofs.YtphjagkehiklkaaGreatDoor
namespace Go.Proofs.YtphjagkehiklkaaGreatDoor
open Proofs.Tryz Go.RowKit
theorem Kr{k:IntKind}{a b:Int}(h:a=b):Ending.returned (.int k a)= .returned (.int k b):=by rw[h]
theorem IJ(n m x:Nat)(hm:m+n=32)(c:x<4294967296):bits .or .u32 ((x:Int)*2^m%4294967296) ((x:Int)/2^(32-m))=((dS n x:Nat):Int):=by
 obtain rfl:n=32-m:=by omega
 have a:(x:Int)/2^(32-m)=((x/2^(32-m):Nat):Int):=by
  rw[Int.natCast_ediv];simp
 have b:(x:Int)*2^m%4294967296=((x*2^m%4294967296:Nat):Int):=by
  rw[Int.natCast_emod];simp
 rw[a,b,u32_or_nat _ _ (Nat.mod_lt _ (by omega)) (Nat.lt_of_le_of_lt (Nat.div_le_self _ _) c),Nat.or_comm];unfold dS;rw[show 32-(32-m)=m by omega]
theorem EG(n:Nat)(a:1<=n)(b:n<=31):bits .and .u64 (IntKind.u64.wrap (-(n:Int))) 31=((32-n:Nat):Int):=by
 have e:IntKind.u64.wrap (-(n:Int))=((18446744073709551616-n:Nat):Int):=by
  simp only[IntKind.wrap,IntKind.bits,IntKind.signed];simp;omega
 rw[e];have:=u64_and_nat (18446744073709551616-n) 31 (by omega) (by omega);rw[nat_mask5]at this;refine this.trans ?_;congr 1;omega
theorem II(n x:Nat)(w:World)(b:1<=n)(c:n<=31)(f:x<4294967296):
  Calls prog 175 #[.int .u32 x, .int .i64 (-(n:Int))] w λe w'=>e= .returned (.int .u32 (dS n x:Nat))/\w=w':=by
 have hand:=EG n b c;have hm:32-n+n=32:=by omega
 have a:32-n<=31:=by omega
 generalize 32-n=m at hand hm a;have d:=af hm;clear hm b c;go_enter func175,ntmps175;go_wp2;go_ret;exact⟨Kr (IJ n m x d.out f),rfl⟩
theorem je(n x:Nat)(w:World)(a:1<=n)(b:n<=31)(c:x<4294967296):
  Calls prog 159 #[.int .i64 n, .int .u32 x] w λe w'=>e= .returned (.int .u32 (dS n x:Nat))/\w=w':=by
 go_enter func159,ntmps159;go_wp2_with fail;refine(II n x _ a b c).mono ?_;rintro e w1⟨rfl,rfl⟩;go_wp2;go_ret;exact⟨rfl,rfl⟩
end Go.Proofs.YtphjagkehiklkaaGreatDoor
namespace Go.Proofs.YtphjagkehiklkaaGreatDoor
open Proofs.Tryz Go.RowKit
theorem aq.setCells{g:Nat}{t:TypeId}:∀(a:List Value)(i:Nat)(w:World)(cs:List Value),aq w g t cs.toArray->i+a.length<=cs.length->
  aq (w.setCells g i a) g t (cs.take i++a++cs.drop (i+a.length)).toArray
 |[],i,w,cs,h,_=>by simpa[World.setCells]using h
 |v::r,i,w,cs,h,f=>by
  have b:=h.kq i v;rw[List.setIfInBounds_toArray]at b;simp only[List.length_cons]at f;have e:=aq.setCells r (i+1) _ (cs.set i v) b (by rw[List.length_set];omega);refine(congrArg (aq _ g t) ?_).mp e;congr 1;have c:(cs.set i v).take (i+1)=cs.take i++[v]:=by
   rw[List.take_set,List.take_succ_eq_append_getElem (by omega:i<cs.length),List.set_append_right _ _ (by simp;omega)];simp;rw[show i-min i cs.length=0 by omega];rfl
  have d:(cs.set i v).drop (i+1+r.length)=cs.drop (i+(v::r).length):=by
   rw[List.drop_set_of_lt (by omega)];congr 1;simp only[List.length_cons];omega
  rw[c,d];simp
theorem Fr.setCells{T:Nat->Prop}{g:Nat}{a:World}(b:g<a.heap.size->T g):∀(c:List Value)(d:Nat)(w:World),Fr T a w->Fr T a (w.setCells g d c)
 |[],_,_,h=>h
 |v::r,d,_,h=>Fr.setCells b r (d+1) _ (h.setCell (p:=⟨g,d,none⟩) b v)
theorem xD{P:Program}(w:World)(e m ty elem:TypeId)(b o a c:Nat)(t:ByteArray)
  (hu:P.underlying e=some (.slice elem))(l:∀w,(Go.sizeOf elem).run P w= .ok 1 w)(n:Nat)(i:Nat.min t.size a=n)
  (g:∀j,j<n->(w.cell? ⟨b,o+j,none⟩).isSome=true)(h:∀j,j<n->w.frozen? ⟨b,o+j,none⟩=false):
  (Builtin.copy_ #[e,m] ty #[.slice (some ⟨b,o,none⟩) a c, .string t]).run P w= .ok (goInt n) (w.setCells b o ((t.data.toList.map λx=>Value.int .u8 (x.toNat:Int)).take n)):=by
 have f:((t.data.toList.map λx=>Value.int .u8 (x.toNat:Int)).take n).length=n:=by
  rw[List.length_take,List.length_map,<-Lib.size_eq];have:Nat.min t.size a<=t.size:=Nat.min_le_left _ _;omega
 have d:=run_storeCells_cells (P:=P) b o ((t.data.toList.map λx=>Value.int .u8 (x.toNat:Int)).take n) 0 w (by rw[f];simpa using g) (by rw[f];simpa using h) (by
  intro v k;obtain⟨x,_,rfl⟩:=List.mem_map.1 (List.mem_of_mem_take k);rfl);simp[Builtin.copy_,run_underlying hu,Builtin.lenOf,Builtin.firstCells,l,i];rw[d];rfl
def ke(n:Nat):Value:= .int .u32 (n:Int)
def aM(w:World)(v:Value)(e:Ending)(w':World):Prop:=e= .returned v/\Fr Nothing w w'
theorem iM{w:World}{g:Nat}{t:TypeId}{a cs:Array Value}(h:aq w g t a):aq (w.setRow g cs) g t cs:=by
 unfold aq at h⊢;simp[World.setRow,Array.getElem?_modify,h]
theorem wpList_buildTo{P:Program}{ops:Array Oper}{rest:List Oper}{e:Oper}{a:Act}{w:World}{Q:Exit->Act->World->Prop}(c:e.guard=none)(t:TypeId)(parts:Array (Nat×Operand))(d:e.op= .build t parts)(cells:Array Value)
  (b:P.built t (parts.map λ(i,x)=>(i,a.eval x)).toList=some cells)(h:wpList P ops Q rest (a.put e.dst (.agg cells)) w):wpList P ops Q (e::rest) a w:=
 wpList_build c t parts d (by rw[b];rfl) (by rw[b];exact h)
theorem Fr.setRow{T:Nat->Prop}{a w:World}(h:Fr T a w){g:Nat}(b:g<a.heap.size->T g)(cs:Array Value):Fr T a (w.setRow g cs):=by
 refine h.aw (T':=λk=>k=g) ⟨rfl,rfl,rfl,by simp[World.setRow],λk _ d=>?_⟩ (λi c e=>by subst e;exact b c);simp[World.setRow,Array.getElem?_modify,Ne.symm d]
def fQ(s:cZ):List Value:=[ke s.a,ke s.b,ke s.c,ke s.d,ke s.e,ke s.f,ke s.g,ke s.h]
def bK(x:UInt8):Value:= .int .u8 (x.toNat:Int)
end Go.Proofs.YtphjagkehiklkaaGreatDoor
namespace Go.Proofs.YtphjagkehiklkaaGreatDoor
open Proofs.Tryz Go.RowKit
end Go.Proofs.YtphjagkehiklkaaGreatDoor
namespace Go.Proofs.YtphjagkehiklkaaGreatDoor
open Proofs.Tryz Go.RowKit
structure dN(w w':World)(t:TypeId)(cells:Array Value):Prop where
 aF:aq w' w.heap.size t cells
 fr:Fr Nothing w w'
 size:w'.heap.size=w.heap.size+1
theorem dN.alloc(w:World)(t:TypeId)(cells:Array Value):dN w (w.alloc (.cells cells t)) t cells:=⟨aq.new w t cells,aA.alloc _,by simp⟩
theorem aD{P:Program}{ops:Array Oper}{rest:List Oper}{e:Oper}{a:Act}{w:World}{Q:Exit->Act->World->Prop}(b:e.guard=none)(t:TypeId)(x:Operand)(c:e.op= .box t x)(cells:Array Value)(d:(a.eval x).cells=cells)
  (h:∀w',dN w w' t cells->wpList P ops Q rest (a.put e.dst (.pointer (some ⟨w.heap.size,0,none⟩))) w'):wpList P ops Q (e::rest) a w:=
 Great.wpList_boxTo b t x c _ rfl _ rfl cells d (h _ (dN.alloc w t cells))
theorem an{P:Program}{ops:Array Oper}{rest:List Oper}{g:Oper}{a:Act}{w:World}{Q:Exit->Act->World->Prop}(d:g.guard=none)(t:TypeId)(e:g.op= .alloc t)(z:Value)(f:∀w,(zeroValue t).run P w= .ok z w)(cells:Array Value)(c:z.cells=cells)
  (h:∀w',dN w w' t cells->wpList P ops Q rest (a.put g.dst (.pointer (some ⟨w.heap.size,0,none⟩))) w'):wpList P ops Q (g::rest) a w:=by
 subst c;refine wpList_plain d λK b=>?_;unfold Oper.wp execOp;simp only[e,Instr.alloc,Sem.run_bind,f,newVar,newRow,run_newObj_alloc,Sem.run_pure,Result.andThen_ok];exact b _ _ (h _ (dN.alloc w t z.cells))
theorem ai{P:Program}{ops:Array Oper}{rest:List Oper}{m:Oper}{a:Act}{w:World}{Q:Exit->Act->World->Prop}(c:m.guard=none)(ty:TypeId)(x y:Operand)(i:m.op= .store ty x y)
  (g:Nat)(cells:Array Value)(j:a.eval x= .pointer (some ⟨g,0,none⟩))(l:a.eval y= .agg cells)
  (t:TypeId)(b:Array Value)(d:aq w g t b)(f:(P.info? ty).map (·.size)=some cells.size)
  (hold:b.size=cells.size)(e:cells.all (·.oneCell')=true)
  (h:∀w',aq w' g t cells->Fr (λk=>k=g) w w'->wpList P ops Q rest (a.put m.dst undef) w'):wpList P ops Q (m::rest) a w:=
 wpList_store_row c ty x y i g cells j l t b d f hold e (h _ (iM d) ((Fr.refl (λk=>k=g) w).setRow (λ_=>rfl) cells))
end Go.Proofs.YtphjagkehiklkaaGreatDoor
namespace Go.Proofs.YtphjagkehiklkaaGreatDoor
open Proofs.Tryz Go.RowKit
theorem eX(a b:Nat):IntKind.u32.wrap ((a:Int)+(b:Int))=((cN a b:Nat):Int):=by
 rw[IntKind.wrap_u32];unfold cN;omega
theorem ti(b:List UInt8)(k i:Nat)(x:Nat)(a:x=(dA b k)[i]?.getD 0):x<4294967296:=by
 rcases h:(dA b k)[i]? with _|y;·rw[a,h];simp
 ·rw[a,h];exact wY b k y (List.mem_of_getElem? h)
theorem Cs(x:Nat)(b:x<4294967296):∃a:Nat,bits .xor .u32 ((dS 7 x:Nat):Int) ((dS 18 x:Nat):Int)=(a:Int)/\bits .xor .u32 (a:Int) ((x:Int)/8)=((wZ x:Nat):Int):=by
 refine⟨fG (dS 7 x) (dS 18 x),u32_xor_nat _ _ (gD 7 x b) (gD 18 x b),?_⟩;rw[show(x:Int)/8=((x/8:Nat):Int)by omega,u32_xor_nat _ _ (nV (gD 7 x b) (gD 18 x b)) (by omega)];rfl
theorem Cu(x:Nat)(b:x<4294967296):∃a:Nat,bits .xor .u32 ((dS 17 x:Nat):Int) ((dS 19 x:Nat):Int)=(a:Int)/\bits .xor .u32 (a:Int) ((x:Int)/1024)=((Ct x:Nat):Int):=by
 refine⟨fG (dS 17 x) (dS 19 x),u32_xor_nat _ _ (gD 17 x b) (gD 19 x b),?_⟩;rw[show(x:Int)/1024=((x/1024:Nat):Int)by omega,u32_xor_nat _ _ (nV (gD 17 x b) (gD 19 x b)) (by omega)];rfl
def fW(w wr:World)(g:Nat)(l:List Nat):Prop:=
 Fr Nothing w wr/\w.heap.size=g/\aq wr g 242 ((l++List.replicate (64-l.length) 0).map ke).toArray
theorem fW.at_{w wr:World}{g:Nat}{l:List Nat}(h:fW w wr g l){k:Nat}(a:k<64):∃u,wr.cell? ⟨g,k,none⟩=some u:=by
 rw[h.2.2.cell];simp only[bP];refine⟨_,List.getElem?_eq_getElem ?_⟩;simp;omega
theorem fW.get{w wr:World}{g:Nat}{l:List Nat}(h:fW w wr g l){k:Nat}(a:k<l.length):wr.cell? ⟨g,k,none⟩=some (ke (l[k]?.getD 0)):=by
 rw[h.2.2.cell];simp only[bP,List.getElem?_map];rw[List.getElem?_append_left a,List.getElem?_eq_getElem a];rfl
theorem fW.drew{w wr:World}{g:Nat}{l:List Nat}(h:fW w wr g l):fW w wr.drew g l:=⟨h.1.drew,h.2.1,h.2.2.drew⟩
theorem fW.drewN{w wr:World}{g:Nat}{l:List Nat}(h:fW w wr g l)(n:Nat):fW w (wr.drewN n) g l:=⟨h.1.drewN n,h.2.1,h.2.2.drewN n⟩
theorem fW.put{w wr:World}{g:Nat}{l:List Nat}(h:fW w wr g l){k:Nat}(b:l.length=k)(a:k<64)(x:Nat):fW w (wr.setCell ⟨g,k,none⟩ (ke x)) g (l++[x]):=by
 refine⟨h.1.setCell (λc=>absurd c (by have:=h.2.1;simp;omega)) _,h.2.1,?_⟩;have:=h.2.2.kq k (ke x);subst b;refine(congrArg (aq _ g 242) ?_).mp this;have e:64-l.length=(64-(l++[x]).length)+1:=by simp;omega
 rw[e,List.replicate_succ];simp
end Go.Proofs.YtphjagkehiklkaaGreatDoor
namespace Go.Proofs.YtphjagkehiklkaaGreatDoor
open Proofs.Tryz Go.RowKit
def Ak(w:World)(a:Nat)(b:TypeId)(cs:List Value)(e:Ending)(w':World):Prop:=
 e= .returned (.tuple #[])/\Fr (λk=>k=a) w w'/\aq w' a b cs.toArray
theorem Nq(a c:Nat)(d:a<256)(e:c<256):bits .or .u32 ((a*16777216:Nat):Int) ((c*65536:Nat):Int)=((a*16777216+c*65536:Nat):Int):=by
 rw[u32_or_nat _ _ (by omega) (by omega)];have:=Nat.two_pow_add_eq_or_of_lt (i:=24) (b:=c*65536) (by omega) a;rw[show a*16777216=2^24*a by omega,<-this]
theorem Nr(a c d:Nat)(e:a<256)(f:c<256)(g:d<256):bits .or .u32 ((a*16777216+c*65536:Nat):Int) ((d*256:Nat):Int)=((a*16777216+c*65536+d*256:Nat):Int):=by
 rw[u32_or_nat _ _ (by omega) (by omega)];have:=Nat.two_pow_add_eq_or_of_lt (i:=16) (b:=d*256) (by omega) (a*256+c);rw[show a*16777216+c*65536=2^16*(a*256+c)by omega,<-this]
theorem Ns(a c d x3:Nat)(e:a<256)(f:c<256)(g:d<256)(h:x3<256):bits .or .u32 ((a*16777216+c*65536+d*256:Nat):Int) ((x3:Nat):Int)=((ts a c d x3:Nat):Int):=by
 rw[u32_or_nat _ _ (by omega) (by omega)];have:=Nat.two_pow_add_eq_or_of_lt (i:=8) (b:=x3) (by omega) (a*65536+c*256+d);rw[show a*16777216+c*65536+d*256=2^8*(a*65536+c*256+d)by omega,<-this];unfold ts;congr 1;omega
theorem Cw(a b c x3:Nat)(d:a<256)(e:b<256)(f:c<256)(j:x3<256):
  ∃g h i s1 s2:Nat,IntKind.u32.wrap ((a:Int)*16777216)=(g:Int)/\IntKind.u32.wrap ((b:Int)*65536)=(h:Int)/\IntKind.u32.wrap ((c:Int)*256)=(i:Int)/\
   bits .or .u32 (g:Int) (h:Int)=(s1:Int)/\bits .or .u32 (s1:Int) (i:Int)=(s2:Int)/\bits .or .u32 (s2:Int) (x3:Int)=((ts a b c x3:Nat):Int):=
 ⟨_,_,_,_,_,(IntWalk.u32_in _ (by omega)).trans (by omega:((a:Int)*16777216)=((a*16777216:Nat):Int)),(IntWalk.u32_in _ (by omega)).trans (by omega:((b:Int)*65536)=((b*65536:Nat):Int)),
  (IntWalk.u32_in _ (by omega)).trans (by omega:((c:Int)*256)=((c*256:Nat):Int)),Nq a b d e,Nr a b c d e f,Ns a b c x3 d e f j⟩
theorem aq.kF{w:World}{a os:Nat}{t:TypeId}{pre kF post:List Value}(h:aq w a t (pre++kF++post).toArray)(c:pre.length=os){j:Nat}(b:j<kF.length):w.cell? ⟨a,os+j,none⟩=kF[j]? :=by
 subst c;rw[h.cell,bP,List.append_assoc,List.getElem?_append_right (by omega),Nat.add_sub_cancel_left,List.getElem?_append_left b]
theorem aq.KE{w:World}{a os:Nat}{t:TypeId}{pre kF post:List Value}(h:aq w a t (pre++kF++post).toArray)(c:pre.length=os){j:Nat}(b:j<kF.length)(u:Value):
  aq (w.setCell ⟨a,os+j,none⟩ u) a t (pre++kF.set j u++post).toArray:=by
 subst c;have:=h.kq (pre.length+j) u;rw[List.setIfInBounds_toArray,List.append_assoc,List.set_append_right _ _ (by omega),Nat.add_sub_cancel_left,List.set_append_left _ _ b,<-List.append_assoc]at this;exact this
theorem yE{w:World}{i os:Nat}{t:TypeId}{pre post:List Value}{s:cZ}(h:aq w i t (pre++fQ s++post).toArray)(k:pre.length=os):
  w.cell? ⟨i,os,none⟩=some (.int .u32 s.a)/\w.cell? ⟨i,os+1,none⟩=some (.int .u32 s.b)/\w.cell? ⟨i,os+2,none⟩=some (.int .u32 s.c)/\w.cell? ⟨i,os+3,none⟩=some (.int .u32 s.d)/\
  w.cell? ⟨i,os+4,none⟩=some (.int .u32 s.e)/\w.cell? ⟨i,os+5,none⟩=some (.int .u32 s.f)/\w.cell? ⟨i,os+6,none⟩=some (.int .u32 s.g)/\w.cell? ⟨i,os+7,none⟩=some (.int .u32 s.h):=
 ⟨h.kF k (j:=0) (by simp[fQ]),h.kF k (j:=1) (by simp[fQ]),h.kF k (j:=2) (by simp[fQ]),h.kF k (j:=3) (by simp[fQ]),h.kF k (j:=4) (by simp[fQ]),h.kF k (j:=5) (by simp[fQ]),h.kF k (j:=6) (by simp[fQ]),h.kF k (j:=7) (by simp[fQ])⟩
theorem wP(n x:Nat)(w:World)(a:1<=n)(b:n<=31)(c:x<4294967296):
  Calls prog 159 #[.int .i64 n, .int .u32 x] w λe w'=>e= .returned (.int .u32 (dS n x:Nat))/\w'=w:=(je n x w a b c).mono λ_ _ h=>⟨h.1,h.2.symm⟩
theorem Me(x:Nat)(w:World)(a:x<4294967296):Calls prog 159 #[.int .i64 6, .int .u32 x] w λe w'=>e= .returned (.int .u32 (dS 6 x:Nat))/\w'=w:=wP 6 x w (by omega) (by omega) a
theorem Ks(x:Nat)(w:World)(a:x<4294967296):Calls prog 159 #[.int .i64 11, .int .u32 x] w λe w'=>e= .returned (.int .u32 (dS 11 x:Nat))/\w'=w:=wP 11 x w (by omega) (by omega) a
theorem Kt(x:Nat)(w:World)(a:x<4294967296):Calls prog 159 #[.int .i64 25, .int .u32 x] w λe w'=>e= .returned (.int .u32 (dS 25 x:Nat))/\w'=w:=wP 25 x w (by omega) (by omega) a
theorem xz(o:cZ)(a:o.ok)(k w:Nat):∃j l d m n y3 y4 a2 a3:Nat,
  bits .xor .u32 ((dS 6 o.e:Nat):Int) ((dS 11 o.e:Nat):Int)=(j:Int)/\bits .xor .u32 (j:Int) ((dS 25 o.e:Nat):Int)=(l:Int)/\IntKind.u32.wrap ((o.h:Int)+(l:Int))=(d:Int)/\
  bits .and .u32 (o.e:Int) (o.f:Int)=(m:Int)/\bits .xor .u32 (if IntKind.u32.signed=true then-1 else IntKind.u32.max) (o.e:Int)=(n:Int)/\bits .and .u32 (n:Int) (o.g:Int)=(y3:Int)/\bits .xor .u32 (m:Int) (y3:Int)=(y4:Int)/\
  IntKind.u32.wrap ((d:Int)+(y4:Int))=(a2:Int)/\IntKind.u32.wrap ((a2:Int)+(k:Int))=(a3:Int)/\IntKind.u32.wrap ((a3:Int)+(w:Int))=((nf o k w:Nat):Int):=by
 have i:=gD 6 o.e a.e;have b:=gD 11 o.e a.e;have c:=gD 25 o.e a.e;refine⟨fG (dS 6 o.e) (dS 11 o.e),fG (fG (dS 6 o.e) (dS 11 o.e)) (dS 25 o.e),_,iF o.e o.f,pI o.e,iF (pI o.e) o.g,fG (iF o.e o.f) (iF (pI o.e) o.g),_,_,
  u32_xor_nat _ _ i b,u32_xor_nat _ _ (nV i b) c,eX _ _,u32_and_nat _ _ a.e a.f,?_,u32_and_nat _ _ (yw _) a.g,u32_xor_nat _ _ (kt a.e) (kt (yw _)),eX _ _,eX _ _,?_⟩;·have:=u32_xor_nat 4294967295 o.e (by omega) a.e;rw[EK _ a.e]at this;exact this
 ·rw[eX];rfl
theorem xA(i:cZ)(d:i.ok):∃g h z1 z2 z3 z4 z5:Nat,
  bits .xor .u32 ((dS 2 i.a:Nat):Int) ((dS 13 i.a:Nat):Int)=(g:Int)/\bits .xor .u32 (g:Int) ((dS 22 i.a:Nat):Int)=(h:Int)/\
  bits .and .u32 (i.a:Int) (i.b:Int)=(z1:Int)/\bits .and .u32 (i.a:Int) (i.c:Int)=(z2:Int)/\bits .xor .u32 (z1:Int) (z2:Int)=(z3:Int)/\bits .and .u32 (i.b:Int) (i.c:Int)=(z4:Int)/\bits .xor .u32 (z3:Int) (z4:Int)=(z5:Int)/\
  IntKind.u32.wrap ((h:Int)+(z5:Int))=((sc i:Nat):Int):=by
 have l2:=gD 2 i.a d.a;have e:=gD 13 i.a d.a;have f:=gD 22 i.a d.a;refine⟨fG (dS 2 i.a) (dS 13 i.a),fG (fG (dS 2 i.a) (dS 13 i.a)) (dS 22 i.a),iF i.a i.b,iF i.a i.c,fG (iF i.a i.b) (iF i.a i.c),iF i.b i.c,fG (fG (iF i.a i.b) (iF i.a i.c)) (iF i.b i.c),
  u32_xor_nat _ _ l2 e,u32_xor_nat _ _ (nV l2 e) f,u32_and_nat _ _ d.a d.b,u32_and_nat _ _ d.a d.c,u32_xor_nat _ _ (kt d.a) (kt d.a),u32_and_nat _ _ d.b d.c,u32_xor_nat _ _ (nV (kt d.a) (kt d.a)) (kt d.b),?_⟩;rw[eX];rfl
theorem Ly(w:World)(V:cZ):(Instr.index 141 (Value.agg #[.int .u32 V.a, .int .u32 V.b, .int .u32 V.c, .int .u32 V.d, .int .u32 V.e, .int .u32 V.f, .int .u32 V.g, .int .u32 V.h]) (.int .i64 0)).run prog w= .ok (.int .u32 V.a) w:=by kernel_rfl
theorem LC(w:World)(V:cZ):(Instr.index 141 (Value.agg #[.int .u32 V.a, .int .u32 V.b, .int .u32 V.c, .int .u32 V.d, .int .u32 V.e, .int .u32 V.f, .int .u32 V.g, .int .u32 V.h]) (.int .i64 1)).run prog w= .ok (.int .u32 V.b) w:=by kernel_rfl
theorem LD(w:World)(V:cZ):(Instr.index 141 (Value.agg #[.int .u32 V.a, .int .u32 V.b, .int .u32 V.c, .int .u32 V.d, .int .u32 V.e, .int .u32 V.f, .int .u32 V.g, .int .u32 V.h]) (.int .i64 2)).run prog w= .ok (.int .u32 V.c) w:=by kernel_rfl
theorem LF(w:World)(V:cZ):(Instr.index 141 (Value.agg #[.int .u32 V.a, .int .u32 V.b, .int .u32 V.c, .int .u32 V.d, .int .u32 V.e, .int .u32 V.f, .int .u32 V.g, .int .u32 V.h]) (.int .i64 3)).run prog w= .ok (.int .u32 V.d) w:=by kernel_rfl
theorem LG(w:World)(V:cZ):(Instr.index 141 (Value.agg #[.int .u32 V.a, .int .u32 V.b, .int .u32 V.c, .int .u32 V.d, .int .u32 V.e, .int .u32 V.f, .int .u32 V.g, .int .u32 V.h]) (.int .i64 4)).run prog w= .ok (.int .u32 V.e) w:=by kernel_rfl
theorem LH(w:World)(V:cZ):(Instr.index 141 (Value.agg #[.int .u32 V.a, .int .u32 V.b, .int .u32 V.c, .int .u32 V.d, .int .u32 V.e, .int .u32 V.f, .int .u32 V.g, .int .u32 V.h]) (.int .i64 5)).run prog w= .ok (.int .u32 V.f) w:=by kernel_rfl
theorem LI(w:World)(V:cZ):(Instr.index 141 (Value.agg #[.int .u32 V.a, .int .u32 V.b, .int .u32 V.c, .int .u32 V.d, .int .u32 V.e, .int .u32 V.f, .int .u32 V.g, .int .u32 V.h]) (.int .i64 6)).run prog w= .ok (.int .u32 V.g) w:=by kernel_rfl
theorem LJ(w:World)(V:cZ):(Instr.index 141 (Value.agg #[.int .u32 V.a, .int .u32 V.b, .int .u32 V.c, .int .u32 V.d, .int .u32 V.e, .int .u32 V.f, .int .u32 V.g, .int .u32 V.h]) (.int .i64 7)).run prog w= .ok (.int .u32 V.h) w:=by kernel_rfl
def ua(s v:cZ)(k:Nat):cZ:=
 ⟨if 0<k then cN s.a v.a else s.a,if 1<k then cN s.b v.b else s.b,if 2<k then cN s.c v.c else s.c,if 3<k then cN s.d v.d else s.d,if 4<k then cN s.e v.e else s.e,if 5<k then cN s.f v.f else s.f,if 6<k then cN s.g v.g else s.g,if 7<k then cN s.h v.h else s.h⟩
theorem Nn(s V:cZ):ua s V 0=s:=rfl
theorem No(s V:cZ):ua s V 8=Ga s V:=rfl
theorem AE(s:cZ)(b:List UInt8):fZ s b=Ga s (rounds (dA b 64) s 64):=rfl
def fL(s:cZ):Nat->Nat
 |0=>s.a
 |1=>s.b
 |2=>s.c
 |3=>s.d
 |4=>s.e
 |5=>s.f
 |6=>s.g
 |_=>s.h
theorem uF{k:Nat}(h:k<8):k=0\/k=1\/k=2\/k=3\/k=4\/k=5\/k=6\/k=7:=by omega
theorem yo(w:World)(V:cZ)(k:Nat)(h:k<8):(Instr.index 141 (Value.agg #[.int .u32 V.a, .int .u32 V.b, .int .u32 V.c, .int .u32 V.d, .int .u32 V.e, .int .u32 V.f, .int .u32 V.g, .int .u32 V.h]) (.int .i64 k)).run prog w= .ok (.int .u32 (fL V k)) w:=by
 rcases uF h with rfl|rfl|rfl|rfl|rfl|rfl|rfl|rfl;·exact Ly w V
 ·exact LC w V
 ·exact LD w V
 ·exact LF w V
 ·exact LG w V
 ·exact LH w V
 ·exact LI w V
 ·exact LJ w V
theorem LY(s V:cZ)(k:Nat)(h:k<8):(fQ (ua s V k))[k]? =some (.int .u32 (fL s k)):=by
 rcases uF h with rfl|rfl|rfl|rfl|rfl|rfl|rfl|rfl<;>rfl
theorem Kc(s V:cZ)(k:Nat)(h:k<8):(fQ (ua s V k)).set k (.int .u32 ((cN (fL s k) (fL V k):Nat):Int))=fQ (ua s V (k+1)):=by
 rcases uF h with rfl|rfl|rfl|rfl|rfl|rfl|rfl|rfl<;>rfl
theorem nk(q os bb ob:Nat)(ah:TypeId)(pre post:List Value)(s:cZ)(bh:s.ok)(b:List UInt8)(w:World)
  (aS:aq w q ah (pre++fQ s++post).toArray)(ad:pre.length=os)
  (Z:∀j,j<64->w.cell? ⟨bb,ob+j,none⟩=some (bK (b[j]?.getD 0)))
  (aR:∀j,j<64->w.cell? ⟨2,j,none⟩=some (ke (tZ[j]?.getD 0))):
  Calls prog 126 #[.pointer (some ⟨q,os,none⟩), .pointer (some ⟨bb,ob,none⟩)] w (Ak w q ah (pre++fQ (fZ s b)++post)):=by
 have aM:=af aS;have HB:=af Z;have a1:=af aR;have aj:=af ad;clear aS Z aR ad;go_enter func126,ntmps126;go_wp2;have ae:Hid (fW w (w.alloc (.cells (Array.replicate 64 (.int .u32 0)) 242)) w.heap.size []):=
  ⟨aA.alloc _,rfl,aq.new _ _ _⟩;generalize aU:w.heap.size=g at ae⊢;have bx:=af aU;clear aU;go_loopw[24](λi wr=>∃k:Nat,k<=16/\i= .int .i64 k/\fW w wr g (dA b k))(λi _=>16-(intOf i).toNat);case atStart=>exact⟨0,by omega,rfl,ae.out⟩
 case round=>
  obtain⟨k,aH,rfl,hw⟩:=hrel;have O:=af hw;clear hw;by_cases t:k<16
  ·as_aux_lemma=>
    have S:∀j,j<64->wr.drew.cell? ⟨bb,ob+j,none⟩=some (bK (b[j]?.getD 0)):=λj bg=>O.out.1.ak (HB.out j bg) id;have a8:=S (4*k) (by omega);have a9:=S (4*k+1) (by omega);have ba:=S (4*k+2) (by omega);have bc:=S (4*k+3) (by omega);have al:I2 b k=ts ((b[4*k]?.getD 0).toNat) ((b[4*k+1]?.getD 0).toNat) ((b[4*k+2]?.getD 0).toNat) ((b[4*k+3]?.getD 0).toNat):=rfl;have b0:=(b[4*k]?.getD 0).toNat_lt;have b1:=(b[4*k+1]?.getD 0).toNat_lt;have b2:=(b[4*k+2]?.getD 0).toNat_lt;have b3:=(b[4*k+3]?.getD 0).toNat_lt;unfold bK at a8 a9 ba bc;generalize(b[4*k]?.getD 0).toNat=aL at*;generalize(b[4*k+1]?.getD 0).toNat=am at*;generalize(b[4*k+2]?.getD 0).toNat=r at*;generalize(b[4*k+3]?.getD 0).toNat=x3 at*;have a4:=af al;clear al S;have m0:IntKind.i64.wrap (4*(k:Int))=((4*k:Nat):Int):=(IntWalk.i64_in _ (by omega)).trans (by omega);have m1:IntKind.i64.wrap (((4*k:Nat):Int)+1)=((4*k+1:Nat):Int):=(IntWalk.i64_in _ (by omega)).trans (by omega);have m2:IntKind.i64.wrap (((4*k:Nat):Int)+2)=((4*k+2:Nat):Int):=(IntWalk.i64_in _ (by omega)).trans (by omega);have m3:IntKind.i64.wrap (((4*k:Nat):Int)+3)=((4*k+3:Nat):Int):=(IntWalk.i64_in _ (by omega)).trans (by omega);have bJ:((4*k:Nat):Int)<64:=by omega
    have bL:((4*k+1:Nat):Int)<64:=by omega
    have aY:((4*k+2:Nat):Int)<64:=by omega
    have bM:((4*k+3:Nat):Int)<64:=by omega
    have bN:(k:Int)<64:=by omega
    generalize 4*k+1=i1 at*;generalize 4*k+2=i2 at*;generalize 4*k+3=i3 at*;generalize 4*k=i0 at*;have bV:IntKind.u32.wrap (aL:Int)=(aL:Int):=IntWalk.u32_in _ (by omega);have w1:IntKind.u32.wrap (am:Int)=(am:Int):=IntWalk.u32_in _ (by omega);have w2:IntKind.u32.wrap (r:Int)=(r:Int):=IntWalk.u32_in _ (by omega);have w3:IntKind.u32.wrap (x3:Int)=(x3:Int):=IntWalk.u32_in _ (by omega);obtain⟨bC,bi,bj,s1,s2,bY,bv,bw,z1,z2,z3⟩:=Cw aL am r x3 b0 b1 b2 b3;rw[<-a4.out]at z3;obtain⟨aZ,K⟩:=O.out.at_ (k:=k) (by omega);have aX:wr.drew.cell? ⟨g,k,none⟩=some aZ:=K;have aG:wr.drew.frozen? ⟨g,k,none⟩=false:=O.out.2.2.frozen k;clear K;go_wp2;go_still_tail 39,(by kernel_rfl);change wpList _ _ _ _ _ wr.drew;go_wp2;go_roundw;case rel=>
     refine⟨k+1,by omega,by go_num,?_⟩;have h:=O.out.drew.put (kb b k) (by omega) (I2 b k);have e:dA b (k+1)=dA b k++[I2 b k]:=by simp[dA,t]
     rw[e];exact h
    case measure=>simp[intOf];omega
  ·have bd:decide ((k:Int)<16)=false:=by simp;omega
   rw[show k=16 by omega]at O;clear t;go_wp2;go_loopw[6](λi T=>∃k:Nat,16<=k/\k<=64/\i= .int .i64 k/\fW w T g (dA b k))(λi _=>64-(intOf i).toNat);case atStart=>exact⟨16,by omega,by omega,rfl,O.out⟩
   case round=>
    clear bd;obtain⟨k,t,aH,rfl,hw⟩:=hrel;have E:=af hw;clear hw;by_cases m:k<64
    ·as_aux_lemma=>
      have aV:(dA b k).length=k:=kb b k;have G:=E.out.get (k:=k-15) (by omega);have I:=E.out.get (k:=k-2) (by omega);have m15:IntKind.i64.wrap ((k:Int)-15)=((k-15:Nat):Int):=(IntWalk.i64_in _ (by omega)).trans (by omega);have m2:IntKind.i64.wrap ((k:Int)-2)=((k-2:Nat):Int):=(IntWalk.i64_in _ (by omega)).trans (by omega);have aJ:((k-15:Nat):Int)<64:=by omega
      have aY:((k-2:Nat):Int)<64:=by omega
      obtain⟨n,u⟩:∃x,x=(dA b k)[k-15]?.getD 0:=⟨_,rfl⟩;obtain⟨r,L⟩:∃x,x=(dA b k)[k-2]?.getD 0:=⟨_,rfl⟩;obtain⟨i15,B⟩:∃x,x=k-15:=⟨_,rfl⟩;obtain⟨i2,aa⟩:∃x,x=k-2:=⟨_,rfl⟩;rw[<-u]at G;rw[<-L]at I;rw[<-B]at G m15 aJ;rw[<-aa]at I m2 aY;unfold ke at G I;have N:=af aV;have z:=af u;have Y:=af L;clear aV u L B aa;go_wp2;go_quiet(fail);have F:n<4294967296:=ti _ _ _ _ z.out;have ax:r<4294967296:=ti _ _ _ _ Y.out;obtain⟨bl,bm,bP⟩:=Cs n F;obtain⟨bQ,bS,bT⟩:=Cu r ax;go_wp2_with fail;refine(je 7 n _ (by omega) (by omega) F).mono ?_;rintro e w1⟨rfl,rfl⟩;go_wp2_with fail;refine(je 18 n _ (by omega) (by omega) F).mono ?_;rintro e w1⟨rfl,rfl⟩;go_wp2_with fail;refine(je 17 r _ (by omega) (by omega) ax).mono ?_;rintro e w1⟨rfl,rfl⟩;go_wp2_with fail;refine(je 19 r _ (by omega) (by omega) ax).mono ?_;rintro e w1⟨rfl,rfl⟩;have A:=af (E.out.drewN nq).drew;have H:=A.out.get (k:=k-16) (by rw[N.out];omega);have aD:=A.out.get (k:=k-7) (by rw[N.out];omega);have m16:IntKind.i64.wrap ((k:Int)-16)=((k-16:Nat):Int):=(IntWalk.i64_in _ (by omega)).trans (by omega);have m7:IntKind.i64.wrap ((k:Int)-7)=((k-7:Nat):Int):=(IntWalk.i64_in _ (by omega)).trans (by omega);have aK:((k-16:Nat):Int)<64:=by omega
      have bk:((k-7:Nat):Int)<64:=by omega
      have bO:(k:Int)<64:=by omega
      obtain⟨y,v⟩:∃x,x=(dA b k)[k-16]?.getD 0:=⟨_,rfl⟩;obtain⟨an,M⟩:∃x,x=(dA b k)[k-7]?.getD 0:=⟨_,rfl⟩;obtain⟨i16,C⟩:∃x,x=k-16:=⟨_,rfl⟩;obtain⟨i7,ab⟩:∃x,x=k-7:=⟨_,rfl⟩;rw[<-v]at H;rw[<-M]at aD;rw[<-C]at H m16 aK;rw[<-ab]at aD m7 bk;unfold ke at H aD;have X:=af v;have ar:=af M;clear v M C ab;have a7:=eX y (wZ n);have a2:=eX (cN y (wZ n)) an;have a3:=eX (cN (cN y (wZ n)) an) (Ct r);obtain⟨aZ,K⟩:=A.out.at_ (k:=k) (by omega);have aG:=A.out.2.2.frozen k;go_wp2;generalize wr.drewN nq=bu at*;go_still_tail 15,(by kernel_rfl);change wpList _ _ _ _ _ bu.drew;go_wp2;go_roundw;case rel=>
       refine⟨k+1,by omega,by omega,by go_num,?_⟩;have h:=A.out.put N.out m (cN (cN (cN y (wZ n)) an) (Ct r));have e:dA b (k+1)=dA b k++[cN (cN (cN y (wZ n)) an) (Ct r)]:=by
        rw[dA,if_neg (by omega),X.out,z.out,ar.out,Y.out]
       rw[e];exact h
      case measure=>simp[intOf];omega
    ·have aE:decide ((k:Int)<64)=false:=by simp;omega
     rw[show k=64 by omega]at E;clear m;have az:=af (aM.out.fr E.out.1 id);obtain⟨g0,g1,g2,g3,g4,g5,g6,g7⟩:=yE az.out aj.out;go_wp2;go_quiet(fail);have aO:=af (E.out.drewN nq);have aB:=af (az.out.drewN nq);clear g0 g1 g2 g3 g4 g5 g6 g7 E az;generalize wr.drewN nq=w3 at*;obtain⟨g0,g1,g2,g3,g4,g5,g6,g7⟩:=yE aB.out aj.out;go_wp2;go_quiet(fail);have A:=af (aO.out.drewN nq);have a6:=af (aB.out.drewN nq);clear g0 g1 g2 g3 g4 g5 g6 g7 aO aB;generalize w3.drewN nq=bW at*;go_wp2;have N:=af (kb b 64);have ao:=af (λi x al=>ti b 64 i x al);generalize aT:dA b 64=W at*;have ap:=af aT;clear aT;go_loopw[142,11,12,13,14,15,16,17,18](λi va bn bo bp bq br bs bt T=>∃k:Nat,k<=64/\i= .int .i64 k/\va= .int .u32 (rounds W s k).a/\bn= .int .u32 (rounds W s k).b/\bo= .int .u32 (rounds W s k).c/\bp= .int .u32 (rounds W s k).d/\bq= .int .u32 (rounds W s k).e/\br= .int .u32 (rounds W s k).f/\bs= .int .u32 (rounds W s k).g/\bt= .int .u32 (rounds W s k).h/\fW w T g W)(λi _ _ _ _ _ _ _ _ _=>64-(intOf i).toNat);case atStart=>exact⟨0,by omega,rfl,rfl,rfl,rfl,rfl,rfl,rfl,rfl,rfl,A.out⟩
     case round=>
      obtain⟨k,aH,rfl,rfl,rfl,rfl,rfl,rfl,rfl,rfl,rfl,aW⟩:=hrel;have D:=af aW;have J:=wR W s bh k;clear aW A aE;by_cases m:k<64
      ·as_aux_lemma=>
        have ai:Hid (rounds W s (k+1)=round (rounds W s k) (tZ[k]?.getD 0) (W[k]?.getD 0)):=rfl;have aC:=D.out.1.ak (a1.out k m) id;have I:=D.out.get (k:=k) (by rw[N.out];exact m);obtain⟨kk,ac⟩:∃x,x=tZ[k]?.getD 0:=⟨_,rfl⟩;obtain⟨ww,ag⟩:∃x,x=W[k]?.getD 0:=⟨_,rfl⟩;rw[<-ac]at aC ai;rw[<-ag]at I ai;unfold ke at aC I;clear ac ag;generalize rounds W s k=R at*;obtain⟨am,r,a7,bv,bw,y3,y4,a2,a3,t1,t2,t3,t4,t5,t6,t7,t8,t9,t10⟩:=xz R J kk ww;obtain⟨bA,bB,z1,z2,z3,z4,z5,bi,bj,bD,bE,bF,bG,bH,bI⟩:=xA R J;have bl:=eX (nf R kk ww) (sc R);have bm:=eX R.d (nf R kk ww);have l:Hid (rounds W s (k+1)=⟨cN (nf R kk ww) (sc R),R.a,R.b,R.c,cN R.d (nf R kk ww),R.e,R.f,R.g⟩):=ai.out;have La:=J.a;have ay:=J.e;have bz:=af J;clear ai J;have aI:(k:Int)<64:=by omega
        generalize nf R kk ww=P at*;generalize sc R=Q at*;go_wp2;go_quiet(first|(go_at_call_of 159(Value.int IntKind.i64 6);exact Calls.quiet_of_same (Me R.e _ ay))|(go_at_call_of 159(Value.int IntKind.i64 11);exact Calls.quiet_of_same (Ks R.e _ ay))|(go_at_call_of 159(Value.int IntKind.i64 25);exact Calls.quiet_of_same (Kt R.e _ ay)));have a5:=af (D.out.drewN nq);clear D aC I t1 t2 t3 t4 t5 t6 t7 t8 t9 t10;generalize wr.drewN nq=bX at*;go_wp2_with fail;refine(je 2 R.a _ (by omega) (by omega) La).mono ?_;rintro e w1⟨rfl,rfl⟩;go_wp2_with fail;refine(je 13 R.a _ (by omega) (by omega) La).mono ?_;rintro e w1⟨rfl,rfl⟩;go_wp2_with fail;refine(je 22 R.a _ (by omega) (by omega) La).mono ?_;rintro e w1⟨rfl,rfl⟩;go_wp2;go_roundw;case rel=>
         exact⟨k+1,by omega,by go_num,by rw[l.out],by rw[l.out],by rw[l.out],by rw[l.out],by rw[l.out],by rw[l.out],by rw[l.out],by rw[l.out],a5.out⟩
        case measure=>simp[intOf];omega
      ·have aF:decide ((k:Int)<64)=false:=by simp;omega
       have U:Hid (Fr (λk=>k=q) w wr):=D.out.1.bR;have aN:Hid (aq wr q ah (pre++fQ (ua s (rounds W s k) 0)++post).toArray):=by
        rw[Nn];exact aM.out.fr D.out.1 id
       have l:Hid (rounds W s k=rounds W s 64):=by
        have e:k=64:=by omega
        subst e;exact rfl
       clear m J a6 D N ao;generalize rounds W s k=V at*;go_wp2;go_loopw[214](λi T=>∃k:Nat,k<=8/\i= .int .i64 k/\Fr (λk=>k=q) w T/\aq T q ah (pre++fQ (ua s V k)++post).toArray)(λi _=>8-(intOf i).toNat);case atStart=>exact⟨0,by omega,rfl,U.out,aN.out⟩
       case round=>
        clear aF aN U;obtain⟨k,aH,rfl,hF,Z⟩:=hrel;have av:=af hF;have KB:=af Z;clear hF Z;by_cases o:k<8
        ·as_aux_lemma=>
          have S:wr.drew.cell? ⟨q,os+k,none⟩=some (.int .u32 (fL s k)):=(KB.out.drew.kF aj.out (j:=k) (by simpa[fQ]using o)).trans (LY s V k o);have f0:wr.drew.frozen? ⟨q,os+k,none⟩=false:=KB.out.drew.frozen _;have bf:=yo wr V k o;have a0:=eX (fL s k) (fL V k);have au:Hid (aq (wr.drew.setCell ⟨q,os+k,none⟩ (.int .u32 ((cN (fL s k) (fL V k):Nat):Int))) q ah (pre++fQ (ua s V (k+1))++post).toArray):=by
           have h:=KB.out.drew.KE aj.out (j:=k) (by simpa[fQ]using o) (.int .u32 ((cN (fL s k) (fL V k):Nat):Int));rw[Kc s V k o]at h;exact h
          have aw:Hid (Fr (λk=>k=q) w (wr.drew.setCell ⟨q,os+k,none⟩ (.int .u32 ((cN (fL s k) (fL V k):Nat):Int)))):=av.out.drew.setCell (p:=⟨q,os+k,none⟩) (λ_=>rfl) _;have aI:(k:Int)<8:=by omega
          clear KB av o;generalize fL s k=bU at*;generalize fL V k=vk at*;go_wp2;go_still_tail 9,(by kernel_rfl);change wpList _ _ _ _ _ wr.drew;go_wp2;go_roundw;case rel=>exact⟨k+1,by omega,by go_num,aw.out,au.out⟩
          case measure=>simp[intOf];omega
        ·have be:decide ((k:Int)<8)=false:=by simp;omega
         have aP:k=8:=by omega
         rw[aP]at KB;clear aP o;go_wp2;refine bodyPost_ret (results_none rfl _ _ _) rfl ?_;refine⟨rfl,av.out,?_⟩;have aQ:=KB.out;rw[No,l.out,<-ap.out]at aQ;rw[AE];exact aQ
theorem Fs{w:World}{g:Nat}{t:TypeId}{s:cZ}(h:aq w g t (fQ s).toArray):
  w.cell? ⟨g,0,none⟩=some (.int .u32 s.a)/\w.cell? ⟨g,1,none⟩=some (.int .u32 s.b)/\w.cell? ⟨g,2,none⟩=some (.int .u32 s.c)/\w.cell? ⟨g,3,none⟩=some (.int .u32 s.d)/\
  w.cell? ⟨g,4,none⟩=some (.int .u32 s.e)/\w.cell? ⟨g,5,none⟩=some (.int .u32 s.f)/\w.cell? ⟨g,6,none⟩=some (.int .u32 s.g)/\w.cell? ⟨g,7,none⟩=some (.int .u32 s.h):=
 ⟨h.cell 0,h.cell 1,h.cell 2,h.cell 3,h.cell 4,h.cell 5,h.cell 6,h.cell 7⟩
def aH:Array Value:=Array.replicate 32 (.int .u8 0)
def bp:Value:= .agg aH
theorem MA(w:World):(zeroValue 37).run prog w= .ok bp w:=by kernel_rfl
theorem Gm:(prog.info? 37).map (·.size)=some 32:=by kernel_rfl
def mS(V:cZ)(k:Nat):List UInt8:=(ey V).take k++List.replicate (32-k) 0
theorem zn(V:cZ)(k:Nat)(h:k<=32):(mS V k).length=32:=by
 simp[mS,jA];omega
theorem qd(V:cZ)(k:Nat)(x:UInt8)(h:k<32)(c:(ey V)[k]? =some x):((mS V k).map bK).set k (bK x)=(mS V (k+1)).map bK:=by
 rw[<-List.map_set];congr 1;have a:((ey V).take k).length=k:=by simp[jA];omega
 unfold mS;rw[List.set_append_right _ _ (by omega),a,Nat.sub_self,show 32-k=(32-(k+1))+1 by omega,List.replicate_succ,List.set_cons_zero];have b:(ey V).take (k+1)=(ey V).take k++[x]:=by
  rw[List.take_add_one,c];rfl
 rw[b];simp
theorem JG(V:cZ):mS V 32=ey V:=by
 unfold mS;rw[List.take_of_length_le (by rw[jA];exact Nat.le_refl _)];simp
theorem uG(V:cZ)(q r:Nat)(b:q<8)(c:r<4):(ey V)[4*q+r]? =some (iP (fL V q/2^(24-8*r))):=by
 have a:r=0\/r=1\/r=2\/r=3:=by omega
 rcases uF b with rfl|rfl|rfl|rfl|rfl|rfl|rfl|rfl<;>rcases a with rfl|rfl|rfl|rfl<;>simp[ey,eG,fL]
theorem Ej(V:cZ):((mS V 0).map bK).toArray=aH:=by
 unfold mS aH;rw[List.take_zero,List.nil_append,List.map_replicate,List.toArray_replicate];rfl
theorem mn(l:List UInt8):(l.map bK).toArray.all (·.oneCell')=true:=by
 rw[Array.all_eq_true_iff_forall_mem];intro v a;simp only[List.mem_toArray,List.mem_map]at a;obtain⟨x,_,rfl⟩:=a;rfl
theorem Mj(V:cZ)(h:V.ok)(q:Nat):fL V q<4294967296:=by
 unfold fL;split;·exact h.a
 ·exact h.b
 ·exact h.c
 ·exact h.d
 ·exact h.e
 ·exact h.f
 ·exact h.g
 ·exact h.h
def bj(l:List UInt8):Value:= .agg (l.map bK).toArray
end Go.Proofs.YtphjagkehiklkaaGreatDoor
namespace Go.Proofs.YtphjagkehiklkaaGreatDoor.Lt
open Proofs.Tryz Go.RowKit
abbrev DP:=List UInt8×List UInt8
end Go.Proofs.YtphjagkehiklkaaGreatDoor.Lt
