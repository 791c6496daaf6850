/- Texts. -/
import Derived.Deep.AppendLies
import Derived.Deep.DeepCutAuto
import Derived.Deep.Fields
import Derived.Great.Ranges
import Derived.Lib.Hide
import Derived.Lib.LazyBuf
import Derived.Lib.ReflectliteSwap
import Derived.OpenShut
import Derived.Test.YtphjagkehiklkaaGreatDoorProg
import Derived.WalkLawsBesides
import Derived.WalkSpells
set_option linter.unusedVariables false
set_option linter.unusedSimpArgs false
set_option maxHeartbeats 400000
namespace Go.Proofs.YtphjagkehiklkaaGreatDoor
open Go.RowKit
theorem bH{α:Type}{n:Nat}{a:α}{l:List α}:(a::l).take (n+1)=a::l.take n:=rfl
theorem bI{α:Type}{l:List α}:l.take 0=[]:=rfl
theorem bJ{α β:Type}{f:α→β}{a:α}{l:List α}:(a::l).map f=f a::l.map f:=rfl
theorem bK{α β:Type}{f:α→β}:([]:List α).map f=[]:=rfl
theorem bL{α:Type}{i:Nat}{a:α}{l:List α}:l.toArray.setIfInBounds i a=(l.set i a).toArray:=List.setIfInBounds_toArray ..
theorem bM{α:Type}{a b:α}{l:List α}:(a::l).set 0 b=b::l:=rfl
theorem bN{α:Type}{n:Nat}{a b:α}{l:List α}:(a::l).set (n+1) b=a::l.set n b:=rfl
theorem dD{α:Type}{n:Nat}{a:α}{l:List α}:(a::l).drop (n+1)=l.drop n:=rfl
theorem dE{α:Type}{l:List α}:l.drop 0=l:=rfl
theorem af{p:Prop}(h:p):RowKit.Hid p:=h
theorem ct{p:Prop}[Decidable p](h:¬p):decide p=false:=decide_eq_false h
theorem dh{p:Prop}[Decidable p](h:p):decide p=true:=decide_eq_true h
theorem ku{α:Type}[BEq α][LawfulBEq α]{a b:α}(h:a≠b):(a==b)=false:=beq_eq_false_iff_ne.2 h
theorem aj{a b c:Prop}(h:b)(d:a:=by kernel_rfl):(a∧b)∨c:= .inl ⟨d,h⟩
theorem bh{α:Type}{l m:List α}:(l++m).length=l.length+m.length:=List.length_append
theorem bR{α:Type}{l:List α}{i:Nat}:l.toArray[i]? =l[i]? :=List.getElem?_toArray
structure Fr(T:Nat→Prop)(w w':World):Prop where
 os:w'.os=w.os
 tape:w'.tape=w.tape
 output:w'.output=w.output
 size:w.heap.size≤w'.heap.size
 block:∀k,k<w.heap.size→¬T k→w'.heap[k]? =w.heap[k]?
def ag:Nat→Prop:=fun _=>False
def mZ(v:Value):Nat→Prop:=fun k=>v.ownBlock=some k
section
variable{T T':Nat→Prop}{a b c w w':World}
theorem Fr.refl(T:Nat→Prop)(w:World):Fr T w w:=⟨rfl,rfl,rfl,Nat.le_refl _,fun _ _ _=>rfl⟩
theorem Fr.trans(h:Fr T a b)(k:Fr T b c):Fr T a c:=
 ⟨k.os.trans h.os,k.tape.trans h.tape,k.output.trans h.output,Nat.le_trans h.size k.size,fun i d e=>(k.block i (Nat.lt_of_lt_of_le d h.size) e).trans (h.block i d e)⟩
theorem Fr.aw(h:Fr T a b)(k:Fr T' b c)(g:∀i,i<a.heap.size→T' i→T i):Fr T a c:=
 ⟨k.os.trans h.os,k.tape.trans h.tape,k.output.trans h.output,Nat.le_trans h.size k.size,fun i d e=>(k.block i (Nat.lt_of_lt_of_le d h.size) (fun f=>e (g i d f))).trans (h.block i d e)⟩
theorem Fr.mono(h:Fr T a b)(e:∀i,i<a.heap.size→T i→T' i):Fr T' a b:=
 ⟨h.os,h.tape,h.output,h.size,fun i c f=>h.block i c (fun d=>f (e i c d))⟩
theorem Fr.bP(h:Fr ag a b):Fr T a b:=h.mono (fun _ _ x=>x.elim)
theorem aD{T:Nat→Prop}{w:World}:Fr T w w:=Fr.refl T w
theorem al{T:Nat→Prop}{w:World}{α:Type}{a:α}:Fr T w w∧a=a∧True:=⟨Fr.refl T w,rfl,trivial⟩
theorem fX{T:Nat→Prop}{w:World}{α:Type}{a:α}:a=a∧True∧Fr T w w:=⟨rfl,trivial,Fr.refl T w⟩
theorem aM{T:Nat→Prop}{w:World}{α:Type}{a:α}:a=a∧Fr T w w:=⟨rfl,Fr.refl T w⟩
theorem Fr.drew(h:Fr T a w):Fr T a w.drew:=⟨h.os,h.tape,h.output,h.size,h.block⟩
theorem Fr.drewN(h:Fr T a w)(n:Nat):Fr T a (w.drewN n):=⟨h.os,h.tape,h.output,h.size,h.block⟩
theorem Fr.alloc(h:Fr T a w)(c:Obj):Fr T a (w.alloc c):=
 h.trans ⟨rfl,rfl,rfl,by simp,fun k b _=>Below.heap_alloc _ _ _ b⟩
theorem Fr.setCell(h:Fr T a w){p:Addr}(c:p.block<a.heap.size→T p.block)(u:Value):Fr T a (w.setCell p u):=
 h.aw (T':=fun k=>k=p.block) ⟨rfl,rfl,rfl,by simp[World.setCell],fun k _ d=>Below.heap_setCell _ _ _ _ d⟩ (fun i b e=>by subst e;exact c b)
theorem Fr.grown{row:Option Nat}(a:w.grownBy w' row):Fr (fun k=>some k=row) w w':=⟨a.os,a.tape,a.output,a.size,a.block⟩
theorem Fr.below{B:Nat}(h:Fr T a b)(e:B≤a.heap.size)(d:∀i,T i→B≤i):Below B a b:=
 ⟨h.os,h.tape,h.output,h.size,fun k f=>h.block k (by omega) (fun c=>by have:=d k c;omega)⟩
theorem Fr.IF(h:Fr ag a b):Below a.heap.size a b:=h.below (Nat.le_refl _) (fun _ x=>x.elim)
theorem Fr.cell(h:Fr T a b){p:Addr}(c:p.block<a.heap.size)(d:¬T p.block):b.cell? p=a.cell? p:=World.cell?_of_block (h.block p.block c d)
theorem Fr.frozen(h:Fr T a b){p:Addr}(c:p.block<a.heap.size)(d:¬T p.block):b.frozen? p=a.frozen? p:=World.frozen?_of_block (h.block p.block c d)
theorem Fr.an(h:Fr T a b){p:Addr}{v:Value}(c:a.cell? p=some v)(d:¬T p.block):b.cell? p=some v:=(h.cell (World.block_lt_of_cell? a p c) d).trans c
end
theorem jU(a:Addr)(n:Nat):(a.add n).block=a.block:=by unfold Addr.add;split<;>rfl
theorem iq(a:Addr)(i j:Nat):(a.add i).add j=a.add (i+j):=by
 unfold Addr.add;by_cases b:i=0<;>by_cases c:j=0<;>simp[b,c,Nat.add_assoc]
def Rd(w:World)(S:Nat→Prop)(size:Nat)(A:Option Addr)(n:Nat)(xs:List Value):Prop:=
 xs.length=n*size∧(0<n→∃a,A=some a∧S a.block∧∀j u,xs[j]? =some u→w.cell? (a.add j)=some u)
section
variable{w w':World}{S S' T:Nat→Prop}{size n:Nat}{A:Option Addr}{xs:List Value}
theorem Rd.none_:Rd w S size A 0 []:=⟨by simp,fun h=>absurd h (by omega)⟩
theorem Rd.at_{k:Nat}(h:Rd w S 1 A n xs)(f:k<n):∃a u,A=some a∧S a.block∧xs[k]? =some u∧w.cell? (a.add k)=some u:=by
 obtain⟨a,e,c,d⟩:=h.2 (by omega);have b:k<xs.length:=by have:=h.1;omega
 exact⟨a,xs[k],e,c,List.getElem?_eq_getElem b,d k _ (List.getElem?_eq_getElem b)⟩
theorem Rd.ks(h:Rd w S size A n xs)(d:∀p:Addr,S p.block→∀u,w.cell? p=some u→w'.cell? p=some u):Rd w' S size A n xs:=
 ⟨h.1,fun f=>by
  obtain⟨b,e,a,c⟩:=h.2 f;exact⟨b,e,a,fun j u hu=>d _ (by rw[jU];exact a) u (c j u hu)⟩⟩
theorem Rd.fr(h:Rd w S size A n xs)(b:Fr T w w')(a:∀k,S k→¬T k):Rd w' S size A n xs:=h.ks fun _ c _ hu=>b.an hu (a _ c)
theorem Rd.ar(h:Rd w S size A n xs)(a:Fr ag w w'):Rd w' S size A n xs:=h.fr a (fun _ _ x=>x)
theorem Rd.mono(h:Rd w S size A n xs)(b:∀k,S k→S' k):Rd w S' size A n xs:=
 ⟨h.1,fun f=>by
  obtain⟨a,e,c,d⟩:=h.2 f;exact⟨a,e,b _ c,d⟩⟩
theorem Rd.cut(h:Rd w S size A n xs){k cap:Nat}(e:k≤n)(d:n≤cap):
  Rd w S size (if cap=k then A else A.map (·.add (k*size))) (n-k) (xs.drop (k*size)):=by
 refine⟨by rw[List.length_drop,h.1,Nat.sub_mul],fun f=>?_⟩;obtain⟨b,rfl,c,a⟩:=h.2 (by omega);rw[if_neg (by omega)];refine⟨b.add (k*size),rfl,by rw[jU];exact c,fun j u hu=>?_⟩;rw[iq];exact a _ u (by rw[←hu,List.getElem?_drop])
theorem Rd.take(h:Rd w S size A n xs){k:Nat}(d:k≤n):Rd w S size A k (xs.take (k*size)):=by
 refine⟨by rw[List.length_take,h.1];exact Nat.min_eq_left (Nat.mul_le_mul_right _ d),fun e=>?_⟩;obtain⟨b,rfl,c,a⟩:=h.2 (by omega);refine⟨b,rfl,c,fun j u hu=>a j u ?_⟩;rw[List.getElem?_take]at hu;split at hu;·exact hu
 ·cases hu
theorem Rd.ib{base:Nat}{e:TypeId}{c:Nat}(h:w.ownsRow base e size (.slice A n c) n xs):Rd w (mZ (.slice A n c)) size A n xs:=by
 refine⟨h.1,fun d=>?_⟩;obtain⟨g,cap,f,_,b⟩:=h.form d;have a:A=some ⟨g,0,none⟩:=by injection f
 subst a;exact⟨_,rfl,rfl,h.cells (g:=g) rfl⟩
end
def aq(w:World)(g:Nat)(t:TypeId)(cs:Array Value):Prop:=w.heap[g]? =some (.cells cs t (0,0))
section
variable{w w':World}{g:Nat}{t:TypeId}{cs:Array Value}{T:Nat→Prop}
theorem aq.lt(h:aq w g t cs):g<w.heap.size:=by
 rcases Nat.lt_or_ge g w.heap.size with b|a;·exact b
 ·unfold aq at h;rw[Array.getElem?_eq_none a]at h;cases h
theorem aq.cell(h:aq w g t cs)(i:Nat):w.cell? ⟨g,i,none⟩=cs[i]? :=cell_of_row w g i cs t (0,0) h
theorem aq.frozen(h:aq w g t cs)(i:Nat):w.frozen? ⟨g,i,none⟩=false:=by
 unfold aq at h;simp[World.frozen?,h]
theorem aq.new(w:World)(t:TypeId)(cs:Array Value):aq (w.alloc (.cells cs t)) w.heap.size t cs:=heap_alloc_new w _
theorem aq.drew(h:aq w g t cs):aq w.drew g t cs:=h
theorem aq.drewN(h:aq w g t cs)(n:Nat):aq (w.drewN n) g t cs:=h
theorem aq.alloc(h:aq w g t cs)(a:Obj):aq (w.alloc a) g t cs:=(Below.heap_alloc w a g h.lt).trans h
theorem aq.jC(h:aq w g t cs)(i:Nat)(u:Value):aq (w.setCell ⟨g,i,none⟩ u) g t (cs.setIfInBounds i u):=by
 unfold aq at h⊢;simp[World.setCell,Array.getElem?_modify,h]
theorem aq.cN(h:aq w g t cs){p:Addr}(a:g≠p.block)(u:Value):aq (w.setCell p u) g t cs:=(Below.heap_setCell w p u g a).trans h
theorem aq.fr(h:aq w g t cs)(b:Fr T w w')(a:¬T g):aq w' g t cs:=(b.block g h.lt a).trans h
theorem fE{w:World}{g:Nat}{t:TypeId}{l:List Value}(h:aq w g t l.toArray):∀j v,l[j]? =some v→w.cell? ((⟨g,0,none⟩:Addr).add j)=some v:=fun j v a=>by
 rw[show(⟨g,0,none⟩:Addr).add j=⟨g,j,none⟩from by unfold Addr.add;split<;>simp_all,h.cell j,bR];exact a
theorem aq.qf{c:Nat}{d:TypeId}{cs':Array Value}(h:aq w g t cs)(a:aq w c d cs')(b:t≠d):g≠c:=by
 rintro rfl;unfold aq at h a;rw[h]at a;injection a with a;injection a with _ e;exact b e
theorem bG{base:Nat}{e:TypeId}{size n:Nat}{v:Value}{xs:List Value}(h:w.ownsRow base e size v n xs)(c:aq w g t cs)(a:e≠t):v.ownBlock≠some g:=by
 rcases h.2 with⟨rfl,_⟩|⟨b,cap,cur,rfl,_,d,_⟩;·simp[Value.ownBlock]
 ·intro he;have:b=g:=by simpa[Value.ownBlock]using he
  subst this;exact aq.qf (t:=e) d c a rfl
theorem aQ{base:Nat}{e:TypeId}{size n:Nat}{v:Value}{xs:List Value}(h:w.ownsRow base e size v n xs)(d:Fr T w w')(b:∀k,v.ownBlock=some k→¬T k):w'.ownsRow base e size v n xs:=by
 refine⟨h.1,?_⟩;rcases h.2 with f|⟨g,cap,cur,rfl,c,a,rest⟩;·exact .inl f
 ·exact .inr ⟨g,cap,cur,rfl,c,(d.block g (Array.getElem?_eq_some_iff.1 a).1 (b g rfl)).trans a,rest⟩
end
end Go.Proofs.YtphjagkehiklkaaGreatDoor
namespace Go.Proofs.YtphjagkehiklkaaGreatDoor
open Go.RowKit
theorem uH{w:World}{base:Nat}{e:TypeId}{size n:Nat}{v:Value}{xs:List Value}(h:w.ownsRow base e size v n xs):∃A c,v= .slice A n c∧n≤c:=by
 rcases h.2 with⟨rfl,rfl⟩|⟨g,cap,cur,rfl,_,_,a,_⟩;·exact⟨none,0,rfl,Nat.le_refl _⟩
 ·exact⟨_,cap,rfl,a⟩
theorem aU{w:World}{base:Nat}{e:TypeId}{size n:Nat}{v:Value}{xs:List Value}(h:w.ownsRow base e size v n xs):∃A m c,v= .slice A m c∧Hid (m=n)∧Hid (m≤c):=by
 obtain⟨A,c,a,b⟩:=uH h;exact⟨A,n,c,a,rfl,b⟩
structure bW(e:TypeId)(size:Nat)(w:World)(v:Value)(w':World)(a:Value)(n:Nat)(xs:List Value):Prop where
 own:w'.ownsRow 0 e size a n xs
 fr:Fr (mZ v) w w'
 ew:∀k,a.ownBlock=some k→v.ownBlock=some k∨w.heap.size≤k
theorem bW.start{e:TypeId}{size:Nat}{w:World}{v:Value}{n:Nat}{xs:List Value}(h:w.ownsRow 0 e size v n xs):bW e size w v w v n xs:=
 ⟨h,aD,fun _ a=> .inl a⟩
theorem bW.trans{e:TypeId}{size:Nat}{w w1 w2:World}{v v1 v2:Value}{n m:Nat}{xs c:List Value}(h:bW e size w v w1 v1 n xs)(k:bW e size w1 v1 w2 v2 m c):bW e size w v w2 v2 m c:=
  ⟨k.own,h.fr.aw k.fr (fun i b d=>by rcases h.ew i d with a|a;exact a;omega),
   fun i b=>by
    rcases k.ew i b with a|a;· exact h.ew i a
    · exact .inr (Nat.le_trans h.fr.size a)⟩
theorem bW.ahead{e:TypeId}{size:Nat}{w w1 w2:World}{v v2:Value}{m:Nat}{b:List Value}(h:Fr ag w w1)(k:bW e size w1 v w2 v2 m b):bW e size w v w2 v2 m b:=
 ⟨k.own,(h.bP).trans k.fr,fun i c=>by
  rcases k.ew i c with a|a;·exact .inl a
  ·exact .inr (Nat.le_trans h.size a)⟩
theorem bW.behind{e:TypeId}{size:Nat}{w w1 w2:World}{v v1:Value}{m:Nat}{a:List Value}(h:bW e size w v w1 v1 m a)(k:Fr ag w1 w2):bW e size w v w2 v1 m a:=
 ⟨aQ h.own k (fun _ _ x=>x),h.fr.trans k.bP,h.ew⟩
theorem bW.fresh{e:TypeId}{size:Nat}{w w1 w2:World}{v v2:Value}{m:Nat}{d:List Value}(h:Fr ag w w1)(c:∀k,v.ownBlock=some k→w.heap.size≤k)(k:bW e size w1 v w2 v2 m d):bW e size w (.slice none 0 0) w2 v2 m d:=
 ⟨k.own,(h.aw k.fr (fun i b f=>by have:=c i f;omega)).bP,fun i b=>by
  rcases k.ew i b with a|a;·exact .inr (c i a)
  ·exact .inr (Nat.le_trans h.size a)⟩
theorem bW.ar{e:TypeId}{size:Nat}{w w2:World}{v2:Value}{m:Nat}{a:List Value}(k:bW e size w (.slice none 0 0) w2 v2 m a):Fr ag w w2:=
 k.fr.mono (fun i _ h=>by simp[mZ,Value.ownBlock]at h)
theorem bW.new{e:TypeId}{size:Nat}{w w2:World}{v2:Value}{m:Nat}{b:List Value}(k:bW e size w (.slice none 0 0) w2 v2 m b):∀i,v2.ownBlock=some i→w.heap.size≤i:=fun i a=>by
 rcases k.ew i a with h|h;·simp[Value.ownBlock]at h
 ·exact h
section
variable{P:Program}(w:World)
theorem qs(base:Nat)(t ty e:TypeId)(i:TypeInfo)(size:Nat)(f:P.underlying t=some (.slice e))(d:P.info? e=some i)
  (v:Value)(n:Nat)(xs:List Value)(a:w.ownsRow base e size v n xs)(c:Nat):(Builtin.append_ #[t,t] ty #[v, .slice none 0 c]).run P w= .ok v w:=by
 rcases a.2 with⟨rfl,rfl⟩|⟨g,cap,cur,rfl,_,_,b,_⟩;·simp[Builtin.append_,run_underlying f,sizeOf,typeInfo,d,Builtin.lenOf,Builtin.firstCells]
 ·simp[Builtin.append_,run_underlying f,sizeOf,typeInfo,d,Builtin.lenOf,Builtin.firstCells,b,storeCells]
theorem Ac(t ty e:TypeId)(i:TypeInfo)(z:Value)(size bytes:Nat)(G:P.underlying t=some (.slice e))(F:P.info? e=some i)(M:i.zero=some z)
  (g:i.size=size)(B:i.bytes=bytes)(E:z.cells.size=size)(D:0<size)
  (v:Value)(n:Nat)(xs:List Value)(a:w.ownsRow 0 e size v n xs)
  (S:Nat→Prop)(A:Option Addr)(m c:Nat)(news:List Value)(p:Rd w S size A m news)(I:∀u∈news,u.oneCell'=true)
  (b:(n+m)*bytes≤140737488355328)(y:1≤bytes):
  ∃r w',(Builtin.append_ #[t,t] ty #[v, .slice A m c]).run P w= .ok r w'∧bW e size w v w' r (n+m) (xs++news):=by
 have x:n+m≤maxLen:=by
  have:n+m≤(n+m)*bytes:=Nat.le_mul_of_pos_right _ y;simp only[maxLen];omega
 rcases A with _|s
 ·have hm:m=0:=by
   rcases Nat.eq_zero_or_pos m with f|f;·exact f
   ·obtain⟨s,h,_⟩:=p.2 f;cases h
  subst hm;have C:news=[]:=List.eq_nil_of_length_eq_zero (by simpa using p.1);subst C;exact⟨v,w,qs w 0 t ty e i size G F v n xs a c,by simpa using bW.start a⟩
 ·have d:∀j u,news[j]? =some u→w.cell? (s.add j)=some u:=by
   intro j u hu;rcases Nat.eq_zero_or_pos m with f|f;·subst f;have C:news=[]:=List.eq_nil_of_length_eq_zero (by simpa using p.1);subst C;simp at hu
   ·obtain⟨H,h,_,L⟩:=p.2 f;injection h with h;subst h;exact L j u hu
  obtain⟨r,w',q,J,K,_,o⟩:=run_append_own_at (P:=P) w 0 t ty e i z size bytes G F M g B E D v n xs a s m c news p.1 d I x b (Nat.zero_le _);refine⟨r,w',q,J,(Fr.grown K).mono (fun k _ l=>l.symm),fun k l=>?_⟩;rcases o with o|o;·exact .inl (o▸l)
  ·rw[o]at l;exact .inr (by injection l with l;omega)
theorem ti{H:Oper}{a:Act}{K:Act→World→Prop}{Q:Exit→Act→World→Prop}(s x:Operand)(t:TypeId)
  (B:H.op= .call {callee:= .builtin .append,args:=#[s,x],argTypes:=#[t,t]})
  (e:TypeId)(i:TypeInfo)(z:Value)(size bytes:Nat)(E:P.underlying t=some (.slice e))(y:P.info? e=some i)(G:i.zero=some z)
  (d:i.size=size)(l:i.bytes=bytes)(p:z.cells.size=size)(o:0<size)
  (v:Value)(n:Nat)(xs:List Value)(D:a.eval s=v)(f:w.ownsRow 0 e size v n xs)
  (S:Nat→Prop)(A:Option Addr)(m c:Nat)(news:List Value)(F:a.eval x= .slice A m c)(C:Rd w S size A m news)(q:∀u∈news,u.oneCell'=true)
  (b:(n+m)*bytes≤140737488355328)(k:1≤bytes)
  (h:∀j w',bW e size w v w' j (n+m) (xs++news)→K (a.put H.dst j) w'):H.wp P a w K Q:=by
 obtain⟨j,w',g,r⟩:=Ac (P:=P) w t H.type e i z size bytes E y G d l p o v n xs f S A m c news C q b k;unfold Oper.wp execOp;simp only[B,resolve,invoke,builtin,Sem.run_bind,Sem.run_pure,Result.andThen_ok,List.map_toArray,List.map_cons,List.map_nil,D,F,g];exact h j w' r
theorem iE{ops:Array Oper}{rest:List Oper}{I:Oper}{a:Act}{Q:Exit→Act→World→Prop}(l:I.guard=none)(s x:Operand)(t:TypeId)
  (C:I.op= .call {callee:= .builtin .append,args:=#[s,x],argTypes:=#[t,t]})
  (e:TypeId)(i:TypeInfo)(z:Value)(size bytes:Nat)(F:P.underlying t=some (.slice e))(B:P.info? e=some i)(H:i.zero=some z)
  (d:i.size=size)(k:i.bytes=bytes)(p:z.cells.size=size)(o:0<size)
  (v:Value)(n:Nat)(xs:List Value)(E:a.eval s=v)(f:w.ownsRow 0 e size v n xs)
  (S:Nat→Prop)(A:Option Addr)(m c:Nat)(news:List Value)(G:a.eval x= .slice A m c)(D:Rd w S size A m news)(q:∀u∈news,u.oneCell'=true)
  (b:(n+m)*bytes≤140737488355328)(j:1≤bytes)
  (h:∀g w',bW e size w v w' g (n+m) (xs++news)→wpList P ops Q rest (a.put I.dst g) w'):wpList P ops Q (I::rest) a w:=
 wpList_plain l fun _ y=>ti w s x t C e i z size bytes F B H d k p o v n xs E f S A m c news G D q b j fun g w' r=>y _ _ (h g w' r)
theorem Je(cs:Array Value)(e:TypeId)(size n:Nat)(b:cs.size=n*size):Rd (w.alloc (.cells cs e)) (fun k=>k=w.heap.size) size (some ⟨w.heap.size,0,none⟩) n cs.toList:=by
 refine⟨by simpa using b,fun _=>⟨_,rfl,rfl,fun j u hu=>?_⟩⟩;have a:=aq.new w e cs;have h:=a.cell j;rw[show(⟨w.heap.size,0,none⟩:Addr).add j=⟨w.heap.size,j,none⟩by unfold Addr.add;split<;>simp_all];rw[h];simpa using hu
theorem da{ops:Array Oper}{rest:List Oper}{G:Oper}{a:Act}{Q:Exit→Act→World→Prop}(p:G.guard=none)(s x:Operand)(t:TypeId)
  (B:G.op= .call {callee:= .builtin .append,args:=#[s,x],argTypes:=#[t,t]})
  (e:TypeId)(i:TypeInfo)(z:Value)(size bytes:Nat)(D:P.underlying t=some (.slice e))(A:P.info? e=some i)(F:i.zero=some z)
  (c:i.size=size)(k:i.bytes=bytes)(r:z.cells.size=size)(q:0<size)
  (v:Value)(n:Nat)(xs:List Value)(C:a.eval s=v)(d:w.ownsRow 0 e size v n xs)
  (m:Nat)(cs:Array Value)(g:Nat)(o:g=w.heap.size)(E:a.eval x= .slice (some ⟨g,0,none⟩) m m)(l:cs.size=m*size)(y:∀u∈cs.toList,u.oneCell'=true)
  (b:(n+m)*bytes≤140737488355328)(j:1≤bytes)
  (h:∀f w',bW e size w v w' f (n+m) (xs++cs.toList)→wpList P ops Q rest (a.put G.dst f) w'):wpList P ops Q (G::rest) a (w.alloc (.cells cs e)):=by
 subst o;exact iE _ p s x t B e i z size bytes D A F c k r q v n xs C (d.alloc _) _ _ m m cs.toList E (Je w cs e size m l) y b j
  (fun f w' o=>h f w' (o.ahead (aD.alloc _)))
theorem sU(t u ty e:TypeId)(i:TypeInfo)(q:P.underlying t=some (.slice e))(hu:P.underlying u=some .string)(o:P.info? e=some i)(A:i.zero=some (.int .u8 0))
  (b:i.size=1)(h:i.bytes=1)
  (v:Value)(n:Nat)(xs:List Value)(c:w.ownsRow 0 e 1 v n xs)(s:ByteArray)(d:n+s.size≤140737488355328):
  ∃m w',(Builtin.append_ #[t,u] ty #[v, .string s]).run P w= .ok m w'∧bW e 1 w v w' m (n+s.size) (xs++Lib.strCells s):=by
 have r:n+s.size≤maxLen:=by simp only[maxLen];omega
 obtain⟨m,w',p,B,C,D⟩:=Lib.run_append_own_string (P:=P) w 0 t u ty e i q hu o A b h v n xs c s r d (Nat.zero_le _);refine⟨m,w',p,B,(Fr.grown C).mono (fun k _ f=>f.symm),?_⟩;have z:xs.length=n:=by simpa using c.1
 rcases c.2 with⟨rfl,rfl⟩|⟨g,cap,cur,rfl,E,G,H,F,x,y⟩
 ·by_cases hm:s.size=0;·have:m= .slice none 0 0:=D.2 ⟨rfl,hm⟩;subst this;intro k f;simp[Value.ownBlock]at f
  ·have a:=run_append_nil_string (P:=P) w t u ty e i (.int .u8 0) q hu o A s (by omega) (by omega) (by rw[h];omega);rw[p]at a;injection a with a _;subst a;intro k f;simp[Value.ownBlock]at f;exact .inr (by omega)
 ·by_cases l:n+s.size≤cap;·have a:=Lib.run_append_room_string (P:=P) w t u ty e i q hu o b g n cap cur G s l (by rw[x];omega);rw[p]at a;injection a with a _;subst a;intro k f;exact .inl f
  ·have holds:∀j u,xs[j]? =some u→w.cell? ((⟨g,0,none⟩:Addr).add j)=some u:=c.cells (g:=g) rfl;have a:=Lib.run_append_grow_string (P:=P) w t u ty e i (.int .u8 0) q hu o A ⟨g,0,none⟩ n cap xs (by rw[b];simpa using z) holds s (by omega) (by omega) (by rw[h];exact growslice_fits (by omega) (by omega));rw[p]at a;injection a with a _;subst a;intro k f;simp[Value.ownBlock]at f;exact .inr (by omega)
theorem lM{ops:Array Oper}{rest:List Oper}{B:Oper}{a:Act}{Q:Exit→Act→World→Prop}(j:B.guard=none)(k x:Operand)(t u:TypeId)
  (p:B.op= .call {callee:= .builtin .append,args:=#[k,x],argTypes:=#[t,u]})
  (e:TypeId)(i:TypeInfo)(y:P.underlying t=some (.slice e))(hu:P.underlying u=some .string)(o:P.info? e=some i)(A:i.zero=some (.int .u8 0))
  (c:i.size=1)(g:i.bytes=1)
  (v:Value)(n:Nat)(xs:List Value)(r:a.eval k=v)(d:w.ownsRow 0 e 1 v n xs)(s:ByteArray)(z:a.eval x= .string s)
  (b:n+s.size≤140737488355328)
  (h:∀f w',bW e 1 w v w' f (n+s.size) (xs++Lib.strCells s)→wpList P ops Q rest (a.put B.dst f) w'):wpList P ops Q (B::rest) a w:=by
 refine wpList_plain j fun K m=>?_;obtain⟨f,w',q,l⟩:=sU (P:=P) w t u B.type e i y hu o A c g v n xs d s b;unfold Oper.wp execOp;simp only[p,resolve,invoke,builtin,Sem.run_bind,Sem.run_pure,Result.andThen_ok,List.map_toArray,List.map_cons,List.map_nil,r,z,q];exact m _ _ (h f w' l)
end
end Go.Proofs.YtphjagkehiklkaaGreatDoor
namespace Go.Proofs.YtphjagkehiklkaaGreatDoor
open Go.RowKit
structure In(C:World→Prop)where
 w:World
 h:C w
theorem In.call{P:Program}{f:FuncId}{args:Array Value}{C:World→Prop}{x:In C}{v:Value}
  (h:Calls P f args x.w fun e w'=>e= .returned v∧C w'):Calls P f args x.w fun e a=>e= .returned v∧∃y:In C,a=y.w:=
 h.mono fun _ w'⟨he,b⟩=>⟨he,⟨w',b⟩,rfl⟩
theorem In.same{P:Program}{f:FuncId}{args:Array Value}{C:World→Prop}{x:In C}{v:Value}
  (h:Calls P f args x.w fun e w'=>e= .returned v∧x.w=w'):Calls P f args x.w fun e a=>e= .returned v∧∃y:In C,a=y.w:=
 h.mono fun _ _⟨he,hw⟩=>⟨he,x,hw.symm⟩
abbrev xr(a:World):World→Prop:=fun w=>Fr ag a w
instance xr.ne(a:World):Nonempty (In (xr a)):=⟨⟨a,aD⟩⟩
theorem In.later{P:Program}{f:FuncId}{args:Array Value}{b:World}{x:In (xr b)}{v:Value}
  (h:Calls P f args x.w fun e w'=>e= .returned v∧Fr ag x.w w'):Calls P f args x.w fun e a=>e= .returned v∧∃y:In (xr b),a=y.w:=
 In.call (h.mono fun _ _⟨he,c⟩=>⟨he,x.h.trans c⟩)
end Go.Proofs.YtphjagkehiklkaaGreatDoor
namespace Go.Proofs.YtphjagkehiklkaaGreatDoor
open Go.RowKit
abbrev Old(w:World):Nat→Prop:=fun k=>k<w.heap.size
section
variable{X:Type}(cells:X→List Value)(size:Nat)
theorem qP(a:∀x,(cells x).length=size)(l:List X):(l.flatMap cells).length=l.length*size:=by
 induction l with
 |nil=>simp
 |cons x l b=>rw[List.flatMap_cons,bh,b,a,List.length_cons,Nat.succ_mul];omega
theorem zn(a:∀x,(cells x).length=size):∀(l:List X)(k j:Nat)(x:X),l[k]? =some x→j<size→(l.flatMap cells)[k*size+j]? =(cells x)[j]?
 |[],k,j,x,h,_=>by simp at h
 |y::l,0,j,x,h,b=>by
  simp at h;subst h;rw[List.flatMap_cons,Nat.zero_mul,Nat.zero_add,List.getElem?_append_left (by rw[a];exact b)]
 |y::l,k+1,j,x,h,b=>by
  have e:(k+1)*size+j=size+(k*size+j):=by rw[Nat.succ_mul];omega
  rw[List.flatMap_cons,e,List.getElem?_append_right (by rw[a];omega),a,Nat.add_sub_cancel_left];exact zn a l k j x (by simpa using h) b
theorem yj{w:World}{a:Addr}{len:Nat}(e:X→Prop)(g:∀x,(cells x).length=size)(A:0<size)
  (h:∀i,i<len→∃x:X,e x∧∀j u,(cells x)[j]? =some u→w.cell? ((a.add (i*size)).add j)=some u):
  ∃l:List X,l.length=len∧(∀x∈l,e x)∧Rd w (Old w) size (some a) len (l.flatMap cells):=by
 have D:∀i:Nat,∃x:Option X,i<len→∃y,x=some y∧e y∧∀j u,(cells y)[j]? =some u→w.cell? ((a.add (i*size)).add j)=some u:=by
  intro i;by_cases r:i<len;·obtain⟨x,c⟩:=h i r;exact⟨some x,fun _=>⟨x,rfl,c⟩⟩
  ·exact⟨none,fun F=>absurd F r⟩
 obtain⟨f,q⟩:=Classical.axiomOfChoice D;have key:∀m,m≤len→∃l:List X,l.length=m∧(∀x∈l,e x)∧∀i,i<m→l[i]? =f i:=by
  intro m;induction m with
  |zero=>intro _;exact⟨[],rfl,by simp,by omega⟩
  |succ m J=>
   intro hm;obtain⟨l,d,n,o⟩:=J (by omega);obtain⟨y,k,H,_⟩:=q m (by omega);refine⟨l++[y],by simp[d],?_,fun i r=>?_⟩
   ·intro x c;rcases List.mem_append.1 c with c|c;·exact n x c
    ·rw[List.mem_singleton.1 c];exact H
   ·rcases Nat.lt_or_ge i m with t|E;·rw[List.getElem?_append_left (by omega)];exact o i t
    ·obtain rfl:i=m:=by omega
     rw[List.getElem?_append_right (by omega),d,k];simp
 obtain⟨l,d,n,o⟩:=key len (Nat.le_refl _);have b:∀j u,(l.flatMap cells)[j]? =some u→w.cell? (a.add j)=some u:=by
  intro j u hu;have s:j<len*size:=by
   have:=(List.getElem?_eq_some_iff.1 hu).1;rw[qP cells size g,d]at this;exact this
  have C:j/size<len:=Nat.div_lt_of_lt_mul (by rw[Nat.mul_comm];exact s);have I:j%size<size:=Nat.mod_lt _ A;have B:j/size*size+j%size=j:=by rw[Nat.mul_comm];exact Nat.div_add_mod j size
  obtain⟨y,k,_,p⟩:=q (j/size) C;have v:l[j/size]? =some y:=(o _ C).trans k;rw[←B,zn cells size g l _ _ y v I]at hu;have:=p _ u hu;rw[iq,B]at this;exact this
 refine⟨l,d,n,by rw[qP cells size g,d],fun G=>⟨a,rfl,?_,b⟩⟩;obtain⟨y,k,_,p⟩:=q 0 G;have z:0<(cells y).length:=by rw[g];exact A
 have:=World.block_lt_of_cell? w _ (p 0 _ (List.getElem?_eq_getElem z));rw[jU,jU]at this;exact this
end
end Go.Proofs.YtphjagkehiklkaaGreatDoor
namespace Go.Proofs.YtphjagkehiklkaaGreatDoor
def dH(n x:Nat):Nat:=(x/2^n)|||(x*2^(32-n)%4294967296)
def cF(a b:Nat):Nat:=(a+b)%4294967296
def eX(a b:Nat):Nat:=a^^^b
def gU(a b:Nat):Nat:=a&&&b
def oP(a:Nat):Nat:=4294967295-a
theorem Ht{a b:Nat}(c:a<4294967296)(d:b<4294967296):a|||b<4294967296:=Nat.or_lt_two_pow (n:=32) (by omega) (by omega)
theorem mU{a b:Nat}(c:a<4294967296)(d:b<4294967296):eX a b<4294967296:=Nat.xor_lt_two_pow (n:=32) (by omega) (by omega)
theorem jE{a b:Nat}(c:a<4294967296):gU a b<4294967296:=Nat.lt_of_le_of_lt Nat.and_le_left c
theorem gd(a b:Nat):cF a b<4294967296:=Nat.mod_lt _ (by omega)
theorem wV(a:Nat):oP a<4294967296:=by unfold oP;omega
theorem fS(n x:Nat)(a:x<4294967296):dH n x<4294967296:=
 Ht (Nat.lt_of_le_of_lt (Nat.div_le_self _ _) a) (Nat.mod_lt _ (by omega))
theorem Ca(a:Nat)(c:a<4294967296):4294967295^^^a=oP a:=by
 have b:(BitVec.allOnes 32^^^BitVec.ofNat 32 a).toNat=(~~~(BitVec.ofNat 32 a)).toNat:=by rw[BitVec.allOnes_xor]
 rw[BitVec.toNat_not,BitVec.toNat_xor,BitVec.toNat_allOnes,BitVec.toNat_ofNat,Nat.mod_eq_of_lt (by simpa using c)]at b;simpa[oP]using b
def sb(a b c d:Nat):Nat:=a*16777216+b*65536+c*256+d
def vi(x:Nat):Nat:=eX (eX (dH 7 x) (dH 18 x)) (x/8)
def Af(x:Nat):Nat:=eX (eX (dH 17 x) (dH 19 x)) (x/1024)
def Ga(b:List UInt8)(t:Nat):Nat:=sb ((b[4*t]?.getD 0).toNat) ((b[4*t+1]?.getD 0).toNat) ((b[4*t+2]?.getD 0).toNat) ((b[4*t+3]?.getD 0).toNat)
def dt(b:List UInt8):Nat→List Nat
 |0=>[]
 |t+1=>dt b t++[if t<16 then Ga b t else
   cF (cF (cF ((dt b t)[t-16]?.getD 0) (vi ((dt b t)[t-15]?.getD 0))) ((dt b t)[t-7]?.getD 0)) (Af ((dt b t)[t-2]?.getD 0))]
structure cS where
 a:Nat
 b:Nat
 c:Nat
 d:Nat
 e:Nat
 f:Nat
 g:Nat
 h:Nat
structure cS.ok(s:cS):Prop where
 a:s.a<4294967296
 b:s.b<4294967296
 c:s.c<4294967296
 d:s.d<4294967296
 e:s.e<4294967296
 f:s.f<4294967296
 g:s.g<4294967296
 h:s.h<4294967296
def mq(s:cS)(k w:Nat):Nat:=cF (cF (cF (cF s.h (eX (eX (dH 6 s.e) (dH 11 s.e)) (dH 25 s.e))) (eX (gU s.e s.f) (gU (oP s.e) s.g))) k) w
def rh(s:cS):Nat:=cF (eX (eX (dH 2 s.a) (dH 13 s.a)) (dH 22 s.a)) (eX (eX (gU s.a s.b) (gU s.a s.c)) (gU s.b s.c))
def round(s:cS)(k w:Nat):cS:=⟨cF (mq s k w) (rh s),s.a,s.b,s.c,cF s.d (mq s k w),s.e,s.f,s.g⟩
def sE:List Nat:=[1116352408,1899447441,3049323471,3921009573,961987163,1508970993,2453635748,2870763221,3624381080,310598401,607225278,1426881987,1925078388,2162078206,2614888103,3248222580,3835390401,4022224774,264347078,604807628,770255983,1249150122,1555081692,1996064986,2554220882,2821834349,2952996808,3210313671,3336571891,3584528711,113926993,338241895,666307205,773529912,1294757372,1396182291,1695183700,1986661051,2177026350,2456956037,2730485921,2820302411,3259730800,3345764771,3516065817,3600352804,4094571909,275423344,430227734,506948616,659060556,883997877,958139571,1322822218,1537002063,1747873779,1955562222,2024104815,2227730452,2361852424,2428436474,2756734187,3204031479,3329325298]
def dU:cS:=⟨1779033703,3144134277,1013904242,2773480762,1359893119,2600822924,528734635,1541459225⟩
def rounds(w:List Nat)(s:cS):Nat→cS
 |0=>s
 |t+1=>round (rounds w s t) (sE[t]?.getD 0) (w[t]?.getD 0)
def Ds(s v:cS):cS:=⟨cF s.a v.a,cF s.b v.b,cF s.c v.c,cF s.d v.d,cF s.e v.e,cF s.f v.f,cF s.g v.g,cF s.h v.h⟩
def fN(s:cS)(b:List UInt8):cS:=Ds s (rounds (dt b 64) s 64)
theorem cS.Hq(s:cS)(k w:Nat)(h:s.ok):(round s k w).ok:=
 ⟨gd _ _,h.a,h.b,h.c,gd _ _,h.e,h.f,h.g⟩
theorem uS(w:List Nat)(s:cS)(h:s.ok):∀t,(rounds w s t).ok
 |0=>h
 |t+1=>cS.Hq _ _ _ (uS w s h t)
theorem yL(s v:cS):(Ds s v).ok:=⟨gd _ _,gd _ _,gd _ _,gd _ _,gd _ _,gd _ _,gd _ _,gd _ _⟩
theorem Jn(b:List UInt8)(t:Nat):Ga b t<4294967296:=by
 unfold Ga sb;have a:=(b[4*t]?.getD 0).toNat_lt;have c:=(b[4*t+1]?.getD 0).toNat_lt;have d:=(b[4*t+2]?.getD 0).toNat_lt;have e:=(b[4*t+3]?.getD 0).toNat_lt;omega
theorem jt(b:List UInt8):∀t,(dt b t).length=t
 |0=>rfl
 |t+1=>by simp[dt,jt b t]
theorem uZ(b:List UInt8):∀t,∀x∈dt b t,x<4294967296
 |0=>by simp[dt]
 |t+1=>by
  intro x a;simp only[dt,List.mem_append,List.mem_singleton]at a;rcases a with a|a;·exact uZ b t x a
  ·rw[a];split;·exact Jn b t
   ·exact gd _ _
end Go.Proofs.YtphjagkehiklkaaGreatDoor
namespace Go.Proofs.YtphjagkehiklkaaGreatDoor
def ij(n:Nat):UInt8:=UInt8.ofNat n
def gv(s:cS)(l:List UInt8):Nat→cS
 |0=>s
 |k+1=>fN (gv s l k) ((l.drop (64*k)).take 64)
def len8(n:Nat):List UInt8:=[ij (8*n/72057594037927936),ij (8*n/281474976710656),ij (8*n/1099511627776),ij (8*n/4294967296),ij (8*n/16777216),ij (8*n/65536),ij (8*n/256),ij (8*n)]
def sI(l:List UInt8):List UInt8:=l++128::(List.replicate ((119-l.length%64)%64) 0++len8 l.length)
def ee(x:Nat):List UInt8:=[ij (x/16777216),ij (x/65536),ij (x/256),ij x]
def dR(s:cS):List UInt8:=ee s.a++ee s.b++ee s.c++ee s.d++ee s.e++ee s.f++ee s.g++ee s.h
def eF(l:List UInt8):List UInt8:=dR (gv dU (sI l) ((sI l).length/64))
def gV(tag:UInt8)(a:List (List UInt8)):List UInt8:=tag::ij a.length::a.flatMap fun p=>ee p.length++p
theorem iX(s:cS):(dR s).length=32:=rfl
theorem gJ(l:List UInt8):(eF l).length=32:=rfl
theorem iK(n:Nat):(len8 n).length=8:=rfl
theorem q9(l:List UInt8):(sI l).length=l.length+9+(119-l.length%64)%64:=by
 simp only[sI,bh,List.length_cons,List.length_replicate,iK];omega
theorem Ab(s:cS)(l:List UInt8)(h:s.ok):∀k,(gv s l k).ok
 |0=>h
 |_+1=>yL _ _
theorem wQ:dU.ok:=by constructor<;>decide
theorem js(s:cS)(l r:List UInt8):∀k,64*k≤l.length→gv s (l++r) k=gv s l k
 |0,_=>rfl
 |k+1,a=>by
  rw[gv,gv,js s l r k (by omega)];congr 1;rw[List.drop_append_of_le_length (by omega),List.take_append_of_le_length (by rw[List.length_drop];omega)]
theorem qp(s:cS)(l b:List UInt8)(k:Nat)(c:l.length=64*k)(a:b.length=64)(r:List UInt8):gv s (l++(b++r)) (k+1)=fN (gv s l k) b:=by
 rw[gv,js s l _ k (by omega),←c,List.drop_left,←a,List.take_left]
theorem Cw(m t:List UInt8)(q:Nat)(hm:m.length=64*q)(c:t.length<56):
  eF (m++t)=dR (fN (gv dU m q) (t++128::(List.replicate (55-t.length) 0++len8 (64*q+t.length)))):=by
 unfold eF;have a:(m++t).length=64*q+t.length:=by rw[bh,hm]
 have b:(sI (m++t)).length=64*(q+1):=by rw[q9,a];omega
 rw[b,Nat.mul_div_cancel_left _ (by omega:0<64)];congr 1;unfold sI;rw[a,show(119-(64*q+t.length)%64)%64=55-t.length by omega,List.append_assoc];have:=qp dU m (t++128::(List.replicate (55-t.length) 0++len8 (64*q+t.length))) q hm (by simp[iK];omega) [];rw[List.append_nil]at this;exact this
theorem FJ(m t:List UInt8)(q:Nat)(hm:m.length=64*q)(f:56≤t.length)(c:t.length<64):
  eF (m++t)=dR (fN (fN (gv dU m q) (t++128::List.replicate (63-t.length) 0)) (List.replicate 56 0++len8 (64*q+t.length))):=by
 unfold eF;have a:(m++t).length=64*q+t.length:=by rw[bh,hm]
 have b:(sI (m++t)).length=64*(q+2):=by rw[q9,a];omega
 rw[b,Nat.mul_div_cancel_left _ (by omega:0<64)];congr 1;unfold sI;have d:List.replicate (119-t.length) (0:UInt8)=List.replicate (63-t.length) 0++List.replicate 56 0:=by
  rw[List.replicate_append_replicate];congr 1;omega
 rw[a,show(119-(64*q+t.length)%64)%64=119-t.length by omega,d];have e:m++t++128::(List.replicate (63-t.length) 0++List.replicate 56 0++len8 (64*q+t.length))=(m++(t++128::List.replicate (63-t.length) 0))++((List.replicate 56 0++len8 (64*q+t.length))++[]):=by simp
 rw[e,qp dU _ _ (q+1) (by simp[hm];omega) (by simp[iK])];have:=qp dU m (t++128::List.replicate (63-t.length) 0) q hm (by simp;omega) [];rw[List.append_nil]at this;rw[this]
end Go.Proofs.YtphjagkehiklkaaGreatDoor
namespace Go.Proofs.YtphjagkehiklkaaGreatDoor
def kx(M rest:List UInt8):Prop:=rest.length=64∧rest.take (M.length%64)=M.drop (64*(M.length/64))
def cO(rest:List UInt8)(a:Nat)(X:List UInt8):List UInt8:=rest.take a++X++rest.drop (a+X.length)
theorem jK{rest:List UInt8}{a:Nat}{X:List UInt8}(h:rest.length=64)(b:a+X.length≤64):(cO rest a X).length=64:=by
 simp[cO];omega
theorem Bs{M rest X:List UInt8}(h:kx M rest)(c:M.length%64+X.length<64):
  kx (M++X) (cO rest (M.length%64) X)∧gv dU (M++X) ((M++X).length/64)=gv dU M (M.length/64):=by
 have b:(M++X).length=M.length+X.length:=bh;have a:(M++X).length/64=M.length/64:=by rw[b];omega
 have hm:(M++X).length%64=M.length%64+X.length:=by rw[b];omega
 refine⟨⟨jK h.1 (by omega),?_⟩,?_⟩;·rw[hm,a,List.drop_append_of_le_length (by omega),←h.2,cO];rw[List.take_left' (by have:=h.1;simp;omega)]
 ·rw[a];exact js dU M X _ (by omega)
theorem Bq{M rest X:List UInt8}(h:kx M rest)(c:M.length%64+X.length=64):
  kx (M++X) (cO rest (M.length%64) X)∧gv dU (M++X) ((M++X).length/64)=fN (gv dU M (M.length/64)) (cO rest (M.length%64) X):=by
 have a:(M++X).length=M.length+X.length:=bh;have b:(M++X).length/64=M.length/64+1:=by rw[a];omega
 have hm:(M++X).length%64=0:=by rw[a];omega
 refine⟨⟨jK h.1 (by omega),?_⟩,?_⟩;·rw[hm,b,List.take_zero,List.drop_of_length_le (by rw[a];omega)]
 ·rw[b,gv,js dU M X _ (by omega),List.drop_append_of_le_length (by omega),←h.2];congr 1;rw[cO,List.drop_of_length_le (by have:=h.1;omega),List.append_nil];exact List.take_of_length_le (by have:=h.1;simp;omega)
theorem ER(rest:List UInt8)(h:rest.length=64):kx [] rest:=⟨h,rfl⟩
theorem Hd(M rest:List UInt8)(h:kx M rest):M=M.take (64*(M.length/64))++rest.take (M.length%64):=by
 rw[h.2,List.take_append_drop]
end Go.Proofs.YtphjagkehiklkaaGreatDoor
namespace Go.Proofs.YtphjagkehiklkaaGreatDoor
end Go.Proofs.YtphjagkehiklkaaGreatDoor
namespace Go.Proofs.YtphjagkehiklkaaGreatDoor
open Go.RowKit
theorem Ia{k:IntKind}{a b:Int}(h:a=b):Ending.returned (.int k a)= .returned (.int k b):=by rw[h]
theorem Fv(n m x:Nat)(hm:m+n=32)(c:x<4294967296):bits .or .u32 ((x:Int)*2^m%4294967296) ((x:Int)/2^(32-m))=((dH n x:Nat):Int):=by
 obtain rfl:n=32-m:=by omega
 have a:(x:Int)/2^(32-m)=((x/2^(32-m):Nat):Int):=by
  rw[Int.natCast_ediv];simp
 have b:(x:Int)*2^m%4294967296=((x*2^m%4294967296:Nat):Int):=by
  rw[Int.natCast_emod];simp
 rw[a,b,u32_or_nat _ _ (Nat.mod_lt _ (by omega)) (Nat.lt_of_le_of_lt (Nat.div_le_self _ _) c),Nat.or_comm];unfold dH;rw[show 32-(32-m)=m by omega]
theorem BQ(n:Nat)(a:1≤n)(b:n≤31):bits .and .u64 (IntKind.u64.wrap (-(n:Int))) 31=((32-n:Nat):Int):=by
 have e:IntKind.u64.wrap (-(n:Int))=((18446744073709551616-n:Nat):Int):=by
  simp only[IntKind.wrap,IntKind.bits,IntKind.signed];simp;omega
 rw[e];have:=u64_and_nat (18446744073709551616-n) 31 (by omega) (by omega);rw[nat_mask5]at this;refine this.trans ?_;congr 1;omega
theorem Fu(n x:Nat)(w:World)(b:1≤n)(c:n≤31)(f:x<4294967296):
  Calls Tryz.prog 175 #[.int .u32 x, .int .i64 (-(n:Int))] w fun e w'=>e= .returned (.int .u32 (dH n x:Nat))∧w=w':=by
 have hand:=BQ n b c;have hm:32-n+n=32:=by omega
 have a:32-n≤31:=by omega
 generalize 32-n=m at hand hm a;have d:=af hm;clear hm b c;go_enter Tryz.func175,Tryz.ntmps175;go_wp2;go_ret;exact⟨Ia (Fv n m x d.out f),rfl⟩
theorem iB(n x:Nat)(w:World)(a:1≤n)(b:n≤31)(c:x<4294967296):
  Calls Tryz.prog 159 #[.int .i64 n, .int .u32 x] w fun e w'=>e= .returned (.int .u32 (dH n x:Nat))∧w=w':=by
 go_enter Tryz.func159,Tryz.ntmps159;go_wp2_with fail;refine(Fu n x _ a b c).mono ?_;rintro e w1⟨rfl,rfl⟩;go_wp2;go_ret;exact⟨rfl,rfl⟩
end Go.Proofs.YtphjagkehiklkaaGreatDoor
namespace Go.Proofs.YtphjagkehiklkaaGreatDoor
open Go.RowKit
theorem aq.setCells{g:Nat}{t:TypeId}:∀(a:List Value)(i:Nat)(w:World)(cs:List Value),aq w g t cs.toArray→i+a.length≤cs.length→
  aq (w.setCells g i a) g t (cs.take i++a++cs.drop (i+a.length)).toArray
 |[],i,w,cs,h,_=>by simpa[World.setCells]using h
 |v::r,i,w,cs,h,f=>by
  have b:=h.jC i v;rw[List.setIfInBounds_toArray]at b;simp only[List.length_cons]at f;have e:=aq.setCells r (i+1) _ (cs.set i v) b (by rw[List.length_set];omega);refine(congrArg (aq _ g t) ?_).mp e;congr 1;have c:(cs.set i v).take (i+1)=cs.take i++[v]:=by
   rw[List.take_set,List.take_succ_eq_append_getElem (by omega:i<cs.length),List.set_append_right _ _ (by simp;omega)];simp;rw[show i-min i cs.length=0 by omega];rfl
  have d:(cs.set i v).drop (i+1+r.length)=cs.drop (i+(v::r).length):=by
   rw[List.drop_set_of_lt (by omega)];congr 1;simp only[List.length_cons];omega
  rw[c,d];simp
theorem Fr.setCells{T:Nat→Prop}{g:Nat}{a:World}(b:g<a.heap.size→T g):∀(c:List Value)(d:Nat)(w:World),Fr T a w→Fr T a (w.setCells g d c)
 |[],_,_,h=>h
 |v::r,d,_,h=>Fr.setCells b r (d+1) _ (h.setCell (p:=⟨g,d,none⟩) b v)
theorem vV{P:Program}(w:World)(e m ty elem:TypeId)(b o a c:Nat)(t:ByteArray)
  (hu:P.underlying e=some (.slice elem))(l:∀w,(Go.sizeOf elem).run P w= .ok 1 w)(n:Nat)(i:Nat.min t.size a=n)
  (g:∀j,j<n→(w.cell? ⟨b,o+j,none⟩).isSome=true)(h:∀j,j<n→w.frozen? ⟨b,o+j,none⟩=false):
  (Builtin.copy_ #[e,m] ty #[.slice (some ⟨b,o,none⟩) a c, .string t]).run P w= .ok (goInt n) (w.setCells b o ((t.data.toList.map fun x=>Value.int .u8 (x.toNat:Int)).take n)):=by
 have f:((t.data.toList.map fun x=>Value.int .u8 (x.toNat:Int)).take n).length=n:=by
  rw[List.length_take,List.length_map,←Lib.size_eq];have:Nat.min t.size a≤t.size:=Nat.min_le_left _ _;omega
 have d:=run_storeCells_cells (P:=P) b o ((t.data.toList.map fun x=>Value.int .u8 (x.toNat:Int)).take n) 0 w (by rw[f];simpa using g) (by rw[f];simpa using h) (by
  intro v k;obtain⟨x,_,rfl⟩:=List.mem_map.1 (List.mem_of_mem_take k);rfl);simp[Builtin.copy_,run_underlying hu,Builtin.lenOf,Builtin.firstCells,l,i];rw[d];rfl
def ju(n:Nat):Value:= .int .u32 (n:Int)
def aJ(w:World)(v:Value)(e:Ending)(w':World):Prop:=e= .returned v∧Fr ag w w'
theorem gZ{w:World}{g:Nat}{t:TypeId}{a cs:Array Value}(h:aq w g t a):aq (w.setRow g cs) g t cs:=by
 unfold aq at h⊢;simp[World.setRow,Array.getElem?_modify,h]
theorem wpList_buildTo{P:Program}{ops:Array Oper}{rest:List Oper}{e:Oper}{a:Act}{w:World}{Q:Exit→Act→World→Prop}(c:e.guard=none)(t:TypeId)(parts:Array (Nat×Operand))(d:e.op= .build t parts)(cells:Array Value)
  (b:P.built t (parts.map fun(i,x)=>(i,a.eval x)).toList=some cells)(h:wpList P ops Q rest (a.put e.dst (.agg cells)) w):wpList P ops Q (e::rest) a w:=
 wpList_build c t parts d (by rw[b];rfl) (by rw[b];exact h)
theorem Fr.setRow{T:Nat→Prop}{a w:World}(h:Fr T a w){g:Nat}(b:g<a.heap.size→T g)(cs:Array Value):Fr T a (w.setRow g cs):=by
 refine h.aw (T':=fun k=>k=g) ⟨rfl,rfl,rfl,by simp[World.setRow],fun k _ d=>?_⟩ (fun i c e=>by subst e;exact b c);simp[World.setRow,Array.getElem?_modify,Ne.symm d]
def fC(s:cS):List Value:=[ju s.a,ju s.b,ju s.c,ju s.d,ju s.e,ju s.f,ju s.g,ju s.h]
def aS(x:UInt8):Value:= .int .u8 (x.toNat:Int)
end Go.Proofs.YtphjagkehiklkaaGreatDoor
namespace Go.Proofs.YtphjagkehiklkaaGreatDoor
open Go.RowKit
end Go.Proofs.YtphjagkehiklkaaGreatDoor
namespace Go.Proofs.YtphjagkehiklkaaGreatDoor
open Go.RowKit
structure dF(w w':World)(t:TypeId)(cells:Array Value):Prop where
 aH:aq w' w.heap.size t cells
 fr:Fr ag w w'
 size:w'.heap.size=w.heap.size+1
theorem dF.alloc(w:World)(t:TypeId)(cells:Array Value):dF w (w.alloc (.cells cells t)) t cells:=⟨aq.new w t cells,aD.alloc _,by simp⟩
theorem aA{P:Program}{ops:Array Oper}{rest:List Oper}{e:Oper}{a:Act}{w:World}{Q:Exit→Act→World→Prop}(b:e.guard=none)(t:TypeId)(x:Operand)(c:e.op= .box t x)(cells:Array Value)(d:(a.eval x).cells=cells)
  (h:∀w',dF w w' t cells→wpList P ops Q rest (a.put e.dst (.pointer (some ⟨w.heap.size,0,none⟩))) w'):wpList P ops Q (e::rest) a w:=
 Great.wpList_boxTo b t x c _ rfl _ rfl cells d (h _ (dF.alloc w t cells))
theorem ak{P:Program}{ops:Array Oper}{rest:List Oper}{g:Oper}{a:Act}{w:World}{Q:Exit→Act→World→Prop}(d:g.guard=none)(t:TypeId)(e:g.op= .alloc t)(z:Value)(f:∀w,(zeroValue t).run P w= .ok z w)(cells:Array Value)(c:z.cells=cells)
  (h:∀w',dF w w' t cells→wpList P ops Q rest (a.put g.dst (.pointer (some ⟨w.heap.size,0,none⟩))) w'):wpList P ops Q (g::rest) a w:=by
 subst c;refine wpList_plain d fun K b=>?_;unfold Oper.wp execOp;simp only[e,Instr.alloc,Sem.run_bind,f,newVar,newRow,run_newObj_alloc,Sem.run_pure,Result.andThen_ok];exact b _ _ (h _ (dF.alloc w t z.cells))
theorem ai{P:Program}{ops:Array Oper}{rest:List Oper}{m:Oper}{a:Act}{w:World}{Q:Exit→Act→World→Prop}(c:m.guard=none)(ty:TypeId)(x y:Operand)(i:m.op= .store ty x y)
  (g:Nat)(cells:Array Value)(j:a.eval x= .pointer (some ⟨g,0,none⟩))(l:a.eval y= .agg cells)
  (t:TypeId)(b:Array Value)(d:aq w g t b)(f:(P.info? ty).map (·.size)=some cells.size)
  (hold:b.size=cells.size)(e:cells.all (·.oneCell')=true)
  (h:∀w',aq w' g t cells→Fr (fun k=>k=g) w w'→wpList P ops Q rest (a.put m.dst undef) w'):wpList P ops Q (m::rest) a w:=
 wpList_store_row c ty x y i g cells j l t b d f hold e (h _ (gZ d) ((Fr.refl (fun k=>k=g) w).setRow (fun _=>rfl) cells))
end Go.Proofs.YtphjagkehiklkaaGreatDoor
namespace Go.Proofs.YtphjagkehiklkaaGreatDoor
open Go.RowKit
theorem eG(a b:Nat):IntKind.u32.wrap ((a:Int)+(b:Int))=((cF a b:Nat):Int):=by
 rw[IntKind.wrap_u32];unfold cF;omega
theorem rX(b:List UInt8)(k i:Nat)(x:Nat)(a:x=(dt b k)[i]?.getD 0):x<4294967296:=by
 rcases h:(dt b k)[i]? with _|y;·rw[a,h];simp
 ·rw[a,h];exact uZ b k y (List.mem_of_getElem? h)
theorem Ae(x:Nat)(b:x<4294967296):∃a:Nat,bits .xor .u32 ((dH 7 x:Nat):Int) ((dH 18 x:Nat):Int)=(a:Int)∧bits .xor .u32 (a:Int) ((x:Int)/8)=((vi x:Nat):Int):=by
 refine⟨eX (dH 7 x) (dH 18 x),u32_xor_nat _ _ (fS 7 x b) (fS 18 x b),?_⟩;rw[show(x:Int)/8=((x/8:Nat):Int)by omega,u32_xor_nat _ _ (mU (fS 7 x b) (fS 18 x b)) (by omega)];rfl
theorem Ag(x:Nat)(b:x<4294967296):∃a:Nat,bits .xor .u32 ((dH 17 x:Nat):Int) ((dH 19 x:Nat):Int)=(a:Int)∧bits .xor .u32 (a:Int) ((x:Int)/1024)=((Af x:Nat):Int):=by
 refine⟨eX (dH 17 x) (dH 19 x),u32_xor_nat _ _ (fS 17 x b) (fS 19 x b),?_⟩;rw[show(x:Int)/1024=((x/1024:Nat):Int)by omega,u32_xor_nat _ _ (mU (fS 17 x b) (fS 19 x b)) (by omega)];rfl
def fL(w wr:World)(g:Nat)(l:List Nat):Prop:=
 Fr ag w wr∧w.heap.size=g∧aq wr g 242 ((l++List.replicate (64-l.length) 0).map ju).toArray
theorem fL.at_{w wr:World}{g:Nat}{l:List Nat}(h:fL w wr g l){k:Nat}(a:k<64):∃u,wr.cell? ⟨g,k,none⟩=some u:=by
 rw[h.2.2.cell];simp only[bR];refine⟨_,List.getElem?_eq_getElem ?_⟩;simp;omega
theorem fL.get{w wr:World}{g:Nat}{l:List Nat}(h:fL w wr g l){k:Nat}(a:k<l.length):wr.cell? ⟨g,k,none⟩=some (ju (l[k]?.getD 0)):=by
 rw[h.2.2.cell];simp only[bR,List.getElem?_map];rw[List.getElem?_append_left a,List.getElem?_eq_getElem a];rfl
theorem fL.drew{w wr:World}{g:Nat}{l:List Nat}(h:fL w wr g l):fL w wr.drew g l:=⟨h.1.drew,h.2.1,h.2.2.drew⟩
theorem fL.drewN{w wr:World}{g:Nat}{l:List Nat}(h:fL w wr g l)(n:Nat):fL w (wr.drewN n) g l:=⟨h.1.drewN n,h.2.1,h.2.2.drewN n⟩
theorem fL.put{w wr:World}{g:Nat}{l:List Nat}(h:fL w wr g l){k:Nat}(b:l.length=k)(a:k<64)(x:Nat):fL w (wr.setCell ⟨g,k,none⟩ (ju x)) g (l++[x]):=by
 refine⟨h.1.setCell (fun c=>absurd c (by have:=h.2.1;simp;omega)) _,h.2.1,?_⟩;have:=h.2.2.jC k (ju x);subst b;refine(congrArg (aq _ g 242) ?_).mp this;have e:64-l.length=(64-(l++[x]).length)+1:=by simp;omega
 rw[e,List.replicate_succ];simp
end Go.Proofs.YtphjagkehiklkaaGreatDoor
