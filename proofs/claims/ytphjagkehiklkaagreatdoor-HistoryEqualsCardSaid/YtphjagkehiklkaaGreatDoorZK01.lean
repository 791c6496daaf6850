/- Texts. -/
import Derived.Deep.AppendLies
import Derived.Deep.DeepCutAuto
import Derived.Deep.Fields
import Derived.Great.Ranges
import Derived.Lib.ConvBytes
import Derived.Lib.Hide
import Derived.Lib.LazyBuf
import Derived.Lib.ReflectliteSwap
import Derived.OpenShut
import Derived.StillTailTactics
import Derived.Test.YtphjagkehiklkaaGreatDoorProg
import Derived.WalkLawsBesides
import Derived.WalkSpells
set_option linter.unusedVariables false
set_option linter.unusedSimpArgs false
set_option maxHeartbeats 4000000
set_option maxRecDepth 100000
namespace Go.Proofs.YtphjagkehiklkaaGreatDoor
open Go.RowKit
theorem bw{α:Type}{n:Nat}{a:α}{l:List α}:(a::l).take (n+1)=a::l.take n:=rfl
theorem bC{α:Type}{l:List α}:l.take 0=[]:=rfl
theorem bD{α β:Type}{f:α→β}{a:α}{l:List α}:(a::l).map f=f a::l.map f:=rfl
theorem bE{α β:Type}{f:α→β}:([]:List α).map f=[]:=rfl
theorem bF{α:Type}{i:Nat}{a:α}{l:List α}:l.toArray.setIfInBounds i a=(l.set i a).toArray:=List.setIfInBounds_toArray ..
theorem bG{α:Type}{a b:α}{l:List α}:(a::l).set 0 b=b::l:=rfl
theorem bH{α:Type}{n:Nat}{a b:α}{l:List α}:(a::l).set (n+1) b=a::l.set n b:=rfl
theorem dj{α:Type}{n:Nat}{a:α}{l:List α}:(a::l).drop (n+1)=l.drop n:=rfl
theorem dk{α:Type}{l:List α}:l.drop 0=l:=rfl
theorem af{p:Prop}(h:p):RowKit.Hid p:=h
theorem cD{p:Prop}[Decidable p](h:¬p):decide p=false:=decide_eq_false h
theorem de{p:Prop}[Decidable p](h:p):decide p=true:=decide_eq_true h
theorem jt{α:Type}[BEq α][LawfulBEq α]{a b:α}(h:a≠b):(a==b)=false:=beq_eq_false_iff_ne.2 h
theorem aj{a b c:Prop}(h:b)(d:a:=by kernel_rfl):(a∧b)∨c:= .inl ⟨d,h⟩
theorem aS{α:Type}{l m:List α}:(l++m).length=l.length+m.length:=List.length_append
theorem bP{α:Type}{l:List α}{i:Nat}:l.toArray[i]? =l[i]? :=List.getElem?_toArray
structure Fr(T:Nat→Prop)(w w':World):Prop where
 os:w'.os=w.os
 tape:w'.tape=w.tape
 output:w'.output=w.output
 size:w.heap.size≤w'.heap.size
 block:∀k,k<w.heap.size→¬T k→w'.heap[k]? =w.heap[k]?
def ag:Nat→Prop:=fun _=>False
def oe(v:Value):Nat→Prop:=fun k=>v.ownBlock=some k
section
variable{T T':Nat→Prop}{a b c w w':World}
theorem Fr.refl(T:Nat→Prop)(w:World):Fr T w w:=⟨rfl,rfl,rfl,Nat.le_refl _,fun _ _ _=>rfl⟩
theorem Fr.trans(h:Fr T a b)(k:Fr T b c):Fr T a c:=
 ⟨k.os.trans h.os,k.tape.trans h.tape,k.output.trans h.output,Nat.le_trans h.size k.size,fun i d e=>(k.block i (Nat.lt_of_lt_of_le d h.size) e).trans (h.block i d e)⟩
theorem Fr.aw(h:Fr T a b)(k:Fr T' b c)(g:∀i,i<a.heap.size→T' i→T i):Fr T a c:=
 ⟨k.os.trans h.os,k.tape.trans h.tape,k.output.trans h.output,Nat.le_trans h.size k.size,fun i d e=>(k.block i (Nat.lt_of_lt_of_le d h.size) (fun f=>e (g i d f))).trans (h.block i d e)⟩
theorem Fr.mono(h:Fr T a b)(e:∀i,i<a.heap.size→T i→T' i):Fr T' a b:=
 ⟨h.os,h.tape,h.output,h.size,fun i c f=>h.block i c (fun d=>f (e i c d))⟩
theorem Fr.bO(h:Fr ag a b):Fr T a b:=h.mono (fun _ _ x=>x.elim)
theorem az{T:Nat→Prop}{w:World}:Fr T w w:=Fr.refl T w
theorem al{T:Nat→Prop}{w:World}{α:Type}{a:α}:Fr T w w∧a=a∧True:=⟨Fr.refl T w,rfl,trivial⟩
theorem gO{T:Nat→Prop}{w:World}{α:Type}{a:α}:a=a∧True∧Fr T w w:=⟨rfl,trivial,Fr.refl T w⟩
theorem aM{T:Nat→Prop}{w:World}{α:Type}{a:α}:a=a∧Fr T w w:=⟨rfl,Fr.refl T w⟩
theorem Fr.drew(h:Fr T a w):Fr T a w.drew:=⟨h.os,h.tape,h.output,h.size,h.block⟩
theorem Fr.drewN(h:Fr T a w)(n:Nat):Fr T a (w.drewN n):=⟨h.os,h.tape,h.output,h.size,h.block⟩
theorem Fr.alloc(h:Fr T a w)(c:Obj):Fr T a (w.alloc c):=
 h.trans ⟨rfl,rfl,rfl,by simp,fun k b _=>Below.heap_alloc _ _ _ b⟩
theorem Fr.setCell(h:Fr T a w){p:Addr}(c:p.block<a.heap.size→T p.block)(u:Value):Fr T a (w.setCell p u):=
 h.aw (T':=fun k=>k=p.block) ⟨rfl,rfl,rfl,by simp[World.setCell],fun k _ d=>Below.heap_setCell _ _ _ _ d⟩ (fun i b e=>by subst e;exact c b)
theorem Fr.grown{row:Option Nat}(a:w.grownBy w' row):Fr (fun k=>some k=row) w w':=⟨a.os,a.tape,a.output,a.size,a.block⟩
theorem Fr.below{B:Nat}(h:Fr T a b)(e:B≤a.heap.size)(d:∀i,T i→B≤i):Below B a b:=
 ⟨h.os,h.tape,h.output,h.size,fun k f=>h.block k (by omega) (fun c=>by have:=d k c;omega)⟩
theorem Fr.LS(h:Fr ag a b):Below a.heap.size a b:=h.below (Nat.le_refl _) (fun _ x=>x.elim)
theorem Fr.cell(h:Fr T a b){p:Addr}(c:p.block<a.heap.size)(d:¬T p.block):b.cell? p=a.cell? p:=World.cell?_of_block (h.block p.block c d)
theorem Fr.frozen(h:Fr T a b){p:Addr}(c:p.block<a.heap.size)(d:¬T p.block):b.frozen? p=a.frozen? p:=World.frozen?_of_block (h.block p.block c d)
theorem Fr.ak(h:Fr T a b){p:Addr}{v:Value}(c:a.cell? p=some v)(d:¬T p.block):b.cell? p=some v:=(h.cell (World.block_lt_of_cell? a p c) d).trans c
end
theorem kE(a:Addr)(n:Nat):(a.add n).block=a.block:=by unfold Addr.add;split<;>rfl
theorem iT(a:Addr)(i j:Nat):(a.add i).add j=a.add (i+j):=by
 unfold Addr.add;by_cases b:i=0<;>by_cases c:j=0<;>simp[b,c,Nat.add_assoc]
def Rd(w:World)(S:Nat→Prop)(size:Nat)(A:Option Addr)(n:Nat)(xs:List Value):Prop:=
 xs.length=n*size∧(0<n→∃a,A=some a∧S a.block∧∀j u,xs[j]? =some u→w.cell? (a.add j)=some u)
section
variable{w w':World}{S S' T:Nat→Prop}{size n:Nat}{A:Option Addr}{xs:List Value}
theorem Rd.none_:Rd w S size A 0 []:=⟨by simp,fun h=>absurd h (by omega)⟩
theorem Rd.at_{k:Nat}(h:Rd w S 1 A n xs)(f:k<n):∃a u,A=some a∧S a.block∧xs[k]? =some u∧w.cell? (a.add k)=some u:=by
 obtain⟨a,e,c,d⟩:=h.2 (by omega);have b:k<xs.length:=by have:=h.1;omega
 exact⟨a,xs[k],e,c,List.getElem?_eq_getElem b,d k _ (List.getElem?_eq_getElem b)⟩
theorem Rd.lA(h:Rd w S size A n xs)(d:∀p:Addr,S p.block→∀u,w.cell? p=some u→w'.cell? p=some u):Rd w' S size A n xs:=
 ⟨h.1,fun f=>by
  obtain⟨b,e,a,c⟩:=h.2 f;exact⟨b,e,a,fun j u hu=>d _ (by rw[kE];exact a) u (c j u hu)⟩⟩
theorem Rd.fr(h:Rd w S size A n xs)(b:Fr T w w')(a:∀k,S k→¬T k):Rd w' S size A n xs:=h.lA fun _ c _ hu=>b.ak hu (a _ c)
theorem Rd.ao(h:Rd w S size A n xs)(a:Fr ag w w'):Rd w' S size A n xs:=h.fr a (fun _ _ x=>x)
theorem Rd.mono(h:Rd w S size A n xs)(b:∀k,S k→S' k):Rd w S' size A n xs:=
 ⟨h.1,fun f=>by
  obtain⟨a,e,c,d⟩:=h.2 f;exact⟨a,e,b _ c,d⟩⟩
theorem Rd.cut(h:Rd w S size A n xs){k cap:Nat}(e:k≤n)(d:n≤cap):
  Rd w S size (if cap=k then A else A.map (·.add (k*size))) (n-k) (xs.drop (k*size)):=by
 refine⟨by rw[List.length_drop,h.1,Nat.sub_mul],fun f=>?_⟩;obtain⟨b,rfl,c,a⟩:=h.2 (by omega);rw[if_neg (by omega)];refine⟨b.add (k*size),rfl,by rw[kE];exact c,fun j u hu=>?_⟩;rw[iT];exact a _ u (by rw[←hu,List.getElem?_drop])
theorem Rd.take(h:Rd w S size A n xs){k:Nat}(d:k≤n):Rd w S size A k (xs.take (k*size)):=by
 refine⟨by rw[List.length_take,h.1];exact Nat.min_eq_left (Nat.mul_le_mul_right _ d),fun e=>?_⟩;obtain⟨b,rfl,c,a⟩:=h.2 (by omega);refine⟨b,rfl,c,fun j u hu=>a j u ?_⟩;rw[List.getElem?_take]at hu;split at hu;·exact hu
 ·cases hu
theorem Rd.gR{base:Nat}{e:TypeId}{c:Nat}(h:w.ownsRow base e size (.slice A n c) n xs):Rd w (oe (.slice A n c)) size A n xs:=by
 refine⟨h.1,fun d=>?_⟩;obtain⟨g,cap,f,_,b⟩:=h.form d;have a:A=some ⟨g,0,none⟩:=by injection f
 subst a;exact⟨_,rfl,rfl,h.cells (g:=g) rfl⟩
end
def aq(w:World)(g:Nat)(t:TypeId)(cs:Array Value):Prop:=w.heap[g]? =some (.cells cs t (0,0))
section
variable{w w':World}{g:Nat}{t:TypeId}{cs:Array Value}{T:Nat→Prop}
theorem aq.lt(h:aq w g t cs):g<w.heap.size:=by
 rcases Nat.lt_or_ge g w.heap.size with b|a;·exact b
 ·unfold aq at h;rw[Array.getElem?_eq_none a]at h;cases h
theorem aq.cell(h:aq w g t cs)(i:Nat):w.cell? ⟨g,i,none⟩=cs[i]? :=cell_of_row w g i cs t (0,0) h
theorem aq.frozen(h:aq w g t cs)(i:Nat):w.frozen? ⟨g,i,none⟩=false:=by
 unfold aq at h;simp[World.frozen?,h]
theorem aq.new(w:World)(t:TypeId)(cs:Array Value):aq (w.alloc (.cells cs t)) w.heap.size t cs:=heap_alloc_new w _
theorem aq.drew(h:aq w g t cs):aq w.drew g t cs:=h
theorem aq.drewN(h:aq w g t cs)(n:Nat):aq (w.drewN n) g t cs:=h
theorem aq.alloc(h:aq w g t cs)(a:Obj):aq (w.alloc a) g t cs:=(Below.heap_alloc w a g h.lt).trans h
theorem aq.j7(h:aq w g t cs)(i:Nat)(u:Value):aq (w.setCell ⟨g,i,none⟩ u) g t (cs.setIfInBounds i u):=by
 unfold aq at h⊢;simp[World.setCell,Array.getElem?_modify,h]
theorem aq.cN(h:aq w g t cs){p:Addr}(a:g≠p.block)(u:Value):aq (w.setCell p u) g t cs:=(Below.heap_setCell w p u g a).trans h
theorem aq.fr(h:aq w g t cs)(b:Fr T w w')(a:¬T g):aq w' g t cs:=(b.block g h.lt a).trans h
theorem kX{w:World}{g:Nat}{t:TypeId}{l:List Value}(h:aq w g t l.toArray):∀j v,l[j]? =some v→w.cell? ((⟨g,0,none⟩:Addr).add j)=some v:=fun j v a=>by
 rw[show(⟨g,0,none⟩:Addr).add j=⟨g,j,none⟩from by unfold Addr.add;split<;>simp_all,h.cell j,bP];exact a
theorem aq.ri{c:Nat}{d:TypeId}{cs':Array Value}(h:aq w g t cs)(a:aq w c d cs')(b:t≠d):g≠c:=by
 rintro rfl;unfold aq at h a;rw[h]at a;injection a with a;injection a with _ e;exact b e
theorem bM{base:Nat}{e:TypeId}{size n:Nat}{v:Value}{xs:List Value}(h:w.ownsRow base e size v n xs)(c:aq w g t cs)(a:e≠t):v.ownBlock≠some g:=by
 rcases h.2 with⟨rfl,_⟩|⟨b,cap,cur,rfl,_,d,_⟩;·simp[Value.ownBlock]
 ·intro he;have:b=g:=by simpa[Value.ownBlock]using he
  subst this;exact aq.ri (t:=e) d c a rfl
theorem aL{base:Nat}{e:TypeId}{size n:Nat}{v:Value}{xs:List Value}(h:w.ownsRow base e size v n xs)(d:Fr T w w')(b:∀k,v.ownBlock=some k→¬T k):w'.ownsRow base e size v n xs:=by
 refine⟨h.1,?_⟩;rcases h.2 with f|⟨g,cap,cur,rfl,c,a,rest⟩;·exact .inl f
 ·exact .inr ⟨g,cap,cur,rfl,c,(d.block g (Array.getElem?_eq_some_iff.1 a).1 (b g rfl)).trans a,rest⟩
end
end Go.Proofs.YtphjagkehiklkaaGreatDoor
namespace Go.Proofs.YtphjagkehiklkaaGreatDoor
open Go.RowKit
theorem xe{w:World}{base:Nat}{e:TypeId}{size n:Nat}{v:Value}{xs:List Value}(h:w.ownsRow base e size v n xs):∃A c,v= .slice A n c∧n≤c:=by
 rcases h.2 with⟨rfl,rfl⟩|⟨g,cap,cur,rfl,_,_,a,_⟩;·exact⟨none,0,rfl,Nat.le_refl _⟩
 ·exact⟨_,cap,rfl,a⟩
theorem aG{w:World}{base:Nat}{e:TypeId}{size n:Nat}{v:Value}{xs:List Value}(h:w.ownsRow base e size v n xs):∃A m c,v= .slice A m c∧Hid (m=n)∧Hid (m≤c):=by
 obtain⟨A,c,a,b⟩:=xe h;exact⟨A,n,c,a,rfl,b⟩
structure bK(e:TypeId)(size:Nat)(w:World)(v:Value)(w':World)(a:Value)(n:Nat)(xs:List Value):Prop where
 own:w'.ownsRow 0 e size a n xs
 fr:Fr (oe v) w w'
 eG:∀k,a.ownBlock=some k→v.ownBlock=some k∨w.heap.size≤k
theorem bK.start{e:TypeId}{size:Nat}{w:World}{v:Value}{n:Nat}{xs:List Value}(h:w.ownsRow 0 e size v n xs):bK e size w v w v n xs:=
 ⟨h,az,fun _ a=> .inl a⟩
theorem bK.trans{e:TypeId}{size:Nat}{w w1 w2:World}{v v1 v2:Value}{n m:Nat}{xs c:List Value}(h:bK e size w v w1 v1 n xs)(k:bK e size w1 v1 w2 v2 m c):bK e size w v w2 v2 m c:=
  ⟨k.own,h.fr.aw k.fr (fun i b d=>by rcases h.eG i d with a|a;exact a;omega),
   fun i b=>by
    rcases k.eG i b with a|a;· exact h.eG i a
    · exact .inr (Nat.le_trans h.fr.size a)⟩
theorem bK.ahead{e:TypeId}{size:Nat}{w w1 w2:World}{v v2:Value}{m:Nat}{b:List Value}(h:Fr ag w w1)(k:bK e size w1 v w2 v2 m b):bK e size w v w2 v2 m b:=
 ⟨k.own,(h.bO).trans k.fr,fun i c=>by
  rcases k.eG i c with a|a;·exact .inl a
  ·exact .inr (Nat.le_trans h.size a)⟩
theorem bK.behind{e:TypeId}{size:Nat}{w w1 w2:World}{v v1:Value}{m:Nat}{a:List Value}(h:bK e size w v w1 v1 m a)(k:Fr ag w1 w2):bK e size w v w2 v1 m a:=
 ⟨aL h.own k (fun _ _ x=>x),h.fr.trans k.bO,h.eG⟩
theorem bK.fresh{e:TypeId}{size:Nat}{w w1 w2:World}{v v2:Value}{m:Nat}{d:List Value}(h:Fr ag w w1)(c:∀k,v.ownBlock=some k→w.heap.size≤k)(k:bK e size w1 v w2 v2 m d):bK e size w (.slice none 0 0) w2 v2 m d:=
 ⟨k.own,(h.aw k.fr (fun i b f=>by have:=c i f;omega)).bO,fun i b=>by
  rcases k.eG i b with a|a;·exact .inr (c i a)
  ·exact .inr (Nat.le_trans h.size a)⟩
theorem bK.ao{e:TypeId}{size:Nat}{w w2:World}{v2:Value}{m:Nat}{a:List Value}(k:bK e size w (.slice none 0 0) w2 v2 m a):Fr ag w w2:=
 k.fr.mono (fun i _ h=>by simp[oe,Value.ownBlock]at h)
theorem bK.new{e:TypeId}{size:Nat}{w w2:World}{v2:Value}{m:Nat}{b:List Value}(k:bK e size w (.slice none 0 0) w2 v2 m b):∀i,v2.ownBlock=some i→w.heap.size≤i:=fun i a=>by
 rcases k.eG i a with h|h;·simp[Value.ownBlock]at h
 ·exact h
section
variable{P:Program}(w:World)
theorem ry(base:Nat)(t ty e:TypeId)(i:TypeInfo)(size:Nat)(f:P.underlying t=some (.slice e))(d:P.info? e=some i)
  (v:Value)(n:Nat)(xs:List Value)(a:w.ownsRow base e size v n xs)(c:Nat):(Builtin.append_ #[t,t] ty #[v, .slice none 0 c]).run P w= .ok v w:=by
 rcases a.2 with⟨rfl,rfl⟩|⟨g,cap,cur,rfl,_,_,b,_⟩;·simp[Builtin.append_,run_underlying f,sizeOf,typeInfo,d,Builtin.lenOf,Builtin.firstCells]
 ·simp[Builtin.append_,run_underlying f,sizeOf,typeInfo,d,Builtin.lenOf,Builtin.firstCells,b,storeCells]
theorem Dd(t ty e:TypeId)(i:TypeInfo)(z:Value)(size bytes:Nat)(G:P.underlying t=some (.slice e))(F:P.info? e=some i)(M:i.zero=some z)
  (g:i.size=size)(B:i.bytes=bytes)(E:z.cells.size=size)(D:0<size)
  (v:Value)(n:Nat)(xs:List Value)(a:w.ownsRow 0 e size v n xs)
  (S:Nat→Prop)(A:Option Addr)(m c:Nat)(news:List Value)(p:Rd w S size A m news)(I:∀u∈news,u.oneCell'=true)
  (b:(n+m)*bytes≤140737488355328)(y:1≤bytes):
  ∃r w',(Builtin.append_ #[t,t] ty #[v, .slice A m c]).run P w= .ok r w'∧bK e size w v w' r (n+m) (xs++news):=by
 have x:n+m≤maxLen:=by
  have:n+m≤(n+m)*bytes:=Nat.le_mul_of_pos_right _ y;simp only[maxLen];omega
 rcases A with _|s
 ·have hm:m=0:=by
   rcases Nat.eq_zero_or_pos m with f|f;·exact f
   ·obtain⟨s,h,_⟩:=p.2 f;cases h
  subst hm;have C:news=[]:=List.eq_nil_of_length_eq_zero (by simpa using p.1);subst C;exact⟨v,w,ry w 0 t ty e i size G F v n xs a c,by simpa using bK.start a⟩
 ·have d:∀j u,news[j]? =some u→w.cell? (s.add j)=some u:=by
   intro j u hu;rcases Nat.eq_zero_or_pos m with f|f;·subst f;have C:news=[]:=List.eq_nil_of_length_eq_zero (by simpa using p.1);subst C;simp at hu
   ·obtain⟨H,h,_,L⟩:=p.2 f;injection h with h;subst h;exact L j u hu
  obtain⟨r,w',q,J,K,_,o⟩:=run_append_own_at (P:=P) w 0 t ty e i z size bytes G F M g B E D v n xs a s m c news p.1 d I x b (Nat.zero_le _);refine⟨r,w',q,J,(Fr.grown K).mono (fun k _ l=>l.symm),fun k l=>?_⟩;rcases o with o|o;·exact .inl (o▸l)
  ·rw[o]at l;exact .inr (by injection l with l;omega)
theorem uP{H:Oper}{a:Act}{K:Act→World→Prop}{Q:Exit→Act→World→Prop}(s x:Operand)(t:TypeId)
  (B:H.op= .call {callee:= .builtin .append,args:=#[s,x],argTypes:=#[t,t]})
  (e:TypeId)(i:TypeInfo)(z:Value)(size bytes:Nat)(E:P.underlying t=some (.slice e))(y:P.info? e=some i)(G:i.zero=some z)
  (d:i.size=size)(l:i.bytes=bytes)(p:z.cells.size=size)(o:0<size)
  (v:Value)(n:Nat)(xs:List Value)(D:a.eval s=v)(f:w.ownsRow 0 e size v n xs)
  (S:Nat→Prop)(A:Option Addr)(m c:Nat)(news:List Value)(F:a.eval x= .slice A m c)(C:Rd w S size A m news)(q:∀u∈news,u.oneCell'=true)
  (b:(n+m)*bytes≤140737488355328)(k:1≤bytes)
  (h:∀j w',bK e size w v w' j (n+m) (xs++news)→K (a.put H.dst j) w'):H.wp P a w K Q:=by
 obtain⟨j,w',g,r⟩:=Dd (P:=P) w t H.type e i z size bytes E y G d l p o v n xs f S A m c news C q b k;unfold Oper.wp execOp;simp only[B,resolve,invoke,builtin,Sem.run_bind,Sem.run_pure,Result.andThen_ok,List.map_toArray,List.map_cons,List.map_nil,D,F,g];exact h j w' r
theorem dR{ops:Array Oper}{rest:List Oper}{I:Oper}{a:Act}{Q:Exit→Act→World→Prop}(l:I.guard=none)(s x:Operand)(t:TypeId)
  (C:I.op= .call {callee:= .builtin .append,args:=#[s,x],argTypes:=#[t,t]})
  (e:TypeId)(i:TypeInfo)(z:Value)(size bytes:Nat)(F:P.underlying t=some (.slice e))(B:P.info? e=some i)(H:i.zero=some z)
  (d:i.size=size)(k:i.bytes=bytes)(p:z.cells.size=size)(o:0<size)
  (v:Value)(n:Nat)(xs:List Value)(E:a.eval s=v)(f:w.ownsRow 0 e size v n xs)
  (S:Nat→Prop)(A:Option Addr)(m c:Nat)(news:List Value)(G:a.eval x= .slice A m c)(D:Rd w S size A m news)(q:∀u∈news,u.oneCell'=true)
  (b:(n+m)*bytes≤140737488355328)(j:1≤bytes)
  (h:∀g w',bK e size w v w' g (n+m) (xs++news)→wpList P ops Q rest (a.put I.dst g) w'):wpList P ops Q (I::rest) a w:=
 wpList_plain l fun _ y=>uP w s x t C e i z size bytes F B H d k p o v n xs E f S A m c news G D q b j fun g w' r=>y _ _ (h g w' r)
theorem uO(cs:Array Value)(e:TypeId)(size n:Nat)(b:cs.size=n*size):Rd (w.alloc (.cells cs e)) (fun k=>k=w.heap.size) size (some ⟨w.heap.size,0,none⟩) n cs.toList:=by
 refine⟨by simpa using b,fun _=>⟨_,rfl,rfl,fun j u hu=>?_⟩⟩;have a:=aq.new w e cs;have h:=a.cell j;rw[show(⟨w.heap.size,0,none⟩:Addr).add j=⟨w.heap.size,j,none⟩by unfold Addr.add;split<;>simp_all];rw[h];simpa using hu
theorem cP{ops:Array Oper}{rest:List Oper}{G:Oper}{a:Act}{Q:Exit→Act→World→Prop}(p:G.guard=none)(s x:Operand)(t:TypeId)
  (B:G.op= .call {callee:= .builtin .append,args:=#[s,x],argTypes:=#[t,t]})
  (e:TypeId)(i:TypeInfo)(z:Value)(size bytes:Nat)(D:P.underlying t=some (.slice e))(A:P.info? e=some i)(F:i.zero=some z)
  (c:i.size=size)(k:i.bytes=bytes)(r:z.cells.size=size)(q:0<size)
  (v:Value)(n:Nat)(xs:List Value)(C:a.eval s=v)(d:w.ownsRow 0 e size v n xs)
  (m:Nat)(cs:Array Value)(g:Nat)(o:g=w.heap.size)(E:a.eval x= .slice (some ⟨g,0,none⟩) m m)(l:cs.size=m*size)(y:∀u∈cs.toList,u.oneCell'=true)
  (b:(n+m)*bytes≤140737488355328)(j:1≤bytes)
  (h:∀f w',bK e size w v w' f (n+m) (xs++cs.toList)→wpList P ops Q rest (a.put G.dst f) w'):wpList P ops Q (G::rest) a (w.alloc (.cells cs e)):=by
 subst o;exact dR _ p s x t B e i z size bytes D A F c k r q v n xs C (d.alloc _) _ _ m m cs.toList E (uO w cs e size m l) y b j
  (fun f w' o=>h f w' (o.ahead (az.alloc _)))
theorem uB(t u ty e:TypeId)(i:TypeInfo)(q:P.underlying t=some (.slice e))(hu:P.underlying u=some .string)(o:P.info? e=some i)(A:i.zero=some (.int .u8 0))
  (b:i.size=1)(h:i.bytes=1)
  (v:Value)(n:Nat)(xs:List Value)(c:w.ownsRow 0 e 1 v n xs)(s:ByteArray)(d:n+s.size≤140737488355328):
  ∃m w',(Builtin.append_ #[t,u] ty #[v, .string s]).run P w= .ok m w'∧bK e 1 w v w' m (n+s.size) (xs++Lib.strCells s):=by
 have r:n+s.size≤maxLen:=by simp only[maxLen];omega
 obtain⟨m,w',p,B,C,D⟩:=Lib.run_append_own_string (P:=P) w 0 t u ty e i q hu o A b h v n xs c s r d (Nat.zero_le _);refine⟨m,w',p,B,(Fr.grown C).mono (fun k _ f=>f.symm),?_⟩;have z:xs.length=n:=by simpa using c.1
 rcases c.2 with⟨rfl,rfl⟩|⟨g,cap,cur,rfl,E,G,H,F,x,y⟩
 ·by_cases hm:s.size=0;·have:m= .slice none 0 0:=D.2 ⟨rfl,hm⟩;subst this;intro k f;simp[Value.ownBlock]at f
  ·have a:=run_append_nil_string (P:=P) w t u ty e i (.int .u8 0) q hu o A s (by omega) (by omega) (by rw[h];omega);rw[p]at a;injection a with a _;subst a;intro k f;simp[Value.ownBlock]at f;exact .inr (by omega)
 ·by_cases l:n+s.size≤cap;·have a:=Lib.run_append_room_string (P:=P) w t u ty e i q hu o b g n cap cur G s l (by rw[x];omega);rw[p]at a;injection a with a _;subst a;intro k f;exact .inl f
  ·have holds:∀j u,xs[j]? =some u→w.cell? ((⟨g,0,none⟩:Addr).add j)=some u:=c.cells (g:=g) rfl;have a:=Lib.run_append_grow_string (P:=P) w t u ty e i (.int .u8 0) q hu o A ⟨g,0,none⟩ n cap xs (by rw[b];simpa using z) holds s (by omega) (by omega) (by rw[h];exact growslice_fits (by omega) (by omega));rw[p]at a;injection a with a _;subst a;intro k f;simp[Value.ownBlock]at f;exact .inr (by omega)
theorem mE{ops:Array Oper}{rest:List Oper}{B:Oper}{a:Act}{Q:Exit→Act→World→Prop}(j:B.guard=none)(k x:Operand)(t u:TypeId)
  (p:B.op= .call {callee:= .builtin .append,args:=#[k,x],argTypes:=#[t,u]})
  (e:TypeId)(i:TypeInfo)(y:P.underlying t=some (.slice e))(hu:P.underlying u=some .string)(o:P.info? e=some i)(A:i.zero=some (.int .u8 0))
  (c:i.size=1)(g:i.bytes=1)
  (v:Value)(n:Nat)(xs:List Value)(r:a.eval k=v)(d:w.ownsRow 0 e 1 v n xs)(s:ByteArray)(z:a.eval x= .string s)
  (b:n+s.size≤140737488355328)
  (h:∀f w',bK e 1 w v w' f (n+s.size) (xs++Lib.strCells s)→wpList P ops Q rest (a.put B.dst f) w'):wpList P ops Q (B::rest) a w:=by
 refine wpList_plain j fun K m=>?_;obtain⟨f,w',q,l⟩:=uB (P:=P) w t u B.type e i y hu o A c g v n xs d s b;unfold Oper.wp execOp;simp only[p,resolve,invoke,builtin,Sem.run_bind,Sem.run_pure,Result.andThen_ok,List.map_toArray,List.map_cons,List.map_nil,r,z,q];exact m _ _ (h f w' l)
end
end Go.Proofs.YtphjagkehiklkaaGreatDoor
namespace Go.Proofs.YtphjagkehiklkaaGreatDoor
open Go.RowKit
structure In(C:World→Prop)where
 w:World
 h:C w
theorem In.call{P:Program}{f:FuncId}{args:Array Value}{C:World→Prop}{x:In C}{v:Value}
  (h:Calls P f args x.w fun e w'=>e= .returned v∧C w'):Calls P f args x.w fun e a=>e= .returned v∧∃y:In C,a=y.w:=
 h.mono fun _ w'⟨he,b⟩=>⟨he,⟨w',b⟩,rfl⟩
theorem In.same{P:Program}{f:FuncId}{args:Array Value}{C:World→Prop}{x:In C}{v:Value}
  (h:Calls P f args x.w fun e w'=>e= .returned v∧x.w=w'):Calls P f args x.w fun e a=>e= .returned v∧∃y:In C,a=y.w:=
 h.mono fun _ _⟨he,hw⟩=>⟨he,x,hw.symm⟩
abbrev zi(a:World):World→Prop:=fun w=>Fr ag a w
instance zi.ne(a:World):Nonempty (In (zi a)):=⟨⟨a,az⟩⟩
theorem In.later{P:Program}{f:FuncId}{args:Array Value}{b:World}{x:In (zi b)}{v:Value}
  (h:Calls P f args x.w fun e w'=>e= .returned v∧Fr ag x.w w'):Calls P f args x.w fun e a=>e= .returned v∧∃y:In (zi b),a=y.w:=
 In.call (h.mono fun _ _⟨he,c⟩=>⟨he,x.h.trans c⟩)
end Go.Proofs.YtphjagkehiklkaaGreatDoor
namespace Go.Proofs.YtphjagkehiklkaaGreatDoor
open Go.RowKit
abbrev Old(w:World):Nat→Prop:=fun k=>k<w.heap.size
section
variable{X:Type}(cells:X→List Value)(size:Nat)
theorem rZ(a:∀x,(cells x).length=size)(l:List X):(l.flatMap cells).length=l.length*size:=by
 induction l with
 |nil=>simp
 |cons x l b=>rw[List.flatMap_cons,aS,b,a,List.length_cons,Nat.succ_mul];omega
theorem Bx(a:∀x,(cells x).length=size):∀(l:List X)(k j:Nat)(x:X),l[k]? =some x→j<size→(l.flatMap cells)[k*size+j]? =(cells x)[j]?
 |[],k,j,x,h,_=>by simp at h
 |y::l,0,j,x,h,b=>by
  simp at h;subst h;rw[List.flatMap_cons,Nat.zero_mul,Nat.zero_add,List.getElem?_append_left (by rw[a];exact b)]
 |y::l,k+1,j,x,h,b=>by
  have e:(k+1)*size+j=size+(k*size+j):=by rw[Nat.succ_mul];omega
  rw[List.flatMap_cons,e,List.getElem?_append_right (by rw[a];omega),a,Nat.add_sub_cancel_left];exact Bx a l k j x (by simpa using h) b
theorem Ae{w:World}{a:Addr}{len:Nat}(e:X→Prop)(g:∀x,(cells x).length=size)(A:0<size)
  (h:∀i,i<len→∃x:X,e x∧∀j u,(cells x)[j]? =some u→w.cell? ((a.add (i*size)).add j)=some u):
  ∃l:List X,l.length=len∧(∀x∈l,e x)∧Rd w (Old w) size (some a) len (l.flatMap cells):=by
 have D:∀i:Nat,∃x:Option X,i<len→∃y,x=some y∧e y∧∀j u,(cells y)[j]? =some u→w.cell? ((a.add (i*size)).add j)=some u:=by
  intro i;by_cases r:i<len;·obtain⟨x,c⟩:=h i r;exact⟨some x,fun _=>⟨x,rfl,c⟩⟩
  ·exact⟨none,fun F=>absurd F r⟩
 obtain⟨f,q⟩:=Classical.axiomOfChoice D;have key:∀m,m≤len→∃l:List X,l.length=m∧(∀x∈l,e x)∧∀i,i<m→l[i]? =f i:=by
  intro m;induction m with
  |zero=>intro _;exact⟨[],rfl,by simp,by omega⟩
  |succ m J=>
   intro hm;obtain⟨l,d,n,o⟩:=J (by omega);obtain⟨y,k,H,_⟩:=q m (by omega);refine⟨l++[y],by simp[d],?_,fun i r=>?_⟩
   ·intro x c;rcases List.mem_append.1 c with c|c;·exact n x c
    ·rw[List.mem_singleton.1 c];exact H
   ·rcases Nat.lt_or_ge i m with t|E;·rw[List.getElem?_append_left (by omega)];exact o i t
    ·obtain rfl:i=m:=by omega
     rw[List.getElem?_append_right (by omega),d,k];simp
 obtain⟨l,d,n,o⟩:=key len (Nat.le_refl _);have b:∀j u,(l.flatMap cells)[j]? =some u→w.cell? (a.add j)=some u:=by
  intro j u hu;have s:j<len*size:=by
   have:=(List.getElem?_eq_some_iff.1 hu).1;rw[rZ cells size g,d]at this;exact this
  have C:j/size<len:=Nat.div_lt_of_lt_mul (by rw[Nat.mul_comm];exact s);have I:j%size<size:=Nat.mod_lt _ A;have B:j/size*size+j%size=j:=by rw[Nat.mul_comm];exact Nat.div_add_mod j size
  obtain⟨y,k,_,p⟩:=q (j/size) C;have v:l[j/size]? =some y:=(o _ C).trans k;rw[←B,Bx cells size g l _ _ y v I]at hu;have:=p _ u hu;rw[iT,B]at this;exact this
 refine⟨l,d,n,by rw[rZ cells size g,d],fun G=>⟨a,rfl,?_,b⟩⟩;obtain⟨y,k,_,p⟩:=q 0 G;have z:0<(cells y).length:=by rw[g];exact A
 have:=World.block_lt_of_cell? w _ (p 0 _ (List.getElem?_eq_getElem z));rw[kE,kE]at this;exact this
end
end Go.Proofs.YtphjagkehiklkaaGreatDoor
namespace Go.Proofs.YtphjagkehiklkaaGreatDoor
def dL(n x:Nat):Nat:=(x/2^n)|||(x*2^(32-n)%4294967296)
def cI(a b:Nat):Nat:=(a+b)%4294967296
def fw(a b:Nat):Nat:=a^^^b
def iJ(a b:Nat):Nat:=a&&&b
def pO(a:Nat):Nat:=4294967295-a
theorem KV{a b:Nat}(c:a<4294967296)(d:b<4294967296):a|||b<4294967296:=Nat.or_lt_two_pow (n:=32) (by omega) (by omega)
theorem nU{a b:Nat}(c:a<4294967296)(d:b<4294967296):fw a b<4294967296:=Nat.xor_lt_two_pow (n:=32) (by omega) (by omega)
theorem ke{a b:Nat}(c:a<4294967296):iJ a b<4294967296:=Nat.lt_of_le_of_lt Nat.and_le_left c
theorem gS(a b:Nat):cI a b<4294967296:=Nat.mod_lt _ (by omega)
theorem yN(a:Nat):pO a<4294967296:=by unfold pO;omega
theorem gK(n x:Nat)(a:x<4294967296):dL n x<4294967296:=
 KV (Nat.lt_of_le_of_lt (Nat.div_le_self _ _) a) (Nat.mod_lt _ (by omega))
theorem ET(a:Nat)(c:a<4294967296):4294967295^^^a=pO a:=by
 have b:(BitVec.allOnes 32^^^BitVec.ofNat 32 a).toNat=(~~~(BitVec.ofNat 32 a)).toNat:=by rw[BitVec.allOnes_xor]
 rw[BitVec.toNat_not,BitVec.toNat_xor,BitVec.toNat_allOnes,BitVec.toNat_ofNat,Nat.mod_eq_of_lt (by simpa using c)]at b;simpa[pO]using b
def tC(a b c d:Nat):Nat:=a*16777216+b*65536+c*256+d
def xB(x:Nat):Nat:=fw (fw (dL 7 x) (dL 18 x)) (x/8)
def Dh(x:Nat):Nat:=fw (fw (dL 17 x) (dL 19 x)) (x/1024)
def Jp(b:List UInt8)(t:Nat):Nat:=tC ((b[4*t]?.getD 0).toNat) ((b[4*t+1]?.getD 0).toNat) ((b[4*t+2]?.getD 0).toNat) ((b[4*t+3]?.getD 0).toNat)
def dy(b:List UInt8):Nat→List Nat
 |0=>[]
 |t+1=>dy b t++[if t<16 then Jp b t else
   cI (cI (cI ((dy b t)[t-16]?.getD 0) (xB ((dy b t)[t-15]?.getD 0))) ((dy b t)[t-7]?.getD 0)) (Dh ((dy b t)[t-2]?.getD 0))]
structure cX where
 a:Nat
 b:Nat
 c:Nat
 d:Nat
 e:Nat
 f:Nat
 g:Nat
 h:Nat
structure cX.ok(s:cX):Prop where
 a:s.a<4294967296
 b:s.b<4294967296
 c:s.c<4294967296
 d:s.d<4294967296
 e:s.e<4294967296
 f:s.f<4294967296
 g:s.g<4294967296
 h:s.h<4294967296
def mZ(s:cX)(k w:Nat):Nat:=cI (cI (cI (cI s.h (fw (fw (dL 6 s.e) (dL 11 s.e)) (dL 25 s.e))) (fw (iJ s.e s.f) (iJ (pO s.e) s.g))) k) w
def su(s:cX):Nat:=cI (fw (fw (dL 2 s.a) (dL 13 s.a)) (dL 22 s.a)) (fw (fw (iJ s.a s.b) (iJ s.a s.c)) (iJ s.b s.c))
def round(s:cX)(k w:Nat):cX:=⟨cI (mZ s k w) (su s),s.a,s.b,s.c,cI s.d (mZ s k w),s.e,s.f,s.g⟩
def tZ:List Nat:=[1116352408,1899447441,3049323471,3921009573,961987163,1508970993,2453635748,2870763221,3624381080,310598401,607225278,1426881987,1925078388,2162078206,2614888103,3248222580,3835390401,4022224774,264347078,604807628,770255983,1249150122,1555081692,1996064986,2554220882,2821834349,2952996808,3210313671,3336571891,3584528711,113926993,338241895,666307205,773529912,1294757372,1396182291,1695183700,1986661051,2177026350,2456956037,2730485921,2820302411,3259730800,3345764771,3516065817,3600352804,4094571909,275423344,430227734,506948616,659060556,883997877,958139571,1322822218,1537002063,1747873779,1955562222,2024104815,2227730452,2361852424,2428436474,2756734187,3204031479,3329325298]
def ee:cX:=⟨1779033703,3144134277,1013904242,2773480762,1359893119,2600822924,528734635,1541459225⟩
def rounds(w:List Nat)(s:cX):Nat→cX
 |0=>s
 |t+1=>round (rounds w s t) (tZ[t]?.getD 0) (w[t]?.getD 0)
def Gn(s v:cX):cX:=⟨cI s.a v.a,cI s.b v.b,cI s.c v.c,cI s.d v.d,cI s.e v.e,cI s.f v.f,cI s.g v.g,cI s.h v.h⟩
def gD(s:cX)(b:List UInt8):cX:=Gn s (rounds (dy b 64) s 64)
theorem cX.KQ(s:cX)(k w:Nat)(h:s.ok):(round s k w).ok:=
 ⟨gS _ _,h.a,h.b,h.c,gS _ _,h.e,h.f,h.g⟩
theorem xq(w:List Nat)(s:cX)(h:s.ok):∀t,(rounds w s t).ok
 |0=>h
 |t+1=>cX.KQ _ _ _ (xq w s h t)
theorem AO(s v:cX):(Gn s v).ok:=⟨gS _ _,gS _ _,gS _ _,gS _ _,gS _ _,gS _ _,gS _ _,gS _ _⟩
theorem MD(b:List UInt8)(t:Nat):Jp b t<4294967296:=by
 unfold Jp tC;have a:=(b[4*t]?.getD 0).toNat_lt;have c:=(b[4*t+1]?.getD 0).toNat_lt;have d:=(b[4*t+2]?.getD 0).toNat_lt;have e:=(b[4*t+3]?.getD 0).toNat_lt;omega
theorem jS(b:List UInt8):∀t,(dy b t).length=t
 |0=>rfl
 |t+1=>by simp[dy,jS b t]
theorem xz(b:List UInt8):∀t,∀x∈dy b t,x<4294967296
 |0=>by simp[dy]
 |t+1=>by
  intro x a;simp only[dy,List.mem_append,List.mem_singleton]at a;rcases a with a|a;·exact xz b t x a
  ·rw[a];split;·exact MD b t
   ·exact gS _ _
end Go.Proofs.YtphjagkehiklkaaGreatDoor
namespace Go.Proofs.YtphjagkehiklkaaGreatDoor
def iQ(n:Nat):UInt8:=UInt8.ofNat n
def gW(s:cX)(l:List UInt8):Nat→cX
 |0=>s
 |k+1=>gD (gW s l k) ((l.drop (64*k)).take 64)
def len8(n:Nat):List UInt8:=[iQ (8*n/72057594037927936),iQ (8*n/281474976710656),iQ (8*n/1099511627776),iQ (8*n/4294967296),iQ (8*n/16777216),iQ (8*n/65536),iQ (8*n/256),iQ (8*n)]
def ud(l:List UInt8):List UInt8:=l++128::(List.replicate ((119-l.length%64)%64) 0++len8 l.length)
def ey(x:Nat):List UInt8:=[iQ (x/16777216),iQ (x/65536),iQ (x/256),iQ x]
def ec(s:cX):List UInt8:=ey s.a++ey s.b++ey s.c++ey s.d++ey s.e++ey s.f++ey s.g++ey s.h
def eT(l:List UInt8):List UInt8:=ec (gW ee (ud l) ((ud l).length/64))
def iK(tag:UInt8)(a:List (List UInt8)):List UInt8:=tag::iQ a.length::a.flatMap fun p=>ey p.length++p
theorem ju(s:cX):(ec s).length=32:=rfl
theorem iy(l:List UInt8):(eT l).length=32:=rfl
theorem je(n:Nat):(len8 n).length=8:=rfl
theorem si(l:List UInt8):(ud l).length=l.length+9+(119-l.length%64)%64:=by
 simp only[ud,aS,List.length_cons,List.length_replicate,je];omega
theorem Dc(s:cX)(l:List UInt8)(h:s.ok):∀k,(gW s l k).ok
 |0=>h
 |_+1=>AO _ _
theorem yH:ee.ok:=by constructor<;>decide
theorem jR(s:cX)(l r:List UInt8):∀k,64*k≤l.length→gW s (l++r) k=gW s l k
 |0,_=>rfl
 |k+1,a=>by
  rw[gW,gW,jR s l r k (by omega)];congr 1;rw[List.drop_append_of_le_length (by omega),List.take_append_of_le_length (by rw[List.length_drop];omega)]
theorem rq(s:cX)(l b:List UInt8)(k:Nat)(c:l.length=64*k)(a:b.length=64)(r:List UInt8):gW s (l++(b++r)) (k+1)=gD (gW s l k) b:=by
 rw[gW,jR s l _ k (by omega),←c,List.drop_left,←a,List.take_left]
theorem Fu(m t:List UInt8)(q:Nat)(hm:m.length=64*q)(c:t.length<56):
  eT (m++t)=ec (gD (gW ee m q) (t++128::(List.replicate (55-t.length) 0++len8 (64*q+t.length)))):=by
 unfold eT;have a:(m++t).length=64*q+t.length:=by rw[aS,hm]
 have b:(ud (m++t)).length=64*(q+1):=by rw[si,a];omega
 rw[b,Nat.mul_div_cancel_left _ (by omega:0<64)];congr 1;unfold ud;rw[a,show(119-(64*q+t.length)%64)%64=55-t.length by omega,List.append_assoc];have:=rq ee m (t++128::(List.replicate (55-t.length) 0++len8 (64*q+t.length))) q hm (by simp[je];omega) [];rw[List.append_nil]at this;exact this
theorem Ji(m t:List UInt8)(q:Nat)(hm:m.length=64*q)(f:56≤t.length)(c:t.length<64):
  eT (m++t)=ec (gD (gD (gW ee m q) (t++128::List.replicate (63-t.length) 0)) (List.replicate 56 0++len8 (64*q+t.length))):=by
 unfold eT;have a:(m++t).length=64*q+t.length:=by rw[aS,hm]
 have b:(ud (m++t)).length=64*(q+2):=by rw[si,a];omega
 rw[b,Nat.mul_div_cancel_left _ (by omega:0<64)];congr 1;unfold ud;have d:List.replicate (119-t.length) (0:UInt8)=List.replicate (63-t.length) 0++List.replicate 56 0:=by
  rw[List.replicate_append_replicate];congr 1;omega
 rw[a,show(119-(64*q+t.length)%64)%64=119-t.length by omega,d];have e:m++t++128::(List.replicate (63-t.length) 0++List.replicate 56 0++len8 (64*q+t.length))=(m++(t++128::List.replicate (63-t.length) 0))++((List.replicate 56 0++len8 (64*q+t.length))++[]):=by simp
 rw[e,rq ee _ _ (q+1) (by simp[hm];omega) (by simp[je])];have:=rq ee m (t++128::List.replicate (63-t.length) 0) q hm (by simp;omega) [];rw[List.append_nil]at this;rw[this]
end Go.Proofs.YtphjagkehiklkaaGreatDoor
namespace Go.Proofs.YtphjagkehiklkaaGreatDoor
def lC(M rest:List UInt8):Prop:=rest.length=64∧rest.take (M.length%64)=M.drop (64*(M.length/64))
def cQ(rest:List UInt8)(a:Nat)(X:List UInt8):List UInt8:=rest.take a++X++rest.drop (a+X.length)
theorem kj{rest:List UInt8}{a:Nat}{X:List UInt8}(h:rest.length=64)(b:a+X.length≤64):(cQ rest a X).length=64:=by
 simp[cQ];omega
theorem Eu{M rest X:List UInt8}(h:lC M rest)(c:M.length%64+X.length<64):
  lC (M++X) (cQ rest (M.length%64) X)∧gW ee (M++X) ((M++X).length/64)=gW ee M (M.length/64):=by
 have b:(M++X).length=M.length+X.length:=aS;have a:(M++X).length/64=M.length/64:=by rw[b];omega
 have hm:(M++X).length%64=M.length%64+X.length:=by rw[b];omega
 refine⟨⟨kj h.1 (by omega),?_⟩,?_⟩;·rw[hm,a,List.drop_append_of_le_length (by omega),←h.2,cQ];rw[List.take_left' (by have:=h.1;simp;omega)]
 ·rw[a];exact jR ee M X _ (by omega)
theorem Et{M rest X:List UInt8}(h:lC M rest)(c:M.length%64+X.length=64):
  lC (M++X) (cQ rest (M.length%64) X)∧gW ee (M++X) ((M++X).length/64)=gD (gW ee M (M.length/64)) (cQ rest (M.length%64) X):=by
 have a:(M++X).length=M.length+X.length:=aS;have b:(M++X).length/64=M.length/64+1:=by rw[a];omega
 have hm:(M++X).length%64=0:=by rw[a];omega
 refine⟨⟨kj h.1 (by omega),?_⟩,?_⟩;·rw[hm,b,List.take_zero,List.drop_of_length_le (by rw[a];omega)]
 ·rw[b,gW,jR ee M X _ (by omega),List.drop_append_of_le_length (by omega),←h.2];congr 1;rw[cQ,List.drop_of_length_le (by have:=h.1;omega),List.append_nil];exact List.take_of_length_le (by have:=h.1;simp;omega)
theorem Iy(rest:List UInt8)(h:rest.length=64):lC [] rest:=⟨h,rfl⟩
theorem Ko(M rest:List UInt8)(h:lC M rest):M=M.take (64*(M.length/64))++rest.take (M.length%64):=by
 rw[h.2,List.take_append_drop]
end Go.Proofs.YtphjagkehiklkaaGreatDoor
namespace Go.Proofs.YtphjagkehiklkaaGreatDoor
end Go.Proofs.YtphjagkehiklkaaGreatDoor
namespace Go.Proofs.YtphjagkehiklkaaGreatDoor
open Go.RowKit
theorem K7{k:IntKind}{a b:Int}(h:a=b):Ending.returned (.int k a)= .returned (.int k b):=by rw[h]
theorem Jb(n m x:Nat)(hm:m+n=32)(c:x<4294967296):bits .or .u32 ((x:Int)*2^m%4294967296) ((x:Int)/2^(32-m))=((dL n x:Nat):Int):=by
 obtain rfl:n=32-m:=by omega
 have a:(x:Int)/2^(32-m)=((x/2^(32-m):Nat):Int):=by
  rw[Int.natCast_ediv];simp
 have b:(x:Int)*2^m%4294967296=((x*2^m%4294967296:Nat):Int):=by
  rw[Int.natCast_emod];simp
 rw[a,b,u32_or_nat _ _ (Nat.mod_lt _ (by omega)) (Nat.lt_of_le_of_lt (Nat.div_le_self _ _) c),Nat.or_comm];unfold dL;rw[show 32-(32-m)=m by omega]
theorem EK(n:Nat)(a:1≤n)(b:n≤31):bits .and .u64 (IntKind.u64.wrap (-(n:Int))) 31=((32-n:Nat):Int):=by
 have e:IntKind.u64.wrap (-(n:Int))=((18446744073709551616-n:Nat):Int):=by
  simp only[IntKind.wrap,IntKind.bits,IntKind.signed];simp;omega
 rw[e];have:=u64_and_nat (18446744073709551616-n) 31 (by omega) (by omega);rw[nat_mask5]at this;refine this.trans ?_;congr 1;omega
theorem Ja(n x:Nat)(w:World)(b:1≤n)(c:n≤31)(f:x<4294967296):
  Calls Tryz.prog 175 #[.int .u32 x, .int .i64 (-(n:Int))] w fun e w'=>e= .returned (.int .u32 (dL n x:Nat))∧w=w':=by
 have hand:=EK n b c;have hm:32-n+n=32:=by omega
 have a:32-n≤31:=by omega
 generalize 32-n=m at hand hm a;have d:=af hm;clear hm b c;go_enter Tryz.func175,Tryz.ntmps175;go_wp2;go_ret;exact⟨K7 (Jb n m x d.out f),rfl⟩
theorem jb(n x:Nat)(w:World)(a:1≤n)(b:n≤31)(c:x<4294967296):
  Calls Tryz.prog 159 #[.int .i64 n, .int .u32 x] w fun e w'=>e= .returned (.int .u32 (dL n x:Nat))∧w=w':=by
 go_enter Tryz.func159,Tryz.ntmps159;go_wp2_with fail;refine(Ja n x _ a b c).mono ?_;rintro e w1⟨rfl,rfl⟩;go_wp2;go_ret;exact⟨rfl,rfl⟩
end Go.Proofs.YtphjagkehiklkaaGreatDoor
namespace Go.Proofs.YtphjagkehiklkaaGreatDoor
open Go.RowKit
theorem aq.setCells{g:Nat}{t:TypeId}:∀(a:List Value)(i:Nat)(w:World)(cs:List Value),aq w g t cs.toArray→i+a.length≤cs.length→
  aq (w.setCells g i a) g t (cs.take i++a++cs.drop (i+a.length)).toArray
 |[],i,w,cs,h,_=>by simpa[World.setCells]using h
 |v::r,i,w,cs,h,f=>by
  have b:=h.j7 i v;rw[List.setIfInBounds_toArray]at b;simp only[List.length_cons]at f;have e:=aq.setCells r (i+1) _ (cs.set i v) b (by rw[List.length_set];omega);refine(congrArg (aq _ g t) ?_).mp e;congr 1;have c:(cs.set i v).take (i+1)=cs.take i++[v]:=by
   rw[List.take_set,List.take_succ_eq_append_getElem (by omega:i<cs.length),List.set_append_right _ _ (by simp;omega)];simp;rw[show i-min i cs.length=0 by omega];rfl
  have d:(cs.set i v).drop (i+1+r.length)=cs.drop (i+(v::r).length):=by
   rw[List.drop_set_of_lt (by omega)];congr 1;simp only[List.length_cons];omega
  rw[c,d];simp
theorem Fr.setCells{T:Nat→Prop}{g:Nat}{a:World}(b:g<a.heap.size→T g):∀(c:List Value)(d:Nat)(w:World),Fr T a w→Fr T a (w.setCells g d c)
 |[],_,_,h=>h
 |v::r,d,_,h=>Fr.setCells b r (d+1) _ (h.setCell (p:=⟨g,d,none⟩) b v)
theorem yd{P:Program}(w:World)(e m ty elem:TypeId)(b o a c:Nat)(t:ByteArray)
  (hu:P.underlying e=some (.slice elem))(l:∀w,(Go.sizeOf elem).run P w= .ok 1 w)(n:Nat)(i:Nat.min t.size a=n)
  (g:∀j,j<n→(w.cell? ⟨b,o+j,none⟩).isSome=true)(h:∀j,j<n→w.frozen? ⟨b,o+j,none⟩=false):
  (Builtin.copy_ #[e,m] ty #[.slice (some ⟨b,o,none⟩) a c, .string t]).run P w= .ok (goInt n) (w.setCells b o ((t.data.toList.map fun x=>Value.int .u8 (x.toNat:Int)).take n)):=by
 have f:((t.data.toList.map fun x=>Value.int .u8 (x.toNat:Int)).take n).length=n:=by
  rw[List.length_take,List.length_map,←Lib.size_eq];have:Nat.min t.size a≤t.size:=Nat.min_le_left _ _;omega
 have d:=run_storeCells_cells (P:=P) b o ((t.data.toList.map fun x=>Value.int .u8 (x.toNat:Int)).take n) 0 w (by rw[f];simpa using g) (by rw[f];simpa using h) (by
  intro v k;obtain⟨x,_,rfl⟩:=List.mem_map.1 (List.mem_of_mem_take k);rfl);simp[Builtin.copy_,run_underlying hu,Builtin.lenOf,Builtin.firstCells,l,i];rw[d];rfl
def jT(n:Nat):Value:= .int .u32 (n:Int)
def aH(w:World)(v:Value)(e:Ending)(w':World):Prop:=e= .returned v∧Fr ag w w'
theorem iO{w:World}{g:Nat}{t:TypeId}{a cs:Array Value}(h:aq w g t a):aq (w.setRow g cs) g t cs:=by
 unfold aq at h⊢;simp[World.setRow,Array.getElem?_modify,h]
theorem wpList_buildTo{P:Program}{ops:Array Oper}{rest:List Oper}{e:Oper}{a:Act}{w:World}{Q:Exit→Act→World→Prop}(c:e.guard=none)(t:TypeId)(parts:Array (Nat×Operand))(d:e.op= .build t parts)(cells:Array Value)
  (b:P.built t (parts.map fun(i,x)=>(i,a.eval x)).toList=some cells)(h:wpList P ops Q rest (a.put e.dst (.agg cells)) w):wpList P ops Q (e::rest) a w:=
 wpList_build c t parts d (by rw[b];rfl) (by rw[b];exact h)
theorem Fr.setRow{T:Nat→Prop}{a w:World}(h:Fr T a w){g:Nat}(b:g<a.heap.size→T g)(cs:Array Value):Fr T a (w.setRow g cs):=by
 refine h.aw (T':=fun k=>k=g) ⟨rfl,rfl,rfl,by simp[World.setRow],fun k _ d=>?_⟩ (fun i c e=>by subst e;exact b c);simp[World.setRow,Array.getElem?_modify,Ne.symm d]
def gd(s:cX):List Value:=[jT s.a,jT s.b,jT s.c,jT s.d,jT s.e,jT s.f,jT s.g,jT s.h]
def bN(x:UInt8):Value:= .int .u8 (x.toNat:Int)
end Go.Proofs.YtphjagkehiklkaaGreatDoor
namespace Go.Proofs.YtphjagkehiklkaaGreatDoor
open Go.RowKit
end Go.Proofs.YtphjagkehiklkaaGreatDoor
namespace Go.Proofs.YtphjagkehiklkaaGreatDoor
open Go.RowKit
structure dm(w w':World)(t:TypeId)(cells:Array Value):Prop where
 aE:aq w' w.heap.size t cells
 fr:Fr ag w w'
 size:w'.heap.size=w.heap.size+1
theorem dm.alloc(w:World)(t:TypeId)(cells:Array Value):dm w (w.alloc (.cells cells t)) t cells:=⟨aq.new w t cells,az.alloc _,by simp⟩
theorem aB{P:Program}{ops:Array Oper}{rest:List Oper}{e:Oper}{a:Act}{w:World}{Q:Exit→Act→World→Prop}(b:e.guard=none)(t:TypeId)(x:Operand)(c:e.op= .box t x)(cells:Array Value)(d:(a.eval x).cells=cells)
  (h:∀w',dm w w' t cells→wpList P ops Q rest (a.put e.dst (.pointer (some ⟨w.heap.size,0,none⟩))) w'):wpList P ops Q (e::rest) a w:=
 Great.wpList_boxTo b t x c _ rfl _ rfl cells d (h _ (dm.alloc w t cells))
theorem an{P:Program}{ops:Array Oper}{rest:List Oper}{g:Oper}{a:Act}{w:World}{Q:Exit→Act→World→Prop}(d:g.guard=none)(t:TypeId)(e:g.op= .alloc t)(z:Value)(f:∀w,(zeroValue t).run P w= .ok z w)(cells:Array Value)(c:z.cells=cells)
  (h:∀w',dm w w' t cells→wpList P ops Q rest (a.put g.dst (.pointer (some ⟨w.heap.size,0,none⟩))) w'):wpList P ops Q (g::rest) a w:=by
 subst c;refine wpList_plain d fun K b=>?_;unfold Oper.wp execOp;simp only[e,Instr.alloc,Sem.run_bind,f,newVar,newRow,run_newObj_alloc,Sem.run_pure,Result.andThen_ok];exact b _ _ (h _ (dm.alloc w t z.cells))
theorem ai{P:Program}{ops:Array Oper}{rest:List Oper}{m:Oper}{a:Act}{w:World}{Q:Exit→Act→World→Prop}(c:m.guard=none)(ty:TypeId)(x y:Operand)(i:m.op= .store ty x y)
  (g:Nat)(cells:Array Value)(j:a.eval x= .pointer (some ⟨g,0,none⟩))(l:a.eval y= .agg cells)
  (t:TypeId)(b:Array Value)(d:aq w g t b)(f:(P.info? ty).map (·.size)=some cells.size)
  (hold:b.size=cells.size)(e:cells.all (·.oneCell')=true)
  (h:∀w',aq w' g t cells→Fr (fun k=>k=g) w w'→wpList P ops Q rest (a.put m.dst undef) w'):wpList P ops Q (m::rest) a w:=
 wpList_store_row c ty x y i g cells j l t b d f hold e (h _ (iO d) ((Fr.refl (fun k=>k=g) w).setRow (fun _=>rfl) cells))
end Go.Proofs.YtphjagkehiklkaaGreatDoor
namespace Go.Proofs.YtphjagkehiklkaaGreatDoor
open Go.RowKit
theorem eU(a b:Nat):IntKind.u32.wrap ((a:Int)+(b:Int))=((cI a b:Nat):Int):=by
 rw[IntKind.wrap_u32];unfold cI;omega
theorem tj(b:List UInt8)(k i:Nat)(x:Nat)(a:x=(dy b k)[i]?.getD 0):x<4294967296:=by
 rcases h:(dy b k)[i]? with _|y;·rw[a,h];simp
 ·rw[a,h];exact xz b k y (List.mem_of_getElem? h)
theorem Df(x:Nat)(b:x<4294967296):∃a:Nat,bits .xor .u32 ((dL 7 x:Nat):Int) ((dL 18 x:Nat):Int)=(a:Int)∧bits .xor .u32 (a:Int) ((x:Int)/8)=((xB x:Nat):Int):=by
 refine⟨fw (dL 7 x) (dL 18 x),u32_xor_nat _ _ (gK 7 x b) (gK 18 x b),?_⟩;rw[show(x:Int)/8=((x/8:Nat):Int)by omega,u32_xor_nat _ _ (nU (gK 7 x b) (gK 18 x b)) (by omega)];rfl
theorem Di(x:Nat)(b:x<4294967296):∃a:Nat,bits .xor .u32 ((dL 17 x:Nat):Int) ((dL 19 x:Nat):Int)=(a:Int)∧bits .xor .u32 (a:Int) ((x:Int)/1024)=((Dh x:Nat):Int):=by
 refine⟨fw (dL 17 x) (dL 19 x),u32_xor_nat _ _ (gK 17 x b) (gK 19 x b),?_⟩;rw[show(x:Int)/1024=((x/1024:Nat):Int)by omega,u32_xor_nat _ _ (nU (gK 17 x b) (gK 19 x b)) (by omega)];rfl
def gz(w wr:World)(g:Nat)(l:List Nat):Prop:=
 Fr ag w wr∧w.heap.size=g∧aq wr g 242 ((l++List.replicate (64-l.length) 0).map jT).toArray
theorem gz.at_{w wr:World}{g:Nat}{l:List Nat}(h:gz w wr g l){k:Nat}(a:k<64):∃u,wr.cell? ⟨g,k,none⟩=some u:=by
 rw[h.2.2.cell];simp only[bP];refine⟨_,List.getElem?_eq_getElem ?_⟩;simp;omega
theorem gz.get{w wr:World}{g:Nat}{l:List Nat}(h:gz w wr g l){k:Nat}(a:k<l.length):wr.cell? ⟨g,k,none⟩=some (jT (l[k]?.getD 0)):=by
 rw[h.2.2.cell];simp only[bP,List.getElem?_map];rw[List.getElem?_append_left a,List.getElem?_eq_getElem a];rfl
theorem gz.drew{w wr:World}{g:Nat}{l:List Nat}(h:gz w wr g l):gz w wr.drew g l:=⟨h.1.drew,h.2.1,h.2.2.drew⟩
theorem gz.drewN{w wr:World}{g:Nat}{l:List Nat}(h:gz w wr g l)(n:Nat):gz w (wr.drewN n) g l:=⟨h.1.drewN n,h.2.1,h.2.2.drewN n⟩
theorem gz.put{w wr:World}{g:Nat}{l:List Nat}(h:gz w wr g l){k:Nat}(b:l.length=k)(a:k<64)(x:Nat):gz w (wr.setCell ⟨g,k,none⟩ (jT x)) g (l++[x]):=by
 refine⟨h.1.setCell (fun c=>absurd c (by have:=h.2.1;simp;omega)) _,h.2.1,?_⟩;have:=h.2.2.j7 k (jT x);subst b;refine(congrArg (aq _ g 242) ?_).mp this;have e:64-l.length=(64-(l++[x]).length)+1:=by simp;omega
 rw[e,List.replicate_succ];simp
end Go.Proofs.YtphjagkehiklkaaGreatDoor
namespace Go.Proofs.YtphjagkehiklkaaGreatDoor
open Go.RowKit
def AB(w:World)(a:Nat)(b:TypeId)(cs:List Value)(e:Ending)(w':World):Prop:=
 e= .returned (.tuple #[])∧Fr (fun k=>k=a) w w'∧aq w' a b cs.toArray
theorem NG(a c:Nat)(d:a<256)(e:c<256):bits .or .u32 ((a*16777216:Nat):Int) ((c*65536:Nat):Int)=((a*16777216+c*65536:Nat):Int):=by
 rw[u32_or_nat _ _ (by omega) (by omega)];have:=Nat.two_pow_add_eq_or_of_lt (i:=24) (b:=c*65536) (by omega) a;rw[show a*16777216=2^24*a by omega,←this]
theorem NH(a c d:Nat)(e:a<256)(f:c<256)(g:d<256):bits .or .u32 ((a*16777216+c*65536:Nat):Int) ((d*256:Nat):Int)=((a*16777216+c*65536+d*256:Nat):Int):=by
 rw[u32_or_nat _ _ (by omega) (by omega)];have:=Nat.two_pow_add_eq_or_of_lt (i:=16) (b:=d*256) (by omega) (a*256+c);rw[show a*16777216+c*65536=2^16*(a*256+c)by omega,←this]
theorem NI(a c d x3:Nat)(e:a<256)(f:c<256)(g:d<256)(h:x3<256):bits .or .u32 ((a*16777216+c*65536+d*256:Nat):Int) ((x3:Nat):Int)=((tC a c d x3:Nat):Int):=by
 rw[u32_or_nat _ _ (by omega) (by omega)];have:=Nat.two_pow_add_eq_or_of_lt (i:=8) (b:=x3) (by omega) (a*65536+c*256+d);rw[show a*16777216+c*65536+d*256=2^8*(a*65536+c*256+d)by omega,←this];unfold tC;congr 1;omega
theorem Dk(a b c x3:Nat)(d:a<256)(e:b<256)(f:c<256)(j:x3<256):
  ∃g h i s1 s2:Nat,IntKind.u32.wrap ((a:Int)*16777216)=(g:Int)∧IntKind.u32.wrap ((b:Int)*65536)=(h:Int)∧IntKind.u32.wrap ((c:Int)*256)=(i:Int)∧
   bits .or .u32 (g:Int) (h:Int)=(s1:Int)∧bits .or .u32 (s1:Int) (i:Int)=(s2:Int)∧bits .or .u32 (s2:Int) (x3:Int)=((tC a b c x3:Nat):Int):=
 ⟨_,_,_,_,_,(IntWalk.u32_in _ (by omega)).trans (by omega:((a:Int)*16777216)=((a*16777216:Nat):Int)),(IntWalk.u32_in _ (by omega)).trans (by omega:((b:Int)*65536)=((b*65536:Nat):Int)),
  (IntWalk.u32_in _ (by omega)).trans (by omega:((c:Int)*256)=((c*256:Nat):Int)),NG a b d e,NH a b c d e f,NI a b c x3 d e f j⟩
theorem aq.ko{w:World}{a os:Nat}{t:TypeId}{pre ko post:List Value}(h:aq w a t (pre++ko++post).toArray)(c:pre.length=os){j:Nat}(b:j<ko.length):w.cell? ⟨a,os+j,none⟩=ko[j]? :=by
 subst c;rw[h.cell,bP,List.append_assoc,List.getElem?_append_right (by omega),Nat.add_sub_cancel_left,List.getElem?_append_left b]
theorem aq.Ln{w:World}{a os:Nat}{t:TypeId}{pre ko post:List Value}(h:aq w a t (pre++ko++post).toArray)(c:pre.length=os){j:Nat}(b:j<ko.length)(u:Value):
  aq (w.setCell ⟨a,os+j,none⟩ u) a t (pre++ko.set j u++post).toArray:=by
 subst c;have:=h.j7 (pre.length+j) u;rw[List.setIfInBounds_toArray,List.append_assoc,List.set_append_right _ _ (by omega),Nat.add_sub_cancel_left,List.set_append_left _ _ b,←List.append_assoc]at this;exact this
theorem yU{w:World}{i os:Nat}{t:TypeId}{pre post:List Value}{s:cX}(h:aq w i t (pre++gd s++post).toArray)(k:pre.length=os):
  w.cell? ⟨i,os,none⟩=some (.int .u32 s.a)∧w.cell? ⟨i,os+1,none⟩=some (.int .u32 s.b)∧w.cell? ⟨i,os+2,none⟩=some (.int .u32 s.c)∧w.cell? ⟨i,os+3,none⟩=some (.int .u32 s.d)∧
  w.cell? ⟨i,os+4,none⟩=some (.int .u32 s.e)∧w.cell? ⟨i,os+5,none⟩=some (.int .u32 s.f)∧w.cell? ⟨i,os+6,none⟩=some (.int .u32 s.g)∧w.cell? ⟨i,os+7,none⟩=some (.int .u32 s.h):=
 ⟨h.ko k (j:=0) (by simp[gd]),h.ko k (j:=1) (by simp[gd]),h.ko k (j:=2) (by simp[gd]),h.ko k (j:=3) (by simp[gd]),h.ko k (j:=4) (by simp[gd]),h.ko k (j:=5) (by simp[gd]),h.ko k (j:=6) (by simp[gd]),h.ko k (j:=7) (by simp[gd])⟩
theorem xo(n x:Nat)(w:World)(a:1≤n)(b:n≤31)(c:x<4294967296):
  Calls Tryz.prog 159 #[.int .i64 n, .int .u32 x] w fun e w'=>e= .returned (.int .u32 (dL n x:Nat))∧w'=w:=(jb n x w a b c).mono fun _ _ h=>⟨h.1,h.2.symm⟩
theorem Mu(x:Nat)(w:World)(a:x<4294967296):Calls Tryz.prog 159 #[.int .i64 6, .int .u32 x] w fun e w'=>e= .returned (.int .u32 (dL 6 x:Nat))∧w'=w:=xo 6 x w (by omega) (by omega) a
theorem Lb(x:Nat)(w:World)(a:x<4294967296):Calls Tryz.prog 159 #[.int .i64 11, .int .u32 x] w fun e w'=>e= .returned (.int .u32 (dL 11 x:Nat))∧w'=w:=xo 11 x w (by omega) (by omega) a
theorem Lc(x:Nat)(w:World)(a:x<4294967296):Calls Tryz.prog 159 #[.int .i64 25, .int .u32 x] w fun e w'=>e= .returned (.int .u32 (dL 25 x:Nat))∧w'=w:=xo 25 x w (by omega) (by omega) a
theorem xZ(o:cX)(a:o.ok)(k w:Nat):∃j l d m n y3 y4 a2 a3:Nat,
  bits .xor .u32 ((dL 6 o.e:Nat):Int) ((dL 11 o.e:Nat):Int)=(j:Int)∧bits .xor .u32 (j:Int) ((dL 25 o.e:Nat):Int)=(l:Int)∧IntKind.u32.wrap ((o.h:Int)+(l:Int))=(d:Int)∧
  bits .and .u32 (o.e:Int) (o.f:Int)=(m:Int)∧bits .xor .u32 (if IntKind.u32.signed=true then-1 else IntKind.u32.max) (o.e:Int)=(n:Int)∧bits .and .u32 (n:Int) (o.g:Int)=(y3:Int)∧bits .xor .u32 (m:Int) (y3:Int)=(y4:Int)∧
  IntKind.u32.wrap ((d:Int)+(y4:Int))=(a2:Int)∧IntKind.u32.wrap ((a2:Int)+(k:Int))=(a3:Int)∧IntKind.u32.wrap ((a3:Int)+(w:Int))=((mZ o k w:Nat):Int):=by
 have i:=gK 6 o.e a.e;have b:=gK 11 o.e a.e;have c:=gK 25 o.e a.e;refine⟨fw (dL 6 o.e) (dL 11 o.e),fw (fw (dL 6 o.e) (dL 11 o.e)) (dL 25 o.e),_,iJ o.e o.f,pO o.e,iJ (pO o.e) o.g,fw (iJ o.e o.f) (iJ (pO o.e) o.g),_,_,
  u32_xor_nat _ _ i b,u32_xor_nat _ _ (nU i b) c,eU _ _,u32_and_nat _ _ a.e a.f,?_,u32_and_nat _ _ (yN _) a.g,u32_xor_nat _ _ (ke a.e) (ke (yN _)),eU _ _,eU _ _,?_⟩;·have:=u32_xor_nat 4294967295 o.e (by omega) a.e;rw[ET _ a.e]at this;exact this
 ·rw[eU];rfl
theorem x8(i:cX)(d:i.ok):∃g h z1 z2 z3 z4 z5:Nat,
  bits .xor .u32 ((dL 2 i.a:Nat):Int) ((dL 13 i.a:Nat):Int)=(g:Int)∧bits .xor .u32 (g:Int) ((dL 22 i.a:Nat):Int)=(h:Int)∧
  bits .and .u32 (i.a:Int) (i.b:Int)=(z1:Int)∧bits .and .u32 (i.a:Int) (i.c:Int)=(z2:Int)∧bits .xor .u32 (z1:Int) (z2:Int)=(z3:Int)∧bits .and .u32 (i.b:Int) (i.c:Int)=(z4:Int)∧bits .xor .u32 (z3:Int) (z4:Int)=(z5:Int)∧
  IntKind.u32.wrap ((h:Int)+(z5:Int))=((su i:Nat):Int):=by
 have l2:=gK 2 i.a d.a;have e:=gK 13 i.a d.a;have f:=gK 22 i.a d.a;refine⟨fw (dL 2 i.a) (dL 13 i.a),fw (fw (dL 2 i.a) (dL 13 i.a)) (dL 22 i.a),iJ i.a i.b,iJ i.a i.c,fw (iJ i.a i.b) (iJ i.a i.c),iJ i.b i.c,fw (fw (iJ i.a i.b) (iJ i.a i.c)) (iJ i.b i.c),
  u32_xor_nat _ _ l2 e,u32_xor_nat _ _ (nU l2 e) f,u32_and_nat _ _ d.a d.b,u32_and_nat _ _ d.a d.c,u32_xor_nat _ _ (ke d.a) (ke d.a),u32_and_nat _ _ d.b d.c,u32_xor_nat _ _ (nU (ke d.a) (ke d.a)) (ke d.b),?_⟩;rw[eU];rfl
theorem Mb(w:World)(V:cX):(Instr.index 141 (Value.agg #[.int .u32 V.a, .int .u32 V.b, .int .u32 V.c, .int .u32 V.d, .int .u32 V.e, .int .u32 V.f, .int .u32 V.g, .int .u32 V.h]) (.int .i64 0)).run Tryz.prog w= .ok (.int .u32 V.a) w:=by kernel_rfl
theorem Mc(w:World)(V:cX):(Instr.index 141 (Value.agg #[.int .u32 V.a, .int .u32 V.b, .int .u32 V.c, .int .u32 V.d, .int .u32 V.e, .int .u32 V.f, .int .u32 V.g, .int .u32 V.h]) (.int .i64 1)).run Tryz.prog w= .ok (.int .u32 V.b) w:=by kernel_rfl
theorem Md(w:World)(V:cX):(Instr.index 141 (Value.agg #[.int .u32 V.a, .int .u32 V.b, .int .u32 V.c, .int .u32 V.d, .int .u32 V.e, .int .u32 V.f, .int .u32 V.g, .int .u32 V.h]) (.int .i64 2)).run Tryz.prog w= .ok (.int .u32 V.c) w:=by kernel_rfl
theorem Me(w:World)(V:cX):(Instr.index 141 (Value.agg #[.int .u32 V.a, .int .u32 V.b, .int .u32 V.c, .int .u32 V.d, .int .u32 V.e, .int .u32 V.f, .int .u32 V.g, .int .u32 V.h]) (.int .i64 3)).run Tryz.prog w= .ok (.int .u32 V.d) w:=by kernel_rfl
theorem Mf(w:World)(V:cX):(Instr.index 141 (Value.agg #[.int .u32 V.a, .int .u32 V.b, .int .u32 V.c, .int .u32 V.d, .int .u32 V.e, .int .u32 V.f, .int .u32 V.g, .int .u32 V.h]) (.int .i64 4)).run Tryz.prog w= .ok (.int .u32 V.e) w:=by kernel_rfl
theorem Mg(w:World)(V:cX):(Instr.index 141 (Value.agg #[.int .u32 V.a, .int .u32 V.b, .int .u32 V.c, .int .u32 V.d, .int .u32 V.e, .int .u32 V.f, .int .u32 V.g, .int .u32 V.h]) (.int .i64 5)).run Tryz.prog w= .ok (.int .u32 V.f) w:=by kernel_rfl
theorem Mh(w:World)(V:cX):(Instr.index 141 (Value.agg #[.int .u32 V.a, .int .u32 V.b, .int .u32 V.c, .int .u32 V.d, .int .u32 V.e, .int .u32 V.f, .int .u32 V.g, .int .u32 V.h]) (.int .i64 6)).run Tryz.prog w= .ok (.int .u32 V.g) w:=by kernel_rfl
theorem Mi(w:World)(V:cX):(Instr.index 141 (Value.agg #[.int .u32 V.a, .int .u32 V.b, .int .u32 V.c, .int .u32 V.d, .int .u32 V.e, .int .u32 V.f, .int .u32 V.g, .int .u32 V.h]) (.int .i64 7)).run Tryz.prog w= .ok (.int .u32 V.h) w:=by kernel_rfl
def ua(s v:cX)(k:Nat):cX:=
 ⟨if 0<k then cI s.a v.a else s.a,if 1<k then cI s.b v.b else s.b,if 2<k then cI s.c v.c else s.c,if 3<k then cI s.d v.d else s.d,if 4<k then cI s.e v.e else s.e,if 5<k then cI s.f v.f else s.f,if 6<k then cI s.g v.g else s.g,if 7<k then cI s.h v.h else s.h⟩
theorem Nz(s V:cX):ua s V 0=s:=rfl
theorem ND(s V:cX):ua s V 8=Gn s V:=rfl
theorem AT(s:cX)(b:List UInt8):gD s b=Gn s (rounds (dy b 64) s 64):=rfl
def fW(s:cX):Nat→Nat
 |0=>s.a
 |1=>s.b
 |2=>s.c
 |3=>s.d
 |4=>s.e
 |5=>s.f
 |6=>s.g
 |_=>s.h
theorem uJ{k:Nat}(h:k<8):k=0∨k=1∨k=2∨k=3∨k=4∨k=5∨k=6∨k=7:=by omega
theorem yG(w:World)(V:cX)(k:Nat)(h:k<8):(Instr.index 141 (Value.agg #[.int .u32 V.a, .int .u32 V.b, .int .u32 V.c, .int .u32 V.d, .int .u32 V.e, .int .u32 V.f, .int .u32 V.g, .int .u32 V.h]) (.int .i64 k)).run Tryz.prog w= .ok (.int .u32 (fW V k)) w:=by
 rcases uJ h with rfl|rfl|rfl|rfl|rfl|rfl|rfl|rfl;·exact Mb w V
 ·exact Mc w V
 ·exact Md w V
 ·exact Me w V
 ·exact Mf w V
 ·exact Mg w V
 ·exact Mh w V
 ·exact Mi w V
theorem Mo(s V:cX)(k:Nat)(h:k<8):(gd (ua s V k))[k]? =some (.int .u32 (fW s k)):=by
 rcases uJ h with rfl|rfl|rfl|rfl|rfl|rfl|rfl|rfl<;>rfl
theorem Kx(s V:cX)(k:Nat)(h:k<8):(gd (ua s V k)).set k (.int .u32 ((cI (fW s k) (fW V k):Nat):Int))=gd (ua s V (k+1)):=by
 rcases uJ h with rfl|rfl|rfl|rfl|rfl|rfl|rfl|rfl<;>rfl
theorem nj(q os bb ob:Nat)(ah:TypeId)(pre post:List Value)(s:cX)(bh:s.ok)(b:List UInt8)(w:World)
  (aS:aq w q ah (pre++gd s++post).toArray)(ad:pre.length=os)
  (Z:∀j,j<64→w.cell? ⟨bb,ob+j,none⟩=some (bN (b[j]?.getD 0)))
  (aR:∀j,j<64→w.cell? ⟨2,j,none⟩=some (jT (tZ[j]?.getD 0))):
  Calls Tryz.prog 126 #[.pointer (some ⟨q,os,none⟩), .pointer (some ⟨bb,ob,none⟩)] w (AB w q ah (pre++gd (gD s b)++post)):=by
 have aM:=af aS;have HB:=af Z;have a1:=af aR;have aj:=af ad;clear aS Z aR ad;go_enter Tryz.func126,Tryz.ntmps126;go_wp2;have ae:Hid (gz w (w.alloc (.cells (Array.replicate 64 (.int .u32 0)) 242)) w.heap.size []):=
  ⟨az.alloc _,rfl,aq.new _ _ _⟩;generalize aU:w.heap.size=g at ae⊢;have bx:=af aU;clear aU;go_loopw[24](fun i wr=>∃k:Nat,k≤16∧i= .int .i64 k∧gz w wr g (dy b k))(fun i _=>16-(intOf i).toNat);case atStart=>exact⟨0,by omega,rfl,ae.out⟩
 case round=>
  obtain⟨k,aH,rfl,hw⟩:=hrel;have O:=af hw;clear hw;by_cases t:k<16
  ·as_aux_lemma=>
    have S:∀j,j<64→wr.drew.cell? ⟨bb,ob+j,none⟩=some (bN (b[j]?.getD 0)):=fun j bg=>O.out.1.ak (HB.out j bg) (fun x=>x);have a8:=S (4*k) (by omega);have a9:=S (4*k+1) (by omega);have ba:=S (4*k+2) (by omega);have bc:=S (4*k+3) (by omega);have al:Jp b k=tC ((b[4*k]?.getD 0).toNat) ((b[4*k+1]?.getD 0).toNat) ((b[4*k+2]?.getD 0).toNat) ((b[4*k+3]?.getD 0).toNat):=rfl;have b0:=(b[4*k]?.getD 0).toNat_lt;have b1:=(b[4*k+1]?.getD 0).toNat_lt;have b2:=(b[4*k+2]?.getD 0).toNat_lt;have b3:=(b[4*k+3]?.getD 0).toNat_lt;unfold bN at a8 a9 ba bc;generalize(b[4*k]?.getD 0).toNat=aL at*;generalize(b[4*k+1]?.getD 0).toNat=am at*;generalize(b[4*k+2]?.getD 0).toNat=r at*;generalize(b[4*k+3]?.getD 0).toNat=x3 at*;have a4:=af al;clear al S;have m0:IntKind.i64.wrap (4*(k:Int))=((4*k:Nat):Int):=(IntWalk.i64_in _ (by omega)).trans (by omega);have m1:IntKind.i64.wrap (((4*k:Nat):Int)+1)=((4*k+1:Nat):Int):=(IntWalk.i64_in _ (by omega)).trans (by omega);have m2:IntKind.i64.wrap (((4*k:Nat):Int)+2)=((4*k+2:Nat):Int):=(IntWalk.i64_in _ (by omega)).trans (by omega);have m3:IntKind.i64.wrap (((4*k:Nat):Int)+3)=((4*k+3:Nat):Int):=(IntWalk.i64_in _ (by omega)).trans (by omega);have bJ:((4*k:Nat):Int)<64:=by omega
    have bK:((4*k+1:Nat):Int)<64:=by omega
    have aY:((4*k+2:Nat):Int)<64:=by omega
    have bL:((4*k+3:Nat):Int)<64:=by omega
    have bM:(k:Int)<64:=by omega
    generalize 4*k+1=i1 at*;generalize 4*k+2=i2 at*;generalize 4*k+3=i3 at*;generalize 4*k=i0 at*;have bV:IntKind.u32.wrap (aL:Int)=(aL:Int):=IntWalk.u32_in _ (by omega);have w1:IntKind.u32.wrap (am:Int)=(am:Int):=IntWalk.u32_in _ (by omega);have w2:IntKind.u32.wrap (r:Int)=(r:Int):=IntWalk.u32_in _ (by omega);have w3:IntKind.u32.wrap (x3:Int)=(x3:Int):=IntWalk.u32_in _ (by omega);obtain⟨bC,bi,bj,s1,s2,bY,bv,bw,z1,z2,z3⟩:=Dk aL am r x3 b0 b1 b2 b3;rw[←a4.out]at z3;obtain⟨aZ,K⟩:=O.out.at_ (k:=k) (by omega);have aX:wr.drew.cell? ⟨g,k,none⟩=some aZ:=K;have aG:wr.drew.frozen? ⟨g,k,none⟩=false:=O.out.2.2.frozen k;clear K;go_wp2;go_still_tail 39,(by kernel_rfl);change wpList _ _ _ _ _ wr.drew;go_wp2;go_roundw;case rel=>
     refine⟨k+1,by omega,by go_num,?_⟩;have h:=O.out.drew.put (jS b k) (by omega) (Jp b k);have e:dy b (k+1)=dy b k++[Jp b k]:=by simp[dy,t]
     rw[e];exact h
    case measure=>simp[intOf];omega
  ·have bd:decide ((k:Int)<16)=false:=by simp;omega
   rw[show k=16 by omega]at O;clear t;go_wp2;go_loopw[6](fun i T=>∃k:Nat,16≤k∧k≤64∧i= .int .i64 k∧gz w T g (dy b k))(fun i _=>64-(intOf i).toNat);case atStart=>exact⟨16,by omega,by omega,rfl,O.out⟩
   case round=>
    clear bd;obtain⟨k,t,aH,rfl,hw⟩:=hrel;have E:=af hw;clear hw;by_cases m:k<64
    ·as_aux_lemma=>
      have aV:(dy b k).length=k:=jS b k;have G:=E.out.get (k:=k-15) (by omega);have I:=E.out.get (k:=k-2) (by omega);have m15:IntKind.i64.wrap ((k:Int)-15)=((k-15:Nat):Int):=(IntWalk.i64_in _ (by omega)).trans (by omega);have m2:IntKind.i64.wrap ((k:Int)-2)=((k-2:Nat):Int):=(IntWalk.i64_in _ (by omega)).trans (by omega);have aJ:((k-15:Nat):Int)<64:=by omega
      have aY:((k-2:Nat):Int)<64:=by omega
      obtain⟨n,u⟩:∃x,x=(dy b k)[k-15]?.getD 0:=⟨_,rfl⟩;obtain⟨r,L⟩:∃x,x=(dy b k)[k-2]?.getD 0:=⟨_,rfl⟩;obtain⟨i15,B⟩:∃x,x=k-15:=⟨_,rfl⟩;obtain⟨i2,aa⟩:∃x,x=k-2:=⟨_,rfl⟩;rw[←u]at G;rw[←L]at I;rw[←B]at G m15 aJ;rw[←aa]at I m2 aY;unfold jT at G I;have N:=af aV;have z:=af u;have Y:=af L;clear aV u L B aa;go_wp2;go_quiet(fail);have F:n<4294967296:=tj _ _ _ _ z.out;have ax:r<4294967296:=tj _ _ _ _ Y.out;obtain⟨bl,bm,bQ⟩:=Df n F;obtain⟨bR,bS,bT⟩:=Di r ax;go_wp2_with fail;refine(jb 7 n _ (by omega) (by omega) F).mono ?_;rintro e w1⟨rfl,rfl⟩;go_wp2_with fail;refine(jb 18 n _ (by omega) (by omega) F).mono ?_;rintro e w1⟨rfl,rfl⟩;go_wp2_with fail;refine(jb 17 r _ (by omega) (by omega) ax).mono ?_;rintro e w1⟨rfl,rfl⟩;go_wp2_with fail;refine(jb 19 r _ (by omega) (by omega) ax).mono ?_;rintro e w1⟨rfl,rfl⟩;have A:=af (E.out.drewN nq).drew;have H:=A.out.get (k:=k-16) (by rw[N.out];omega);have aD:=A.out.get (k:=k-7) (by rw[N.out];omega);have m16:IntKind.i64.wrap ((k:Int)-16)=((k-16:Nat):Int):=(IntWalk.i64_in _ (by omega)).trans (by omega);have m7:IntKind.i64.wrap ((k:Int)-7)=((k-7:Nat):Int):=(IntWalk.i64_in _ (by omega)).trans (by omega);have aK:((k-16:Nat):Int)<64:=by omega
      have bk:((k-7:Nat):Int)<64:=by omega
      have bP:(k:Int)<64:=by omega
      obtain⟨y,v⟩:∃x,x=(dy b k)[k-16]?.getD 0:=⟨_,rfl⟩;obtain⟨an,M⟩:∃x,x=(dy b k)[k-7]?.getD 0:=⟨_,rfl⟩;obtain⟨i16,C⟩:∃x,x=k-16:=⟨_,rfl⟩;obtain⟨i7,ab⟩:∃x,x=k-7:=⟨_,rfl⟩;rw[←v]at H;rw[←M]at aD;rw[←C]at H m16 aK;rw[←ab]at aD m7 bk;unfold jT at H aD;have X:=af v;have ar:=af M;clear v M C ab;have a7:=eU y (xB n);have a2:=eU (cI y (xB n)) an;have a3:=eU (cI (cI y (xB n)) an) (Dh r);obtain⟨aZ,K⟩:=A.out.at_ (k:=k) (by omega);have aG:=A.out.2.2.frozen k;go_wp2;generalize wr.drewN nq=bu at*;go_still_tail 15,(by kernel_rfl);change wpList _ _ _ _ _ bu.drew;go_wp2;go_roundw;case rel=>
       refine⟨k+1,by omega,by omega,by go_num,?_⟩;have h:=A.out.put N.out m (cI (cI (cI y (xB n)) an) (Dh r));have e:dy b (k+1)=dy b k++[cI (cI (cI y (xB n)) an) (Dh r)]:=by
        rw[dy,if_neg (by omega),X.out,z.out,ar.out,Y.out]
       rw[e];exact h
      case measure=>simp[intOf];omega
    ·have aE:decide ((k:Int)<64)=false:=by simp;omega
     rw[show k=64 by omega]at E;clear m;have aA:=af (aM.out.fr E.out.1 (fun x=>x));obtain⟨g0,g1,g2,g3,g4,g5,g6,g7⟩:=yU aA.out aj.out;go_wp2;go_quiet(fail);have aO:=af (E.out.drewN nq);have aB:=af (aA.out.drewN nq);clear g0 g1 g2 g3 g4 g5 g6 g7 E aA;generalize wr.drewN nq=w3 at*;obtain⟨g0,g1,g2,g3,g4,g5,g6,g7⟩:=yU aB.out aj.out;go_wp2;go_quiet(fail);have A:=af (aO.out.drewN nq);have a6:=af (aB.out.drewN nq);clear g0 g1 g2 g3 g4 g5 g6 g7 aO aB;generalize w3.drewN nq=bW at*;go_wp2;have N:=af (jS b 64);have ao:=af (fun i x al=>tj b 64 i x al);generalize aT:dy b 64=W at*;have ap:=af aT;clear aT;go_loopw[142,11,12,13,14,15,16,17,18](fun i va bn bo bp bq br bs bt T=>∃k:Nat,k≤64∧i= .int .i64 k∧va= .int .u32 (rounds W s k).a∧bn= .int .u32 (rounds W s k).b∧bo= .int .u32 (rounds W s k).c∧bp= .int .u32 (rounds W s k).d∧bq= .int .u32 (rounds W s k).e∧br= .int .u32 (rounds W s k).f∧bs= .int .u32 (rounds W s k).g∧bt= .int .u32 (rounds W s k).h∧gz w T g W)(fun i _ _ _ _ _ _ _ _ _=>64-(intOf i).toNat);case atStart=>exact⟨0,by omega,rfl,rfl,rfl,rfl,rfl,rfl,rfl,rfl,rfl,A.out⟩
     case round=>
      obtain⟨k,aH,rfl,rfl,rfl,rfl,rfl,rfl,rfl,rfl,rfl,aW⟩:=hrel;have D:=af aW;have J:=xq W s bh k;clear aW A aE;by_cases m:k<64
      ·as_aux_lemma=>
        have ai:Hid (rounds W s (k+1)=round (rounds W s k) (tZ[k]?.getD 0) (W[k]?.getD 0)):=rfl;have aC:=D.out.1.ak (a1.out k m) (fun x=>x);have I:=D.out.get (k:=k) (by rw[N.out];exact m);obtain⟨kk,ac⟩:∃x,x=tZ[k]?.getD 0:=⟨_,rfl⟩;obtain⟨ww,ag⟩:∃x,x=W[k]?.getD 0:=⟨_,rfl⟩;rw[←ac]at aC ai;rw[←ag]at I ai;unfold jT at aC I;clear ac ag;generalize rounds W s k=R at*;obtain⟨am,r,a7,bv,bw,y3,y4,a2,a3,t1,t2,t3,t4,t5,t6,t7,t8,t9,t10⟩:=xZ R J kk ww;obtain⟨bA,bB,z1,z2,z3,z4,z5,bi,bj,bD,bE,bF,bG,bH,bI⟩:=x8 R J;have bl:=eU (mZ R kk ww) (su R);have bm:=eU R.d (mZ R kk ww);have l:Hid (rounds W s (k+1)=⟨cI (mZ R kk ww) (su R),R.a,R.b,R.c,cI R.d (mZ R kk ww),R.e,R.f,R.g⟩):=ai.out;have La:=J.a;have ay:=J.e;have bz:=af J;clear ai J;have aI:(k:Int)<64:=by omega
        generalize mZ R kk ww=P at*;generalize su R=Q at*;go_wp2;go_quiet(first|(go_at_call_of 159(Value.int IntKind.i64 6);exact Calls.quiet_of_same (Mu R.e _ ay))|(go_at_call_of 159(Value.int IntKind.i64 11);exact Calls.quiet_of_same (Lb R.e _ ay))|(go_at_call_of 159(Value.int IntKind.i64 25);exact Calls.quiet_of_same (Lc R.e _ ay)));have a5:=af (D.out.drewN nq);clear D aC I t1 t2 t3 t4 t5 t6 t7 t8 t9 t10;generalize wr.drewN nq=bX at*;go_wp2_with fail;refine(jb 2 R.a _ (by omega) (by omega) La).mono ?_;rintro e w1⟨rfl,rfl⟩;go_wp2_with fail;refine(jb 13 R.a _ (by omega) (by omega) La).mono ?_;rintro e w1⟨rfl,rfl⟩;go_wp2_with fail;refine(jb 22 R.a _ (by omega) (by omega) La).mono ?_;rintro e w1⟨rfl,rfl⟩;go_wp2;go_roundw;case rel=>
         exact⟨k+1,by omega,by go_num,by rw[l.out],by rw[l.out],by rw[l.out],by rw[l.out],by rw[l.out],by rw[l.out],by rw[l.out],by rw[l.out],a5.out⟩
        case measure=>simp[intOf];omega
      ·have aF:decide ((k:Int)<64)=false:=by simp;omega
       have U:Hid (Fr (fun k=>k=q) w wr):=D.out.1.bO;have aN:Hid (aq wr q ah (pre++gd (ua s (rounds W s k) 0)++post).toArray):=by
        rw[Nz];exact aM.out.fr D.out.1 (fun x=>x)
       have l:Hid (rounds W s k=rounds W s 64):=by
        have e:k=64:=by omega
        subst e;exact rfl
       clear m J a6 D N ao;generalize rounds W s k=V at*;go_wp2;go_loopw[214](fun i T=>∃k:Nat,k≤8∧i= .int .i64 k∧Fr (fun k=>k=q) w T∧aq T q ah (pre++gd (ua s V k)++post).toArray)(fun i _=>8-(intOf i).toNat);case atStart=>exact⟨0,by omega,rfl,U.out,aN.out⟩
       case round=>
        clear aF aN U;obtain⟨k,aH,rfl,hF,Z⟩:=hrel;have av:=af hF;have KB:=af Z;clear hF Z;by_cases o:k<8
        ·as_aux_lemma=>
          have S:wr.drew.cell? ⟨q,os+k,none⟩=some (.int .u32 (fW s k)):=(KB.out.drew.ko aj.out (j:=k) (by simpa[gd]using o)).trans (Mo s V k o);have f0:wr.drew.frozen? ⟨q,os+k,none⟩=false:=KB.out.drew.frozen _;have bf:=yG wr V k o;have a0:=eU (fW s k) (fW V k);have au:Hid (aq (wr.drew.setCell ⟨q,os+k,none⟩ (.int .u32 ((cI (fW s k) (fW V k):Nat):Int))) q ah (pre++gd (ua s V (k+1))++post).toArray):=by
           have h:=KB.out.drew.Ln aj.out (j:=k) (by simpa[gd]using o) (.int .u32 ((cI (fW s k) (fW V k):Nat):Int));rw[Kx s V k o]at h;exact h
          have aw:Hid (Fr (fun k=>k=q) w (wr.drew.setCell ⟨q,os+k,none⟩ (.int .u32 ((cI (fW s k) (fW V k):Nat):Int)))):=av.out.drew.setCell (p:=⟨q,os+k,none⟩) (fun _=>rfl) _;have aI:(k:Int)<8:=by omega
          clear KB av o;generalize fW s k=bU at*;generalize fW V k=vk at*;go_wp2;go_still_tail 9,(by kernel_rfl);change wpList _ _ _ _ _ wr.drew;go_wp2;go_roundw;case rel=>exact⟨k+1,by omega,by go_num,aw.out,au.out⟩
          case measure=>simp[intOf];omega
        ·have be:decide ((k:Int)<8)=false:=by simp;omega
         have aP:k=8:=by omega
         rw[aP]at KB;clear aP o;go_wp2;refine bodyPost_ret (results_none rfl _ _ _) rfl ?_;refine⟨rfl,av.out,?_⟩;have aQ:=KB.out;rw[ND,l.out,←ap.out]at aQ;rw[AT];exact aQ
theorem Fw{w:World}{g:Nat}{t:TypeId}{s:cX}(h:aq w g t (gd s).toArray):
  w.cell? ⟨g,0,none⟩=some (.int .u32 s.a)∧w.cell? ⟨g,1,none⟩=some (.int .u32 s.b)∧w.cell? ⟨g,2,none⟩=some (.int .u32 s.c)∧w.cell? ⟨g,3,none⟩=some (.int .u32 s.d)∧
  w.cell? ⟨g,4,none⟩=some (.int .u32 s.e)∧w.cell? ⟨g,5,none⟩=some (.int .u32 s.f)∧w.cell? ⟨g,6,none⟩=some (.int .u32 s.g)∧w.cell? ⟨g,7,none⟩=some (.int .u32 s.h):=
 ⟨h.cell 0,h.cell 1,h.cell 2,h.cell 3,h.cell 4,h.cell 5,h.cell 6,h.cell 7⟩
def aD:Array Value:=Array.replicate 32 (.int .u8 0)
def aZ:Value:= .agg aD
theorem MU(w:World):(zeroValue 37).run Tryz.prog w= .ok aZ w:=by kernel_rfl
theorem GB:(Tryz.prog.info? 37).map (·.size)=some 32:=by kernel_rfl
def mN(V:cX)(k:Nat):List UInt8:=(ec V).take k++List.replicate (32-k) 0
theorem zC(V:cX)(k:Nat)(h:k≤32):(mN V k).length=32:=by
 simp[mN,ju];omega
theorem qg(V:cX)(k:Nat)(x:UInt8)(h:k<32)(c:(ec V)[k]? =some x):((mN V k).map bN).set k (bN x)=(mN V (k+1)).map bN:=by
 rw[←List.map_set];congr 1;have a:((ec V).take k).length=k:=by simp[ju];omega
 unfold mN;rw[List.set_append_right _ _ (by omega),a,Nat.sub_self,show 32-k=(32-(k+1))+1 by omega,List.replicate_succ,List.set_cons_zero];have b:(ec V).take (k+1)=(ec V).take k++[x]:=by
  rw[List.take_add_one,c];rfl
 rw[b];simp
theorem Kb(V:cX):mN V 32=ec V:=by
 unfold mN;rw[List.take_of_length_le (by rw[ju];exact Nat.le_refl _)];simp
theorem uK(V:cX)(q r:Nat)(b:q<8)(c:r<4):(ec V)[4*q+r]? =some (iQ (fW V q/2^(24-8*r))):=by
 have a:r=0∨r=1∨r=2∨r=3:=by omega
 rcases uJ b with rfl|rfl|rfl|rfl|rfl|rfl|rfl|rfl<;>rcases a with rfl|rfl|rfl|rfl<;>simp[ec,ey,fW]
theorem El(V:cX):((mN V 0).map bN).toArray=aD:=by
 unfold mN aD;rw[List.take_zero,List.nil_append,List.map_replicate,List.toArray_replicate];rfl
theorem mc(l:List UInt8):(l.map bN).toArray.all (·.oneCell')=true:=by
 rw[Array.all_eq_true_iff_forall_mem];intro v a;simp only[List.mem_toArray,List.mem_map]at a;obtain⟨x,_,rfl⟩:=a;rfl
theorem Mz(V:cX)(h:V.ok)(q:Nat):fW V q<4294967296:=by
 unfold fW;split;·exact h.a
 ·exact h.b
 ·exact h.c
 ·exact h.d
 ·exact h.e
 ·exact h.f
 ·exact h.g
 ·exact h.h
def aY(l:List UInt8):Value:= .agg (l.map bN).toArray
end Go.Proofs.YtphjagkehiklkaaGreatDoor
