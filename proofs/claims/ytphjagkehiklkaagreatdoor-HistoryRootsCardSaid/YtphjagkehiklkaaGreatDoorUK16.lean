/- Texts. -/
import Derived.Test.YtphjagkehiklkaaGreatDoorUK15
set_option linter.unusedVariables false
set_option linter.unusedSimpArgs false
namespace Go.Proofs.YtphjagkehiklkaaGreatDoor
open Go.RowKit Go.Shelf
def jI(c:CV)(L:List Ent):List Ent:=if c.aV then cT c.nm L else dq c.nm c.value L
def ln(xs:List CV)(L:List Ent):List Ent:=xs.foldl (fun l c=>jI c l) L
def AQ(c:CV)(L:List Ent):List Ent:=if cU c.nm then jI c L else L
structure du(c:CV):Prop where
 owner:c.nm.owner.size≤100
 text:c.nm.text.size≤100
 value:c.value.size≤200
structure ct(k:Nat)(L:List Ent):Prop where
 sort:eC L
 len:L.length≤k
 ok:∀x∈L,cU x.1=true
 owner:∀x∈L,x.1.owner.size≤100
 text:∀x∈L,x.1.text.size≤100
 value:∀x∈L,x.2.size≤200
theorem ct.nil:ct 0 []:=⟨List.Pairwise.nil,Nat.le_refl _,(fun _ h=>by cases h),(fun _ h=>by cases h),(fun _ h=>by cases h),(fun _ h=>by cases h)⟩
theorem sG:∀L:List Ent,(∀x∈L,x.2.size≤200)→cG L≤200*L.length
 |[],_=>by simp[cG]
 |x::L,h=>by
  have a:=sG L (fun y b=>h y (List.mem_cons_of_mem _ b));have c:=h x (List.mem_cons_self ..);simp only[cG,List.map_cons,List.sum_cons,List.length_cons]at a⊢;omega
theorem ct.kX{k:Nat}{L:List Ent}(h:ct k L)(b:k≤60000):qh L:=
 ⟨h.sort,fun x a=>by have:=h.owner x a;omega,by have:=h.len;omega,by have:=sG L h.value;have:=h.len;omega,h.ok⟩
theorem ct.more{k a:Nat}{L:List Ent}(h:ct k L)(b:k≤a):ct a L:=⟨h.sort,by have:=h.len;omega,h.ok,h.owner,h.text,h.value⟩
theorem ct.next{k:Nat}{L:List Ent}{c:CV}(h:ct k L)(d:du c)(e:cU c.nm=true):ct (k+1) (jI c L):=by
 unfold jI;cases c.aV
 ·rw[if_neg (by decide)];have hm:=(mq (nm:=c.nm) (v:=c.value) h.sort).2;refine⟨(mq h.sort).1,by have:=(mn (nm:=c.nm) (v:=c.value) L).1;have:=h.len;omega,fun x a=>?_,fun x a=>?_,fun x a=>?_,fun x a=>?_⟩
  ·rcases hm x a with rfl|b;·exact e
   ·exact h.ok x b
  ·rcases hm x a with rfl|b;·exact d.owner
   ·exact h.owner x b
  ·rcases hm x a with rfl|b;·exact d.text
   ·exact h.text x b
  ·rcases hm x a with rfl|b;·exact d.value
   ·exact h.value x b
 ·rw[if_pos rfl];have hm:=(qp (nm:=c.nm) L).subset;exact⟨zL h.sort,by have:=(ki (nm:=c.nm) L).1;have:=h.len;omega,fun x a=>h.ok x (hm a),fun x a=>h.owner x (hm a),fun x a=>h.text x (hm a),fun x a=>h.value x (hm a)⟩
theorem ct.step{k:Nat}{L:List Ent}{c:CV}(h:ct k L)(a:du c):ct (k+1) (AQ c L):=by
 unfold AQ;cases b:cU c.nm;·exact h.more (by omega)
 ·exact h.next a b
theorem du.name{c:CV}(h:du c):su c.nm:=⟨by have:=h.owner;omega,by have:=h.text;omega⟩
theorem AJ{xs:List CV}{k:Nat}{c:CV}(h:xs[k]? =some c)(L:List Ent):ln (xs.take (k+1)) L=jI c (ln (xs.take k) L):=by
 rw[ln,List.take_add_one,h,Option.toList_some,List.foldl_append];rfl
end Go.Proofs.YtphjagkehiklkaaGreatDoor
namespace Go.Proofs.YtphjagkehiklkaaGreatDoor
open Go.RowKit Go.Shelf
def y9(xs:List CV):Prop:=xs.Pairwise (fun a b=>a.nm≠b.nm)
def wG(a b:aD):Bool:=cp a b==0
structure Ix(a c:List CV):Prop where
 II:y9 c
 ok:∀z∈c,cU z.nm=true
 of:∀z∈c,z∈a
theorem y9.at_{c:List CV}(h:y9 c){p q:Nat}{a b:CV}(i:c[p]? =some a)(j:c[q]? =some b)(e:p≠q):a.nm≠b.nm:=by
 obtain⟨f,rfl⟩:=List.getElem?_eq_some_iff.1 i;obtain⟨g,rfl⟩:=List.getElem?_eq_some_iff.1 j;rcases Nat.lt_or_gt_of_ne e with d|d;·exact List.pairwise_iff_getElem.1 h p q f g d
 ·exact(List.pairwise_iff_getElem.1 h q p g f d).symm
end Go.Proofs.YtphjagkehiklkaaGreatDoor
namespace Go.Proofs.YtphjagkehiklkaaGreatDoor
open Go.RowKit Go.Shelf
def SV(c:CV)(L:List Ent)(v:Value)(w:World):Prop:=∃a,v= .pointer (some ⟨a,0,none⟩)∧ew w a (AQ c L)
theorem SV.al{c:CV}{L:List Ent}{v:Value}{w w':World}(h:SV c L v w)(b:Fr af w w'):SV c L v w':=by
 obtain⟨s,e,a⟩:=h;exact⟨s,e,a.al b⟩
end Go.Proofs.YtphjagkehiklkaaGreatDoor
namespace Go.Proofs.YtphjagkehiklkaaGreatDoor
open Go.RowKit Go.Shelf
theorem ph:∀(xs:List CV)(L:List Ent)(m:Nat),ct m L→(∀c∈xs,du c)→(∀c∈xs,cU c.nm=true)→ct (m+xs.length) (ln xs L)
 |[],_,_,h,_,_=>h
 |c::xs,L,m,h,e,b=>(ph xs (jI c L) (m+1) (h.next (e c (by simp)) (b c (by simp))) (fun d a=>e d (by simp[a])) (fun d a=>b d (by simp[a]))).more (by simp only[List.length_cons];omega)
structure vV(w:World)(N:Nat)(a:List CV)(v4 v5:Value):Prop where
 Bx:w.ownsRow 0 119 7 v4 N (a.flatMap CV.cells)
 Fu:w.ownsRow 0 247 7 v5 N (a.flatMap CV.cells)
 len:a.length=N
theorem vV.al{w w':World}{N:Nat}{b:List CV}{v4 v5:Value}(h:vV w N b v4 v5)(a:Fr af w w'):vV w' N b v4 v5:=⟨aK h.Bx a (fun _ _ x=>x),aK h.Fu a (fun _ _ x=>x),h.len⟩
theorem vV.row{w w':World}{N:Nat}{f:List CV}{v4 v5 v:Value}{e:TypeId}{size n:Nat}{xs:List Value}(h:vV w N f v4 v5)(d:w.ownsRow 0 e size v n xs)(c:Fr (lY v) w w')(i:e≠119)(j:e≠247):vV w' N f v4 v5:=
 ⟨aK h.Bx c (fun g a b=>my d h.Bx i g b a),aK h.Fu c (fun g a b=>my d h.Fu j g b a),h.len⟩
end Go.Proofs.YtphjagkehiklkaaGreatDoor
