/- Texts. -/
import Derived.Test.YtphjagkehiklkaaGreatDoorUK43
set_option linter.unusedVariables false
set_option linter.unusedSimpArgs false
namespace Go.Proofs.YtphjagkehiklkaaGreatDoor.Lt
open Go.RowKit
theorem _root_.Go.Proofs.YtphjagkehiklkaaGreatDoor.bF.Ks{e:TypeId}{size:Nat}{w w1 w2:World}{cells:Array Value}{xs:List Value}(h:Fr af w w1)(b:dd w1 w2 e cells)(a:cells.toList=xs)(c:xs.length=1*size):bF e size w (.slice none 0 0) w2 (.slice (some ⟨w1.heap.size,0,none⟩) 1 1) 1 xs:=by
 have f:cells.size=1*size:=by rw[←c,←a,Array.length_toList]
 refine⟨⟨c, .inr ⟨w1.heap.size,1,cells,rfl,Nat.zero_le _,b.az,Nat.le_refl _,by decide,f,?_⟩⟩,(h.trans b.fr).bA,fun k d=>?_⟩;·rw[a,List.take_of_length_le (by omega)]
 ·simp only[Value.ownBlock,Option.some.injEq]at d;have:=h.size;omega
end Go.Proofs.YtphjagkehiklkaaGreatDoor.Lt
namespace Go.Proofs.YtphjagkehiklkaaGreatDoor
open Go.RowKit Go.Shelf
theorem I3{P:Program}{ops:Array Oper}{rest:List Oper}{b c:Oper}{a:Act}{w:World}{Q:Exit→Act→World→Prop}(j:b.guard=none)(k:c.guard=none)(t:TypeId)(d:Tmp)(l:b.op= .alloc t)(v:b.dst=some d)(y:Operand)(m:c.op= .store t (.tmp d) y)
  (z:Value)(s:∀w,(zeroValue t).run P w= .ok z w)(f:Array Value)(n:z.cells=f)(cells:Array Value)
  (q:∀g,(a.put b.dst (.pointer (some ⟨g,0,none⟩))).eval (.tmp d)= .pointer (some ⟨g,0,none⟩))(r:∀g,(a.put b.dst (.pointer (some ⟨g,0,none⟩))).eval y= .agg cells)
  (o:(P.info? t).map (·.size)=some cells.size)(hold:f.size=cells.size)(p:cells.all (·.oneCell')=true)
  (h:∀w' g,w.heap.size≤g→g<w'.heap.size→ak w' g t cells→Fr af w w'→wpList P ops Q rest ((a.put b.dst (.pointer (some ⟨g,0,none⟩))).put c.dst undef) w'):wpList P ops Q (b::c::rest) a w:=by
 refine ai j t l z s f n fun w1 n1=>?_;refine ah k t (.tmp d) y m w.heap.size cells (q _) (r _) t f n1.az o hold p fun w2 b2 f2=>?_;exact h w2 w.heap.size (Nat.le_refl _) b2.lt b2 (n1.fr.ao f2 (fun i o e=>by have u:i=w.heap.size:=e;omega))
theorem Ju{P:Program}{ops:Array Oper}{rest:List Oper}{b F c:Oper}{a:Act}{w:World}{Q:Exit→Act→World→Prop}(j:b.guard=none)(r:F.guard=none)(k:c.guard=none)(t:TypeId)(d:Tmp)(l:b.op= .alloc t)(E:b.dst=some d)(x:Operand)(s:F.op= .assign x)(y:Operand)(m:c.op= .store t (.tmp d) y)
  (z:Value)(C:∀w,(zeroValue t).run P w= .ok z w)(f:Array Value)(n:z.cells=f)(v:Value)(cells:Array Value)
  (u:∀g,(a.put b.dst (.pointer (some ⟨g,0,none⟩))).eval x=v)
  (A:∀g,((a.put b.dst (.pointer (some ⟨g,0,none⟩))).put F.dst v).eval (.tmp d)= .pointer (some ⟨g,0,none⟩))(B:∀g,((a.put b.dst (.pointer (some ⟨g,0,none⟩))).put F.dst v).eval y= .agg cells)
  (o:(P.info? t).map (·.size)=some cells.size)(hold:f.size=cells.size)(p:cells.all (·.oneCell')=true)
  (h:∀w' g,w.heap.size≤g→g<w'.heap.size→ak w' g t cells→Fr af w w'→wpList P ops Q rest (((a.put b.dst (.pointer (some ⟨g,0,none⟩))).put F.dst v).put c.dst undef) w'):wpList P ops Q (b::F::c::rest) a w:=by
 refine ai j t l z C f n fun w1 n1=>?_;refine wpList_plain r fun K q=>?_;unfold Oper.wp execOp;simp only[s,Sem.run_pure,u];refine q _ _ ?_;refine ah k t (.tmp d) y m w.heap.size cells (A _) (B _) t f n1.az o hold p fun w2 b2 f2=>?_;exact h w2 w.heap.size (Nat.le_refl _) b2.lt b2 (n1.fr.ao f2 (fun i o e=>by have D:i=w.heap.size:=e;omega))
end Go.Proofs.YtphjagkehiklkaaGreatDoor
namespace Go.Proofs.YtphjagkehiklkaaGreatDoor
open Go.RowKit Go.Shelf
theorem Jz(d:List UInt8)(h:d.length=32)(w:World):(binOp .eql 38 (.agg (d.map aU).toArray) (.agg (d.map aU).toArray)).run Tryz.prog w= .ok (.bool true) w:=by
 have q:=FH w _ Tryz.underlying38 d d h h;rw[decide_eq_true rfl]at q;exact q
end Go.Proofs.YtphjagkehiklkaaGreatDoor
