/- Texts. -/
import Derived.Test.YtphjagkehiklkaaGreatDoorWK30
import Derived.Test.YtphjagkehiklkaaGreatDoorWK34
set_option linter.unusedVariables false
set_option linter.unusedSimpArgs false
set_option maxRecDepth 100000
namespace Go.Proofs.YtphjagkehiklkaaGreatDoor
open Go.RowKit Go.Shelf
def tK(w:World)(A:Option Addr)(n:Nat):Prop:=∀k,k<n→∃a b,A=some a∧sh w b∧∀j x,b[j]? =some x→w.cell? ((a.add (k*6)).add j)=some x
theorem tK.ar{w w':World}{A:Option Addr}{n:Nat}(h:tK w A n)(a:Fr ag w w'):tK w' A n:=fun k g=>by
 obtain⟨b,c,d,e,f⟩:=h k g;exact⟨b,c,d,e.ar a,fun j x i=>a.an (f j x i) (fun x=>x)⟩
theorem sh.len{w:World}{cs:List Value}(h:sh w cs):cs.length=6:=by
 obtain⟨_,_,_,_,_,_,_,_,_,_,_,_,_,_,_,_,rfl,_⟩:=h;rfl
theorem Mod.jZ{w w':World}{T:Nat→Prop}{cs:List Value}{b:Nat}{E:List Ent}{L:List ActV}(h:Mod w cs b E L)(a:Fr T w w')(hF:fJ w T)(i:∀v∈cs,∀k,v.ownBlock=some k→¬T k):Mod w' cs b E L:=by
 obtain⟨A,n,c,rfl,d,e,f,g⟩:=h;exact⟨A,n,c,rfl,d,e,f.cN a hF,g.cN a hF (i _ (by simp))⟩
theorem Mod.lt{w:World}{cs:List Value}{b:Nat}{E:List Ent}{L:List ActV}(h:Mod w cs b E L):∀v∈cs,∀k,v.ownBlock=some k→Ty w k 46:=by
 obtain⟨A,n,c,rfl,g,i,j,e,f,l⟩:=h;intro v d k a;rw[List.mem_cons,List.mem_singleton]at d;rcases d with rfl|rfl;·cases a
 ·exact iZ f a
theorem Ty.lt{w:World}{k:Nat}{t:TypeId}(h:Ty w k t):k<w.heap.size:=by
 obtain⟨cs,h⟩:=h;exact aq.lt (cs:=cs) (t:=t) h
theorem Mod.len{w:World}{cs:List Value}{b:Nat}{E:List Ent}{L:List ActV}(h:Mod w cs b E L):cs.length=2:=by
 obtain⟨A,n,c,rfl,_⟩:=h;rfl
theorem Mod.one{w:World}{cs:List Value}{b:Nat}{E:List Ent}{L:List ActV}(h:Mod w cs b E L):cs.toArray.all (·.oneCell')=true:=by
 obtain⟨A,n,c,rfl,_⟩:=h;simp[Value.oneCell']
theorem GH(b:Nat):Tryz.prog.built 28 [(0, .pointer (some ⟨b,0,none⟩))]=some [Value.pointer (some ⟨b,0,none⟩), .slice none 0 0].toArray:=by kernel_rfl
structure xl(w w3 wr:World)(h b g5 g6 k:Nat)(E:List Ent)(L:List ActV)(T:Nat→Prop)(ms:List Value):Prop where
 uy:fK wr h E L T
 mod:Mod wr ms b E L
 box:aq wr g6 28 ms.toArray
 run:iH L
 len:L.length≤k
 new:∀j,T j→w3.heap.size≤j
 rows:∀v∈ms,∀j,v.ownBlock=some j→¬T j
 fr:Fr ag w wr
 size:w3.heap.size≤wr.heap.size
 out:aq wr g5 28 #[.pointer none, .slice none 0 0]
end Go.Proofs.YtphjagkehiklkaaGreatDoor
namespace Go.Proofs.YtphjagkehiklkaaGreatDoor
open Go.ChangeShapes Go.WideShapes Go.ChangeAt Go.RowKit Go.Deep
theorem wE:Tryz.prog.cellsOf 72=6:=by kernel_rfl
theorem GJ:Tryz.prog.cellsOf 55=1:=by kernel_rfl
theorem wY{H:Type}{enc:TypeId×Value→H}{w:World}{fuel:Nat}{v:Value}{x:DataW H×List MemPlace}
  (h:DataW.trod enc Tryz.prog w 0 (fun _=>true) true fuel 55 [v]=some x):
  ∃(A:Option Addr)(n c:Nat)(xs:List CV),v= .slice A n c∧CL w (Old w) A n xs∧n≤9223372036854775807∧n≤c:=by
 rcases open_slice Tryz.underlying55 h with⟨a,_⟩|⟨g,j,i,m,n,D,f,a,_⟩;·simp only[List.cons.injEq,and_true]at a;subst a;obtain⟨cs,b,_,d,e⟩:=zK h;exact⟨_,_,_,cs,rfl,b,by omega,d⟩
 ·simp only[List.cons.injEq,and_true]at a;subst a;obtain⟨cs,b,_,d,e⟩:=zK h;exact⟨_,_,_,cs,rfl,b,by omega,d⟩
theorem Fj{H:Type}{enc:TypeId×Value→H}{w:World}{fuel:Nat}{l:List Value}{x:DataW H×List MemPlace}
  (h:DataW.trod enc Tryz.prog w 0 (fun _=>true) true fuel 72 l=some x):sh w l:=by
 obtain⟨t,u,_,rfl,b,c,a⟩:=DataW.trod_struct Tryz.underlying72 h;rw[wE]at b;match l,b with
 |[y,z,A,x3,B,C],_=>
  have g0:=a 0 _ rfl;have g1:=a 1 _ rfl;have g2:=a 2 _ rfl;have g3:=a 3 _ rfl;have g4:=a 4 _ rfl;have g5:=a 5 _ rfl;match t,c with
  |[D,E,F,y3,y4,G],_=>
   simp[rz,yY,GJ]at g0 g1 g2 g3 g4 g5;obtain⟨a0,f,rfl,b0⟩:=DataW.trod_int Tryz.underlying3 g0;obtain⟨n,g,rfl,b1⟩:=DataW.trod_int Tryz.underlying3 g1;obtain⟨a2,i,rfl,b2⟩:=DataW.trod_int Tryz.underlying3 g2;obtain⟨a3,j,rfl,b3⟩:=DataW.trod_int Tryz.underlying5 g3;obtain⟨k,n4,o,d,rfl,p,m4,o4⟩:=wY g4;obtain⟨m,r,c5,e,rfl,q,m5,s⟩:=wY g5;simp only[List.cons.injEq,and_true]at f g i j;subst f g i j;have v:=bounds_u8 b3;exact⟨a0,n,a2,a3,k,n4,o,d,_,m,r,c5,e,_,by omega,by omega,rfl,⟨p,m4,o4⟩,⟨q,m5,s⟩⟩
theorem Cf{H:Type}{enc:TypeId×Value→H}{w:World}{fuel:Nat}{a:Option Addr}{len cap:Nat}{x:DataW H×List MemPlace}
  (h:DataW.trod enc Tryz.prog w 0 (fun _=>true) true fuel 22 [.slice a len cap]=some x):tK w a len:=by
 rcases open_slice Tryz.underlying22 h with⟨b,_⟩|⟨l,z,t,m,n,D,s,b,_,y,hm,d,_,f⟩;·simp only[List.cons.injEq,Value.slice.injEq,and_true]at b;obtain⟨rfl,rfl,rfl⟩:=b;intro k v;omega
 ·simp only[List.cons.injEq,Value.slice.injEq,and_true]at b;obtain⟨rfl,rfl,rfl⟩:=b;simp only[if_true]at d;rw[wE]at f;intro i q;obtain⟨cs',o,e⟩:=f i (by omega);have g:=Fj e;obtain⟨_,p,c⟩:=World.cells?_some o;refine⟨l,cs',rfl,g,fun j u hu=>?_⟩;have r:j<6:=by
   have:=(List.getElem?_eq_some_iff.1 hu).1;rw[g.len]at this;exact this
  rw[c j r,←hu]
theorem Ce{H:Type}{enc:TypeId×Value→H}{w:World}{fuel:Nat}{a:Option Addr}{len cap:Nat}{x:DataW H×List MemPlace}
  (h:DataW.trod enc Tryz.prog w 0 (fun _=>true) true fuel 22 [.slice a len cap]=some x):
  ∃e:Unit,tK w a len∧True∧len≤cap∧cap≤9223372036854775807:=by
 refine⟨(),Cf h,trivial,?_⟩;rcases open_slice Tryz.underlying22 h with⟨b,_⟩|⟨f,i,g,m,n,D,d,b,_,c,hm,_⟩;·simp only[List.cons.injEq,Value.slice.injEq,and_true]at b;obtain⟨rfl,rfl,rfl⟩:=b;exact⟨Nat.le_refl _,Nat.zero_le _⟩
 ·simp only[List.cons.injEq,Value.slice.injEq,and_true]at b;obtain⟨rfl,rfl,rfl⟩:=b;exact⟨c,by unfold maxLen at hm;exact hm⟩
end Go.Proofs.YtphjagkehiklkaaGreatDoor
