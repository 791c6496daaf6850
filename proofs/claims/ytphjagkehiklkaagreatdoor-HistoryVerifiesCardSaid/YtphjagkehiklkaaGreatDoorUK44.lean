/- Texts. -/
import Derived.Test.YtphjagkehiklkaaGreatDoorUK43
set_option linter.unusedVariables false
set_option linter.unusedSimpArgs false
set_option maxRecDepth 100000
namespace Go.Proofs.YtphjagkehiklkaaGreatDoor
open Go.RowKit Go.ChangeShapes Go.WideShapes Go.Deep
theorem xN:Tryz.prog.cellsOf 38=32:=by kernel_rfl
theorem Cw:Tryz.prog.cellsOf 31=1:=by kernel_rfl
theorem tu{H:Type}{enc:TypeId×Value→H}{w:World}{base:Nat}{sp:Nat→Bool}{held:Bool}{fuel:Nat}{cs:List Value}{x:DataW H×List MemPlace}
  (h:DataW.trod enc Tryz.prog w base sp held fuel 38 cs=some x):∃d:List UInt8,d.length=32∧cs=d.map aU:=by
 obtain⟨xs,m,_,_,j,o,k⟩:=DataW.trod_array Tryz.underlying38 h;rw[xN]at j;have:∀v∈cs,∃b:UInt8,v=aU b:=by
  intro v l;obtain⟨i,a,c⟩:=List.getElem_of_mem l;have g:=k i (by omega);rw[sJ,Nat.mul_one,take1_drop cs i (.int .u8 0) a,List.getElem?_eq_getElem (by omega)]at g;obtain⟨a0,f,_,b0⟩:=DataW.trod_int Tryz.underlying5 g;simp only[List.cons.injEq,and_true]at f;have n:=bounds_u8 b0;have e:v= .int .u8 a0:=by
   rw[←f,←c,List.getD_eq_getElem?_getD,List.getElem?_eq_getElem a];rfl
  refine⟨UInt8.ofNat a0.toNat,?_⟩;rw[e];unfold aU;rw[UInt8.toNat_ofNat_of_lt' (by simp;omega)];congr 1;omega
 obtain⟨d,rfl⟩:=Lt.uN cs this;exact⟨d,by simpa[Lt.aq]using j,rfl⟩
theorem yw{H:Type}{enc:TypeId×Value→H}{w:World}{fuel:Nat}{v:Value}{x:DataW H×List MemPlace}
  (h:DataW.trod enc Tryz.prog w 0 (fun _=>true) true fuel 31 [v]=some x):
  ∃a len cap,∃ds:List (List UInt8),v= .slice a len cap∧Lt.eF w (Old w) a len ds∧len≤cap∧cap≤9223372036854775807:=by
 rcases open_slice Tryz.underlying31 h with⟨b,_⟩|⟨p,B,E,m,n,D,C,b,_,A,hm,g,_,o⟩;·simp only[List.cons.injEq,and_true]at b;exact⟨_,_,_,[],b,⟨Rd.none_,rfl,by simp⟩,Nat.le_refl _,Nat.zero_le _⟩
 ·simp only[List.cons.injEq,and_true]at b;simp only[if_true]at g;rw[xN]at o;have f:∀i,i<B→∃v:{d:List UInt8//d.length=32},True∧∀j u,(v.1.map aU)[j]? =some u→w.cell? ((p.add (i*32)).add j)=some u:=by
   intro i y;obtain⟨cs',s,k⟩:=o i (by omega);obtain⟨d,c,rfl⟩:=tu k;obtain⟨_,t,e⟩:=World.cells?_some s;refine⟨⟨d,c⟩,trivial,fun j u hu=>?_⟩;have z:j<32:=by
    have:=(List.getElem?_eq_some_iff.1 hu).1;simpa[c]using this
   rw[e j z,←hu]
  obtain⟨l,q,_,r⟩:=qa (fun v:{d:List UInt8//d.length=32}=>v.1.map aU) 32 (fun _=>True) (fun v=>by simp[v.2]) (by omega) f;refine⟨_,_,_,l.map (·.1),b,⟨?_,by simpa using q,?_⟩,A,by unfold maxLen at hm;exact hm⟩;·rw[List.flatMap_map];exact r
  ·intro d c;obtain⟨v,_,rfl⟩:=List.mem_map.1 c;exact v.2
theorem Al{H:Type}{enc:TypeId×Value→H}{w:World}{r:Reach}{b fuel:Nat}{v:Value}{x:DataW H×List MemPlace}(a:Value.okWide Tryz.prog w r b 38 v)
  (h:DataW.trod enc Tryz.prog w 0 (fun _=>true) true fuel 38 v.cells.toList=some x):∃d:List UInt8,v=aL d∧d.length=32:=by
 unfold Value.okWide at a;rw[Tryz.underlying38]at a;obtain⟨⟨l⟩,rfl,_,_⟩:=a;obtain⟨d,e,c⟩:=tu h;have:l=d.map aU:=c;subst this;exact⟨d,rfl,e⟩
structure Ep where
 index:Int
 n:Int
 text:ByteArray
 A:Option Addr
 len:Nat
 cap:Nat
 path:List (List UInt8)
def Ep.val(p:Ep):Value:= .agg [Value.int .i64 p.index, .int .i64 p.n, .string p.text, .slice p.A p.len p.cap].toArray
structure Ep.kX(p:Ep)(w:World):Prop where
 path:Lt.eF w (Old w) p.A p.len p.path
 le:p.len≤p.cap
 cap:p.cap≤9223372036854775807
 text:p.text.size≤9223372036854775807
theorem EF:Tryz.prog.cellsOf 33=4:=by kernel_rfl
theorem yx{H:Type}{enc:TypeId×Value→H}{w:World}{r:Reach}{b fuel:Nat}{v:Value}{x:DataW H×List MemPlace}(a:Value.okWide Tryz.prog w r b 33 v)
  (h:DataW.trod enc Tryz.prog w 0 (fun _=>true) true fuel 33 v.cells.toList=some x):∃p:Ep,v=p.val∧p.kX w:=by
 unfold Value.okWide at a;rw[Tryz.underlying33]at a;obtain⟨⟨l⟩,rfl,_,_⟩:=a;have m:DataW.trod enc Tryz.prog w 0 (fun _=>true) true fuel 33 l=some x:=h;obtain⟨s,t,_,rfl,d,f,e⟩:=DataW.trod_struct Tryz.underlying33 m;rw[EF]at d;match l,d with
 |[u,y,z,x3],_=>
  have g0:=e 0 _ rfl;have g1:=e 1 _ rfl;have g2:=e 2 _ rfl;have g3:=e 3 _ rfl;match s,f with
  |[B,C,D,y3],_=>
   simp[nY,nZ,Cw]at g0 g1 g2 g3;obtain⟨a0,g,rfl,b0⟩:=DataW.trod_int Tryz.underlying3 g0;obtain⟨k,i,rfl,b1⟩:=DataW.trod_int Tryz.underlying3 g1;obtain⟨a2,j,rfl,b2⟩:=DataW.trod_string Tryz.underlying9 g2;obtain⟨A,n,c,ds,rfl,o,m3,q⟩:=yw g3;simp only[List.cons.injEq,and_true]at g i j;subst g i j;exact⟨⟨a0,k,a2,A,n,c,ds⟩,rfl,o,m3,q,b2⟩
def Bq:Value:= .agg #[.int .u8 0, .int .u8 0, .int .u8 0, .int .u8 0, .int .u8 0, .int .u8 0, .int .u8 0, .int .u8 0, .int .u8 0, .int .u8 0, .int .u8 0, .int .u8 0, .int .u8 0, .int .u8 0, .int .u8 0, .int .u8 0, .int .u8 0, .int .u8 0, .int .u8 0, .int .u8 0, .int .u8 0, .int .u8 0, .int .u8 0, .int .u8 0, .int .u8 0, .int .u8 0, .int .u8 0, .int .u8 0, .int .u8 0, .int .u8 0, .int .u8 0, .int .u8 0]
def Hw{H:Type}:DataW H:= .agg [.lit (.int .u8 0), .lit (.int .u8 0), .lit (.int .u8 0), .lit (.int .u8 0), .lit (.int .u8 0), .lit (.int .u8 0), .lit (.int .u8 0), .lit (.int .u8 0), .lit (.int .u8 0), .lit (.int .u8 0), .lit (.int .u8 0), .lit (.int .u8 0), .lit (.int .u8 0), .lit (.int .u8 0), .lit (.int .u8 0), .lit (.int .u8 0), .lit (.int .u8 0), .lit (.int .u8 0), .lit (.int .u8 0), .lit (.int .u8 0), .lit (.int .u8 0), .lit (.int .u8 0), .lit (.int .u8 0), .lit (.int .u8 0), .lit (.int .u8 0), .lit (.int .u8 0), .lit (.int .u8 0), .lit (.int .u8 0), .lit (.int .u8 0), .lit (.int .u8 0), .lit (.int .u8 0), .lit (.int .u8 0)]
def GQ:Value:= .agg #[.int .i64 0, .int .i64 0, .string ByteArray.empty, .slice none 0 0]
def Iu{H:Type}:DataW H:= .agg [.lit (.int .i64 0), .lit (.int .i64 0), .lit (.string []), .nil]
end Go.Proofs.YtphjagkehiklkaaGreatDoor
