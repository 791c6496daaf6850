/- Texts. -/
import Derived.Test.YtphjagkehiklkaaGreatDoorWK05
set_option linter.unusedVariables false
set_option linter.unusedSimpArgs false
set_option maxRecDepth 100000
set_option maxHeartbeats 4000000
namespace Go.Proofs.YtphjagkehiklkaaGreatDoor
open Go.RowKit
theorem JM:(Tryz.prog.info? 245).map (·.size)=some 5:=by kernel_rfl
theorem GD(c:CV):Tryz.prog.built 119 [(0, .agg c.nm.cells.toArray),(1, .string c.value),(2, .bool c.bA)]=some c.cells.toArray:=by kernel_rfl
def di:Value:= .agg #[.int .i64 0, .string ByteArray.empty, .int .i64 0, .int .i64 0, .string ByteArray.empty, .string ByteArray.empty, .bool false]
theorem Kp(w:World):(zeroValue 247).run Tryz.prog w= .ok di w:=by kernel_rfl
theorem Jo:(Tryz.prog.info? 247).map (fun i=>(i.zero,i.size,i.bytes))=some (some di,7,80):=by kernel_rfl
theorem pc:(Tryz.prog.info? 119).map (fun i=>(i.zero,i.size,i.bytes))=some (some di,7,80):=by kernel_rfl
theorem foldl_set:∀(l:List Value)(k off:Nat)(b:List Value),off+k+l.length≤b.length→(l.zipIdx k).foldl (fun cs x=>cs.setIfInBounds (off+x.2) x.1) b.toArray=(b.take (off+k)++l++b.drop (off+k+l.length)).toArray
 |[],k,off,b,_=>by simp
 |c::r,k,off,b,h=>by
  simp only[List.length_cons]at h;rw[List.zipIdx_cons,List.foldl_cons,List.setIfInBounds_toArray,foldl_set r (k+1) off (b.set (off+k) c) (by rw[List.length_set];omega)];congr 1;have a:(b.set (off+k) c).take (off+(k+1))=b.take (off+k)++[c]:=by
   rw[List.take_set,show off+(k+1)=(off+k)+1 by omega,List.take_succ_eq_append_getElem (by omega:off+k<b.length),List.set_append_right _ _ (by simp;omega)];simp;rw[show off+k-min (off+k) b.length=0 by omega];rfl
  have d:(b.set (off+k) c).drop (off+(k+1)+r.length)=b.drop (off+k+(c::r).length):=by
   rw[List.drop_set_of_lt (by omega)];congr 1;simp only[List.length_cons];omega
  rw[a,d];simp
theorem kP(cs b:Array Value)(off:Nat)(h:off+cs.size≤b.size):cs.zipIdx.foldl (fun cs(x:Value×Nat)=>cs.setIfInBounds (off+x.2) x.1) b=(b.toList.take off++cs.toList++b.toList.drop (off+cs.size)).toArray:=by
 rw[←Array.foldl_toList,Array.toList_zipIdx];have:=foldl_set cs.toList 0 off b.toList (by simpa using h);simpa using this
theorem mc(cs b:Array Value)(d:cs.size=7)(c:b.size=7):Instr.fill (fun i=>some (i*7,7)) b [(0, .agg cs)]=some cs:=by
 have a:=kP cs b 0 (by omega);simp only[Instr.fill,Value.cells,d,c,Nat.zero_mul,Nat.zero_add,ne_eq,not_true_eq_false,decide_false,Bool.false_or,gt_iff_lt,Nat.lt_irrefl,Bool.false_eq_true,if_false];simp only[Nat.zero_add,List.take_zero,List.nil_append,d]at a;rw[List.drop_of_length_le (by simp[c]),List.append_nil]at a;rw[a]
theorem nM{w:World}{base n m:Nat}{e l:TypeId}{size a:Nat}{v o:Value}{xs r:List Value}(h:w.ownsRow base e size v n xs)(p:w.ownsRow base l a o m r)(f:e≠l):∀k,v.ownBlock=some k→o.ownBlock≠some k:=by
 intro k c d;rcases h.2 with⟨rfl,_⟩|⟨g,cap,cur,rfl,_,q,_⟩;·cases c
 ·rcases p.2 with⟨rfl,_⟩|⟨s,i,j,rfl,_,b,_⟩;·cases d
  ·simp only[Value.ownBlock,Option.some.injEq]at c d;subst c;subst d;rw[q]at b;cases b;exact f rfl
theorem Jd{w:World}{base n k:Nat}{e:TypeId}{size:Nat}{v:Value}{xs:List Value}(h:w.ownsRow base e size v n xs)(a:v.ownBlock=some k):k<w.heap.size:=by
 rcases h.2 with⟨rfl,_⟩|⟨g,cap,cur,rfl,_,b,_⟩;·cases a
 ·simp only[Value.ownBlock,Option.some.injEq]at a;subst a;exact(Array.getElem?_eq_some_iff.1 b).1
theorem bW.move{e:TypeId}{size:Nat}{w w1 w2:World}{v:Value}{n:Nat}{xs:List Value}{T:Nat→Prop}(h:bW e size w (.slice none 0 0) w1 v n xs)(c:Fr T w1 w2)(b:∀k,v.ownBlock=some k→¬T k)(a:Fr ag w w2):bW e size w (.slice none 0 0) w2 v n xs:=
 ⟨aQ h.own c b,a.bP,h.ew⟩
theorem IB(n:Nat)(xs:List CV)(A:Option Addr)(cs:Nat)(S:Nat→Prop)(w:World)(cd:CL w S A n xs)(cE:n≤9223372036854775807):
  Calls Tryz.prog 127 #[.slice A n cs] w (fun e w'=>∃v4 v5,e= .returned (.tuple #[v4,v5])∧bW 119 7 w (.slice none 0 0) w' v4 (min n 24) (((xs.take (min n 24)).map CV.cut).flatMap CV.cells)∧bW 247 7 w (.slice none 0 0) w' v5 (min n 24) (((xs.take (min n 24)).map CV.cut).flatMap CV.cells)):=by
 obtain⟨X,aR,aW,E,bx⟩:=info_parts Jo;obtain⟨Y,aS,aX,F,bz⟩:=info_parts pc;have cn:=af cd;clear cd;go_enter Tryz.func127,Tryz.ntmps127;go_wp2;go_loopw[4,5,6](fun v4 v5 i wr=>∃k:Nat,k≤min n 24∧i= .int .i64 k∧bW 119 7 w (.slice none 0 0) wr v4 k (((xs.take k).map CV.cut).flatMap CV.cells)∧bW 247 7 w (.slice none 0 0) wr v5 k (((xs.take k).map CV.cut).flatMap CV.cells))(fun _ _ i _=>24-(intOf i).toNat);case atStart=>exact⟨0,by omega,rfl,bW.start ⟨rfl, .inl ⟨rfl,rfl⟩⟩,bW.start ⟨rfl, .inl ⟨rfl,rfl⟩⟩⟩
 case round=>
  obtain⟨k,cy,rfl,T,U⟩:=hrel;have B:=af T;have D:=af U;obtain⟨ad,n4,ax,rfl,cB,_⟩:=aU T.own;obtain⟨ae,a0,c5,rfl,cC,_⟩:=aU U.own;clear T U;by_cases bE:k<min n 24
  ·have v:k<n:=by omega
   have ce:(k:Int)<(n:Int):=by omega
   have bv:(k:Int)<24:=by omega
   have aG:k<24:=by omega
   obtain⟨cD,c,rfl,C,z⟩:=(cn.out.ar B.out.ar).at_ v;have a4:=af z;have cl:=af c.one;have b2:Hid (((xs.take (k+1)).map CV.cut).flatMap CV.cells=((xs.take k).map CV.cut).flatMap CV.cells++c.cut.cells):=by
    simp only[Hid];rw[List.take_add_one,C];simp
   have f0:Fr ag w wr:=B.out.ar;have cm:=af f0;have NE:=af (nM B.out.own D.out.own (by decide));obtain⟨aa,bB⟩:∃aa:Int,min (c.value.size:Int) 200=aa:=⟨_,rfl⟩;obtain⟨ab,bC⟩:∃ab:Int,min (c.nm.owner.size:Int) 100=ab:=⟨_,rfl⟩;obtain⟨ac,bD⟩:∃ac:Int,min (c.nm.text.size:Int) 100=ac:=⟨_,rfl⟩;have cF:0≤aa:=by omega
   have cI:aa≤(c.value.size:Int):=by omega
   have cG:0≤ab:=by omega
   have cJ:ab≤(c.nm.owner.size:Int):=by omega
   have cH:0≤ac:=by omega
   have cz:ac≤(c.nm.text.size:Int):=by omega
   obtain⟨v5,bO⟩:∃v5,c.value.extract 0 aa.toNat=v5:=⟨_,rfl⟩;obtain⟨r,bF⟩:∃r,c.nm.owner.extract 0 ab.toNat=r:=⟨_,rfl⟩;obtain⟨t5,bG⟩:∃t5,c.nm.text.extract 0 ac.toNat=t5:=⟨_,rfl⟩;have J:Hid (c.cut=⟨⟨c.nm.kind,r,c.nm.number,c.nm.index,t5⟩,v5,c.bA⟩):=by
    simp only[Hid,CV.cut,wG,bB,bC,bD,bO,bF,bG]
   clear z C f0 bE cy;go_wp2_with(refine aF rfl 247 (.tmp 20) rfl _ rfl c.cells _ ?zB Tryz.underlying247 rfl Bu (bj.go ?hold));case zB=>exact a4.out
   unfold bj;go_wp2_with(refine ak rfl 247 rfl di Kp #[.int .i64 0, .string ByteArray.empty, .int .i64 0, .int .i64 0, .string ByteArray.empty, .string ByteArray.empty, .bool false] rfl ?_);intro cA ch;have a8:=af ch;clear ch;generalize aP:wr.heap.size=g7 at*;have t:=af aP;clear aP;have bY:Hid (aq cA g7 247 #[.int .i64 0, .string ByteArray.empty, .int .i64 0, .int .i64 0, .string ByteArray.empty, .string ByteArray.empty, .bool false]):=by have h:=a8.out.aH;rw[t.out]at h;exact h
   go_wp2_with(refine ai rfl 247 (.tmp 7) _ rfl g7 c.cells.toArray rfl rfl _ _ bY.out Bu rfl cl.out ?_);intro cj bb cc;have bT:Hid (aq cj g7 247 #[.int .i64 c.nm.kind, .string c.nm.owner, .int .i64 c.nm.number, .int .i64 c.nm.index, .string c.nm.text, .string c.value, .bool c.bA]):=bb;have b0:Hid (Fr ag wr cj):=a8.out.fr.aw cc (fun i G e=>by have bc:i=g7:=e;have:=t.out;omega);clear bb cc a8 bY;have cp:Hid ((Value.string v5).oneCell'=true):=by simp[Hid,Value.oneCell']
   go_upto_region 7 with fail;refine gR 9 (fun k=>k=g7) [Is (.pointer (some ⟨g7,5,none⟩)),Is (.string c.value),Is (.pointer (some ⟨g7,5,none⟩)),Is (.string c.value),Is (.int .i64 c.value.size),Is (.int .i64 aa),Is (.string v5),Is (.pointer (some ⟨g7,5,none⟩)),Is (undef)] [(8,fun W=>aq W g7 247 #[.int .i64 c.nm.kind, .string c.nm.owner, .int .i64 c.nm.number, .int .i64 c.nm.index, .string c.nm.text, .string v5, .bool c.bA])] (fun W=>aq W g7 247 #[.int .i64 c.nm.kind, .string c.nm.owner, .int .i64 c.nm.number, .int .i64 c.nm.index, .string c.nm.text, .string c.value, .bool c.bA]) (fun i j=>j==8&&decide (i<8)) (by kernel_rfl) (by kernel_rfl) (by kernel_rfl) ⟨Is.ah _,Is.ah _,Is.ah _,Is.ah _,Is.ah _,Is.ah _,Is.ah _,Is.ah _,Is.ah _,trivial⟩ ⟨fun _ _ _ o h=>h.fr o (fun x=>x),trivial⟩ (fun _ _ _ o h=>h.fr o (fun x=>x)) bT.out ?_ ?_
   ·refine⟨?_,?_,?_,?_,?_,?_,?_,?_,?_,trivial⟩;all_goals intro u w' d o a m l f
    all_goals simp only[bH,bI,bJ,bK,ay,Act.put,bL,bM,bN,Nat.reduceAdd,Nat.zero_add]
    ·clear a m l f;refine aj ?_;go_simp;exact⟨_,rfl,al⟩
    ·have bk:u 0=_:=a 0;clear a;simp only[bk];refine aj ?_;have s:aq w' g7 247 #[.int .i64 c.nm.kind, .string c.nm.owner, .int .i64 c.nm.number, .int .i64 c.nm.index, .string c.nm.text, .string c.value, .bool c.bA]:=by rw[bX,if_neg (by rw[l 8 (by kernel_rfl)];exact Bool.false_ne_true)]at f;exact f
     clear m l f;have C:w'.cell? ⟨g7,5,none⟩=some (.string c.value):=s.cell 5;go_simp;exact⟨_,rfl,al⟩
    ·clear a m l f;refine aj ?_;go_simp;exact⟨_,rfl,al⟩
    ·have aE:u 2=_:=a 2;clear a;simp only[aE];refine aj ?_;have s:aq w' g7 247 #[.int .i64 c.nm.kind, .string c.nm.owner, .int .i64 c.nm.number, .int .i64 c.nm.index, .string c.nm.text, .string c.value, .bool c.bA]:=by rw[bX,if_neg (by rw[l 8 (by kernel_rfl)];exact Bool.false_ne_true)]at f;exact f
     clear m l f;have C:w'.cell? ⟨g7,5,none⟩=some (.string c.value):=s.cell 5;go_simp;exact⟨_,rfl,al⟩
    ·have aI:u 3=_:=a 3;clear a m l f;simp only[aI];refine aj ?_;go_simp;exact⟨_,rfl,al⟩
    ·have aJ:u 4=_:=a 4;clear a m l f;simp only[aJ];refine aj ?_;go_simp;exact⟨_,rfl,al⟩
    ·have aB:u 1=_:=a 1;have aL:u 5=_:=a 5;clear a m l f;simp only[aB,aL];refine aj ?_;go_simp;exact⟨_,rfl,al⟩
    ·clear a m l f;refine aj ?_;go_simp;exact⟨_,rfl,al⟩
    ·have aN:u 7=_:=a 7;have aM:u 6=_:=a 6;clear a;simp only[aN,aM];refine aj ?_;have s:aq w' g7 247 #[.int .i64 c.nm.kind, .string c.nm.owner, .int .i64 c.nm.number, .int .i64 c.nm.index, .string c.nm.text, .string c.value, .bool c.bA]:=by rw[bX,if_neg (by rw[l 8 (by kernel_rfl)];exact Bool.false_ne_true)]at f;exact f
     clear m l f;refine kN 9 (.tmp 29) (.tmp 28) rfl g7 5 (.string v5) rfl rfl cp.out oM _ _ #[.int .i64 c.nm.kind, .string c.nm.owner, .int .i64 c.nm.number, .int .i64 c.nm.index, .string c.nm.text, .string v5, .bool c.bA] s (show 5<7 by decide) rfl ?_;intro ci b4 f4;exact⟨_,rfl,f4,rfl,b4⟩
   ·intro u w' o a f;clear a;simp only[bH,bI,bJ,bK,ay,Act.put,bL,bM,bN,dD,dE,Nat.reduceAdd,Nat.zero_add];generalize w'=wc at*;have bU:Hid (aq wc g7 247 #[.int .i64 c.nm.kind, .string c.nm.owner, .int .i64 c.nm.number, .int .i64 c.nm.index, .string c.nm.text, .string v5, .bool c.bA]):=f;have b1:Hid (Fr ag wr wc):=b0.out.aw o (fun i G e=>by have bc:i=g7:=e;have:=t.out;omega);clear f o bT b0;go_upto_region 8 with fail;refine aC 23 (fun k=>k=g7) [Is (.pointer (some ⟨g7,0,none⟩)),Is (.pointer (some ⟨g7,1,none⟩)),Is (.string c.nm.owner),Is (.pointer (some ⟨g7,0,none⟩)),Is (.pointer (some ⟨g7,1,none⟩)),Is (.string c.nm.owner),Is (.int .i64 c.nm.owner.size),Is (.int .i64 ab),Is (.string r),Is (.pointer (some ⟨g7,0,none⟩)),Is (.pointer (some ⟨g7,4,none⟩)),Is (.string c.nm.text),Is (.pointer (some ⟨g7,0,none⟩)),Is (.pointer (some ⟨g7,4,none⟩)),Is (.string c.nm.text),Is (.int .i64 c.nm.text.size),Is (.int .i64 ac),Is (.string t5),Is (.pointer (some ⟨g7,0,none⟩)),Is (.pointer (some ⟨g7,1,none⟩)),Is (undef),Is (.pointer (some ⟨g7,0,none⟩)),Is (.pointer (some ⟨g7,4,none⟩))] [(20,fun W=>aq W g7 247 #[.int .i64 c.nm.kind, .string r, .int .i64 c.nm.number, .int .i64 c.nm.index, .string c.nm.text, .string v5, .bool c.bA])] (fun W=>aq W g7 247 #[.int .i64 c.nm.kind, .string c.nm.owner, .int .i64 c.nm.number, .int .i64 c.nm.index, .string c.nm.text, .string v5, .bool c.bA]) (fun i j=>j==20&&(decide (i<15)||i==19)) (by kernel_rfl) (by kernel_rfl) (by kernel_rfl) (by kernel_rfl) ⟨Is.ah _,Is.ah _,Is.ah _,Is.ah _,Is.ah _,Is.ah _,Is.ah _,Is.ah _,Is.ah _,Is.ah _,Is.ah _,Is.ah _,Is.ah _,Is.ah _,Is.ah _,Is.ah _,Is.ah _,Is.ah _,Is.ah _,Is.ah _,Is.ah _,Is.ah _,Is.ah _,trivial⟩ ⟨fun _ _ _ o h=>h.fr o (fun x=>x),trivial⟩ (fun _ _ _ o h=>h.fr o (fun x=>x)) bU.out.drew ?_ ?_
    ·refine⟨?_,?_,?_,?_,?_,?_,?_,?_,?_,?_,?_,?_,?_,?_,?_,?_,?_,?_,?_,?_,?_,?_,?_,trivial⟩;all_goals intro u w' d o a m l f
     all_goals simp only[bH,bI,bJ,bK,ay,Act.put,bL,bM,bN,Nat.reduceAdd,Nat.zero_add]
     ·clear a m l f;refine aj ?_;go_simp;exact⟨_,rfl,al⟩
     ·have bk:u 0=_:=a 0;clear a m l f;simp only[bk];refine aj ?_;go_simp;exact⟨_,rfl,al⟩
     ·have aB:u 1=_:=a 1;clear a;simp only[aB];refine aj ?_;have s:aq w' g7 247 #[.int .i64 c.nm.kind, .string c.nm.owner, .int .i64 c.nm.number, .int .i64 c.nm.index, .string c.nm.text, .string v5, .bool c.bA]:=by rw[bX,if_neg (by rw[l 20 (by kernel_rfl)];exact Bool.false_ne_true)]at f;exact f
      clear m l f;have C:w'.cell? ⟨g7,1,none⟩=some (.string c.nm.owner):=s.cell 1;go_simp;exact⟨_,rfl,al⟩
     ·clear a m l f;refine aj ?_;go_simp;exact⟨_,rfl,al⟩
     ·have aI:u 3=_:=a 3;clear a m l f;simp only[aI];refine aj ?_;go_simp;exact⟨_,rfl,al⟩
     ·have aJ:u 4=_:=a 4;clear a;simp only[aJ];refine aj ?_;have s:aq w' g7 247 #[.int .i64 c.nm.kind, .string c.nm.owner, .int .i64 c.nm.number, .int .i64 c.nm.index, .string c.nm.text, .string v5, .bool c.bA]:=by rw[bX,if_neg (by rw[l 20 (by kernel_rfl)];exact Bool.false_ne_true)]at f;exact f
      clear m l f;have C:w'.cell? ⟨g7,1,none⟩=some (.string c.nm.owner):=s.cell 1;go_simp;exact⟨_,rfl,al⟩
     ·have aL:u 5=_:=a 5;clear a m l f;simp only[aL];refine aj ?_;go_simp;exact⟨_,rfl,al⟩
     ·have aM:u 6=_:=a 6;clear a m l f;simp only[aM];refine aj ?_;go_simp;exact⟨_,rfl,al⟩
     ·have aE:u 2=_:=a 2;have aN:u 7=_:=a 7;clear a m l f;simp only[aE,aN];refine aj ?_;go_simp;exact⟨_,rfl,al⟩
     ·clear a m l f;refine aj ?_;go_simp;exact⟨_,rfl,al⟩
     ·have cu:u 9=_:=a 9;clear a m l f;simp only[cu];refine aj ?_;go_simp;exact⟨_,rfl,al⟩
     ·have bl:u 10=_:=a 10;clear a;simp only[bl];refine aj ?_;have s:aq w' g7 247 #[.int .i64 c.nm.kind, .string c.nm.owner, .int .i64 c.nm.number, .int .i64 c.nm.index, .string c.nm.text, .string v5, .bool c.bA]:=by rw[bX,if_neg (by rw[l 20 (by kernel_rfl)];exact Bool.false_ne_true)]at f;exact f
      clear m l f;have C:w'.cell? ⟨g7,4,none⟩=some (.string c.nm.text):=s.cell 4;go_simp;exact⟨_,rfl,al⟩
     ·clear a m l f;refine aj ?_;go_simp;exact⟨_,rfl,al⟩
     ·have bn:u 12=_:=a 12;clear a m l f;simp only[bn];refine aj ?_;go_simp;exact⟨_,rfl,al⟩
     ·have bo:u 13=_:=a 13;clear a;simp only[bo];refine aj ?_;have s:aq w' g7 247 #[.int .i64 c.nm.kind, .string c.nm.owner, .int .i64 c.nm.number, .int .i64 c.nm.index, .string c.nm.text, .string v5, .bool c.bA]:=by rw[bX,if_neg (by rw[l 20 (by kernel_rfl)];exact Bool.false_ne_true)]at f;exact f
      clear m l f;have C:w'.cell? ⟨g7,4,none⟩=some (.string c.nm.text):=s.cell 4;go_simp;exact⟨_,rfl,al⟩
     ·have bp:u 14=_:=a 14;clear a m l f;simp only[bp];refine aj ?_;go_simp;exact⟨_,rfl,al⟩
     ·have bq:u 15=_:=a 15;clear a m l f;simp only[bq];refine aj ?_;go_simp;exact⟨_,rfl,al⟩
     ·have bm:u 11=_:=a 11;have br:u 16=_:=a 16;clear a m l f;simp only[bm,br];refine aj ?_;go_simp;exact⟨_,rfl,al⟩
     ·clear a m l f;refine aj ?_;go_simp;exact⟨_,rfl,al⟩
     ·have bs:u 18=_:=a 18;clear a m l f;simp only[bs];refine aj ?_;go_simp;exact⟨_,rfl,al⟩
     ·have bt:u 19=_:=a 19;have bw:u 8=_:=a 8;clear a;simp only[bt,bw];refine aj ?_;have s:aq w' g7 247 #[.int .i64 c.nm.kind, .string c.nm.owner, .int .i64 c.nm.number, .int .i64 c.nm.index, .string c.nm.text, .string v5, .bool c.bA]:=by rw[bX,if_neg (by rw[l 20 (by kernel_rfl)];exact Bool.false_ne_true)]at f;exact f
      clear m l f;refine kN 9 (.tmp 49) (.tmp 38) rfl g7 1 (.string r) rfl rfl rfl oM _ _ _ s (show 1<7 by decide) rfl ?_;intro ci b4 f4;exact⟨_,rfl,f4,rfl,b4⟩
     ·clear a m l f;refine aj ?_;go_simp;exact⟨_,rfl,al⟩
     ·have bu:u 21=_:=a 21;clear a m l f;simp only[bu];refine aj ?_;go_simp;exact⟨_,rfl,al⟩
    ·intro u w' o a f;have aY:u 17=_:=a 17 (by omega);have aZ:u 22=_:=a 22 (by omega);clear a;simp only[bH,bI,bJ,bK,ay,Act.put,bL,bM,bN,dD,dE,Nat.reduceAdd,Nat.zero_add,aY,aZ];have bV:Hid (aq w' g7 247 #[.int .i64 c.nm.kind, .string r, .int .i64 c.nm.number, .int .i64 c.nm.index, .string c.nm.text, .string v5, .bool c.bA]):=f;have bZ:Hid (Fr ag wr w'):=b1.out.aw o (fun i G e=>by have bc:i=g7:=e;have:=t.out;omega);have b6:Hid ((Value.string t5).oneCell'=true):=by simp[Hid,Value.oneCell']
     have av:Hid (4<(#[.int .i64 c.nm.kind, .string r, .int .i64 c.nm.number, .int .i64 c.nm.index, .string c.nm.text, .string v5, .bool c.bA]:Array Value).size):=by simp[Hid]
     have au:Hid ((#[.int .i64 c.nm.kind, .string r, .int .i64 c.nm.number, .int .i64 c.nm.index, .string c.nm.text, .string v5, .bool c.bA]:Array Value).setIfInBounds 4 (.string t5)=#[.int .i64 c.nm.kind, .string r, .int .i64 c.nm.number, .int .i64 c.nm.index, .string t5, .string v5, .bool c.bA]):=rfl;clear f o bU b1 aY aZ;refine aT rfl 9 (.tmp 51) (.tmp 47) rfl g7 4 (.string t5) rfl rfl b6.out oM 247 #[.int .i64 c.nm.kind, .string r, .int .i64 c.nm.number, .int .i64 c.nm.index, .string c.nm.text, .string v5, .bool c.bA] #[.int .i64 c.nm.kind, .string r, .int .i64 c.nm.number, .int .i64 c.nm.index, .string t5, .string v5, .bool c.bA] bV.out av.out au.out ?_;intro wd cb fd;have I:=af cb;have Z:Hid (Fr ag wr wd):=bZ.out.aw fd (fun i G e=>by have bc:i=g7:=e;have:=t.out;omega);clear cb fd bV bZ b6 av au;obtain⟨y,aV⟩:∃y:CV,y=⟨⟨c.nm.kind,r,c.nm.number,c.nm.index,t5⟩,v5,c.bA⟩:=⟨_,rfl⟩;have b3:Hid (c.cut=y):=by rw[aV];exact J.out
     have b7:Hid (∀W,aq W g7 247 #[.int .i64 c.nm.kind, .string r, .int .i64 c.nm.number, .int .i64 c.nm.index, .string t5, .string v5, .bool c.bA]→aq W g7 247 y.cells.toArray):=fun W h=>by rw[aV];exact h
     obtain⟨L,V⟩:∃L:aK,L=y.nm:=⟨_,rfl⟩;have cr:Hid (∀W,aq W g7 247 #[.int .i64 c.nm.kind, .string r, .int .i64 c.nm.number, .int .i64 c.nm.index, .string t5, .string v5, .bool c.bA]→∀j x,L.cells[j]? =some x→W.cell? ⟨g7,j,none⟩=some x):=fun W h j x H=>by
      have cx:j<5:=(List.getElem?_eq_some_iff.1 H).1;rw[(b7.out W h).cell,bR,CV.cells,List.getElem?_append_left (by rw[aK.ey];exact cx),←V];exact H
     have a2:Hid (Tryz.prog.built 119 [(0, .agg L.cells.toArray),(1, .string v5),(2, .bool c.bA)]=some y.cells.toArray):=by
      have h:=GD y;rw[←V,show y.value=v5 by rw[aV],show y.bA=c.bA by rw[aV]]at h;exact h
     have ca:Hid (∀u∈y.cells.toArray.toList,u.oneCell'=true):=by
      intro u hu;have h:=y.one;rw[Array.all_eq_true_iff_forall_mem]at h;exact h u (by simpa using hu)
     have b8:Hid (y.cells.toArray.size=1*7):=rfl;have cq:Hid (y.cells=y.cells.toArray.toList):=by simp[Hid]
     have M:=af (b7.out _ I.out);have aA:Hid (Instr.fill (fun i=>some (i*7,7)) ((Array.range (1*7)).map (di.cells[· %di.cells.size]!)) [(0, .agg y.cells.toArray)]=some y.cells.toArray):=mc _ _ rfl (by simp);clear J aV V;generalize aO:y.cells=p at*;have N:=af aO;clear aO;have bd:Hid (¬1*X.size>2^24):=by simp only[Hid];rw[E];omega
     have be:Hid (¬1*X.size=0):=by simp only[Hid];rw[E];omega
     have bf:Hid (Instr.fill (fun i=>some (i*X.size,X.size)) ((Array.range (1*X.size)).map (di.cells[· %di.cells.size]!)) [(0, .agg p.toArray)]=some p.toArray):=by simp only[Hid];rw[E];exact aA.out
     have bg:Hid (¬1*Y.size>2^24):=by simp only[Hid];rw[F];omega
     have bh:Hid (¬1*Y.size=0):=by simp only[Hid];rw[F];omega
     have bi:Hid (Instr.fill (fun i=>some (i*Y.size,Y.size)) ((Array.range (1*Y.size)).map (di.cells[· %di.cells.size]!)) [(0, .agg p.toArray)]=some p.toArray):=by simp only[Hid];rw[F];exact aA.out
     have a5:Hid ((Tryz.prog.info? 247).map (·.size)=some p.length):=by rw[←N.out];exact Bu
     have co:Hid (∀i,(Value.slice ae a0 c5).ownBlock=some i→i<g7):=fun i G=>by have q:=Jd D.out.own G;have cz:=t.out;omega
     have b5:Hid (wd.ownsRow 0 247 7 (.slice ae a0 c5) k (((xs.take k).map CV.cut).flatMap CV.cells)):=aQ D.out.own Z.out (fun _ _ x=>x);have a7:Hid (wd.ownsRow 0 119 7 (.slice ad n4 ax) k (((xs.take k).map CV.cut).flatMap CV.cells)):=aQ B.out.own Z.out (fun _ _ x=>x);go_wp2_with(refine aF rfl 247 (.tmp 7) rfl ⟨g7,0,none⟩ rfl p _ ?zA Tryz.underlying247 rfl a5.out (bj.go ?zC));case zA=>exact fun j x H=>by first|(rw[Addr.add_mid,Nat.zero_add,M.out.cell,bR];exact H)|(rw[M.out.cell,bR];exact H)
     unfold bj;refine wpList_buildSlice rfl 55 247 1 #[(0, .tmp 53)] rfl p.toArray X di Tryz.underlying55 aR aW bd.out be.out (by simp only[List.map_toArray,List.map_cons,List.map_nil];exact bf.out) ?_;refine da _ rfl _ _ 55 rfl 247 X di 7 80 Tryz.underlying55 aR aW E bx rfl (by decide) _ _ _ rfl b5.out 1 p.toArray _ rfl rfl b8.out ca.out (by omega) (by decide) ?_;intro a1 bS K;have a3:Hid (Fr ag w wd):=cm.out.trans Z.out;have ap:Hid (bW 247 7 w (.slice none 0 0) wd (.slice ae a0 c5) k (((xs.take k).map CV.cut).flatMap CV.cells)):=D.out.behind Z.out;have P:Hid (bW 247 7 w (.slice none 0 0) bS a1 (k+1) (((xs.take (k+1)).map CV.cut).flatMap CV.cells)):=by
      have h:=ap.out.trans K;simp only[Hid];rw[b2.out,b3.out,N.out];exact h
     have O:Hid (bW 119 7 w (.slice none 0 0) bS (.slice ad n4 ax) k (((xs.take k).map CV.cut).flatMap CV.cells)):=(B.out.behind Z.out).move K.fr (fun i G e=>NE.out i G e) P.out.ar;have am:Hid (aq bS g7 247 #[.int .i64 c.nm.kind, .string r, .int .i64 c.nm.number, .int .i64 c.nm.index, .string t5, .string v5, .bool c.bA]):=I.out.fr K.fr (fun e=>by have q:=co.out g7 e;omega);clear K D B ap b5 a7 I Z a3 M;have I:=am;have a7:=af O.out.own;go_upto_region 10 with fail;refine aC 10 ag [Is (.slice ad n4 ax),Is (.pointer (some ⟨g7,0,none⟩)),Is (.agg L.cells.toArray),Is (.agg L.cells.toArray),Is (.pointer (some ⟨g7,5,none⟩)),Is (.string v5),Is (.pointer (some ⟨g7,6,none⟩)),Is (.bool c.bA),Is (.agg p.toArray),fun x W=>∃g,x= .slice (some ⟨g,0,none⟩) 1 1∧aq W g 119 p.toArray] [] (fun _=>True) (fun _ _=>false) (by kernel_rfl) (by kernel_rfl) (by kernel_rfl) (by kernel_rfl) ⟨Is.ah _,Is.ah _,Is.ah _,Is.ah _,Is.ah _,Is.ah _,Is.ah _,Is.ah _,Is.ah _,fun _ _ _ _ o⟨g,h,b⟩=>⟨g,h,b.fr o (fun x=>x)⟩,trivial⟩ trivial (fun _ _ _ _ h=>h) trivial ?_ ?_
     ·refine⟨?_,?_,?_,?_,?_,?_,?_,?_,?_,?_,trivial⟩;all_goals intro u w' d o a m l f
      all_goals simp only[bH,bI,bJ,bK,ay,Act.put,bL,bM,bN,Nat.reduceAdd,Nat.zero_add]
      ·clear a m l f;refine aj ?_;go_simp;exact⟨_,rfl,al⟩
      ·clear a m l f;refine aj ?_;go_simp;exact⟨_,rfl,al⟩
      ·have aB:u 1=_:=a 1;clear a m l f;simp only[aB];refine aj ?_;exact az _ _ rfl ⟨g7,0,none⟩ rfl L.cells _ (fun j x H=>by rw[Addr.add_mid,Nat.zero_add];exact cr.out _ (I.out.fr o (fun x=>x)) j x H) Tryz.underlying245 rfl JM ⟨_,rfl,al⟩
      ·have aE:u 2=_:=a 2;clear a m l f;simp only[aE];refine aj ?_;go_simp;refine(Gw L _).mono ?_;rintro e ci⟨rfl,f4⟩;exact⟨_,rfl,f4.bP,rfl,trivial⟩
      ·clear a m l f;refine aj ?_;go_simp;exact⟨_,rfl,al⟩
      ·have aJ:u 4=_:=a 4;clear a m l f;simp only[aJ];refine aj ?_;have C:w'.cell? ⟨g7,5,none⟩=some (.string v5):=(I.out.fr o (fun x=>x)).cell 5;go_simp;exact⟨_,rfl,al⟩
      ·clear a m l f;refine aj ?_;go_simp;exact⟨_,rfl,al⟩
      ·have aM:u 6=_:=a 6;clear a m l f;simp only[aM];refine aj ?_;have C:w'.cell? ⟨g7,6,none⟩=some (.bool c.bA):=(I.out.fr o (fun x=>x)).cell 6;go_simp;exact⟨_,rfl,al⟩
      ·have aI:u 3=_:=a 3;have aL:u 5=_:=a 5;have aN:u 7=_:=a 7;clear a m l f;simp only[aI,aL,aN];refine aj ?_;exact iF 119 _ rfl p.toArray _ (by simp only[List.map_toArray,List.map_cons,List.map_nil];rfl) a2.out ⟨_,rfl,al⟩
      ·have bw:u 8=_:=a 8;clear a m l f;simp only[bw];refine aj ?_;refine wp_buildSlice 44 119 1 #[(0, .tmp 64)] rfl p.toArray Y di Tryz.underlying44 aS aX bg.out bh.out ?_ ?_;·simp only[List.map_toArray,List.map_cons,List.map_nil];exact bi.out
       ·exact⟨_,rfl,aD.alloc _,⟨w'.heap.size,rfl,aq.new _ _ _⟩,trivial⟩
     ·intro u w' o a f;have l:u 0=_:=a 0 (by omega);obtain⟨g9,cg,b9⟩:∃g,u 9= .slice (some ⟨g,0,none⟩) 1 1∧aq w' g 119 p.toArray:=a 9 (by omega);clear a f;simp only[bH,bI,bJ,bK,ay,Act.put,bL,bM,bN,dD,dE,Nat.reduceAdd,Nat.zero_add,l,cg];have ck:=af b9;have R:=af (aQ a7.out o (fun _ _ x=>x));have ao:=af (O.out.behind o);have Q:=af (P.out.behind o);have ba:Hid (∀u∈p,u.oneCell'=true):=fun u hu=>ca.out u (by simpa using hu);have a9:Hid (p.length=1*7):=by have h:=b8.out;rw[List.size_toArray]at h;exact h
      clear o l cg b9 I am;refine iE _ rfl _ _ 44 rfl 119 Y di 7 80 Tryz.underlying44 aS aX F bz rfl (by decide) _ _ _ rfl R.out (fun _=>True) (some ⟨g9,0,none⟩) 1 1 p rfl ⟨a9.out,fun _=>⟨_,rfl,trivial,fun j x H=>by rw[Addr.add_mid,Nat.zero_add,ck.out.cell,bR];exact H⟩⟩ ba.out (by omega) (by decide) ?_;intro bQ wf K;have an:Hid (bW 119 7 w (.slice none 0 0) wf bQ (k+1) (((xs.take (k+1)).map CV.cut).flatMap CV.cells)):=by
       have h:=ao.out.trans K;simp only[Hid];rw[b2.out,b3.out,N.out];exact h
      have a6:Hid (bW 247 7 w (.slice none 0 0) wf a1 (k+1) (((xs.take (k+1)).map CV.cut).flatMap CV.cells)):=Q.out.move K.fr (fun i G e=>nM Q.out.own R.out (by decide) i G e) an.out.ar;clear K ao Q R O P;go_wp2;go_roundw;case rel=>exact⟨k+1,by omega,by go_num,an.out,a6.out⟩
      case measure=>simp[intOf];omega
  ·have v:k=min n 24:=by omega
   have cf:¬((k:Int)<(n:Int)∧(k:Int)<24):=by omega
   by_cases ce:(k:Int)<(n:Int)
   ·have bv:decide ((k:Int)<24)=false:=ct (by omega);have aG:¬k<24:=by omega
    have hIn:k<n:=by omega
    go_wp2;go_ret2;exact⟨.slice ad n4 ax, .slice ae a0 c5,rfl,by rw[←v];first|exact B.out|(rw[←List.map_take];exact B.out),by rw[←v];first|exact D.out|(rw[←List.map_take];exact D.out)⟩
   ·have cv:decide ((k:Int)<(n:Int))=false:=decide_eq_false ce;have cw:¬k<n:=by omega
    go_wp2;go_ret2;exact⟨.slice ad n4 ax, .slice ae a0 c5,rfl,by rw[←v];first|exact B.out|(rw[←List.map_take];exact B.out),by rw[←v];first|exact D.out|(rw[←List.map_take];exact D.out)⟩
theorem Fr.IL{w w':World}(h:Fr ag w w'):w.grownBy w' none:=⟨h.os,h.tape,h.output,h.size,fun k a _=>h.block k a (fun x=>x)⟩
def yH(w:World)(e:Ending)(w':World):Prop:=e= .returned (.bool true)∧Fr ag w w'
end Go.Proofs.YtphjagkehiklkaaGreatDoor
namespace Go.Proofs.YtphjagkehiklkaaGreatDoor
open Go.RowKit Go.Shelf
attribute[local go_sem]Oper.semAt_some
theorem Gc{P:Program}{Q:Exit→Act→World→Prop}{a:Act}{w:World}{l:List Oper}(n:Nat)(T:Nat→Prop)(f:List (Value→World→Prop))(ws:List (Nat×(World→Prop)))(b:World→Prop)(B:Nat→Nat→Bool)(z:oK l.toArray n=true)
  (v:fM l.toArray n B=true)(g:(gC B (ws.map (·.1))&&(ws.map (·.1)).all (fun p=>decide (p<n)))=true)
  (k:du T w f)(o:iT T w ws)(i:∀w' e,Fr T w w'→Fr ag w' e→b w'→b e)(s:b w.drew)
  (A:gY P l.toArray Q T w (fun u=>ay ((l.take n).map (·.dst)) 0 u a) (cp f) ws b B n 0 (l.take n))
  (q:∀u w',Fr T w w'→(∀j,j<n→cp f j (u j) w')→lz ws b w'→wpList P l.toArray Q (l.drop n) (ay ((l.take n).map (·.dst)) 0 u a) w'):wpAny P .any l.toArray Q l.toArray.size (Array.replicate l.toArray.size false) a w.drew:=by
 have ok:=pS.of z;obtain⟨D,r⟩:=gA ((l.take n).map (·.dst)) 0 a;have d:HeadInv .any l.toArray n (Array.replicate l.toArray.size false):=
  ⟨by simp,fun j F _ c=>(by rw[getD_replicate_false]at c;cases c),fun t _ q=>getD_in (by simpa using q) (getD_replicate_false _ _)⟩;have y:cu (fun j=>!(Array.replicate l.toArray.size false).getD j false) n=n:=by
  have h:∀m,cu (fun j=>!(Array.replicate l.toArray.size false).getD j false) m=m:=by
   intro m;induction m with
   |zero=>rfl
   |succ m C=>rw[cu,C,getD_replicate_false];rfl
  exact h n
 have:=Ip (P:=P) (Q:=Q) (a:=a) ok v g k o i (by simpa using A) (by simpa using q) n _ D w.drew d y (aD.drew) (by rw[kb ws b _ (fun x _=>getD_replicate_false _ _)];exact s) (fun j E c=>by rw[getD_replicate_false]at c;cases c);rw[show(l.toArray.toList.take n).map (·.dst)=(l.take n).map (·.dst)by simp,r,show n+(l.toArray.size-n)=l.toArray.size by have:=ok.le;omega]at this;exact this
theorem pa{r m:Nat}{P:Program}{id:Nat}{Q:Exit→Act→World→Prop}{a:Act}{w:World}{l:List Oper}(n:Nat)(T:Nat→Prop)(d:List (Value→World→Prop))(ws:List (Nat×(World→Prop)))(b:World→Prop)(B:Nat→Nat→Bool)(s:(l.all gM)=true)(hm:P.follows .mixedOrders=true)(t:oK l.toArray n=true)
  (q:fM l.toArray n B=true)(f:(gC B (ws.map (·.1))&&(ws.map (·.1)).all (fun p=>decide (p<n)))=true)
  (h:du T w d)(k:iT T w ws)(g:∀w' c,Fr T w w'→Fr ag w' c→b w'→b c)(o:b w.drew)
  (v:gY P l.toArray (fun e a w=>Q e a w∧e= .normal) T w (fun u=>ay ((l.take n).map (·.dst)) 0 u a) (cp d) ws b B n 0 (l.take n))
  (y:∀u w',Fr T w w'→(∀j,j<n→cp d j (u j) w')→lz ws b w'→wpList P l.toArray (fun e a w=>Q e a w∧e= .normal) (l.drop n) (ay ((l.take n).map (·.dst)) 0 u a) w'):(Code.region id l.toArray true).wpIn (Fence.wide.inRound r) m P Q a w:=
 wpIn_region_any hm (iD (fun i z x=>List.all_eq_true.1 s z (List.mem_of_getElem? (by simpa using x))) _ _ _ _ (Gc n T d ws b B t q f h k g o v y))
theorem bY{P:Program}{ops:Array Oper}{rest:List Oper}{m:Oper}{a:Act}{w:World}{Q:Exit→Act→World→Prop}(c:m.guard=none)(ty:TypeId)(x y:Operand)(i:m.op= .store ty x y)
  (g:Nat)(v:Value)(j:a.eval x= .pointer (some ⟨g,0,none⟩))(l:a.eval y=v)(e:v.oneCell'=true)
  (t:TypeId)(b:Value)(d:aq w g t #[b])(f:(P.info? ty).map (·.size)=some 1)
  (h:∀w',aq w' g t #[v]→Fr (fun k=>k=g) w w'→wpList P ops Q rest (a.put m.dst undef) w'):wpList P ops Q (m::rest) a w:=by
 subst l;exact wpList_store_one c ty x y i g j e t b d f (h _ (gZ d) ((Fr.refl (fun k=>k=g) w).setRow (fun _=>rfl) _))
theorem cX{w:World}{base:Nat}{e:TypeId}{size n k:Nat}{v:Value}{xs:List Value}(h:w.ownsRow base e size v n xs)(a:v.ownBlock=some k):∃c f,w.heap[k]? =some (.cells c e f):=by
 rcases h.2 with⟨rfl,_⟩|⟨g,b,cur,rfl,_,d,_⟩;·simp[Value.ownBlock]at a
 ·simp[Value.ownBlock]at a;subst a;exact⟨_,_,d⟩
def lC(t:TypeId):Op→Bool
 | .load a _=>t==a
 |_=>false
theorem cD{r n:Nat}{P:Program}{ops:Array Oper}{Q:Exit→Act→World→Prop}{d:Oper}{l:List Oper}{a:Act}{w:World}(f:Op→Bool)(b:f d.op=true)(c:((d::l).all gM)=true)(h:wpList P ops (fun e a w=>Q e a w∧e= .normal) (d::l) a w):wpListIn (Fence.wide.inRound r) n P ops Q (d::l) a w:=
 jb c h
def Sz(w:World)(g:Nat):Prop:=w.heap.size≤g
structure si{α:Type}(b w3:World)(g2:Nat)(c e:TypeId)(sz:Nat)(a:List α→Nat)(cells:List α→List Value)(pre:List α)(W:World):Prop where
 fr:Fr ag b W
 kn:KN w3 W
 row:∃v,aq W g2 c #[v]∧W.ownsRow 0 e sz v (a pre) (cells pre)∧∀k,v.ownBlock=some k→b.heap.size≤k∧k≠g2
theorem si.iV{α:Type}{r w3:World}{g2:Nat}{s e:TypeId}{sz B:Nat}{l:List α→Nat}{cells:List α→List Value}(t:g2<B)(x:r.heap.size≤B):OwnFrom B (si r w3 g2 s e sz l cells):=by
 intro pre X Y row h u o;have b:∀k,k<B→some k≠row:=fun k q e=>by have:=(o k e.symm).1;omega
 have j:Fr (fun k=>some k=row) X Y:=Fr.grown u;obtain⟨v,gg,a,w⟩:=h.row;refine⟨h.fr.aw j (fun i y e=>absurd e (b i (by omega))),h.kn.trans (KN.fr j (fun g cs p e=>?_)),⟨v,gg.fr j (fun e=>b _ t e),aQ a j (fun k q e=>?_),w⟩⟩;·obtain⟨_,z,d,m⟩:=o g e.symm;unfold aq at p;rw[p]at d;cases d;simp[Obj.isCells]at m
 ·obtain⟨_,z,d,m⟩:=o k e.symm;obtain⟨c,f,n⟩:=cX a q;rw[n]at d;cases d;simp[Obj.isCells]at m
theorem si.same{α:Type}{g w3 W X:World}{g2:Nat}{f e:TypeId}{sz:Nat}{b:List α→Nat}{cells:List α→List Value}{pre a:List α}(h:si g w3 g2 f e sz b cells pre W)(d:Fr ag W X)(i:b a=b pre)(j:cells a=cells pre):si g w3 g2 f e sz b cells a X:=by
 obtain⟨v,gg,c,k⟩:=h.row;refine⟨h.fr.trans d,h.kn.trans (KN.fr d (fun _ _ _ x=>x)),⟨v,gg.fr d (fun x=>x),?_,k⟩⟩;rw[i,j];exact aQ c d (fun _ _ x=>x)
theorem si.step{α:Type}{m w3 W X s l:World}{g2 B:Nat}{n e:TypeId}{sz:Nat}{d:List α→Nat}{cells:List α→List Value}{pre b:List α}{v v2:Value}
  (u:si m w3 g2 n e sz d cells pre W)(C:g2<B)(D:m.heap.size≤B)(G:m.heap.size≤g2)(x:n≠177)(he:e≠177)(w:aq W g2 n #[v])
  (j:W.ownsRow 0 e sz v (d pre) (cells pre))(a:∀k,v.ownBlock=some k→m.heap.size≤k∧k≠g2)
  (z:Fr ag W X)(t:bW e sz X v s v2 (d b) (cells b))(f3:Fr (fun k=>k=g2) s l)(b3:aq l g2 n #[v2]):
  KeepsFrom B W l∧KN W l∧si m w3 g2 n e sz d cells b l:=by
 have s1:m.heap.size≤W.heap.size:=u.fr.size;have s2:W.heap.size≤X.heap.size:=z.size;have I:g2<W.heap.size:=w.lt;have o:∀k,v2.ownBlock=some k→m.heap.size≤k∧k≠g2:=fun k y=>by
  rcases t.ew k y with h|h;·exact a k h
  ·constructor<;>omega
 have F:Fr (fun k=>k=g2∨v.ownBlock=some k) W l:=by
  have A:Fr (fun k=>k=g2∨v.ownBlock=some k) W s:=(z.bP).trans (t.fr.mono (fun i _ h=> .inr h));exact A.trans (f3.mono (fun i _ h=> .inl h))
 have K:KN W l:=KN.fr F (fun g cs p h=>by
  unfold aq at p w;rcases h with rfl|h;·rw[w]at p;cases p;exact x rfl
  ·obtain⟨c,f,q⟩:=cX j h;rw[q]at p;cases p;exact he rfl);refine⟨⟨F.size,fun k J _ q E=>?_⟩,K,?_,u.kn.trans K,?_⟩
 ·refine(F.block k (Array.getElem?_eq_some_iff.1 q).1 ?_).trans q;rintro(rfl|h);·omega
  ·obtain⟨c,f,r⟩:=cX j h;rw[q]at r;cases r;simp[Obj.isCells]at E
 ·refine u.fr.aw F (fun i H h=>?_);rcases h with h|h;·omega
  ·have:=(a i h).1;omega
 ·exact⟨v2,b3,aQ t.own f3 (fun k y e=>(o k y).2 e),o⟩
theorem KN.put(W:World)(l:Nat)(f b:Obj)(h:W.heap[l]? =some f)(d:f.isCells=false):KN W (W.putObj l b):=
 KN.fr (Fr.grown (grownBy_putObj' W l b)) (fun g cs a e=>by
  have c:g=l:=by simpa using e
  subst c;unfold aq at a;rw[a]at h;cases h;simp[Obj.isCells]at d)
theorem qg(a:Option Addr)(w:World):Calls Tryz.prog 144 #[.pointer a] w fun r w'=>r= .returned (.func (.func 169) #[] #[.pointer (some ⟨w.heap.size,0,none⟩)])∧Fr ag w w'∧aq w' w.heap.size 25 #[.pointer a]:=by
 go_enter Tryz.func144,Tryz.ntmps144;go_wp2_with(refine aA rfl 25 (.tmp 0) rfl #[.pointer a] rfl ?_);intro w1 n1;have b:=af n1;clear n1;go_wp2;go_ret;exact⟨rfl,b.out.fr,b.out.aH⟩
def JA(x:Nd):Value:= .pointer (some ⟨x.g,0,none⟩)
end Go.Proofs.YtphjagkehiklkaaGreatDoor
