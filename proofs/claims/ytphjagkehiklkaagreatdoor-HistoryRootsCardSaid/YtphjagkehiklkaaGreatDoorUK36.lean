/- Texts. -/
import Derived.Test.YtphjagkehiklkaaGreatDoorUK19
set_option linter.unusedVariables false
set_option linter.unusedSimpArgs false
set_option maxRecDepth 100000
set_option maxHeartbeats 4000000
namespace Go.Proofs.YtphjagkehiklkaaGreatDoor
open Go.RowKit
def uR(s:ByteArray)(k:Int):ByteArray:=s.extract 0 (min (s.size:Int) k).toNat
def CV.cut(c:CV):CV:=⟨⟨c.nm.kind,uR c.nm.owner 100,c.nm.number,c.nm.index,uR c.nm.text 100⟩,uR c.value 200,c.aV⟩
theorem zU:(Tryz.prog.info? 247).map (·.size)=some 7:=by kernel_rfl
theorem zC(n:aD):Tryz.prog.built 106 [(0, .int .i64 n.kind),(1, .string n.owner),(2, .int .i64 n.number),(3, .int .i64 n.index),(4, .string n.text)]=some n.cells.toArray:=by kernel_rfl
theorem Ev(n:aD)(w:World):Calls Tryz.prog 160 #[.agg n.cells.toArray] w (aH w (.agg n.cells.toArray)):=by
 have B:=Lib.hid (zC n);have O:=Lib.hid n.one;have E:Hid ((Tryz.prog.info? 106).map (·.size)=some n.cells.toArray.size):=aX;have Z:Hid ((#[.int .i64 0, .string ByteArray.empty, .int .i64 0, .int .i64 0, .string ByteArray.empty]:Array Value).size=n.cells.toArray.size):=rfl;go_enter Tryz.func160,Tryz.ntmps160;go_wp2_with(refine au rfl 245 (.tmp 0) rfl n.cells.toArray rfl ?_);intro w1 n1;have j:=Lib.hid n1.fr;have k:=Lib.hid n1.az;clear n1;generalize w.heap.size=c at*;go_wp2_with(refine ai rfl 106 rfl qC BY #[.int .i64 0, .string ByteArray.empty, .int .i64 0, .int .i64 0, .string ByteArray.empty] rfl ?_);intro w2 m;have f:=Lib.hid m;clear m;have q:=Lib.hid (j.out.trans f.out.fr);have a:=Lib.hid (k.out.fr f.out.fr (fun x=>x));generalize d:w1.heap.size=g at*;have b:=Lib.hid d;clear d;have l:Hid (ak w2 g 106 #[.int .i64 0, .string ByteArray.empty, .int .i64 0, .int .i64 0, .string ByteArray.empty]):=by have h:=f.out.az;rw[b.out]at h;exact h
 have t:w2.cell? ⟨c,0,none⟩=some (.int .i64 n.kind):=a.out.cell 0;have u:w2.cell? ⟨c,1,none⟩=some (.string n.owner):=a.out.cell 1;have v:w2.cell? ⟨c,2,none⟩=some (.int .i64 n.number):=a.out.cell 2;have c3:w2.cell? ⟨c,3,none⟩=some (.int .i64 n.index):=a.out.cell 3;have y:w2.cell? ⟨c,4,none⟩=some (.string n.text):=a.out.cell 4;clear k;go_wp2_with(refine dH rfl 106 _ rfl n.cells.toArray _ (by simp only[List.map_toArray,List.map_cons,List.map_nil];rfl) B.out (aR.go ?hold));unfold aR;refine ah rfl 106 (.tmp 2) _ rfl g n.cells.toArray rfl rfl _ _ l.out E.out Z.out O.out ?_;intro o b5 f5;have r:=Lib.hid b5;have s:Hid (Fr af w o):=q.out.ao f5 (fun i A e=>by have z:i=g:=e;have C:=b.out;have D:=j.out.size;omega);clear b5 f5 f a l b t u v c3 y;go_wp2;exact bodyPost_ret (results_cell_row (fn:=Tryz.f160) (p:=2) (ty:=106) Tryz.results160 _ o _ 106 n.cells.toArray (0,0) _ rfl r.out Tryz.underlying106 rfl E.out) rfl ⟨rfl,s.out⟩
end Go.Proofs.YtphjagkehiklkaaGreatDoor
namespace Go.Proofs.YtphjagkehiklkaaGreatDoor
open Go.RowKit
theorem Hy:(Tryz.prog.info? 245).map (·.size)=some 5:=by kernel_rfl
theorem EB(c:CV):Tryz.prog.built 119 [(0, .agg c.nm.cells.toArray),(1, .string c.value),(2, .bool c.aV)]=some c.cells.toArray:=by kernel_rfl
theorem IF(w:World):(zeroValue 247).run Tryz.prog w= .ok cE w:=by kernel_rfl
theorem Hb:(Tryz.prog.info? 247).map (fun i=>(i.zero,i.size,i.bytes))=some (some cE,7,80):=by kernel_rfl
theorem GP{w:World}{base n k:Nat}{e:TypeId}{size:Nat}{v:Value}{xs:List Value}(h:w.ownsRow base e size v n xs)(a:v.ownBlock=some k):k<w.heap.size:=by
 rcases h.2 with⟨rfl,_⟩|⟨g,cap,cur,rfl,_,b,_⟩;·cases a
 ·simp only[Value.ownBlock,Option.some.injEq]at a;subst a;exact(Array.getElem?_eq_some_iff.1 b).1
theorem bF.move{e:TypeId}{size:Nat}{w w1 w2:World}{v:Value}{n:Nat}{xs:List Value}{T:Nat→Prop}(h:bF e size w (.slice none 0 0) w1 v n xs)(c:Fr T w1 w2)(b:∀k,v.ownBlock=some k→¬T k)(a:Fr af w w2):bF e size w (.slice none 0 0) w2 v n xs:=
 ⟨aK h.own c b,a.bA,h.dD⟩
theorem Gl(n:Nat)(xs:List CV)(A:Option Addr)(cf:Nat)(S:Nat→Prop)(w:World)(bY:CL w S A n xs)(cq:n≤9223372036854775807):
  Calls Tryz.prog 127 #[.slice A n cf] w (fun e w'=>∃v4 v5,e= .returned (.tuple #[v4,v5])∧bF 119 7 w (.slice none 0 0) w' v4 (min n 24) (((xs.take (min n 24)).map CV.cut).flatMap CV.cells)∧bF 247 7 w (.slice none 0 0) w' v5 (min n 24) (((xs.take (min n 24)).map CV.cut).flatMap CV.cells)):=by
 obtain⟨X,aO,aT,E,bu⟩:=info_parts Hb;obtain⟨Y,aQ,aU,F,bv⟩:=info_parts nS;have ca:=Lib.hid bY;clear bY;go_enter Tryz.func127,Tryz.ntmps127;go_wp2;go_loopw[4,5,6](fun v4 v5 i wr=>∃k:Nat,k≤min n 24∧i= .int .i64 k∧bF 119 7 w (.slice none 0 0) wr v4 k (((xs.take k).map CV.cut).flatMap CV.cells)∧bF 247 7 w (.slice none 0 0) wr v5 k (((xs.take k).map CV.cut).flatMap CV.cells))(fun _ _ i _=>24-(intOf i).toNat);case atStart=>exact⟨0,by omega,rfl,bF.start ⟨rfl, .inl ⟨rfl,rfl⟩⟩,bF.start ⟨rfl, .inl ⟨rfl,rfl⟩⟩⟩
 case round=>
  obtain⟨k,ck,rfl,T,U⟩:=hrel;have B:=Lib.hid T;have D:=Lib.hid U;obtain⟨ad,n4,ax,rfl,cn,_⟩:=aP T.own;obtain⟨ae,aY,c5,rfl,co,_⟩:=aP U.own;clear T U;by_cases bB:k<min n 24
  ·have v:k<n:=by omega
   have bZ:(k:Int)<(n:Int):=by omega
   have bs:(k:Int)<24:=by omega
   have aE:k<24:=by omega
   obtain⟨cp,c,rfl,C,z⟩:=(ca.out.al B.out.al).at_ v;have a2:=Lib.hid z;have b7:=Lib.hid c.one;have bP:Hid (((xs.take (k+1)).map CV.cut).flatMap CV.cells=((xs.take k).map CV.cut).flatMap CV.cells++c.cut.cells):=by
    simp only[Hid];rw[List.take_add_one,C];simp
   have f0:Fr af w wr:=B.out.al;have b8:=Lib.hid f0;have NE:=Lib.hid (my B.out.own D.out.own (by decide));obtain⟨aa,bw⟩:∃aa:Int,min (c.value.size:Int) 200=aa:=⟨_,rfl⟩;obtain⟨ab,bx⟩:∃ab:Int,min (c.nm.owner.size:Int) 100=ab:=⟨_,rfl⟩;obtain⟨ac,bz⟩:∃ac:Int,min (c.nm.text.size:Int) 100=ac:=⟨_,rfl⟩;have cr:0≤aa:=by omega
   have cu:aa≤(c.value.size:Int):=by omega
   have cs:0≤ab:=by omega
   have cv:ab≤(c.nm.owner.size:Int):=by omega
   have ct:0≤ac:=by omega
   have cl:ac≤(c.nm.text.size:Int):=by omega
   obtain⟨v5,bE⟩:∃v5,c.value.extract 0 aa.toNat=v5:=⟨_,rfl⟩;obtain⟨r,bC⟩:∃r,c.nm.owner.extract 0 ab.toNat=r:=⟨_,rfl⟩;obtain⟨t5,bD⟩:∃t5,c.nm.text.extract 0 ac.toNat=t5:=⟨_,rfl⟩;have J:Hid (c.cut=⟨⟨c.nm.kind,r,c.nm.number,c.nm.index,t5⟩,v5,c.aV⟩):=by
    simp only[Hid,CV.cut,uR,bw,bx,bz,bE,bC,bD]
   clear z C f0 bB ck;go_wp2_with(refine aw rfl 247 (.tmp 20) rfl _ rfl c.cells _ ?zB Tryz.underlying247 rfl zU (aR.go ?hold));case zB=>exact a2.out
   unfold aR;go_wp2_with(refine ai rfl 247 rfl cE IF #[.int .i64 0, .string ByteArray.empty, .int .i64 0, .int .i64 0, .string ByteArray.empty, .string ByteArray.empty, .bool false] rfl ?_);intro cm b2;have a6:=Lib.hid b2;clear b2;generalize aN:wr.heap.size=g7 at*;have t:=Lib.hid aN;clear aN;have bL:Hid (ak cm g7 247 #[.int .i64 0, .string ByteArray.empty, .int .i64 0, .int .i64 0, .string ByteArray.empty, .string ByteArray.empty, .bool false]):=by have h:=a6.out.az;rw[t.out]at h;exact h
   go_wp2_with(refine ah rfl 247 (.tmp 7) _ rfl g7 c.cells.toArray rfl rfl _ _ bL.out zU rfl b7.out ?_);intro b5 bb bX;have bI:Hid (ak b5 g7 247 #[.int .i64 c.nm.kind, .string c.nm.owner, .int .i64 c.nm.number, .int .i64 c.nm.index, .string c.nm.text, .string c.value, .bool c.aV]):=bb;have bN:Hid (Fr af wr b5):=a6.out.fr.ao bX (fun i G e=>by have a9:i=g7:=e;have:=t.out;omega);clear bb bX a6 bL;have cc:Hid ((Value.string v5).oneCell'=true):=by simp[Hid,Value.oneCell']
   go_upto_region 7 with fail;refine fS 9 (fun k=>k=g7) [Is (.pointer (some ⟨g7,5,none⟩)),Is (.string c.value),Is (.pointer (some ⟨g7,5,none⟩)),Is (.string c.value),Is (.int .i64 c.value.size),Is (.int .i64 aa),Is (.string v5),Is (.pointer (some ⟨g7,5,none⟩)),Is (undef)] [(8,fun W=>ak W g7 247 #[.int .i64 c.nm.kind, .string c.nm.owner, .int .i64 c.nm.number, .int .i64 c.nm.index, .string c.nm.text, .string v5, .bool c.aV])] (fun W=>ak W g7 247 #[.int .i64 c.nm.kind, .string c.nm.owner, .int .i64 c.nm.number, .int .i64 c.nm.index, .string c.nm.text, .string c.value, .bool c.aV]) (fun i j=>j==8&&decide (i<8)) (by kernel_rfl) (by kernel_rfl) (by kernel_rfl) ⟨Is.ag _,Is.ag _,Is.ag _,Is.ag _,Is.ag _,Is.ag _,Is.ag _,Is.ag _,Is.ag _,trivial⟩ ⟨fun _ _ _ o h=>h.fr o (fun x=>x),trivial⟩ (fun _ _ _ o h=>h.fr o (fun x=>x)) bI.out ?_ ?_
   ·refine⟨fun u w' d o a m l f=>?_,fun u w' d o a m l f=>?_,fun u w' d o a m l f=>?_,fun u w' d o a m l f=>?_,fun u w' d o a m l f=>?_,fun u w' d o a m l f=>?_,fun u w' d o a m l f=>?_,fun u w' d o a m l f=>?_,fun u w' d o a m l f=>?_,trivial⟩;all_goals simp only[List.take_succ_cons,List.take_zero,List.map_cons,List.map_nil,an,Act.put,List.setIfInBounds_toArray,List.set_cons_zero,List.set_cons_succ,Nat.reduceAdd,Nat.zero_add]
    ·clear a m l f;refine .inl ⟨by kernel_rfl,?_⟩;go_simp;exact⟨_,rfl,Fr.refl _ _,rfl,trivial⟩
    ·have bh:u 0=_:=a 0 (by kernel_rfl);clear a;simp only[bh];refine .inl ⟨by kernel_rfl,?_⟩;have s:ak w' g7 247 #[.int .i64 c.nm.kind, .string c.nm.owner, .int .i64 c.nm.number, .int .i64 c.nm.index, .string c.nm.text, .string c.value, .bool c.aV]:=by rw[cI,if_neg (by rw[l 8 (by kernel_rfl)];exact Bool.false_ne_true)]at f;exact f
     clear m l f;have C:w'.cell? ⟨g7,5,none⟩=some (.string c.value):=s.cell 5;go_simp;exact⟨_,rfl,Fr.refl _ _,rfl,trivial⟩
    ·clear a m l f;refine .inl ⟨by kernel_rfl,?_⟩;go_simp;exact⟨_,rfl,Fr.refl _ _,rfl,trivial⟩
    ·have aC:u 2=_:=a 2 (by kernel_rfl);clear a;simp only[aC];refine .inl ⟨by kernel_rfl,?_⟩;have s:ak w' g7 247 #[.int .i64 c.nm.kind, .string c.nm.owner, .int .i64 c.nm.number, .int .i64 c.nm.index, .string c.nm.text, .string c.value, .bool c.aV]:=by rw[cI,if_neg (by rw[l 8 (by kernel_rfl)];exact Bool.false_ne_true)]at f;exact f
     clear m l f;have C:w'.cell? ⟨g7,5,none⟩=some (.string c.value):=s.cell 5;go_simp;exact⟨_,rfl,Fr.refl _ _,rfl,trivial⟩
    ·have aF:u 3=_:=a 3 (by kernel_rfl);clear a m l f;simp only[aF];refine .inl ⟨by kernel_rfl,?_⟩;go_simp;exact⟨_,rfl,Fr.refl _ _,rfl,trivial⟩
    ·have aG:u 4=_:=a 4 (by kernel_rfl);clear a m l f;simp only[aG];refine .inl ⟨by kernel_rfl,?_⟩;go_simp;exact⟨_,rfl,Fr.refl _ _,rfl,trivial⟩
    ·have aB:u 1=_:=a 1 (by kernel_rfl);have aH:u 5=_:=a 5 (by kernel_rfl);clear a m l f;simp only[aB,aH];refine .inl ⟨by kernel_rfl,?_⟩;go_simp;exact⟨_,rfl,Fr.refl _ _,rfl,trivial⟩
    ·clear a m l f;refine .inl ⟨by kernel_rfl,?_⟩;go_simp;exact⟨_,rfl,Fr.refl _ _,rfl,trivial⟩
    ·have aJ:u 7=_:=a 7 (by kernel_rfl);have aI:u 6=_:=a 6 (by kernel_rfl);clear a;simp only[aJ,aI];refine .inl ⟨by kernel_rfl,?_⟩;have s:ak w' g7 247 #[.int .i64 c.nm.kind, .string c.nm.owner, .int .i64 c.nm.number, .int .i64 c.nm.index, .string c.nm.text, .string c.value, .bool c.aV]:=by rw[cI,if_neg (by rw[l 8 (by kernel_rfl)];exact Bool.false_ne_true)]at f;exact f
     clear m l f;refine gP 9 (.tmp 29) (.tmp 28) rfl g7 5 (.string v5) rfl rfl cc.out nA _ _ #[.int .i64 c.nm.kind, .string c.nm.owner, .int .i64 c.nm.number, .int .i64 c.nm.index, .string c.nm.text, .string v5, .bool c.aV] s (show 5<7 by decide) rfl ?_;intro b3 b4 f4;exact⟨_,rfl,f4,rfl,b4⟩
   ·intro u w' o a f;clear a;simp only[List.take_succ_cons,List.take_zero,List.map_cons,List.map_nil,an,Act.put,List.setIfInBounds_toArray,List.set_cons_zero,List.set_cons_succ,List.drop_succ_cons,List.drop_zero,Nat.reduceAdd,Nat.zero_add];generalize w'=wc at*;have bJ:Hid (ak wc g7 247 #[.int .i64 c.nm.kind, .string c.nm.owner, .int .i64 c.nm.number, .int .i64 c.nm.index, .string c.nm.text, .string v5, .bool c.aV]):=f;have bO:Hid (Fr af wr wc):=bN.out.ao o (fun i G e=>by have a9:i=g7:=e;have:=t.out;omega);clear f o bI bN;go_upto_region 8 with fail;refine aA 23 (fun k=>k=g7) [Is (.pointer (some ⟨g7,0,none⟩)),Is (.pointer (some ⟨g7,1,none⟩)),Is (.string c.nm.owner),Is (.pointer (some ⟨g7,0,none⟩)),Is (.pointer (some ⟨g7,1,none⟩)),Is (.string c.nm.owner),Is (.int .i64 c.nm.owner.size),Is (.int .i64 ab),Is (.string r),Is (.pointer (some ⟨g7,0,none⟩)),Is (.pointer (some ⟨g7,4,none⟩)),Is (.string c.nm.text),Is (.pointer (some ⟨g7,0,none⟩)),Is (.pointer (some ⟨g7,4,none⟩)),Is (.string c.nm.text),Is (.int .i64 c.nm.text.size),Is (.int .i64 ac),Is (.string t5),Is (.pointer (some ⟨g7,0,none⟩)),Is (.pointer (some ⟨g7,1,none⟩)),Is (undef),Is (.pointer (some ⟨g7,0,none⟩)),Is (.pointer (some ⟨g7,4,none⟩))] [(20,fun W=>ak W g7 247 #[.int .i64 c.nm.kind, .string r, .int .i64 c.nm.number, .int .i64 c.nm.index, .string c.nm.text, .string v5, .bool c.aV])] (fun W=>ak W g7 247 #[.int .i64 c.nm.kind, .string c.nm.owner, .int .i64 c.nm.number, .int .i64 c.nm.index, .string c.nm.text, .string v5, .bool c.aV]) (fun i j=>j==20&&(decide (i<15)||i==19)) (by kernel_rfl) (by kernel_rfl) (by kernel_rfl) (by kernel_rfl) ⟨Is.ag _,Is.ag _,Is.ag _,Is.ag _,Is.ag _,Is.ag _,Is.ag _,Is.ag _,Is.ag _,Is.ag _,Is.ag _,Is.ag _,Is.ag _,Is.ag _,Is.ag _,Is.ag _,Is.ag _,Is.ag _,Is.ag _,Is.ag _,Is.ag _,Is.ag _,Is.ag _,trivial⟩ ⟨fun _ _ _ o h=>h.fr o (fun x=>x),trivial⟩ (fun _ _ _ o h=>h.fr o (fun x=>x)) bJ.out.drew ?_ ?_
    ·refine⟨fun u w' d o a m l f=>?_,fun u w' d o a m l f=>?_,fun u w' d o a m l f=>?_,fun u w' d o a m l f=>?_,fun u w' d o a m l f=>?_,fun u w' d o a m l f=>?_,fun u w' d o a m l f=>?_,fun u w' d o a m l f=>?_,fun u w' d o a m l f=>?_,fun u w' d o a m l f=>?_,fun u w' d o a m l f=>?_,fun u w' d o a m l f=>?_,fun u w' d o a m l f=>?_,fun u w' d o a m l f=>?_,fun u w' d o a m l f=>?_,fun u w' d o a m l f=>?_,fun u w' d o a m l f=>?_,fun u w' d o a m l f=>?_,fun u w' d o a m l f=>?_,fun u w' d o a m l f=>?_,fun u w' d o a m l f=>?_,fun u w' d o a m l f=>?_,fun u w' d o a m l f=>?_,trivial⟩;all_goals simp only[List.take_succ_cons,List.take_zero,List.map_cons,List.map_nil,an,Act.put,List.setIfInBounds_toArray,List.set_cons_zero,List.set_cons_succ,Nat.reduceAdd,Nat.zero_add]
     ·clear a m l f;refine .inl ⟨by kernel_rfl,?_⟩;go_simp;exact⟨_,rfl,Fr.refl _ _,rfl,trivial⟩
     ·have bh:u 0=_:=a 0 (by kernel_rfl);clear a m l f;simp only[bh];refine .inl ⟨by kernel_rfl,?_⟩;go_simp;exact⟨_,rfl,Fr.refl _ _,rfl,trivial⟩
     ·have aB:u 1=_:=a 1 (by kernel_rfl);clear a;simp only[aB];refine .inl ⟨by kernel_rfl,?_⟩;have s:ak w' g7 247 #[.int .i64 c.nm.kind, .string c.nm.owner, .int .i64 c.nm.number, .int .i64 c.nm.index, .string c.nm.text, .string v5, .bool c.aV]:=by rw[cI,if_neg (by rw[l 20 (by kernel_rfl)];exact Bool.false_ne_true)]at f;exact f
      clear m l f;have C:w'.cell? ⟨g7,1,none⟩=some (.string c.nm.owner):=s.cell 1;go_simp;exact⟨_,rfl,Fr.refl _ _,rfl,trivial⟩
     ·clear a m l f;refine .inl ⟨by kernel_rfl,?_⟩;go_simp;exact⟨_,rfl,Fr.refl _ _,rfl,trivial⟩
     ·have aF:u 3=_:=a 3 (by kernel_rfl);clear a m l f;simp only[aF];refine .inl ⟨by kernel_rfl,?_⟩;go_simp;exact⟨_,rfl,Fr.refl _ _,rfl,trivial⟩
     ·have aG:u 4=_:=a 4 (by kernel_rfl);clear a;simp only[aG];refine .inl ⟨by kernel_rfl,?_⟩;have s:ak w' g7 247 #[.int .i64 c.nm.kind, .string c.nm.owner, .int .i64 c.nm.number, .int .i64 c.nm.index, .string c.nm.text, .string v5, .bool c.aV]:=by rw[cI,if_neg (by rw[l 20 (by kernel_rfl)];exact Bool.false_ne_true)]at f;exact f
      clear m l f;have C:w'.cell? ⟨g7,1,none⟩=some (.string c.nm.owner):=s.cell 1;go_simp;exact⟨_,rfl,Fr.refl _ _,rfl,trivial⟩
     ·have aH:u 5=_:=a 5 (by kernel_rfl);clear a m l f;simp only[aH];refine .inl ⟨by kernel_rfl,?_⟩;go_simp;exact⟨_,rfl,Fr.refl _ _,rfl,trivial⟩
     ·have aI:u 6=_:=a 6 (by kernel_rfl);clear a m l f;simp only[aI];refine .inl ⟨by kernel_rfl,?_⟩;go_simp;exact⟨_,rfl,Fr.refl _ _,rfl,trivial⟩
     ·have aC:u 2=_:=a 2 (by kernel_rfl);have aJ:u 7=_:=a 7 (by kernel_rfl);clear a m l f;simp only[aC,aJ];refine .inl ⟨by kernel_rfl,?_⟩;go_simp;exact⟨_,rfl,Fr.refl _ _,rfl,trivial⟩
     ·clear a m l f;refine .inl ⟨by kernel_rfl,?_⟩;go_simp;exact⟨_,rfl,Fr.refl _ _,rfl,trivial⟩
     ·have cg:u 9=_:=a 9 (by kernel_rfl);clear a m l f;simp only[cg];refine .inl ⟨by kernel_rfl,?_⟩;go_simp;exact⟨_,rfl,Fr.refl _ _,rfl,trivial⟩
     ·have bi:u 10=_:=a 10 (by kernel_rfl);clear a;simp only[bi];refine .inl ⟨by kernel_rfl,?_⟩;have s:ak w' g7 247 #[.int .i64 c.nm.kind, .string c.nm.owner, .int .i64 c.nm.number, .int .i64 c.nm.index, .string c.nm.text, .string v5, .bool c.aV]:=by rw[cI,if_neg (by rw[l 20 (by kernel_rfl)];exact Bool.false_ne_true)]at f;exact f
      clear m l f;have C:w'.cell? ⟨g7,4,none⟩=some (.string c.nm.text):=s.cell 4;go_simp;exact⟨_,rfl,Fr.refl _ _,rfl,trivial⟩
     ·clear a m l f;refine .inl ⟨by kernel_rfl,?_⟩;go_simp;exact⟨_,rfl,Fr.refl _ _,rfl,trivial⟩
     ·have bk:u 12=_:=a 12 (by kernel_rfl);clear a m l f;simp only[bk];refine .inl ⟨by kernel_rfl,?_⟩;go_simp;exact⟨_,rfl,Fr.refl _ _,rfl,trivial⟩
     ·have bl:u 13=_:=a 13 (by kernel_rfl);clear a;simp only[bl];refine .inl ⟨by kernel_rfl,?_⟩;have s:ak w' g7 247 #[.int .i64 c.nm.kind, .string c.nm.owner, .int .i64 c.nm.number, .int .i64 c.nm.index, .string c.nm.text, .string v5, .bool c.aV]:=by rw[cI,if_neg (by rw[l 20 (by kernel_rfl)];exact Bool.false_ne_true)]at f;exact f
      clear m l f;have C:w'.cell? ⟨g7,4,none⟩=some (.string c.nm.text):=s.cell 4;go_simp;exact⟨_,rfl,Fr.refl _ _,rfl,trivial⟩
     ·have bm:u 14=_:=a 14 (by kernel_rfl);clear a m l f;simp only[bm];refine .inl ⟨by kernel_rfl,?_⟩;go_simp;exact⟨_,rfl,Fr.refl _ _,rfl,trivial⟩
     ·have bn:u 15=_:=a 15 (by kernel_rfl);clear a m l f;simp only[bn];refine .inl ⟨by kernel_rfl,?_⟩;go_simp;exact⟨_,rfl,Fr.refl _ _,rfl,trivial⟩
     ·have bj:u 11=_:=a 11 (by kernel_rfl);have bo:u 16=_:=a 16 (by kernel_rfl);clear a m l f;simp only[bj,bo];refine .inl ⟨by kernel_rfl,?_⟩;go_simp;exact⟨_,rfl,Fr.refl _ _,rfl,trivial⟩
     ·clear a m l f;refine .inl ⟨by kernel_rfl,?_⟩;go_simp;exact⟨_,rfl,Fr.refl _ _,rfl,trivial⟩
     ·have bp:u 18=_:=a 18 (by kernel_rfl);clear a m l f;simp only[bp];refine .inl ⟨by kernel_rfl,?_⟩;go_simp;exact⟨_,rfl,Fr.refl _ _,rfl,trivial⟩
     ·have bq:u 19=_:=a 19 (by kernel_rfl);have bt:u 8=_:=a 8 (by kernel_rfl);clear a;simp only[bq,bt];refine .inl ⟨by kernel_rfl,?_⟩;have s:ak w' g7 247 #[.int .i64 c.nm.kind, .string c.nm.owner, .int .i64 c.nm.number, .int .i64 c.nm.index, .string c.nm.text, .string v5, .bool c.aV]:=by rw[cI,if_neg (by rw[l 20 (by kernel_rfl)];exact Bool.false_ne_true)]at f;exact f
      clear m l f;refine gP 9 (.tmp 49) (.tmp 38) rfl g7 1 (.string r) rfl rfl rfl nA _ _ _ s (show 1<7 by decide) rfl ?_;intro b3 b4 f4;exact⟨_,rfl,f4,rfl,b4⟩
     ·clear a m l f;refine .inl ⟨by kernel_rfl,?_⟩;go_simp;exact⟨_,rfl,Fr.refl _ _,rfl,trivial⟩
     ·have br:u 21=_:=a 21 (by kernel_rfl);clear a m l f;simp only[br];refine .inl ⟨by kernel_rfl,?_⟩;go_simp;exact⟨_,rfl,Fr.refl _ _,rfl,trivial⟩
    ·intro u w' o a f;have aW:u 17=_:=a 17 (by omega);have aX:u 22=_:=a 22 (by omega);clear a;simp only[List.take_succ_cons,List.take_zero,List.map_cons,List.map_nil,an,Act.put,List.setIfInBounds_toArray,List.set_cons_zero,List.set_cons_succ,List.drop_succ_cons,List.drop_zero,Nat.reduceAdd,Nat.zero_add,aW,aX];have bK:Hid (ak w' g7 247 #[.int .i64 c.nm.kind, .string r, .int .i64 c.nm.number, .int .i64 c.nm.index, .string c.nm.text, .string v5, .bool c.aV]):=f;have bM:Hid (Fr af wr w'):=bO.out.ao o (fun i G e=>by have a9:i=g7:=e;have:=t.out;omega);have bS:Hid ((Value.string t5).oneCell'=true):=by simp[Hid,Value.oneCell']
     have av:Hid (4<(#[.int .i64 c.nm.kind, .string r, .int .i64 c.nm.number, .int .i64 c.nm.index, .string c.nm.text, .string v5, .bool c.aV]:Array Value).size):=by simp[Hid]
     have au:Hid ((#[.int .i64 c.nm.kind, .string r, .int .i64 c.nm.number, .int .i64 c.nm.index, .string c.nm.text, .string v5, .bool c.aV]:Array Value).setIfInBounds 4 (.string t5)=#[.int .i64 c.nm.kind, .string r, .int .i64 c.nm.number, .int .i64 c.nm.index, .string t5, .string v5, .bool c.aV]):=rfl;clear f o bJ bO aW aX;refine aM rfl 9 (.tmp 51) (.tmp 47) rfl g7 4 (.string t5) rfl rfl bS.out nA 247 #[.int .i64 c.nm.kind, .string r, .int .i64 c.nm.number, .int .i64 c.nm.index, .string c.nm.text, .string v5, .bool c.aV] #[.int .i64 c.nm.kind, .string r, .int .i64 c.nm.number, .int .i64 c.nm.index, .string t5, .string v5, .bool c.aV] bK.out av.out au.out ?_;intro wd bW fd;have I:=Lib.hid bW;have Z:Hid (Fr af wr wd):=bM.out.ao fd (fun i G e=>by have a9:i=g7:=e;have:=t.out;omega);clear bW fd bK bM bS av au;obtain⟨y,aS⟩:∃y:CV,y=⟨⟨c.nm.kind,r,c.nm.number,c.nm.index,t5⟩,v5,c.aV⟩:=⟨_,rfl⟩;have bQ:Hid (c.cut=y):=by rw[aS];exact J.out
     have bT:Hid (∀W,ak W g7 247 #[.int .i64 c.nm.kind, .string r, .int .i64 c.nm.number, .int .i64 c.nm.index, .string t5, .string v5, .bool c.aV]→ak W g7 247 y.cells.toArray):=fun W h=>by rw[aS];exact h
     obtain⟨L,V⟩:∃L:aD,L=y.nm:=⟨_,rfl⟩;have ce:Hid (∀W,ak W g7 247 #[.int .i64 c.nm.kind, .string r, .int .i64 c.nm.number, .int .i64 c.nm.index, .string t5, .string v5, .bool c.aV]→∀j x,L.cells[j]? =some x→W.cell? ⟨g7,j,none⟩=some x):=fun W h j x H=>by
      have cj:j<5:=(List.getElem?_eq_some_iff.1 H).1;rw[(bT.out W h).cell,List.getElem?_toArray,CV.cells,List.getElem?_append_left (by rw[aD.dE];exact cj),←V];exact H
     have a0:Hid (Tryz.prog.built 119 [(0, .agg L.cells.toArray),(1, .string v5),(2, .bool c.aV)]=some y.cells.toArray):=by
      have h:=EB y;rw[←V,show y.value=v5 by rw[aS],show y.aV=c.aV by rw[aS]]at h;exact h
     have bV:Hid (∀u∈y.cells.toArray.toList,u.oneCell'=true):=by
      intro u hu;have h:=y.one;rw[Array.all_eq_true_iff_forall_mem]at h;exact h u (by simpa using hu)
     have bU:Hid (y.cells.toArray.size=1*7):=rfl;have cd:Hid (y.cells=y.cells.toArray.toList):=by simp[Hid]
     have M:=Lib.hid (bT.out _ I.out);have ay:Hid (Instr.fill (fun i=>some (i*7,7)) ((Array.range (1*7)).map (cE.cells[· %cE.cells.size]!)) [(0, .agg y.cells.toArray)]=some y.cells.toArray):=kV _ _ rfl (by simp);clear J aS V;generalize aL:y.cells=p at*;have N:=Lib.hid aL;clear aL;have ba:Hid (¬1*X.size>2^24):=by simp only[Hid];rw[E];omega
     have bc:Hid (¬1*X.size=0):=by simp only[Hid];rw[E];omega
     have bd:Hid (Instr.fill (fun i=>some (i*X.size,X.size)) ((Array.range (1*X.size)).map (cE.cells[· %cE.cells.size]!)) [(0, .agg p.toArray)]=some p.toArray):=by simp only[Hid];rw[E];exact ay.out
     have be:Hid (¬1*Y.size>2^24):=by simp only[Hid];rw[F];omega
     have bf:Hid (¬1*Y.size=0):=by simp only[Hid];rw[F];omega
     have bg:Hid (Instr.fill (fun i=>some (i*Y.size,Y.size)) ((Array.range (1*Y.size)).map (cE.cells[· %cE.cells.size]!)) [(0, .agg p.toArray)]=some p.toArray):=by simp only[Hid];rw[F];exact ay.out
     have a3:Hid ((Tryz.prog.info? 247).map (·.size)=some p.length):=by rw[←N.out];exact zU
     have cb:Hid (∀i,(Value.slice ae aY c5).ownBlock=some i→i<g7):=fun i G=>by have q:=GP D.out.own G;have cl:=t.out;omega
     have bR:Hid (wd.ownsRow 0 247 7 (.slice ae aY c5) k (((xs.take k).map CV.cut).flatMap CV.cells)):=aK D.out.own Z.out (fun _ _ x=>x);have a5:Hid (wd.ownsRow 0 119 7 (.slice ad n4 ax) k (((xs.take k).map CV.cut).flatMap CV.cells)):=aK B.out.own Z.out (fun _ _ x=>x);go_wp2_with(refine aw rfl 247 (.tmp 7) rfl ⟨g7,0,none⟩ rfl p _ ?zA Tryz.underlying247 rfl a3.out (aR.go ?zC));case zA=>exact fun j x H=>by first|(rw[Addr.add_mid,Nat.zero_add,M.out.cell,List.getElem?_toArray];exact H)|(rw[M.out.cell,List.getElem?_toArray];exact H)
     unfold aR;refine wpList_buildSlice rfl 55 247 1 #[(0, .tmp 53)] rfl p.toArray X cE Tryz.underlying55 aO aT ba.out bc.out (by simp only[List.map_toArray,List.map_cons,List.map_nil];exact bd.out) ?_;refine cX _ rfl _ _ 55 rfl 247 X cE 7 80 Tryz.underlying55 aO aT E bu rfl (by decide) _ _ _ rfl bR.out 1 p.toArray _ rfl rfl bU.out bV.out (by omega) (by decide) ?_;intro aZ bH K;have a1:Hid (Fr af w wd):=b8.out.trans Z.out;have aq:Hid (bF 247 7 w (.slice none 0 0) wd (.slice ae aY c5) k (((xs.take k).map CV.cut).flatMap CV.cells)):=D.out.behind Z.out;have P:Hid (bF 247 7 w (.slice none 0 0) bH aZ (k+1) (((xs.take (k+1)).map CV.cut).flatMap CV.cells)):=by
      have h:=aq.out.trans K;simp only[Hid];rw[bP.out,bQ.out,N.out];exact h
     have O:Hid (bF 119 7 w (.slice none 0 0) bH (.slice ad n4 ax) k (((xs.take k).map CV.cut).flatMap CV.cells)):=(B.out.behind Z.out).move K.fr (fun i G e=>NE.out i G e) P.out.al;have aj:Hid (ak bH g7 247 #[.int .i64 c.nm.kind, .string r, .int .i64 c.nm.number, .int .i64 c.nm.index, .string t5, .string v5, .bool c.aV]):=I.out.fr K.fr (fun e=>by have q:=cb.out g7 e;omega);clear K D B aq bR a5 I Z a1 M;have I:=aj;have a5:=Lib.hid O.out.own;go_upto_region 10 with fail;refine aA 10 af [Is (.slice ad n4 ax),Is (.pointer (some ⟨g7,0,none⟩)),Is (.agg L.cells.toArray),Is (.agg L.cells.toArray),Is (.pointer (some ⟨g7,5,none⟩)),Is (.string v5),Is (.pointer (some ⟨g7,6,none⟩)),Is (.bool c.aV),Is (.agg p.toArray),fun x W=>∃g,x= .slice (some ⟨g,0,none⟩) 1 1∧ak W g 119 p.toArray] [] (fun _=>True) (fun _ _=>false) (by kernel_rfl) (by kernel_rfl) (by kernel_rfl) (by kernel_rfl) ⟨Is.ag _,Is.ag _,Is.ag _,Is.ag _,Is.ag _,Is.ag _,Is.ag _,Is.ag _,Is.ag _,fun _ _ _ _ o⟨g,h,b⟩=>⟨g,h,b.fr o (fun x=>x)⟩,trivial⟩ trivial (fun _ _ _ _ h=>h) trivial ?_ ?_
     ·refine⟨fun u w' d o a m l f=>?_,fun u w' d o a m l f=>?_,fun u w' d o a m l f=>?_,fun u w' d o a m l f=>?_,fun u w' d o a m l f=>?_,fun u w' d o a m l f=>?_,fun u w' d o a m l f=>?_,fun u w' d o a m l f=>?_,fun u w' d o a m l f=>?_,fun u w' d o a m l f=>?_,trivial⟩;all_goals simp only[List.take_succ_cons,List.take_zero,List.map_cons,List.map_nil,an,Act.put,List.setIfInBounds_toArray,List.set_cons_zero,List.set_cons_succ,Nat.reduceAdd,Nat.zero_add]
      ·clear a m l f;refine .inl ⟨by kernel_rfl,?_⟩;go_simp;exact⟨_,rfl,Fr.refl _ _,rfl,trivial⟩
      ·clear a m l f;refine .inl ⟨by kernel_rfl,?_⟩;go_simp;exact⟨_,rfl,Fr.refl _ _,rfl,trivial⟩
      ·have aB:u 1=_:=a 1 (by kernel_rfl);clear a m l f;simp only[aB];refine .inl ⟨by kernel_rfl,?_⟩;exact ar _ _ rfl ⟨g7,0,none⟩ rfl L.cells _ (fun j x H=>by rw[Addr.add_mid,Nat.zero_add];exact ce.out _ (I.out.fr o (fun x=>x)) j x H) Tryz.underlying245 rfl Hy ⟨_,rfl,Fr.refl _ _,rfl,trivial⟩
      ·have aC:u 2=_:=a 2 (by kernel_rfl);clear a m l f;simp only[aC];refine .inl ⟨by kernel_rfl,?_⟩;go_simp;refine(Ev L _).mono ?_;rintro e b3⟨rfl,f4⟩;exact⟨_,rfl,f4.bA,rfl,trivial⟩
      ·clear a m l f;refine .inl ⟨by kernel_rfl,?_⟩;go_simp;exact⟨_,rfl,Fr.refl _ _,rfl,trivial⟩
      ·have aG:u 4=_:=a 4 (by kernel_rfl);clear a m l f;simp only[aG];refine .inl ⟨by kernel_rfl,?_⟩;have C:w'.cell? ⟨g7,5,none⟩=some (.string v5):=(I.out.fr o (fun x=>x)).cell 5;go_simp;exact⟨_,rfl,Fr.refl _ _,rfl,trivial⟩
      ·clear a m l f;refine .inl ⟨by kernel_rfl,?_⟩;go_simp;exact⟨_,rfl,Fr.refl _ _,rfl,trivial⟩
      ·have aI:u 6=_:=a 6 (by kernel_rfl);clear a m l f;simp only[aI];refine .inl ⟨by kernel_rfl,?_⟩;have C:w'.cell? ⟨g7,6,none⟩=some (.bool c.aV):=(I.out.fr o (fun x=>x)).cell 6;go_simp;exact⟨_,rfl,Fr.refl _ _,rfl,trivial⟩
      ·have aF:u 3=_:=a 3 (by kernel_rfl);have aH:u 5=_:=a 5 (by kernel_rfl);have aJ:u 7=_:=a 7 (by kernel_rfl);clear a m l f;simp only[aF,aH,aJ];refine .inl ⟨by kernel_rfl,?_⟩;exact iu 119 _ rfl p.toArray _ (by simp only[List.map_toArray,List.map_cons,List.map_nil];rfl) a0.out ⟨_,rfl,Fr.refl _ _,rfl,trivial⟩
      ·have bt:u 8=_:=a 8 (by kernel_rfl);clear a m l f;simp only[bt];refine .inl ⟨by kernel_rfl,?_⟩;refine wp_buildSlice 44 119 1 #[(0, .tmp 64)] rfl p.toArray Y cE Tryz.underlying44 aQ aU be.out bf.out ?_ ?_;·simp only[List.map_toArray,List.map_cons,List.map_nil];exact bg.out
       ·exact⟨_,rfl,(Fr.refl _ _).alloc _,⟨w'.heap.size,rfl,ak.new _ _ _⟩,trivial⟩
     ·intro u w' o a f;have l:u 0=_:=a 0 (by omega);obtain⟨g9,b1,b9⟩:∃g,u 9= .slice (some ⟨g,0,none⟩) 1 1∧ak w' g 119 p.toArray:=a 9 (by omega);clear a f;simp only[List.take_succ_cons,List.take_zero,List.map_cons,List.map_nil,an,Act.put,List.setIfInBounds_toArray,List.set_cons_zero,List.set_cons_succ,List.drop_succ_cons,List.drop_zero,Nat.reduceAdd,Nat.zero_add,l,b1];have b6:=Lib.hid b9;have R:=Lib.hid (aK a5.out o (fun _ _ x=>x));have ap:=Lib.hid (O.out.behind o);have Q:=Lib.hid (P.out.behind o);have a8:Hid (∀u∈p,u.oneCell'=true):=fun u hu=>bV.out u (by simpa using hu);have a7:Hid (p.length=1*7):=by have h:=bU.out;rw[List.size_toArray]at h;exact h
      clear o l b1 b9 I aj;refine gK _ rfl _ _ 44 rfl 119 Y cE 7 80 Tryz.underlying44 aQ aU F bv rfl (by decide) _ _ _ rfl R.out (fun _=>True) (some ⟨g9,0,none⟩) 1 1 p rfl ⟨a7.out,fun _=>⟨_,rfl,trivial,fun j x H=>by rw[Addr.add_mid,Nat.zero_add,b6.out.cell,List.getElem?_toArray];exact H⟩⟩ a8.out (by omega) (by decide) ?_;intro bG wf K;have am:Hid (bF 119 7 w (.slice none 0 0) wf bG (k+1) (((xs.take (k+1)).map CV.cut).flatMap CV.cells)):=by
       have h:=ap.out.trans K;simp only[Hid];rw[bP.out,bQ.out,N.out];exact h
      have a4:Hid (bF 247 7 w (.slice none 0 0) wf aZ (k+1) (((xs.take (k+1)).map CV.cut).flatMap CV.cells)):=Q.out.move K.fr (fun i G e=>my Q.out.own R.out (by decide) i G e) am.out.al;clear K ap Q R O P;go_wp2;go_roundw;case rel=>exact⟨k+1,by omega,by go_num,am.out,a4.out⟩
      case measure=>simp[intOf];omega
  ·have v:k=min n 24:=by omega
   have b0:¬((k:Int)<(n:Int)∧(k:Int)<24):=by omega
   by_cases bZ:(k:Int)<(n:Int)
   ·have bs:decide ((k:Int)<24)=false:=decide_eq_false (by omega);have aE:¬k<24:=by omega
    have hIn:k<n:=by omega
    go_wp2;go_ret2;exact⟨.slice ad n4 ax, .slice ae aY c5,rfl,by rw[←v];first|exact B.out|(rw[←List.map_take];exact B.out),by rw[←v];first|exact D.out|(rw[←List.map_take];exact D.out)⟩
   ·have ch:decide ((k:Int)<(n:Int))=false:=decide_eq_false bZ;have ci:¬k<n:=by omega
    go_wp2;go_ret2;exact⟨.slice ad n4 ax, .slice ae aY c5,rfl,by rw[←v];first|exact B.out|(rw[←List.map_take];exact B.out),by rw[←v];first|exact D.out|(rw[←List.map_take];exact D.out)⟩
end Go.Proofs.YtphjagkehiklkaaGreatDoor
namespace Go.Proofs.YtphjagkehiklkaaGreatDoor
open Go.RowKit Go.Shelf
theorem DM{P:Program}(w:World)(t ty e:TypeId)(i:TypeInfo)(d:P.underlying t=some (.slice e))(b:P.info? e=some i)(g:Nat)(A:Option Addr)(c:Nat):
  (Builtin.append_ #[t,t] ty #[.slice (some ⟨g,0,none⟩) 0 0, .slice A 0 c]).run P w= .ok (.slice (some ⟨g,0,none⟩) 0 0) w:=by
 cases A with
 |none=>simp[Builtin.append_,run_underlying d,sizeOf,typeInfo,b,Builtin.lenOf,Builtin.firstCells,storeCells,Result.andThen]
 |some a=>
  have h:=run_append_room_cells (P:=P) (w:=w) t ty e i d b g 0 0 0 a 0 c [] (by simp) (by simp) (by simp) (by simp) (by simp) (by simp);simpa[World.setCells]using h
theorem DA{w:World}{base:Nat}{e:TypeId}{size n:Nat}{v:Value}{xs:List Value}(h:w.ownsRow base e size v n xs):w.ownsRow 0 e size v n xs:=by
 refine⟨h.1,?_⟩;rcases h.2 with h|⟨g,cap,cur,a,_,b⟩;·exact .inl h
 ·exact .inr ⟨g,cap,cur,a,Nat.zero_le _,b⟩
theorem yX{P:Program}{O:Oper}{a:Act}{w:World}{K:Act→World→Prop}{Q:Exit→Act→World→Prop}(s x:Operand)(t:TypeId)(C:O.op= .call {callee:= .builtin .append,args:=#[s,x],argTypes:=#[t,t]})
  (e:TypeId)(i:TypeInfo)(z:Value)(size bytes:Nat)(E:P.underlying t=some (.slice e))(B:P.info? e=some i)(M:i.zero=some z)(j:i.size=size)(p:i.bytes=bytes)(v:z.cells.size=size)(u:0<size)
  (g:Nat)(D:a.eval s= .slice (some ⟨g,0,none⟩) 0 0)(l:w.ownsRow 0 e size (.slice (some ⟨g,0,none⟩) 0 0) 0 [])(S:Nat→Prop)(A:Option Addr)(m c:Nat)(news:List Value)(F:a.eval x= .slice A m c)(r:Rd w S size A m news)(d:m*bytes≤140737488355328)(hm:m≤1048576)
  (h:∀o w',w'.ownsRow 0 e size o m news→Fr af w w'→(∀k,o.ownBlock=some k→k=g∨w.heap.size≤k)→K (a.put O.dst o) w'):O.wp P a w K Q:=by
 by_cases q:m=0;·subst q;have L:news=[]:=List.length_eq_zero_iff.1 (by have:=r.1;omega);subst L;have b:=DM (P:=P) w t O.type e i E B g A c;unfold Oper.wp execOp;simp only[C,resolve,invoke,builtin,Sem.run_bind,Sem.run_pure,Result.andThen_ok,List.map_toArray,List.map_cons,List.map_nil,D,F,b];exact h _ _ l (Fr.refl _ _) (fun k n=> .inl (by simpa[Value.ownBlock]using n.symm))
 ·obtain⟨G,rfl,_,H⟩:=r.2 (by omega);obtain⟨o,w',b,f,I⟩:=run_append_arg_grows (P:=P) (w:=w) t O.type e i z size bytes E B M j p v u ⟨g,0,none⟩ 0 0 [] (by simp) (by simp) G m c news r.1 H (by omega) (by simp only[maxLen];omega) (by simpa using d);rw[Nat.zero_add]at f;unfold Oper.wp execOp;simp only[C,resolve,invoke,builtin,Sem.run_bind,Sem.run_pure,Result.andThen_ok,List.map_toArray,List.map_cons,List.map_nil,D,F,b];refine h _ _ (DA f) ((Fr.grown I).mono (fun _ _ e=>by cases e)) (fun k n=> .inr ?_);rcases f.2 with⟨rfl,_⟩|⟨N,y,cur,rfl,J,_⟩;·simp[Value.ownBlock]at n
  ·simp[Value.ownBlock]at n;omega
end Go.Proofs.YtphjagkehiklkaaGreatDoor
namespace Go.Proofs.YtphjagkehiklkaaGreatDoor
open Go.RowKit Go.Shelf
theorem oT(s:ByteArray)(k:Nat):(uR s (k:Int)).size≤k:=by
 rw[uR,ByteArray.size_extract];omega
theorem CV.zK(c:CV):du c.cut:=⟨oT _ 100,oT _ 100,oT _ 200⟩
end Go.Proofs.YtphjagkehiklkaaGreatDoor
namespace Go.Proofs.YtphjagkehiklkaaGreatDoor
open Go.RowKit Go.Shelf
def qs(xs:List CV)(n:Nat):List CV:=(xs.take (min n 24)).map CV.cut
theorem wI(xs:List CV)(n:Nat):∀c∈qs xs n,du c:=fun c a=>by
 obtain⟨x,_,rfl⟩:=List.mem_map.1 a;exact x.zK
end Go.Proofs.YtphjagkehiklkaaGreatDoor
namespace Go.Proofs.YtphjagkehiklkaaGreatDoor
open Go.ChangeShapes Go.WideShapes Go.ChangeAt Go.RowKit
theorem xO:Tryz.prog.cellsOf 245=5:=by kernel_rfl
theorem Bm:Tryz.prog.cellsOf 247=7:=by kernel_rfl
end Go.Proofs.YtphjagkehiklkaaGreatDoor
namespace Go.Proofs.YtphjagkehiklkaaGreatDoor
open Go.RowKit Go.Shelf
theorem vV.IA{w:World}{N c:Nat}{a:Option Addr}{b:List CV}{v5:Value}(h:vV w N b (.slice a N c) v5):CL w (fun _=>True) a N b:=⟨(Rd.gj h.Bx).any,h.len⟩
def Hj(w:World)(N:Nat)(d:List CV)(e:Ending)(w':World):Prop:=∃a c b c5,e= .returned (.tuple #[.slice a N c, .slice b N c5])∧Fr af w w'∧vV w' N d (.slice a N c) (.slice b N c5)
theorem Ht(n:Nat)(xs:List CV)(A:Option Addr)(c:Nat)(S:Nat→Prop)(w:World)(f:CL w S A n xs)(l:n≤9223372036854775807):
  Calls Tryz.prog 127 #[.slice A n c] w (Hj w (min n 24) (qs xs n)):=by
 have a:(qs xs n).length=min n 24:=by rw[qs,List.length_map,List.length_take,f.len];omega
 refine(Gl n xs A c S w f l).mono ?_;rintro e w2⟨v4,v5,rfl,b,d⟩;obtain⟨g,n4,k,rfl,i,_⟩:=aP b.own;obtain⟨h,m,c5,rfl,j,_⟩:=aP d.own;obtain rfl:n4=min n 24:=i.out;obtain rfl:m=min n 24:=j.out;exact⟨g,k,h,c5,rfl,b.al,b.own,d.own,a⟩
end Go.Proofs.YtphjagkehiklkaaGreatDoor
namespace Go.Proofs.YtphjagkehiklkaaGreatDoor
open Go.RowKit Go.Shelf
theorem AI{L:List ActV}{k:Nat}{a:ActV}(h:L[k]? =some a)(E:List Ent):eU (L.take (k+1)) E=ln a.writes (eU (L.take k) E):=by
 rw[List.take_add_one,h,Option.toList_some,tP]
end Go.Proofs.YtphjagkehiklkaaGreatDoor
namespace Go.Proofs.YtphjagkehiklkaaGreatDoor
open Go.RowKit Go.Shelf
theorem De(a b:aD)(w:World):(binOp .eql 106 (.agg a.cells.toArray) (.agg b.cells.toArray)).run Tryz.prog w= .ok (.bool (wG a b)) w:=by
 by_cases h:a=b
 ·subst h;have e:wG a a=true:=by unfold wG;exact beq_iff_eq.2 (cq.refl _)
  rw[e];obtain⟨k,q,n,i,t⟩:=a;simp only[aD.cells];go_simp
 ·have e:wG a b=false:=by unfold wG;exact beq_eq_false_iff_ne.2 (fun e=>h (cq.eq _ _ e))
  rw[e];obtain⟨k,q,n,i,t⟩:=a;obtain⟨l,o,m,i',p⟩:=b;simp only[aD.cells];go_simp;intro c d f g j;exact h (by rw[c,toList_inj d,f,g,toList_inj j])
theorem sj(c:CV):∀u∈c.cells,u.oneCell'=true:=fun u hu=>by
 have h:=c.one;rw[Array.all_eq_true_iff_forall_mem]at h;exact h u (by simpa using hu)
end Go.Proofs.YtphjagkehiklkaaGreatDoor
