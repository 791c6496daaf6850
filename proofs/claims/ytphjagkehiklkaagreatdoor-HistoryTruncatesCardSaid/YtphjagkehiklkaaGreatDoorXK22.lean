/- Texts. -/
import Derived.Test.YtphjagkehiklkaaGreatDoorXK21
set_option linter.unusedVariables false
set_option linter.unusedSimpArgs false
set_option maxRecDepth 100000
set_option maxHeartbeats 4000000
namespace Go.Proofs.YtphjagkehiklkaaGreatDoor
open Go.RowKit Go.Shelf
def pt(w:World)(e:Ending)(w':World):Prop:=∃v l,e= .returned v∧dU w' v l∧l.length≤6∧(∀c∈l,eh c)∧Fr ah w w'∧∀k,v.ownBlock=some k→w.heap.size≤k
structure Ht(w wr:World)(v:Value)(l:List CV)(k:Nat):Prop where
 row:dU wr v l
 len:l.length≤k
 small:∀c∈l,eh c
 fr:Fr ah w wr
 new:∀i,v.ownBlock=some i→w.heap.size≤i
def pR(c:CV):CV:=⟨c.nm,if c.bH then ByteArray.empty else c.value,c.bH⟩
theorem zO{c:CV}(h:eh c):eh (pR c):=⟨h.owner,h.text,by
 have:=h.value;unfold pR;simp only;split;·simp
 ·exact this⟩
theorem nE(n:Nat)(xs:List CV)(A:Option Addr)(a6:Nat)(S:Nat→Prop)(w:World)(bX:CL w S A n xs)(bz:n≤9223372036854775807)(bu:n≤a6):
  Calls Tryz.prog 81 #[.slice A n a6] w (pt w):=by
 have bI:Hid (∀w' G,Fr ah w w'→Calls Tryz.prog 127 #[.slice A (min n 6) G] w' (Kv w' (min n 6) (rW (xs.take (min n 6)) (min n 6)))):=fun w' G b=>by
  have:=KU (min n 6) (xs.take (min n 6)) A G S w' ((bX.take (by omega)).ao b) (by omega);rw[show min (min n 6) 24=min n 6 by omega]at this;exact this
 have bk:=af (yt (xs.take (min n 6)) (min n 6));have ae:Hid (min n 6≤a6∧min n 6≤6):=by simp only[Hid];omega
 have bc:min (n:Int) 6=((min n 6:Nat):Int):=by omega
 generalize rW (xs.take (min n 6)) (min n 6)=cH at*;generalize min n 6=m at*;clear bX;have bt:(0:Int)≤(m:Int):=by omega
 have cg:(m:Int)≤(a6:Int):=by have:=ae.out;omega
 obtain⟨Z,I,Y,D,al⟩:=info_parts mZ;have bq:Hid (¬1*Z.size>2^24):=by simp only[Hid];rw[D];omega
 have br:Hid (¬1*Z.size=0):=by simp only[Hid];rw[D];omega
 have bs:Hid (∀c:CV,Instr.fill (fun i=>some (i*Z.size,Z.size)) ((Array.range (1*Z.size)).map (bY.cells[· %bY.cells.size]!)) [(0, .agg c.cells.toArray)]=some c.cells.toArray):=fun c=>by rw[D];exact ku _ _ rfl (by simp)
 go_enter Tryz.func81,Tryz.ntmps81;go_wp2_with fail;refine(bI.out _ _ az).mono ?_;rintro e w1⟨cx,cn,cy,cD,rfl,f1,b0⟩;have bJ:=af f1;have b8:=af b0.LF;clear f1 b0 bI bc bt cg;go_wp2;go_loopw[5,6](fun v i wr=>∃(k:Nat)(ls:List CV),k≤m∧i= .int .i64 (k:Int)∧Ht w1 wr v ls k)(fun _ i _=>m-(intOf i).toNat);case atStart=>exact⟨0,[],Nat.zero_le _,rfl,⟨dU.nil _,by simp,by simp,az,by intro i V;cases V⟩⟩
 case round=>
  obtain⟨k,ls,r,rfl,ba⟩:=hrel;have g:=af ba;have bK:=af r;obtain⟨q,n6,k6,rfl,ap,av⟩:=aH ba.row;have s:Hid (n6≤6):=by have:=ba.len;have:=ae.out;have:=ap.out;simp only[Hid];omega
  clear ba r;generalize wr=w3 at*;by_cases bx:k<m
  ·have t0:decide ((k:Int)<(m:Int))=true:=cT (by omega);have ct:(k:Int)<(m:Int):=by omega
   have b4:(0:Int)≤(k:Int):=by omega
   obtain⟨bM,c,rfl,bu,U⟩:=(b8.out.ao g.out.fr).at_ bx;have aO:=af U;have bL:=af (bk.out c (List.mem_of_getElem? bu));have bG:=af c.one;clear bu U;go_wp2_with(refine aC rfl 119 (.tmp 27) rfl (bM.add (k*7)) rfl c.cells _ ?zJ Tryz.underlying119 rfl jC (aR.go ?hold));case zJ=>exact aO.out
   unfold aR;go_wp2_with(refine an rfl 119 rfl bY EV #[.int .i64 0, .string ByteArray.empty, .int .i64 0, .int .i64 0, .string ByteArray.empty, .string ByteArray.empty, .bool false] rfl ?_);intro cu b3;have bl:=af b3;clear b3;generalize a0:w3.heap.size=g7 at*;have ay:=af a0;clear a0;have bE:Hid (aq cu g7 119 #[.int .i64 0, .string ByteArray.empty, .int .i64 0, .int .i64 0, .string ByteArray.empty, .string ByteArray.empty, .bool false]):=by have h:=bl.out.aD;rw[ay.out]at h;exact h
   go_wp2_with(refine ak rfl 119 (.tmp 7) _ rfl g7 c.cells.toArray rfl rfl _ _ bE.out jC rfl bG.out ?_);intro be bb bT;have a1:Hid (aq be g7 119 #[.int .i64 c.nm.kind, .string c.nm.owner, .int .i64 c.nm.number, .int .i64 c.nm.index, .string c.nm.text, .string c.value, .bool c.bH]):=bb;have bi:Hid (Fr ah w3 be):=bl.out.fr.au bT (fun i V e=>by have cb:i=g7:=e;have:=ay.out;omega);clear bb bT bl bE aO;have bO:be.cell? ⟨g7,6,none⟩=some (.bool c.bH):=a1.out.cell 6;obtain⟨ca,aM⟩:∃z,c.bH=z:=⟨_,rfl⟩;have aS:=af aM;rw[aM]at bO;clear aM;have b9:Hid ((Value.string ByteArray.empty).oneCell'=true):=by simp[Hid,Value.oneCell']
   go_upto_if 30 with fail;clear bO;go_cut[3,5,6,7](fun cp cq cr cs bf=>cp= .slice (some bM) m cn∧cq= .slice q n6 k6∧cr= .int .i64 (k:Int)∧cs= .pointer (some ⟨g7,0,none⟩)∧aq bf g7 119 (pR c).cells.toArray∧Fr ah w3 bf);case first=>
    cases ca
    ·have aV:Hid (#[Value.int .i64 c.nm.kind, .string c.nm.owner, .int .i64 c.nm.number, .int .i64 c.nm.index, .string c.nm.text, .string c.value, .bool c.bH]=(pR c).cells.toArray):=by
      rw[Hid,pR,if_neg (by rw[aS.out];decide)];rfl
     have HB:Hid (aq be g7 119 (pR c).cells.toArray):=by rw[←aV.out];exact a1.out
     clear aV;go_wp2;go_meet;exact⟨rfl,rfl,rfl,rfl,HB.out,bi.out⟩
    ·have aV:Hid (#[Value.int .i64 c.nm.kind, .string c.nm.owner, .int .i64 c.nm.number, .int .i64 c.nm.index, .string c.nm.text, .string ByteArray.empty, .bool c.bH]=(pR c).cells.toArray):=by
      rw[Hid,pR,if_pos aS.out];rfl
     go_wp2_with(refine tH rfl 9 _ _ rfl g7 5 (.string ByteArray.empty) rfl rfl b9.out oW _ _ _ a1.out (show 5<7 by decide) rfl ?_);intro wc bN bU;have HB:Hid (aq wc g7 119 (pR c).cells.toArray):=by rw[←aV.out];exact bN
     have b6:Hid (Fr ah w3 wc):=bi.out.au bU (fun i V e=>by have cb:i=g7:=e;have:=ay.out;omega);clear bN bU aV;go_wp2;go_meet;exact⟨rfl,rfl,rfl,rfl,HB.out,b6.out⟩
   case rest=>
    obtain⟨rfl,rfl,rfl,rfl,b1,b⟩:=hcut;have a2:=af b1;have bh:=af b;have aA:=af (zO bL.out);clear b1 b a1 bi bG bL;generalize pR c=d at*;have cA:=af g.out.row;have ab:=af (show CL w3 (fun _=>True) q n6 ls from by have e:=ap.out;subst e;exact⟨(Rd.gO g.out.row).any,rfl⟩);go_wp2;go_loopw[8](fun i bf=>∃j:Nat,j≤n6∧i= .int .i64 (j:Int)∧Fr ah wc bf)(fun i _=>n6-(intOf i).toNat);case atStart=>exact⟨0,Nat.zero_le _,rfl,az⟩
    case round=>
     obtain⟨j,bc,rfl,b⟩:=hrel;have ad:=af bc;have a3:=af b;clear bc b;obtain⟨E,z,O⟩:∃(E:Addr)(z:CV),Hid (j<n6→q=some E∧ls[j]? =some z∧∀aa x,z.cells[aa]? =some x→wc.cell? ((E.add (j*7)).add aa)=some x):=by
      by_cases h:j<n6;·obtain⟨E,z,cd,ce,cf⟩:=(ab.out.ao bh.out).at_ h;exact⟨E,z,fun _=>⟨cd,ce,cf⟩⟩
      ·exact⟨⟨0,0,none⟩,d,fun a8=>absurd a8 h⟩
     obtain⟨P,bR⟩:∃z:Bool,decide (j<n6)=z:=⟨_,rfl⟩;have J:=af bR;have ag:Hid (decide ((j:Int)<(n6:Int))=P):=by rw[Hid,←J.out];exact decide_eq_decide.2 (by omega)
     obtain⟨Q,aZ⟩:∃bD:Bool,decide (bP z.nm d.nm<0)=bD:=⟨_,rfl⟩;have EQ:=af aZ;clear bR aZ;have M:Hid (j<n6→q=some E):=fun h=>(O.out h).1;have bF:Hid (j<n6→∀w',Calls Tryz.prog 128 #[.agg z.nm.cells.toArray, .agg d.nm.cells.toArray] w' (aK w' (.int .i64 (bP z.nm d.nm)))):=fun h w'=>fI z.nm d.nm w' (by have:=(g.out.small z (List.mem_of_getElem? (O.out h).2.1)).owner;omega) (by have:=aA.out.owner;omega);obtain⟨B,bV⟩:∃z:Bool,(bif P then Q else false)=z:=⟨_,rfl⟩;have HB:=af bV;clear bV;go_upto_region 10 with fail;refine iW 15 [.int .i64 (j:Int), .slice q n6 k6, .int .i64 (n6:Nat), .bool P, .bool P,bif P then .slice q n6 k6 else undef,bif P then .int .i64 (j:Int)else undef,bif P then .pointer (some (E.add (j*7)))else undef,bif P then .pointer (some (E.add (j*7)))else undef,bif P then .agg z.nm.cells.toArray else undef,bif P then .pointer (some ⟨g7,0,none⟩)else undef,bif P then .agg d.nm.cells.toArray else undef,bif P then .int .i64 (bP z.nm d.nm)else undef,bif P then .bool Q else undef, .bool B] ?zK ?_;case zK=>
      refine⟨?yL,?yM,?zN,?zP,?zQ,?zR,?zS,?zT,?zU,?zV,?zA,?zB,?zC,?zD,?zE,trivial⟩;all_goals intro u w' b a
      all_goals simp only[z1,z2,z3,z4,ar,Act.put,z5,z6,z7,Nat.reduceAdd,Nat.zero_add]
      case' zN=>simp only[show u 1=_ from a 1]
      case zP=>
       simp only[show u 0=_ from a 0,show u 2=_ from a 2];refine aF ?_;have t1:=ag.out;have t2:=J.out;go_simp;exact aL
      case' zQ=>simp only[show u 3=_ from a 3]
      case' zR=>
       simp only[show u 4=_ from a 4];cases P;case false=>exact bS
      case' zS=>
       simp only[show u 4=_ from a 4];cases P;case false=>exact bS
      case zT=>
       simp only[show u 5=_ from a 5,show u 6=_ from a 6,show u 4=_ from a 4];cases P;case false=>exact bS
       refine aF ?_;have r:=of_decide_eq_true J.out;have bo:q=some E:=M.out r;have aP:(j:Int)<(n6:Int):=by omega
       have a7:(0:Int)≤(j:Int):=by omega
       clear M;subst bo;go_simp;exact aL
      case' zU=>
       simp only[show u 7=_ from a 7,show u 4=_ from a 4];cases P;case false=>exact bS
      case zV=>
       simp only[show u 8=_ from a 8,show u 4=_ from a 4];cases P;case false=>exact bS
       refine aF ?_;have r:=of_decide_eq_true J.out;exact aw _ _ rfl (E.add (j*7)) rfl z.nm.cells _ (fun aa v X=>(a3.out.trans b).aj ((O.out r).2.2 aa v (by rw[CV.cells,List.getElem?_append_left (List.getElem?_eq_some_iff.1 X).1];exact X)) (fun x=>x)) Tryz.underlying106 rfl aT aL
      case' zA=>
       simp only[show u 4=_ from a 4];cases P;case false=>exact bS
      case zB=>
       simp only[show u 10=_ from a 10,show u 4=_ from a 4];cases P;case false=>exact bS
       refine aF ?_;exact aw _ _ rfl ⟨g7,0,none⟩ rfl d.nm.cells _ (fun aa v X=>by rw[Addr.add_mid,Nat.zero_add,(a2.out.fr (a3.out.trans b) (fun x=>x)).cell aa,bQ,CV.cells,List.getElem?_append_left (List.getElem?_eq_some_iff.1 X).1];exact X) Tryz.underlying106 rfl aT aL
      case zC=>
       simp only[show u 9=_ from a 9,show u 11=_ from a 11,show u 4=_ from a 4];cases P;case false=>exact bS
       refine aF ?_;have r:=of_decide_eq_true J.out;go_simp;refine(bF.out r _).mono ?_;rintro e aQ⟨rfl,f4⟩;exact⟨rfl,f4⟩
      case zD=>
       simp only[show u 12=_ from a 12,show u 4=_ from a 4];cases P;case false=>exact bS
       refine aF ?_;have t:=EQ.out;go_simp;exact aL
      case zE=>
       simp only[show u 4=_ from a 4,show u 13=_ from a 13];cases P<;>exact aF (by go_simp;exact⟨by rw[←HB.out];rfl,az⟩)
      all_goals
       try simp only[cond]
       refine aF ?_;go_simp;exact aL
     intro w' b;simp only[z1,z2,z3,z4,ar,Act.put,z5,z6,z7,z8,z9,jn,jo,Nat.reduceAdd,Nat.zero_add];have a4:=af (a3.out.trans b);clear b a3 bF EQ;cases B
     ·generalize w'=aQ at*;have L:Hid (Fr ah w3 aQ):=bh.out.trans a4.out;clear HB;go_upto_region 12 with fail;refine Ef 9 ah (fun i=>i==7) (fun i j=>(i==7&&(j==0||j==4||j==6))) [⟨fun K am=>∃i:Nat,K= .slice (some ⟨i,0,none⟩) 0 0∧am.ownsRow 0 119 7 (.slice (some ⟨i,0,none⟩) 0 0) 0 []∧aQ.heap.size≤i,fun _ _ _ f⟨i,e,h,l⟩=>⟨i,e,aJ h f (fun _ _ x=>x),l⟩⟩,iS (.slice q n6 k6),iS (.int .i64 (j:Int)),iS (.slice q j k6),⟨fun K am=>am.ownsRow 0 119 7 K j ((ls.take j).flatMap CV.cells)∧∀k,K.ownBlock=some k→aQ.heap.size≤k,fun _ _ _ f h=>⟨aJ h.1 f (fun _ _ x=>x),h.2⟩⟩,iS (.agg d.cells.toArray),⟨fun K am=>∃i:Nat,K= .slice (some ⟨i,0,none⟩) 1 1∧aq am i 119 d.cells.toArray,fun _ _ _ f⟨i,e,h⟩=>⟨i,e,h.fr f (fun x=>x)⟩⟩,⟨fun K am=>dU am K (ls.take j++[d])∧∀k,K.ownBlock=some k→aQ.heap.size≤k,fun _ _ _ f h=>⟨h.1.ao f,h.2⟩⟩,⟨fun K am=>dU am K (ls.take j++[d])∧∀k,K.ownBlock=some k→aQ.heap.size≤k,fun _ _ _ f h=>⟨h.1.ao f,h.2⟩⟩] ?zM ?_;case zM=>
       refine⟨?yE,?yP,?yQ,?yF,?yG,?yH,?yI,?yJ,?yK,trivial⟩;all_goals intro u w' b a cC
       all_goals simp only[z1,z2,z3,z4,ar,Act.put,z5,z6,z7,Nat.reduceAdd,Nat.zero_add]
       case yE=>
        refine aF ?_;refine jI 44 119 rfl Z Tryz.underlying44 I ?_;intro b5 bz;exact⟨_,rfl,bz.fr,⟨w'.heap.size,rfl,bz.AI,b.size⟩⟩
       case yF=>
        simp only[show u 1=_ from a 1,show u 2=_ from a 2];refine aF ?_;have aP:(j:Int)≤(k6:Int):=by have:=ad.out;have:=av.out;omega
        have a7:(0:Int)≤(j:Int):=by omega
        go_simp;exact⟨_,rfl,az,rfl⟩
       case yG=>
        obtain⟨i0,cc,bt,cE⟩:=a 0;simp only[cc,show u 3=_ from a 3];refine aF ?_;refine Bm (.tmp 49) (.tmp 52) 44 rfl 119 Z bY 7 80 Tryz.underlying44 I Y D al rfl (by decide) i0 rfl bt (fun _=>True) q j k6 ((ls.take j).flatMap CV.cells) rfl ((ab.out.ao (L.out.trans b)).take ad.out).rd (by have:=ad.out;have:=s.out;omega) (by have:=ad.out;have:=s.out;omega) ?_;intro v5 b5 cl bv ck;exact⟨_,rfl,bv,cl,fun k r=>(ck k r).elim (fun e=>by omega) (fun e=>Nat.le_trans b.size e)⟩
       case yH=>
        refine aF ?_;exact aw _ _ rfl ⟨g7,0,none⟩ rfl d.cells _ (jJ (a2.out.fr (a4.out.trans b) (fun x=>x))) Tryz.underlying119 rfl jC ⟨_,rfl,az,rfl⟩
       case yI=>
        simp only[show u 5=_ from a 5];refine aF ?_;refine wp_buildSlice 44 119 1 #[(0, .tmp 54)] rfl d.cells.toArray Z bY Tryz.underlying44 I Y bq.out br.out ?_ ?_;·simp only[List.map_toArray,List.map_cons,List.map_nil];exact bs.out d
        ·exact⟨_,rfl,az.alloc _,⟨w'.heap.size,rfl,aq.new _ _ _⟩⟩
       case yJ=>
        obtain⟨ch,b2⟩:=a 4;obtain⟨i6,aP,ci⟩:=a 6;simp only[aP];refine aF ?_;refine tU _ (.tmp 53) (.tmp 55) 44 rfl 119 Z bY 7 80 Tryz.underlying44 I Y D al rfl (by decide) _ _ _ rfl ch (fun _=>True) (some ⟨i6,0,none⟩) 1 1 d.cells rfl ⟨rfl,fun _=>⟨_,rfl,trivial,fun aa x cm=>by rw[Addr.add_mid,Nat.zero_add,ci.cell,bQ];exact cm⟩⟩ (tZ d) (by have:=ad.out;have:=s.out;omega) (by decide) ?_;intro cF cG H;refine⟨_,rfl,⟨b.au H.fr (fun k r e=>by have:=b2 k e;omega),?_⟩,?_,fun k r=>(H.eE k r).elim (b2 k) (fun h=>Nat.le_trans b.size h)⟩;·exact⟨mT,fun _ h=>h,fun _ h=>h,fun _ h=>h,mT,fun _ h=>h,mT,mT,mT,trivial⟩
        ·have h:=H.own;unfold dU;rw[show(ls.take j++[d]).length=j+1 by rw[aW,List.length_take,List.length_singleton,Nat.min_eq_left (by have:=ad.out;have:=ap.out;omega)],List.flatMap_append];simpa using h
       case yK=>
        obtain⟨cj,co⟩:=a 7;refine aF ?_;go_simp;exact⟨_,rfl,az,cj,co⟩
       all_goals
        refine aF ?_;go_simp;exact⟨_,rfl,az,rfl⟩
      intro u w' b a;obtain⟨a9,bB⟩:=a 8 (by omega);obtain⟨bg,bC,bA,bp,cz,b7⟩:=aH a9;rw[bp]at a9 bB;simp only[z1,z2,z3,z4,ar,Act.put,z5,z6,z7,z8,z9,Nat.reduceAdd,Nat.zero_add];clear a;simp only[bp];have aX:=af a9;have a5:=af bB;have ac:=af (a4.out.trans b);clear b a9 bB bp;obtain⟨Q,aZ⟩:∃bD:Bool,yq z.nm d.nm=bD:=⟨_,rfl⟩;have EQ:=af aZ;clear aZ;obtain⟨C,bW⟩:∃z:Bool,(bif P then Q else false)=z:=⟨_,rfl⟩;have aO:=af bW;clear bW;have aY:Hid (∀W,Fr ah w' W→dU W (.slice bg bC bA) (ls.take j++[d])):=fun W f=>aX.out.ao f;clear aX;generalize w'=b5 at*;go_upto_region 13 with fail;refine iW 14 [.int .i64 (j:Int), .slice q n6 k6, .int .i64 (n6:Nat), .bool P, .bool P,bif P then .slice q n6 k6 else undef,bif P then .int .i64 (j:Int)else undef,bif P then .pointer (some (E.add (j*7)))else undef,bif P then .pointer (some (E.add (j*7)))else undef,bif P then .agg z.nm.cells.toArray else undef,bif P then .pointer (some ⟨g7,0,none⟩)else undef,bif P then .agg d.nm.cells.toArray else undef,bif P then .bool Q else undef, .bool C] ?zL ?_;case zL=>
       refine⟨?yN,?yO,?zW,?zX,?zY,?zZ,?yA,?yB,?yC,?yD,?zF,?zG,?zH,?zI,trivial⟩;all_goals intro u w' b a
       all_goals simp only[z1,z2,z3,z4,ar,Act.put,z5,z6,z7,Nat.reduceAdd,Nat.zero_add]
       case' zW=>simp only[show u 1=_ from a 1]
       case zX=>
        simp only[show u 0=_ from a 0,show u 2=_ from a 2];refine aF ?_;have t1:=ag.out;have t2:=J.out;go_simp;exact aL
       case' zY=>simp only[show u 3=_ from a 3]
       case' zZ=>
        simp only[show u 4=_ from a 4];cases P;case false=>exact bS
       case' yA=>
        simp only[show u 4=_ from a 4];cases P;case false=>exact bS
       case yB=>
        simp only[show u 5=_ from a 5,show u 6=_ from a 6,show u 4=_ from a 4];cases P;case false=>exact bS
        refine aF ?_;have r:=of_decide_eq_true J.out;have bo:q=some E:=M.out r;have aP:(j:Int)<(n6:Int):=by omega
        have a7:(0:Int)≤(j:Int):=by omega
        clear M;subst bo;go_simp;exact aL
       case' yC=>
        simp only[show u 7=_ from a 7,show u 4=_ from a 4];cases P;case false=>exact bS
       case yD=>
        simp only[show u 8=_ from a 8,show u 4=_ from a 4];cases P;case false=>exact bS
        refine aF ?_;have r:=of_decide_eq_true J.out;exact aw _ _ rfl (E.add (j*7)) rfl z.nm.cells _ (fun aa v X=>(ac.out.trans b).aj ((O.out r).2.2 aa v (by rw[CV.cells,List.getElem?_append_left (List.getElem?_eq_some_iff.1 X).1];exact X)) (fun x=>x)) Tryz.underlying106 rfl aT aL
       case' zF=>
        simp only[show u 4=_ from a 4];cases P;case false=>exact bS
       case zG=>
        simp only[show u 10=_ from a 10,show u 4=_ from a 4];cases P;case false=>exact bS
        refine aF ?_;exact aw _ _ rfl ⟨g7,0,none⟩ rfl d.nm.cells _ (fun aa v X=>by rw[Addr.add_mid,Nat.zero_add,(a2.out.fr (ac.out.trans b) (fun x=>x)).cell aa,bQ,CV.cells,List.getElem?_append_left (List.getElem?_eq_some_iff.1 X).1];exact X) Tryz.underlying106 rfl aT aL
       case zH=>
        simp only[show u 9=_ from a 9,show u 11=_ from a 11,show u 4=_ from a 4];cases P;case false=>exact bS
        refine aF ?_;exact mc _ _ _ _ _ rfl _ _ rfl rfl Tryz.eqGuardType106 _ (by rw[←EQ.out];exact Ge z.nm d.nm _) aL
       case zI=>
        simp only[show u 4=_ from a 4,show u 12=_ from a 12];cases P<;>exact aF (by go_simp;exact⟨by rw[←aO.out];rfl,az⟩)
       all_goals
        try simp only[cond]
        refine aF ?_;go_simp;exact aL
      intro w' b;simp only[z1,z2,z3,z4,ar,Act.put,z5,z6,z7,z8,z9,jn,jo,Nat.reduceAdd,Nat.zero_add];have aX:=af (aY.out _ b);have F:=af (bh.out.trans (ac.out.trans b));clear b aY;generalize w'=bd at*;have cB:=ad.out;have cw:IntKind.i64.wrap ((k:Int)+1)=(k:Int)+1:=IntWalk.i64_in _ (by have:=bK.out;have:=ae.out;omega);have aU:Hid (C=true→j<n6):=fun h=>by
       have a8:=aO.out;rw[h]at a8;cases P;·cases a8
       ·exact of_decide_eq_true J.out
      clear J ag EQ aO O M ac a2;cases C
      ·clear aU;have aP:(j:Int)≤(n6:Int):=by omega
       have a7:(0:Int)≤(j:Int):=by omega
       obtain⟨N,ai⟩:∃N,(ls.take j++[d]).length=N:=⟨_,rfl⟩;obtain⟨aI,y⟩:∃aI,(ls.take j++[d]).flatMap CV.cells=aI:=⟨_,rfl⟩;obtain⟨T,o⟩:∃T,(ls.drop (j)).flatMap CV.cells=T:=⟨_,rfl⟩;have bn:Hid (bd.ownsRow 0 119 7 (.slice bg bC bA) N aI):=by rw[Hid,←ai,←y];exact aX.out
       have bm:Hid (Rd bd (fun _=>True) 7 (if k6=j then q else q.map (·.add ((j)*7))) (n6-(j)) T):=by rw[Hid,←o];exact((ab.out.ao F.out).cut (k:=j) (cap:=k6) (by omega) av.out).rd
       have R:Hid (∀u∈T,u.oneCell'=true):=by
        rw[Hid,←o];intro u hu;obtain⟨G,_,p⟩:=List.mem_flatMap.1 hu;exact tZ G u p
       have ax:Hid ((N+(n6-(j)))*80≤140737488355328):=by
        have:=s.out;rw[Hid,←ai,aW,List.length_take,List.length_singleton];omega
       have bj:=af ai;have aB:=af y;have aE:=af o;clear ai y o;go_wp2_with(refine eL _ rfl _ _ 44 rfl 119 Z bY 7 80 Tryz.underlying44 I Y D al rfl (by decide) _ _ _ rfl bn.out (fun _=>True) _ _ _ T rfl bm.out R.out ax.out (by decide) ?_);all_goals
        intro v10 aN H;have aG:Hid (Ht w1 aN v10 (ls.take j++[d]++ls.drop (j)) (k+1)):=by
         refine⟨?_,?_,?_,?_,?_⟩;·have h:=H.own;unfold dU;rw[List.flatMap_append,aW,List.length_drop,←ap.out,bj.out,aB.out,aE.out];exact h
         ·have:=g.out.len;have:=ap.out;have:=ad.out;rw[aW,aW,List.length_take,List.length_drop,List.length_singleton];omega
         ·intro G p;rw[List.mem_append,List.mem_append,List.mem_singleton]at p;rcases p with(h|rfl)|h;·exact g.out.small G (List.mem_of_mem_take h)
          ·exact aA.out
          ·exact g.out.small G (List.mem_of_mem_drop h)
         ·exact(g.out.fr.trans F.out).au H.fr (fun i V e=>by have:=a5.out i e;have:=g.out.fr.size;have:=L.out.size;omega)
         ·intro i V;have:=g.out.fr.size;have:=L.out.size;have:=F.out.size;rcases H.eE i V with h|h;·have:=a5.out i h;omega
          ·omega
        clear H;go_wp2;go_roundw;case rel=>exact⟨k+1,_,by omega,by go_num,aG.out⟩
        case measure=>simp[intOf];omega
      ·have bw:j<n6:=aU.out rfl;have cv:IntKind.i64.wrap ((j:Int)+1)=(j:Int)+1:=IntWalk.i64_in _ (by have:=s.out;omega);have aP:(j:Int)+1≤(n6:Int):=by omega
       have a7:(0:Int)≤(j:Int)+1:=by omega
       obtain⟨N,ai⟩:∃N,(ls.take j++[d]).length=N:=⟨_,rfl⟩;obtain⟨aI,y⟩:∃aI,(ls.take j++[d]).flatMap CV.cells=aI:=⟨_,rfl⟩;obtain⟨T,o⟩:∃T,(ls.drop (j+1)).flatMap CV.cells=T:=⟨_,rfl⟩;have bn:Hid (bd.ownsRow 0 119 7 (.slice bg bC bA) N aI):=by rw[Hid,←ai,←y];exact aX.out
       have bm:Hid (Rd bd (fun _=>True) 7 (if k6=j+1 then q else q.map (·.add ((j+1)*7))) (n6-(j+1)) T):=by rw[Hid,←o];exact((ab.out.ao F.out).cut (k:=j+1) (cap:=k6) (by omega) av.out).rd
       have R:Hid (∀u∈T,u.oneCell'=true):=by
        rw[Hid,←o];intro u hu;obtain⟨G,_,p⟩:=List.mem_flatMap.1 hu;exact tZ G u p
       have ax:Hid ((N+(n6-(j+1)))*80≤140737488355328):=by
        have:=s.out;rw[Hid,←ai,aW,List.length_take,List.length_singleton];omega
       have bj:=af ai;have aB:=af y;have aE:=af o;clear ai y o;go_wp2_with(refine eL _ rfl _ _ 44 rfl 119 Z bY 7 80 Tryz.underlying44 I Y D al rfl (by decide) _ _ _ rfl bn.out (fun _=>True) _ _ _ T rfl bm.out R.out ax.out (by decide) ?_);all_goals
        intro v10 aN H;have aG:Hid (Ht w1 aN v10 (ls.take j++[d]++ls.drop (j+1)) (k+1)):=by
         refine⟨?_,?_,?_,?_,?_⟩;·have h:=H.own;unfold dU;rw[List.flatMap_append,aW,List.length_drop,←ap.out,bj.out,aB.out,aE.out];exact h
         ·have:=g.out.len;have:=ap.out;have:=ad.out;rw[aW,aW,List.length_take,List.length_drop,List.length_singleton];omega
         ·intro G p;rw[List.mem_append,List.mem_append,List.mem_singleton]at p;rcases p with(h|rfl)|h;·exact g.out.small G (List.mem_of_mem_take h)
          ·exact aA.out
          ·exact g.out.small G (List.mem_of_mem_drop h)
         ·exact(g.out.fr.trans F.out).au H.fr (fun i V e=>by have:=a5.out i e;have:=g.out.fr.size;have:=L.out.size;omega)
         ·intro i V;have:=g.out.fr.size;have:=L.out.size;have:=F.out.size;rcases H.eE i V with h|h;·have:=a5.out i h;omega
          ·omega
        clear H;go_wp2;go_roundw;case rel=>exact⟨k+1,_,by omega,by go_num,aG.out⟩
        case measure=>simp[intOf];omega
     ·have bw:j<n6:=by
       have h:=HB.out;cases P;·cases h
       ·exact of_decide_eq_true J.out
      have cv:IntKind.i64.wrap ((j:Int)+1)=(j:Int)+1:=IntWalk.i64_in _ (by have:=s.out;omega);clear HB J ag;go_wp2;go_roundw;case rel=>exact⟨j+1,by omega,by go_num,a4.out⟩
      case measure=>simp[intOf];omega
  ·obtain rfl:k=m:=by have:=bK.out;omega
   have t0:decide ((k:Int)<(k:Int))=false:=bZ (by omega);go_wp2;go_ret;exact⟨_,ls,rfl,g.out.row,by have:=g.out.len;have:=ae.out;omega,g.out.small,bJ.out.trans g.out.fr,fun i V=>by have:=g.out.new i V;have:=bJ.out.size;omega⟩
def qS(w:World)(cs:List Value):Prop:=∃(t c n l:Int)(a:Option Addr)(nr d:Nat)(xs:List CV)(f:Nat→Prop)(b:Option Addr)(nw e:Nat)(h:List CV)(g:Nat→Prop),0≤l∧l<256∧
 cs=[Value.int .i64 t, .int .i64 c, .int .i64 n, .int .u8 l, .slice a nr d, .slice b nw e]∧(CL w f a nr xs∧nr≤9223372036854775807∧nr≤d)∧(CL w g b nw h∧nw≤9223372036854775807∧nw≤e)
theorem qS.ao{w w':World}{cs:List Value}(h:qS w cs)(a:Fr ah w w'):qS w' cs:=by
 obtain⟨t,c,n,l,b,nr,g,xs,e,d,nw,i,v,f,j,k,m,⟨o,p,q⟩,r,s,u⟩:=h;exact⟨t,c,n,l,b,nr,g,xs,e,d,nw,i,v,f,j,k,m,⟨o.ao a,p,q⟩,r.ao a,s,u⟩
def Jv(w:World)(e:Ending)(w':World):Prop:=∃cs a,e= .returned (.agg cs.toArray)∧cy w' cs a∧fZ a∧jN w.heap.size cs∧Fr ah w w'
def EG:Array Value:=#[.string ⟨#[49]⟩, .string ⟨#[49,46,49]⟩, .string ⟨#[50]⟩, .string ⟨#[49,48]⟩]
def oq:Nat→ByteArray
 |0=>⟨#[49]⟩
 |1=>⟨#[49,46,49]⟩
 |2=>⟨#[50]⟩
 |3=>⟨#[49,48]⟩
 |_=>ByteArray.empty
theorem EH:∀{q:Nat},q<4→(oq q).size≤100∧EG[q]? =some (.string (oq q))
 |0,_=>⟨by decide,rfl⟩
 |1,_=>⟨by decide,rfl⟩
 |2,_=>⟨by decide,rfl⟩
 |3,_=>⟨by decide,rfl⟩
def IN(t c n l:Int):dH:=⟨t,c,n,if c=0 then ByteArray.empty else oq (l.tmod 4).toNat⟩
def xU(k:dH)(w:World)(e:Ending)(w':World):Prop:=∃cs a,e= .returned (.agg cs.toArray)∧cy w' cs a∧fZ a∧jN w.heap.size cs∧Fr ah w w'∧a.key=k
theorem Cj(t c n:Int):Tryz.prog.built 43 [(0, .int .i64 t),(1, .int .i64 c),(2, .int .i64 n)]=some [Value.int .i64 t, .int .i64 c, .int .i64 n, .string ByteArray.empty].toArray:=by kernel_rfl
theorem Gl:(Tryz.prog.info? 41).map (fun i=>(i.zero,i.size,i.bytes))=some (some (.string ByteArray.empty),1,16):=by kernel_rfl
theorem IL:(Tryz.prog.info? 72).map (·.size)=some 6:=by kernel_rfl
theorem Ce(t c n l:Int)(M:Option Addr)(nr P:Nat)(xs:List CV)(a4:Nat→Prop)(N:Option Addr)(nw Q:Nat)(bp:List CV)(a5:Nat→Prop)(w:World)(g:0≤l)(m:l<256)(ba:CL w a4 M nr xs)(bb:nr≤9223372036854775807)(F:nr≤P)(bc:CL w a5 N nw bp)(ai:nw≤9223372036854775807)(bd:nw≤Q):
  Calls Tryz.prog 30 #[.agg [Value.int .i64 t, .int .i64 c, .int .i64 n, .int .u8 l, .slice M nr P, .slice N nw Q].toArray] w (xU (IN t c n l) w):=by
 have a0:Hid (∀w',Fr ah w w'→Calls Tryz.prog 81 #[.slice M nr P] w' (pt w')):=fun w' f=>nE nr xs M P a4 w' (ba.ao f) bb F;have a1:Hid (∀w',Fr ah w w'→Calls Tryz.prog 81 #[.slice N nw Q] w' (pt w')):=fun w' f=>nE nw bp N Q a5 w' (bc.ao f) ai bd;have aZ:=af (Cj t c n);have bt:Hid (∀(s:ByteArray)(A B:Option Addr)(x y z u:Nat),Tryz.prog.built 46 [(0, .agg [Value.int .i64 t, .int .i64 c, .int .i64 n, .string s].toArray),(1, .slice A x y),(2, .slice B z u)]=some ([Value.int .i64 t, .int .i64 c, .int .i64 n, .string s]++[Value.slice A x y, .slice B z u]).toArray):=fun s A B x y z u=>xb t c n s A B x y z u;obtain⟨q,aT,aa⟩:∃q:Nat,l.tmod 4=(q:Int)∧q<4:=⟨(l.tmod 4).toNat,by rw[Int.tmod_eq_emod_of_nonneg g];omega,by rw[Int.tmod_eq_emod_of_nonneg g];omega⟩;have aC:=af aa;have Z:IN t c n l=⟨t,c,n,if c=0 then ByteArray.empty else oq q⟩:=by unfold IN;rw[aT,Int.toNat_natCast]
 obtain⟨s,ab⟩:∃s,(if c=0 then ByteArray.empty else oq q)=s:=⟨_,rfl⟩;rw[Z,ab];have J:Hid ((c=0→s=ByteArray.empty)∧(c≠0→s=oq q)∧s.size≤100):=by
  refine⟨fun h=>by rw[←ab,if_pos h],fun h=>by rw[←ab,if_neg h],?_⟩;rw[←ab];split;·decide
  ·exact(EH aa).1
 clear Z ab;clear ba bb F bc ai bd;have bw:Hid (0≤l∧l<256):=⟨g,m⟩;clear g m;go_enter Tryz.func30,Tryz.ntmps30;go_wp2_with(refine aB rfl 72 (.tmp 0) rfl _ rfl ?_);intro w1 n1;have ay:=af n1.fr;have al:=af n1.aD;clear n1;generalize W:w.heap.size=g1 at*;have bv:=af W;clear W;go_wp2_with(refine an rfl 46 rfl eC j8 #[.int .i64 0, .int .i64 0, .int .i64 0, .string ByteArray.empty, .slice none 0 0, .slice none 0 0] rfl ?_);intro w2 bk;have ae:=af bk;clear bk;generalize X:w1.heap.size=g2 at*;have T:=af X;clear X;have aX:Hid (aq w2 g2 46 #[.int .i64 0, .int .i64 0, .int .i64 0, .string ByteArray.empty, .slice none 0 0, .slice none 0 0]):=by have h:=ae.out.aD;rw[T.out]at h;exact h
 have ad:=af (ay.out.trans ae.out.fr);have o:=af (al.out.fr ae.out.fr (fun x=>x));have C:Hid (w.heap.size≤g2∧g1<g2):=by have:=ay.out.size;have:=T.out;have:=al.out.lt;exact⟨by omega,by omega⟩
 clear ae al ay;have bU:w2.cell? ⟨g1,0,none⟩=some (.int .i64 t):=o.out.cell 0;have aV:w2.cell? ⟨g1,1,none⟩=some (.int .i64 c):=o.out.cell 1;have bV:w2.cell? ⟨g1,2,none⟩=some (.int .i64 n):=o.out.cell 2;go_wp2_with(refine dL rfl 43 _ rfl [Value.int .i64 t, .int .i64 c, .int .i64 n, .string ByteArray.empty].toArray _ (by simp only[List.map_toArray,List.map_cons,List.map_nil];rfl) aZ.out (aR.go ?zA));unfold aR;go_wp2_with(refine an rfl 43 rfl zf Ei #[.int .i64 0, .int .i64 0, .int .i64 0, .string ByteArray.empty] rfl ?_);intro w3 n3;have aG:=af n3;clear n3 bU aV bV;generalize Y:w2.heap.size=g3 at*;have G:=af Y;clear Y;have aY:Hid (aq w3 g3 43 #[.int .i64 0, .int .i64 0, .int .i64 0, .string ByteArray.empty]):=by have h:=aG.out.aD;rw[G.out]at h;exact h
 have aH:Hid ([Value.int .i64 t, .int .i64 c, .int .i64 n, .string ByteArray.empty].toArray.all (·.oneCell')=true):=by simp[Hid,Value.oneCell']
 go_wp2_with(refine ak rfl 43 (.tmp 3) _ rfl g3 [Value.int .i64 t, .int .i64 c, .int .i64 n, .string ByteArray.empty].toArray rfl rfl _ _ aY.out fQ rfl aH.out ?_);intro aW b4 f4;have am:Hid (aq aW g3 43 #[.int .i64 t, .int .i64 c, .int .i64 n, .string ByteArray.empty]):=b4;have R:Hid (Fr ah w2 aW):=aG.out.fr.au f4 (fun i bI e=>by have U:i=g3:=e;have:=G.out;omega);clear b4 f4 aG aY;have aA:Hid (g2<g3):=by have:=aX.out.lt;have:=G.out;simp only[Hid];omega
 have aV:aW.cell? ⟨g1,1,none⟩=some (.int .i64 c):=(o.out.fr R.out (fun x=>x)).cell 1;obtain⟨D,be⟩:∃z:Bool,(c !=0)=z:=⟨_,rfl⟩;have V:decide (c=0)=!D:=by rw[←be];by_cases h:c=0<;>simp[h]
 go_upto_if 13 with fail;have S:Hid (decide (c=0)=!D):=V;clear be V aV;go_cut[1,2,3](fun bR bS bT bo=>bR= .pointer (some ⟨g1,0,none⟩)∧bS= .pointer (some ⟨g2,0,none⟩)∧bT= .pointer (some ⟨g3,0,none⟩)∧Fr ah w2 bo∧aq bo g3 43 #[.int .i64 t, .int .i64 c, .int .i64 n, .string s]);case first=>
  cases D;·go_wp2;go_meet;exact⟨rfl,rfl,rfl,R.out,by rw[J.out.1 (by simpa using S.out)];exact am.out⟩
  ·obtain⟨i0,bJ,bi,ac,bK⟩:=info_parts Gl;have bG:Hid (¬4*i0.size>2^24):=by simp only[Hid];rw[ac];omega
   have bH:Hid (¬4*i0.size=0):=by simp only[Hid];rw[ac];omega
   have b6:IntKind.u8.wrap (q:Int)=(q:Int):=IntWalk.u8_in _ (by have:=aC.out;omega);have b2:(q:Int)<4:=by have:=aC.out;omega
   have b5:(0:Int)≤(q:Int):=by omega
   go_upto_region 3 with fail;refine y9 6 [⟨fun E r=>∃i:Nat,E= .slice (some ⟨i,0,none⟩) 4 4∧aq r i 41 EG,fun _ _ _ f⟨i,e,h⟩=>⟨i,e,h.fr f (fun x=>x)⟩⟩,iS (.pointer (some ⟨g1,3,none⟩)),iS (.int .u8 l),iS (.int .u8 (q:Int)),⟨fun E r=>∃i:Nat,E= .pointer (some ⟨i,q,none⟩)∧r.cell? ⟨i,q,none⟩=some (.string (oq q)),fun _ _ _ f⟨i,e,c⟩=>⟨i,e,f.aj c (fun x=>x)⟩⟩,iS (.string (oq q))] ?zC ?_;case zC=>
    refine⟨?zK,?zR,?zL,?zM,?zN,?zO,trivial⟩;all_goals intro u w' d b
    all_goals simp only[z1,z2,z3,z4,ar,Act.put,z5,z6,z7,Nat.reduceAdd,Nat.zero_add]
    case zK=>
     refine aF ?_;go_simp;exact⟨_,rfl,az.alloc _,⟨w'.heap.size,rfl,aq.new _ _ _⟩⟩
    case zL=>
     simp only[show u 1=_ from b 1];refine aF ?_;have q:_=some _:=(o.out.fr (R.out.trans d) (fun x=>x)).cell 3;go_simp;exact⟨_,rfl,az,rfl⟩
    case zM=>
     simp only[show u 2=_ from b 2];refine aF ?_;go_simp;exact⟨_,rfl,az,rfl⟩
    case zN=>
     obtain⟨aU,bE,b0⟩:=b 0;simp only[bE,show u 3=_ from b 3];refine aF ?_;obtain⟨_,aQ⟩:=EH aC.out;go_simp;exact⟨_,rfl,az,⟨aU,rfl,by rw[←aQ];exact b0.cell q⟩⟩
    case zO=>
     obtain⟨i4,aL,b1⟩:=b 4;simp only[aL];refine aF ?_;go_simp;exact⟨_,rfl,az,rfl⟩
    all_goals
     refine aF ?_;go_simp;exact⟨_,rfl,az,rfl⟩
   intro u w' d b;simp only[z1,z2,z3,z4,ar,Act.put,z5,z6,z7,z8,z9,Nat.reduceAdd,Nat.zero_add,show u 5=_ from b 5 (by omega)];clear b;have I:=af (R.out.trans d);have ap:=af (am.out.fr d (fun x=>x));have es:Hid (oq q=s):=(J.out.2.1 (by simpa using S.out)).symm;have aI:Hid ((Value.string (oq q)).oneCell'=true):=by simp[Hid,Value.oneCell']
   clear d;go_wp2_with(refine aM rfl 41 _ _ rfl g3 3 (.string (oq q)) rfl rfl aI.out uT _ _ #[.int .i64 t, .int .i64 c, .int .i64 n, .string (oq q)] ap.out (show 3<4 by decide) rfl ?_);intro bn O f6;have bs:=af O;have bu:Hid (Fr ah w2 bn):=I.out.au f6 (fun i bI e=>by have U:i=g3:=e;have:=G.out;omega);clear O f6;go_wp2;go_meet;exact⟨rfl,rfl,rfl,bu.out,by rw[←es.out];exact bs.out⟩
 case rest=>
  obtain⟨rfl,rfl,rfl,d,bf⟩:=hcut;have I:=af d;have ap:=af bf;have bz:Hid (s.size≤100):=J.out.2.2;clear d bf am R;have a3:Hid (aq wc g2 46 #[.int .i64 0, .int .i64 0, .int .i64 0, .string ByteArray.empty, .slice none 0 0, .slice none 0 0]):=aX.out.fr I.out (fun x=>x);have a2:=af (o.out.fr I.out (fun x=>x));have av:Hid (∀w',Fr (fun k=>k=g2) wc w'→Calls Tryz.prog 81 #[.slice M nr P] w' (pt w')):=fun w' f=>a0.out w' ((ad.out.trans I.out).au f (fun k zA e=>by have U:k=g2:=e;have:=C.out;omega));have ax:Hid (∀w',Fr (fun k=>k=g2) wc w'→Calls Tryz.prog 81 #[.slice N nw Q] w' (pt w')):=fun w' f=>a1.out w' ((ad.out.trans I.out).au f (fun k zA e=>by have U:k=g2:=e;have:=C.out;omega));have aE:Hid (w.heap.size≤wc.heap.size):=(ad.out.trans I.out).size;have bA:Hid ((Tryz.prog.info? 46).map (·.size)=some 6):=bM;clear a0 a1 aZ;go_upto_region 4 with fail;refine Ef 9 (fun k=>k=g2) (fun i=>i==8) (fun i j=>(i==8&&(j==0||j==1||j==2||j==3||j==4||j==5||j==6||j==7))) [iS (.agg [Value.int .i64 t, .int .i64 c, .int .i64 n, .string s].toArray),iS (.pointer (some ⟨g1,4,none⟩)),iS (.slice M nr P),⟨fun E r=>∃l,dU r E l∧l.length≤6∧(∀c∈l,eh c)∧∀k,E.ownBlock=some k→wc.heap.size≤k,fun _ _ _ f⟨l,g,m⟩=>⟨l,g.ao f,m⟩⟩,iS (.pointer (some ⟨g1,5,none⟩)),iS (.slice N nw Q),⟨fun E r=>∃l,dU r E l∧l.length≤6∧(∀c∈l,eh c)∧∀k,E.ownBlock=some k→wc.heap.size≤k,fun _ _ _ f⟨l,g,m⟩=>⟨l,g.ao f,m⟩⟩,⟨fun E r=>∃(ds:List Value)(H:ActV),E= .agg ds.toArray∧cy r ds H∧fZ H∧jN wc.heap.size ds∧H.key=⟨t,c,n,s⟩,fun _ _ _ f⟨l,a,aN,g,m⟩=>⟨l,a,aN,g.ao f,m⟩⟩,⟨fun _ r=>∃(ds:List Value)(H:ActV),aq r g2 46 ds.toArray∧cy r ds H∧fZ H∧jN wc.heap.size ds∧H.key=⟨t,c,n,s⟩,fun _ _ _ f⟨l,a,aN,g,m⟩=>⟨l,a,aN.fr f (fun x=>x),g.ao f,m⟩⟩] ?zB ?_;case zB=>
   refine⟨?zD,?zP,?zE,?zF,?zQ,?zG,?zH,?zI,?zJ,trivial⟩;all_goals intro u w' d b aT
   all_goals simp only[z1,z2,z3,z4,ar,Act.put,z5,z6,z7,Nat.reduceAdd,Nat.zero_add]
   case zD=>
    refine aF ?_;exact aw _ _ rfl ⟨g3,0,none⟩ rfl [Value.int .i64 t, .int .i64 c, .int .i64 n, .string s] _ (fun bL v bh=>by rw[←bQ]at bh;rw[Addr.add_mid,Nat.zero_add,(ap.out.fr d (fun e=>by have a6:g3=g2:=e;have:=aA.out;omega)).cell bL];exact bh) Tryz.underlying43 rfl fQ ⟨_,rfl,az,rfl⟩
   case zE=>
    simp only[show u 1=_ from b 1];refine aF ?_;have q:_=some _:=(a2.out.fr d (fun e=>by have a6:g1=g2:=e;have:=C.out;omega)).cell 4;go_simp;exact⟨_,rfl,az,rfl⟩
   case zF=>
    simp only[show u 2=_ from b 2];refine aF ?_;go_simp;refine(av.out _ d).mono ?_;rintro e bZ⟨v,l,rfl,g,m,L,f5,F⟩;exact⟨_,rfl,f5,l,g,m,L,fun k zA=>by have:=F k zA;have:=d.size;omega⟩
   case zG=>
    simp only[show u 4=_ from b 4];refine aF ?_;have q:_=some _:=(a2.out.fr d (fun e=>by have a6:g1=g2:=e;have:=C.out;omega)).cell 5;go_simp;exact⟨_,rfl,az,rfl⟩
   case zH=>
    simp only[show u 5=_ from b 5];refine aF ?_;go_simp;refine(ax.out _ d).mono ?_;rintro e bZ⟨v,l,rfl,g,m,L,f5,F⟩;exact⟨_,rfl,f5,l,g,m,L,fun k zA=>by have:=F k zA;have:=d.size;omega⟩
   case zI=>
    obtain⟨bO,L,b3,bW,n3⟩:=b 3;obtain⟨bP,F,O,bX,n6⟩:=b 6;simp only[show u 0=_ from b 0];refine aF ?_;obtain⟨bq,m3,c3,a7,L⟩:=L.form;obtain⟨br,m6,bD,a8,F⟩:=F.form;rw[a7]at n3;rw[a8]at n6;simp only[a7,a8];exact gR 46 _ rfl ([Value.int .i64 t, .int .i64 c, .int .i64 n, .string s]++[Value.slice bq m3 c3, .slice br m6 bD]).toArray _ (by simp only[List.map_toArray,List.map_cons,List.map_nil];rfl) (bt.out _ _ _ _ _ _ _) ⟨_,rfl,az,⟨_,⟨⟨t,c,n,s⟩,bO,bP⟩,rfl,⟨_,_,rfl,L,F⟩,⟨bz.out,bW,bX,b3,O⟩,uG (k:=⟨t,c,n,s⟩) n3 n6,rfl⟩⟩
   case zJ=>
    obtain⟨K,aK,bF,aJ,bY,n7,bN⟩:=b 7;simp only[bF];refine aF ?_;have aO:∃ag,aq w' g2 46 ag∧ag.size=6:=⟨_,a3.out.fr aT (fun x=>x),rfl⟩;have bg:K.toArray.size=6:=by rw[List.size_toArray,aJ.len]
    obtain⟨ag,aP,aS⟩:=aO;refine Lt.oh 46 (.tmp 2) (.tmp 28) rfl g2 K.toArray rfl rfl _ ag aP (by rw[bg];exact bA.out) (by rw[aS,bg]) (ActV.one aJ) ?_;intro bn O f6;exact⟨_,rfl,⟨d.trans f6,mT,mT,mT,mT,mT,mT,mT,mT,mT,trivial⟩,⟨K,aK,O,aJ.yc n7 f6 (fun k e=>by have U:k=g2:=e;have:=a3.out.lt;omega),bY,n7,bN⟩⟩
   all_goals
    refine aF ?_;go_simp;exact⟨_,rfl,az,rfl⟩
  intro u w' d b;have ai:=b 8 (by omega);simp only[z1,z2,z3,z4,ar,Act.put,z5,z6,z7,z8,z9,Nat.reduceAdd,Nat.zero_add];clear b;obtain⟨ds,H,b9,a9,bm,bl,bj⟩:=ai;have bC:=af b9;have bB:Hid ((Tryz.prog.info? 46).map (·.size)=some ds.toArray.size):=by rw[Hid,List.size_toArray,a9.len];exact bM
  have bx:Hid (xU ⟨t,c,n,s⟩ w (.returned (.agg ds.toArray)) w'):=⟨ds,H,rfl,a9,bm,bl.mono aE.out,(ad.out.trans I.out).au d (fun k zA e=>by have U:k=g2:=e;have:=C.out;omega),bj⟩;clear d b9 a9 bm bl bj;go_wp2;exact bodyPost_ret (results_cell_row (fn:=Tryz.f30) (p:=2) (ty:=46) Tryz.results30 _ w' _ 46 ds.toArray (0,0) _ rfl bC.out Tryz.underlying46 rfl bB.out) rfl bx.out
theorem zr(cs:List Value)(w:World)(u:qS w cs):∃k,∀w',Fr ah w w'→Calls Tryz.prog 30 #[.agg cs.toArray] w' (xU k w'):=by
 obtain⟨t,c,n,l,a,nr,g,xs,d,b,nw,h,v,e,i,j,rfl,⟨m,o,p⟩,q,r,s⟩:=u;exact⟨_,fun w' f=>Ce t c n l a nr g xs d b nw h v e w' i j (m.ao f) o p (q.ao f) r s⟩
theorem zq(cs:List Value)(w:World)(i:qS w cs):Calls Tryz.prog 30 #[.agg cs.toArray] w (Jv w):=by
 obtain⟨k,h⟩:=zr cs w i;refine(h w az).mono ?_;rintro e w'⟨cs',a,b,c,d,f,g,_⟩;exact⟨cs',a,b,c,d,f,g⟩
def Hj(w:World)(e:Ending)(w':World):Prop:=∃s E,e= .returned (.pointer (some ⟨s,0,none⟩))∧ec w' s E∧cI 6 E∧Fr ah w w'
theorem Cg(n:Nat)(xs:List CV)(A:Option Addr)(D:Nat)(S:Nat→Prop)(w:World)(Y:CL w S A n xs)(ae:n≤9223372036854775807)(aa:n≤D)(Z:ed w):
  Calls Tryz.prog 28 #[.slice A n D] w (Hj w):=by
 have Q:Hid (∀w',Fr ah w w'→Calls Tryz.prog 81 #[.slice A n D] w' (pt w')):=fun w' f=>nE n xs A D S w' (Y.ao f) ae aa;have an:=af Z;clear Y ae aa Z;go_enter Tryz.func28,Tryz.ntmps28;go_wp2_with fail;refine(qO _).mono ?_;rintro e w1⟨ak,rfl,y,f1⟩;have G:=af f1;have W:Hid (ec w1 ak []):=⟨_,y,rfl⟩;clear y f1;go_wp2_with fail;refine(Q.out _ G.out).mono ?_;rintro e w2⟨v,l,rfl,ai,ar,z,f2,_⟩;obtain⟨au,b,M,rfl,U,o,t⟩:=ai.cl;have R:=af (G.out.trans f2);have ap:=af (W.out.ao f2);have am:=af t;have h:Hid (b≤6∧b=l.length∧b≤M):=⟨by omega,U,o⟩;have I:=af z;clear ai ar z f2 t U o Q W G;go_wp2;go_loopw[3,5](fun s i wr=>∃(k F:Nat)(E:List Ent),k≤b∧s= .pointer (some ⟨F,0,none⟩)∧i= .int .i64 (k:Int)∧ec wr F E∧cI k E∧Fr ah w2 wr)(fun _ i _=>b-(intOf i).toNat);case atStart=>exact⟨0,ak,[],Nat.zero_le _,rfl,rfl,ap.out,cI.nil,az⟩
 case round=>
  obtain⟨k,s,E,ad,rfl,rfl,aj,ac,ab⟩:=hrel;have V:=af ad;have J:=af aj;have C:=af ac;have B:=af ab;clear ad aj ac ab;by_cases N:k<b
  ·have t0:decide ((k:Int)<(b:Int))=true:=cT (by omega);obtain⟨X,c,rfl,r,a⟩:=(am.out.ao B.out).at_ N;have H:Hid (CL wr (fun _=>True) (some (X.add (k*7))) 1 [c]):=⟨⟨rfl,fun _=>⟨_,rfl,trivial,fun j x g=>a j x (by simpa using g)⟩⟩,rfl⟩;have m:=af (I.out c (List.mem_of_getElem? r));have O:¬M=k:=by have:=h.out;omega
   have av:IntKind.i64.wrap ((k:Int)+1)=(k:Int)+1:=IntWalk.i64_in _ (by have:=h.out;omega);have b0:(0:Int)≤(k:Int):=by omega
   have b1:(k:Int)≤(k:Int)+1:=by omega
   have b2:(k:Int)+1≤(M:Int):=by have:=h.out;omega
   have P:Hid (∀L,Calls Tryz.prog 82 #[.pointer (some ⟨s,0,none⟩), .slice (some (X.add (k*7))) 1 L] wr (lz wr E [c])):=fun L=>tW E [c] 1 k _ L _ s wr J.out (an.out.ao (R.out.trans B.out)) C.out H.out (fun x g=>by rw[List.mem_singleton]at g;rw[g];exact m.out) (by have:=h.out;have:=V.out;omega);clear a r;go_wp2_with fail;refine(P.out _).mono ?_;rintro e w3⟨p,q,rfl,f3,d⟩;have T:=af (B.out.trans f3);have K:=af (J.out.ao f3);clear f3 P b0 b1 b2 O;rcases d with⟨ag,rfl,F,rfl,u⟩|⟨_,rfl,rfl⟩
   ·have aq:=af u;have al:Hid (cI (k+1) (iZ [c] E)):=qF [c] E k C.out (fun x g=>by rw[List.mem_singleton]at g;rw[g];exact m.out) ag;clear u ag;go_wp2;go_roundw;case rel=>exact⟨k+1,F,_,by omega,rfl,by go_num,aq.out,al.out,T.out⟩
    case measure=>simp[intOf];omega
   ·go_wp2;go_roundw;case rel=>exact⟨k+1,s,E,by omega,rfl,by go_num,K.out,C.out.more (by omega),T.out⟩
    case measure=>simp[intOf];omega
  ·obtain rfl:k=b:=by have:=V.out;omega
   have t0:decide ((k:Int)<(k:Int))=false:=bZ (by omega);go_wp2;go_ret;exact⟨s,E,rfl,J.out,C.out.more h.out.1,R.out.trans B.out⟩
def Mod(w:World)(cs:List Value)(b:Nat)(E:List Ent)(L:List ActV):Prop:=∃(A:Option Addr)(n c:Nat),cs=[Value.pointer (some ⟨b,0,none⟩), .slice A n c]∧n=L.length∧n≤c∧ec w b E∧jr w (.slice A n c) L
theorem Mod.ao{w w':World}{cs:List Value}{b:Nat}{E:List Ent}{L:List ActV}(h:Mod w cs b E L)(a:Fr ah w w'):Mod w' cs b E L:=by
 obtain⟨A,n,c,d,e,f,g,i⟩:=h;exact⟨A,n,c,d,e,f,g.ao a,i.ao a⟩
def Cb(w:World)(X:List Ent)(e:Ending)(w':World):Prop:=∃s,e= .returned (.pointer (some ⟨s,0,none⟩))∧ec w' s X∧Fr ah w w'
theorem vS(cs:List Value)(b:Nat)(E:List Ent)(L:List ActV)(k:Nat)(w:World)(ak:Mod w cs b E L)(T:ed w)(S:cI 24 E)(K:eS L)(am:k≤L.length):
  Calls Tryz.prog 41 #[.agg cs.toArray, .int .i64 (k:Int)] w (Cb w (ee (L.take k) E)):=by
 obtain⟨A,n,c,rfl,N,al,U,ai,h,B⟩:=ak;have I:Hid (∀j,j<L.length→∃r f a,A=some r∧L[j]? =some a∧cy w f a∧f.length=6∧∀i x,f[i]? =some x→w.cell? ((r.add (j*6)).add i)=some x):=fun j G=>kb h B N G;have u:Hid (k≤n∧n≤16∧n=L.length):=by have:=K.len;exact⟨by omega,by omega,N⟩
 have ac:=af T;have Z:=af S;have v:=af K;have HB:=af U;clear h B N al T S K U am;go_enter Tryz.func41,Tryz.ntmps41;go_wp2_with(refine aB rfl 28 (.tmp 0) rfl _ rfl ?_);intro w1 n1;have t:=af n1.fr;have P:=af n1.aD;clear n1;generalize w.heap.size=g1 at*;have aq:w1.cell? ⟨g1,0,none⟩=some (.pointer (some ⟨b,0,none⟩)):=P.out.cell 0;have ae:=af (HB.out.ao t.out);go_wp2;go_loopw[5,6](fun s i wr=>∃(j F:Nat),j≤k∧s= .pointer (some ⟨F,0,none⟩)∧i= .int .i64 (j:Int)∧ec wr F (ee (L.take j) E)∧Fr ah w1 wr)(fun _ i _=>k-(intOf i).toNat);case atStart=>exact⟨0,b,Nat.zero_le _,rfl,rfl,by rw[List.take_zero];exact ae.out,az⟩
 case round=>
  obtain⟨j,s,G,rfl,rfl,W,V⟩:=hrel;have aa:=af G;have R:=af W;have o:=af V;clear G W V;by_cases an:j<k
  ·have t0:decide ((j:Int)<(k:Int))=true:=cT (by omega);obtain⟨r,f,a,rfl,l,y,z,d⟩:=I.out j (by have:=u.out;omega);have ap:wr.cell? ⟨g1,1,none⟩=some (.slice (some r) n c):=(P.out.fr o.out (fun x=>x)).cell 1;have i0:(j:Int)<(n:Int):=by have:=u.out;omega
   have i1:(0:Int)≤(j:Int):=by omega
   have ad:Hid ((Tryz.prog.info? 46).map (·.size)=some f.length):=by rw[Hid,z];exact bM
   have H:Hid (∀i x,f[i]? =some x→wr.cell? ((r.add (j*6)).add i)=some x):=fun i x O=>(t.out.trans o.out).aj (d i x O) (fun x=>x);have Y:Hid (cI (24+6*j) (ee (L.take j) E)):=by
    have:=iG (L.take j) E 24 Z.out (fun a M=>v.out.ok a (List.mem_of_mem_take M)) (fun a M=>v.out.small a (List.mem_of_mem_take M));rw[List.length_take,Nat.min_eq_left (by have:=u.out;omega)]at this;exact this
   have g:=List.mem_of_getElem? l;have Q:Hid (Calls Tryz.prog 86 #[.agg f.toArray, .pointer (some ⟨s,0,none⟩)] wr (lz wr (ee (L.take j) E) a.writes)):=jq _ a f _ s wr (y.ao (t.out.trans o.out)) R.out (ac.out.ao (t.out.trans o.out)) Y.out (v.out.small a g).writes (by have:=(v.out.small a g).nw;have:=u.out;omega);have ab:=af (vG l E);have J:=af (nS (v.out.ok a g));have ar:IntKind.i64.wrap ((j:Int)+1)=(j:Int)+1:=IntWalk.i64_in _ (by have:=u.out;omega);clear d l y z g;go_wp2_with(refine aC rfl 46 (.tmp 18) rfl (r.add (j*6)) rfl f _ ?zA Tryz.underlying46 rfl ad.out (aR.go ?zB));case zA=>exact H.out
   unfold aR;go_wp2_with fail;refine Q.out.mono ?_;rintro e w3⟨p,q,rfl,f3,m⟩;rcases m with⟨_,rfl,F,rfl,C⟩|⟨⟨x,O,D⟩,_⟩
   ·have X:=af (o.out.trans f3);have ag:Hid (ec w3 F (ee (L.take (j+1)) E)):=by rw[Hid,ab.out];exact C
    clear f3 C Q ap;go_wp2;go_roundw;case rel=>exact⟨j+1,F,by omega,rfl,by go_num,ag.out,X.out⟩
    case measure=>simp[intOf];omega
   ·rw[J.out x O]at D;cases D
  ·obtain rfl:j=k:=by have:=aa.out;omega
   have t0:decide ((j:Int)<(j:Int))=false:=bZ (by omega);go_wp2;go_ret;exact⟨s,rfl,R.out,t.out.trans o.out⟩
def Ho(w:World)(E:List Ent)(L:List ActV)(n:Int)(e:Ending)(w':World):Prop:=
 Fr ah w w'∧((0≤n∧n≤L.length∧∃s,e= .returned (.tuple #[.pointer (some ⟨s,0,none⟩), .int .i64 0])∧ec w' s (ee (L.take n.toNat) E))∨(¬(0≤n∧n≤L.length)∧e= .returned (.tuple #[.pointer none, .int .i64 2])))
theorem zl(h:Nat)(E:List Ent)(L:List ActV)(T:Nat→Prop)(n:Int)(w:World)(aq:eD w h E L T)(ar:ed w)(ap:cI 24 E)(ae:eS L):
  Calls Tryz.prog 38 #[.pointer (some ⟨h,0,none⟩), .int .i64 n] w (Ho w E L n):=by
 by_cases g:n=L.length;·subst g;refine(ng h E L T w aq).mono ?_;rintro e w'⟨s,rfl,rfl,W⟩;exact⟨az, .inl ⟨by omega,by omega,s,rfl,by rw[Int.toNat_natCast,List.take_of_length_le (Nat.le_refl _)];exact W⟩⟩
 obtain⟨b,s,g0,va,vk,K,A,c,mb,D,rfl⟩:=aq;obtain⟨aK,o,P⟩:=D.jt;obtain⟨X,n1,N,rfl,H1,H⟩:=aH o;have I:Hid (∀j,j<L.length→∃r k a,X=some r∧L[j]? =some a∧cy w k a∧k.length=6∧∀i x,k[i]? =some x→w.cell? ((r.add (j*6)).add i)=some x):=fun j V=>kb o P H1.out V;have Z:Hid (n1=L.length∧n1≤16∧n1≤N):=by have:=H1.out;have:=ae.len;have:=H.out;exact⟨by assumption,by omega,by assumption⟩
 have ak:=af (iO w h b (D.aD.cell 0));have aZ:w.cell? ⟨h,0,none⟩=some (.pointer (some ⟨b,0,none⟩)):=D.aD.cell 0;have a0:w.cell? ⟨h,1,none⟩=some (.slice X n1 N):=D.aD.cell 1;have HB:=af D.base;have aF:=af ar;have aA:=af ap;have M:=af ae;have J:=af g;clear D o P H1 H ar ap ae g;go_enter Tryz.func38,Tryz.ntmps38;go_wp2_with fail;refine ak.out.mono ?_;rintro e w'⟨rfl,rfl⟩;clear ak;by_cases O:n<0
 ·have t1:decide (n<0)=true:=decide_eq_true O;have ab:Hid (¬(0≤n∧n≤L.length)):=by simp only[Hid];omega
  clear O;go_wp2;go_ret2;exact⟨az, .inr ⟨ab.out,rfl⟩⟩
 have t1:decide (n<0)=false:=decide_eq_false O;by_cases v:(n1:Int)<n
 ·have t2:decide ((n1:Int)<n)=true:=decide_eq_true v;have ab:Hid (¬(0≤n∧n≤L.length)):=by have:=Z.out;simp only[Hid];omega
  clear O v;go_wp2;go_ret2;exact⟨az, .inr ⟨ab.out,rfl⟩⟩
 obtain⟨m,rfl⟩:∃m:Nat,n=m:=⟨n.toNat,by omega⟩;have d:Hid (m<n1∧n1=L.length∧n1≤16∧n1≤N):=by have v:=Z.out;have aX:=J.out;exact⟨by omega,v.1,v.2⟩
 have t1:decide ((m:Int)<0)=false:=bZ (by omega);have t2:decide ((n1:Int)<(m:Int))=false:=decide_eq_false v;have aN:¬(n1:Int)<(m:Int):=v;have aO:¬n1<m:=by omega
 have t3:((m:Int)==(n1:Int))=false:=iK (by have:=d.out;omega);have aP:(m==n1)=false:=iK (by have:=d.out;omega);have t4:decide ((16:Int)≤(m:Int))=false:=bZ (by have:=d.out;omega);have aQ:¬(16:Int)≤(m:Int):=by have:=d.out;omega
 have aS:¬16≤m:=by have:=d.out;omega
 have aT:(m:Int).tmod 16=(m:Int):=by rw[Int.tmod_eq_emod_of_nonneg (by omega)];have:=d.out;omega
 have aU:IntKind.i64.wrap ((m:Int)-(m:Int))=0:=by rw[Int.sub_self];rfl
 obtain⟨r,aL⟩:∃r,X=some r:=by
  obtain⟨r,_,_,h,_⟩:=I.out 0 (by have:=d.out;omega);exact⟨r,h⟩
 subst aL;have aV:¬N=0:=by have:=d.out;omega
 have aW:(m:Int)≤(N:Int):=by have:=d.out;omega
 clear O v Z J;go_wp2;go_loopw[6,61](fun s i wr=>∃(j U:Nat),j≤m∧s= .pointer (some ⟨U,0,none⟩)∧i= .int .i64 (j:Int)∧ec wr U (ee (L.take j) E)∧Fr ah w wr)(fun _ i _=>m-(intOf i).toNat);case atStart=>exact⟨0,b,Nat.zero_le _,rfl,rfl,by rw[List.take_zero];exact HB.out,az⟩
 case round=>
  obtain⟨j,s1,V,rfl,rfl,W,au⟩:=hrel;have aB:=af V;have an:=af W;have G:=af au;clear V W au;by_cases aM:j<m
  ·have t0:decide ((j:Int)<(m:Int))=true:=cT (by omega);obtain⟨aJ,k,a,B,z,y,t,l⟩:=I.out j (by have:=d.out;omega);injection B with B;subst B;have i0:(j:Int)<(m:Int):=by omega
   have i1:(0:Int)≤(j:Int):=by omega
   have am:Hid ((Tryz.prog.info? 46).map (·.size)=some k.length):=by rw[Hid,t];exact bM
   have ad:Hid ((Tryz.prog.info? 46).map (·.size)=some k.toArray.size):=by rw[Hid,List.size_toArray,t];exact bM
   have ac:Hid (6=k.toArray.size):=by rw[Hid,List.size_toArray,t]
   have aG:=af (ActV.one y);have Y:Hid (∀i x,k[i]? =some x→wr.cell? ((r.add (j*6)).add i)=some x):=fun i x R=>G.out.aj (l i x R) (fun x=>x);have ay:Hid (cI (24+6*j) (ee (L.take j) E)):=by
    have:=iG (L.take j) E 24 aA.out (fun a ag=>M.out.ok a (List.mem_of_mem_take ag)) (fun a ag=>M.out.small a (List.mem_of_mem_take ag));rw[List.length_take,Nat.min_eq_left (by have:=d.out;omega)]at this;exact this
   have u:=List.mem_of_getElem? z;have ai:Hid (∀w',Fr ah wr w'→Calls Tryz.prog 86 #[.agg k.toArray, .pointer (some ⟨s1,0,none⟩)] w' (lz w' (ee (L.take j) E) a.writes)):=fun w' f=>jq _ a k _ s1 w' (y.ao (G.out.trans f)) (an.out.ao f) (aF.out.ao (G.out.trans f)) ay.out (M.out.small a u).writes (by have:=(M.out.small a u).nw;have:=d.out;omega);have aE:=af (vG z E);have aa:=af (nS (M.out.ok a u));have aY:IntKind.i64.wrap ((j:Int)+1)=(j:Int)+1:=IntWalk.i64_in _ (by have:=d.out;omega);clear l z y t u;go_wp2_with(refine aC rfl 46 (.tmp 63) rfl (r.add (j*6)) rfl k _ ?zA Tryz.underlying46 rfl am.out (aR.go ?zC));case zA=>exact Y.out
   unfold aR;go_wp2_with(refine vV rfl rfl 46 8 rfl rfl _ rfl eC j8 #[.int .i64 0, .int .i64 0, .int .i64 0, .string ByteArray.empty, .slice none 0 0, .slice none 0 0] rfl k.toArray (fun _=>rfl) (fun _=>rfl) ad.out ac.out aG.out ?_);intro av g4 _ _ b4 f4;have aw:=af b4;have al:=af f4;clear b4 f4;have F:Hid (∀j x,k[j]? =some x→av.cell? ((⟨g4,0,none⟩:Addr).add j)=some x):=jJ aw.out;go_wp2_with(refine aC rfl 46 (.tmp 8) rfl ⟨g4,0,none⟩ rfl k _ ?zB Tryz.underlying46 rfl am.out (aR.go ?zD));case zB=>first|exact F.out|exact fun j x R=>by have q:=F.out j x R;rw[Addr.add_mid,Nat.zero_add]at q;exact q
   unfold aR;go_wp2_with fail;refine(ai.out av al.out).mono ?_;rintro e w3⟨p,q,rfl,f3,C⟩;rcases C with⟨_,rfl,U,rfl,Q⟩|⟨⟨x,R,S⟩,_⟩
   ·have ax:=af (G.out.trans (al.out.trans f3));have aI:Hid (ec w3 U (ee (L.take (j+1)) E)):=by rw[Hid,aE.out];exact Q
    clear f3 Q ai;go_wp2;go_roundw;case rel=>exact⟨j+1,U,by omega,rfl,by go_num,aI.out,ax.out⟩
    case measure=>simp[intOf];omega
   ·rw[aa.out x R]at S;cases S
  ·obtain rfl:j=m:=by have:=aB.out;omega
   have t0:decide ((j:Int)<(j:Int))=false:=bZ (by omega);go_wp2;go_ret2;exact⟨G.out, .inl ⟨by have:=d.out;omega,by have:=d.out;omega,s1,rfl,an.out⟩⟩
end Go.Proofs.YtphjagkehiklkaaGreatDoor
namespace Go.Proofs.YtphjagkehiklkaaGreatDoor.Lt
open Go.RowKit
theorem jZ{P:Program}(w:World)(t e:TypeId)(c:TypeInfo)(hu:P.underlying t=some (.slice e))(a:P.info? e=some c):
  (Instr.buildSlice t 0 #[]).run P w= .ok (.slice (some ⟨w.heap.size,0,none⟩) 0 0) (w.alloc (.cells #[] e)):=by
 have b:∀cs:Array Value,(newRow e cs).run P w= .ok ⟨w.heap.size,0,none⟩ (w.alloc (.cells cs e)):=fun cs=>rfl;simp[Instr.buildSlice,run_underlying hu,sizeOf,typeInfo,a,Result.andThen,Instr.fill,b];rw[show(Array.range 0).map (fun _=>(default:Value))=#[]from Array.eq_empty_of_size_eq_zero (by simp)]
theorem jI{P:Program}{f:Oper}{a:Act}{w:World}{K:Act→World→Prop}{Q:Exit→Act→World→Prop}(t e:TypeId)(d:f.op= .buildSlice t 0 #[])(c:TypeInfo)
  (hu:P.underlying t=some (.slice e))(b:P.info? e=some c)(h:∀w',dh w w' e #[]→K (a.put f.dst (.slice (some ⟨w.heap.size,0,none⟩) 0 0)) w'):f.wp P a w K Q:=by
 unfold Oper.wp;simp[execOp,d,jZ w t e c hu b,Result.andThen];exact h _ (dh.alloc w e #[])
theorem j7{P:Program}{ops:Array Oper}{rest:List Oper}{j:Oper}{a:Act}{w:World}{Q:Exit→Act→World→Prop}(f:j.guard=none)(t e:TypeId)(i:j.op= .buildSlice t 0 #[])(c:TypeInfo)
  (hu:P.underlying t=some (.slice e))(b:P.info? e=some c)(h:∀w',dh w w' e #[]→wpList P ops Q rest (a.put j.dst (.slice (some ⟨w.heap.size,0,none⟩) 0 0)) w'):wpList P ops Q (j::rest) a w:=
 wpList_plain f fun _ d=>jI t e i c hu b fun w' g=>d _ _ (h w' g)
theorem _root_.Go.Proofs.YtphjagkehiklkaaGreatDoor.dh.LU{w w':World}{e:TypeId}{size:Nat}(h:dh w w' e #[]):w'.ownsRow 0 e size (.slice (some ⟨w.heap.size,0,none⟩) 0 0) 0 []:=
 ⟨by simp, .inr ⟨w.heap.size,0,#[],rfl,Nat.zero_le _,h.aD,Nat.le_refl _,Nat.zero_le _,by simp,by simp⟩⟩
theorem IA(w:World)(a:Option Addr)(l c:Nat):(binOp .eql 31 (.slice a l c) (.slice none 0 0)).run Tryz.prog w= .ok (.bool a.isNone) w:=by
 simp only[binOp];simp[run_equal_slice_nil w 31 38 a l c Tryz.underlying31]
theorem yV(c:Nat)(w:World):Calls Tryz.prog 140 #[.slice none 0 c] w (oF w 0 []):=by
 have a:∀w:World,(binOp .eql 31 (.slice none 0 c) (.slice none 0 0)).run Tryz.prog w= .ok (.bool true) w:=fun w=>IA w none 0 c;go_enter Tryz.func140,Tryz.ntmps140;go_wp2;go_ret;exact⟨_,rfl,bO.start ⟨rfl, .inl ⟨rfl,rfl⟩⟩⟩
theorem wP(n:Nat)(ds:List (List UInt8))(b:Addr)(c:Nat)(S:Nat→Prop)(w:World)(m:fL w S (some b) n ds)(y:n≤1048576):
  Calls Tryz.prog 140 #[.slice (some b) n c] w (oF w n ds):=by
 obtain⟨i0,f,i,j,l⟩:=info_parts rm;have z:∀w:World,(binOp .eql 31 (.slice (some b) n c) (.slice none 0 0)).run Tryz.prog w= .ok (.bool false) w:=fun w=>IA w (some b) n c;have q:=af m;have r:Hid (∀u∈ds.flatMap aA,u.oneCell'=true):=by
  intro u hu;obtain⟨d,_,v⟩:=List.mem_flatMap.1 hu;exact iP d u v
 clear m;go_enter Tryz.func140,Tryz.ntmps140;go_wp2_with(refine j7 rfl 31 38 rfl i0 Tryz.underlying31 f ?_);intro w1 p;have g:=af p;clear p;generalize e:w.heap.size=g1 at*;have a:=af e;clear e;have t:Hid (w1.ownsRow 0 38 32 (.slice (some ⟨g1,0,none⟩) 0 0) 0 []):=by rw[←a.out];exact g.out.LU
 go_wp2_with(refine eL _ rfl _ _ 31 rfl 38 i0 aZ 32 32 Tryz.underlying31 f i j l rfl (by decide) _ _ _ rfl t.out S (some b) n c (ds.flatMap aA) rfl (q.out.ao g.out.fr).rd r.out (by omega) (by decide) ?_);intro v2 w2 o;have s:Hid (bO 38 32 w (.slice none 0 0) w2 v2 n (ds.flatMap aA)):=by
  have h:=bO.fresh g.out.fr (fun k x=>by simp only[Value.ownBlock,Option.some.injEq]at x;have:=a.out;omega) o;exact h
 clear o;go_wp2;go_ret;exact⟨_,rfl,s.out⟩
theorem yU(n:Nat)(ds:List (List UInt8))(A:Option Addr)(c:Nat)(S:Nat→Prop)(w:World)(a:fL w S A n ds)(d:n≤1048576):Calls Tryz.prog 140 #[.slice A n c] w (oF w n ds):=by
 cases A with
 |some b=>exact wP n ds b c S w a d
 |none=>
  rcases Nat.eq_zero_or_pos n with rfl|h;·have:ds=[]:=List.eq_nil_of_length_eq_zero a.len;rw[this];exact yV c w
  ·obtain⟨b,h,_⟩:=a.rd.2 h;cases h
end Go.Proofs.YtphjagkehiklkaaGreatDoor.Lt
namespace Go.Proofs.YtphjagkehiklkaaGreatDoor.Lt
open Go.RowKit Go.ChangeMaps
def fh(w:World)(b r n:Nat)(ds:List (List UInt8))(C X:Nat→Nat→Prop):Prop:=
 ∃es clock seen,w.heap[b]? =some (.map es clock)∧w.heap[r]? =some (.mapIter (some b) clock seen clock)∧(∀e∈es.toList,oB ds C e)∧
  (∀l i,C l i→(i+1)*2^l≤n→∃e∈es.toList,e.key=dS l i)∧oI es clock∧(∀e∈es.toList,seen.contains e.born=true→∃l i,e.key=dS l i∧((i+1)*2^l≤n∨X l i))
def qe:Nat→Nat→Prop:=fun _ _=>False
def Eo(l i:Nat):Nat→Nat→Prop:=fun a i'=>a=l∧i'=i
theorem fh.fr{w w':World}{T:Nat→Prop}{b r n:Nat}{ds:List (List UInt8)}{C X:Nat→Nat→Prop}(h:fh w b r n ds C X)(d:Fr T w w')(j:¬T b)(k:¬T r):fh w' b r n ds C X:=by
 obtain⟨es,clock,seen,a,c,e,f,g,i⟩:=h;exact⟨es,clock,seen,(d.block b (Array.getElem?_eq_some_iff.1 a).1 j).trans a,(d.block r (Array.getElem?_eq_some_iff.1 c).1 k).trans c,e,f,g,i⟩
theorem fh.uW{w w':World}{T:Nat→Prop}{b r n:Nat}{ds:List (List UInt8)}{C X:Nat→Nat→Prop}(h:fh w b r n ds C X)(a:Fr T w w')(e:¬T b)(f:¬T r):w'.rangeLeft b r=w.rangeLeft b r:=by
 obtain⟨es,clock,seen,c,d,_⟩:=h;unfold World.rangeLeft;rw[(a.block b (Array.getElem?_eq_some_iff.1 c).1 e),(a.block r (Array.getElem?_eq_some_iff.1 d).1 f)]
theorem fh.lt{w:World}{b r n:Nat}{ds:List (List UInt8)}{C X:Nat→Nat→Prop}(h:fh w b r n ds C X):b<w.heap.size∧r<w.heap.size:=by
 obtain⟨es,clock,seen,a,c,_⟩:=h;exact⟨(Array.getElem?_eq_some_iff.1 a).1,(Array.getElem?_eq_some_iff.1 c).1⟩
theorem fh.J1{w:World}{b r n l i:Nat}{ds:List (List UInt8)}{C:Nat→Nat→Prop}(h:fh w b r n ds C (Eo l i))(m:(i+1)*2^l≤n):fh w b r n ds C qe:=by
 obtain⟨es,clock,seen,c,d,f,g,j,k⟩:=h;refine⟨es,clock,seen,c,d,f,g,j,fun e he o=>?_⟩;obtain⟨q,i',p,a⟩:=k e he o;refine⟨q,i',p, .inl ?_⟩;rcases a with a|⟨rfl,rfl⟩;·exact a
 ·exact m
theorem kV{w:World}{b:Nat}(d:Obj)(a:b<w.heap.size):Fr (fun k=>k=b) w (setBlock w b d):=
 ⟨rfl,rfl,rfl,by simp[setBlock],fun k _ c=>by
  show(w.heap.setIfInBounds b d)[k]? =_;rw[Array.getElem?_setIfInBounds_ne (fun e=>c e.symm)]⟩
theorem pd{w:World}{b:Nat}(c:Obj)(a:b<w.heap.size):(setBlock w b c).heap[b]? =some c:=by
 show(w.heap.setIfInBounds b c)[b]? =_;rw[Array.getElem?_setIfInBounds_self_of_lt a]
theorem qH{ops:Array Oper}{rest:List Oper}{v:Oper}{a:Act}{w:World}{Q:Exit→Act→World→Prop}(s:v.guard=none)(m:Operand)(g:v.op=Op.range 178 m)(b n:Nat)(ds:List (List UInt8))(C:Nat→Nat→Prop)
  (hm:a.eval m= .map (some b))(h:df w b ds C)
  (q:∀w',fh w' b w.heap.size n ds C qe→Fr ah w w'→w'.heap.size=w.heap.size+1→wpList Tryz.prog ops Q rest (a.put v.dst (.pointer (some ⟨w.heap.size,0,none⟩))) w'):wpList Tryz.prog ops Q (v::rest) a w:=by
 obtain⟨es,clock,d,k,o,p⟩:=h;have c:=run_range_map (P:=Tryz.prog) w _ _ _ b es clock mW d;have j:Fr ah w (w.alloc (.mapIter (some b) clock #[] clock)):=az.alloc _;refine wpList_plain s fun u f=>?_;unfold Oper.wp;simp[execOp,g,hm,c,Result.andThen];refine f _ _ (q _ ⟨es,clock,#[],(j.block b (Array.getElem?_eq_some_iff.1 d).1 (fun x=>x)).trans d,heap_alloc_new w _,k,fun l i r _=>o l i r,p,fun e _ t=>?_⟩ j (by simp));simp at t
theorem rG{ops:Array Oper}{rest:List Oper}{Y:Oper}{a:Act}{w:World}{Q:Exit→Act→World→Prop}(V:Y.guard=none)(it:Operand)(y:Y.op=Op.next it false)(b r n:Nat)(ds:List (List UInt8))(C:Nat→Nat→Prop)
  (hit:a.eval it= .pointer (some ⟨r,0,none⟩))(h:fh w b r n ds C qe)
  (d:df w b ds (fun l i=>C l i∧(i+1)*2^l≤n)→wpList Tryz.prog ops Q rest (a.put Y.dst (.tuple #[.bool false])) w)
  (f:∀l i w',C l i→fh w' b r n ds C (Eo l i)→w'.rangeLeft b r<w.rangeLeft b r→Fr (fun k=>k=r) w w'→w'.heap.size=w.heap.size→
   (Instr.entry (.pointer (some ⟨r,0,none⟩))).run Tryz.prog w'= .ok (.tuple #[dS l i,aU (aG ds l i)]) w'→wpList Tryz.prog ops Q rest (a.put Y.dst (.tuple #[.bool true,dS l i,aU (aG ds l i)])) w'):wpList Tryz.prog ops Q (Y::rest) a w:=by
 obtain⟨es,clock,seen,p,F,G,M,t,N⟩:=h;have H:b≠r:=fun e=>by rw[e,F]at p;cases p
 refine wpList_plain V fun X u=>?_;unfold Oper.wp;rcases run_next_at (P:=Tryz.prog) w Y.type r b clock clock seen es clock F p t.1 (Nat.le_refl _)with⟨T,c⟩|⟨e,he,w1,g,c⟩
 ·simp[execOp,y,hit,c,Result.andThen];refine u _ _ (d ⟨es,clock,p,fun e he=>?_,fun l i O=>M l i O.1 O.2,t⟩);obtain⟨l,i,B,I,J⟩:=G e he;obtain⟨S,i',R,D⟩:=N e he (all_seen es seen T e he);rw[B]at R;obtain⟨rfl,rfl⟩:=mS R;refine⟨l,i,B,I,J,?_⟩;rcases D with D|D;·exact D
  ·exact D.elim
 ·obtain⟨m,U⟩:=mem_left he;obtain⟨l,i,B,I,J⟩:=G e m;have f1:Fr ah w w1:=by rcases g with rfl|rfl;exact Fr.refl _ _;exact az.drew
  have A:w1.heap.size=w.heap.size:=by rcases g with rfl|rfl<;>rfl
  have z:r<w1.heap.size:=by rw[A];exact(Array.getElem?_eq_some_iff.1 F).1
  have s:w1.heap[b]? =some (.map es clock):=by rcases g with rfl|rfl<;>exact p
  have L:=kV (.mapIter (some b) clock (seen.push e.born) clock) z;have j:(setBlock w1 r (.mapIter (some b) clock (seen.push e.born) clock)).heap[b]? =some (.map es clock):=(L.block b (Array.getElem?_eq_some_iff.1 s).1 H).trans s;have o:=pd (.mapIter (some b) clock (seen.push e.born) clock) z;have x:=run_entry_at (P:=Tryz.prog) _ r b clock seen es clock e o j m t.2.1;rw[B,I]at c x;simp[execOp,y,hit,c,Result.andThen];refine u _ _ (f l i _ J ⟨es,clock,seen.push e.born,j,o,G,M,t,fun K v q=>?_⟩ ?_ (f1.bJ.trans L) (by simp[setBlock,A]) x)
  ·rw[contains_push,Bool.or_eq_true]at q;rcases q with q|q
   ·obtain⟨S,i',W,E⟩:=N K v q;rcases E with E|E;·exact⟨S,i',W, .inl E⟩
    ·exact E.elim
   ·have:K=e:=born_inj t.2.1 v m (beq_iff_eq.1 q);subst this;exact⟨l,i,B, .inr ⟨rfl,rfl⟩⟩
  ·unfold World.rangeLeft;simp only[j,o,p,F];exact left_shrinks es seen e he
theorem sX(ds:List (List UInt8))(C:Nat→Nat→Prop)(l i:Nat)(w:World):∀(es:List MapEntry)(k:Nat),(∀e∈es,oB ds C e)→(∃e∈es,e.key=dS l i)→
  ∃j v e,(Instr.findAsking 212 (dS l i) es k).run Tryz.prog w= .ok (some (j+k,v)) w∧es[j]? =some e∧e.key=dS l i
 |[],_,_,h=>by obtain⟨e,he,_⟩:=h;cases he
 |e::es,k,d,h=>by
  obtain⟨p,i',f,A,B⟩:=d e (by simp);by_cases g:l=p∧i=i';·obtain⟨rfl,rfl⟩:=g;refine⟨0,aU (aG ds l i),e,?_,rfl,f⟩;simp only[Instr.findAsking,Sem.run_bind,f,lL,Result.andThen_ok,decide_true,Bool.and_self,if_true,A,Sem.run_pure,Nat.zero_add]
  ·obtain⟨r,c,m⟩:=h;have o:(decide (l=p)&&decide (i=i'))=false:=by
    by_cases q:l=p;·rw[bZ (show¬i=i' from fun t=>g ⟨q,t⟩),Bool.and_false]
    ·rw[decide_eq_false q,Bool.false_and]
   rcases List.mem_cons.1 c with rfl|c;·rw[f]at m;obtain⟨a,b⟩:=mS m;exact absurd ⟨a.symm,b.symm⟩ g
   ·obtain⟨j,v,s,y,u,n⟩:=sX ds C l i w es (k+1) (fun x z=>d x (by simp[z])) ⟨r,c,m⟩;refine⟨j+1,v,s,?_,by simpa using u,n⟩;simp only[Instr.findAsking,Sem.run_bind,f,lL,Result.andThen_ok,o,Bool.false_eq_true,if_false];rw[y,show j+(k+1)=j+1+k by omega]
theorem sq{w:World}{b r n l i:Nat}{ds:List (List UInt8)}{C:Nat→Nat→Prop}(h:fh w b r n ds C (Eo l i))(ac:n<(i+1)*2^l)(ty:TypeId):
  ∃w',(Builtin.delete_ #[178,212] ty #[.map (some b),dS l i]).run Tryz.prog w= .ok (.tuple #[]) w'∧fh w' b r n ds C qe∧w'.rangeLeft b r≤w.rangeLeft b r∧Fr (fun k=>k=b) w w':=by
 obtain⟨es,clock,seen,m,H,J,W,I,X⟩:=h;have g:=(Array.getElem?_eq_some_iff.1 m).1;have K:r≠b:=fun e=>by rw[←e,H]at m;cases m
 have key:∀c:Array MapEntry,c.toList.Sublist es.toList→(∀e∈es.toList,e.key≠dS l i→e∈c.toList)→(∀e∈c.toList,e.key≠dS l i)→
   fh (setBlock w b (.map c clock)) b r n ds C qe∧(setBlock w b (.map c clock)).rangeLeft b r≤w.rangeLeft b r:=fun c d o P=>by
  have V:=kV (w:=w) (.map c clock) g;have x:=pd (w:=w) (.map c clock) g;have D:(setBlock w b (.map c clock)).heap[r]? =some (.mapIter (some b) clock seen clock):=(V.block r (Array.getElem?_eq_some_iff.1 H).1 K).trans H;refine⟨⟨c,clock,seen,x,D,fun e he=>J e (d.subset he),fun t i' Y hle=>?_,⟨fun e he=>I.1 e (d.subset he),I.2.1.sublist (d.map _),I.2.2.sublist d⟩,fun e he aa=>?_⟩,?_⟩;·obtain⟨e,he,u⟩:=W t i' Y hle;refine⟨e,o e he (fun f=>?_),u⟩;rw[u]at f;obtain⟨rfl,rfl⟩:=mS f;omega
  ·obtain⟨t,i',E,F⟩:=X e (d.subset he) aa;refine⟨t,i',E,?_⟩;rcases F with F|⟨rfl,rfl⟩;·exact .inl F
   ·exact absurd E (P e he)
  ·have G:∀a:Array MapEntry,(leftOf a seen).size=(a.toList.filter fun e=>!seen.contains e.born).length:=fun a=>by
    unfold leftOf;rw[←Array.toList_filter,Array.length_toList]
   unfold World.rangeLeft;simp only[x,D,m,H];rw[G,G];exact(d.filter _).length_le
 have Z:=iw false l i w;by_cases hex:∃e∈es.toList,e.key=dS l i
 ·obtain⟨j,v,ab,T,M,u⟩:=sX ds C l i w es.toList 0 J hex;rw[Nat.add_zero]at T;have L:=kf _ _ _ _ T;have N:j<es.size:=by simpa using(List.getElem?_eq_some_iff.1 M).1
  have O:(es.eraseIdxIfInBounds j).toList=es.toList.eraseIdx j:=by
   unfold Array.eraseIdxIfInBounds;rw[dif_pos N];simp
  obtain⟨R,S⟩:=key (es.eraseIdxIfInBounds j) (by rw[O];exact List.eraseIdx_sublist _ _) (fun e he s=>by
   rw[O,List.mem_eraseIdx_iff_getElem?];obtain⟨q,f⟩:=List.getElem?_of_mem he;refine⟨q,fun G=>s ?_,f⟩;rw[G,M]at f;cases f;exact u) (fun e he f=>by
   rw[O,List.mem_eraseIdx_iff_getElem?]at he;obtain⟨q,s,Q⟩:=he;obtain⟨A,B⟩:=List.getElem?_eq_some_iff.1 Q;obtain⟨y,z⟩:=List.getElem?_eq_some_iff.1 M;have U:=List.pairwise_iff_getElem.1 I.2.2;rcases Nat.lt_or_gt_of_ne s with p|p;·exact U q j A y p (by rw[B,z,f,u])
   ·exact U j q y A p (by rw[B,z,f,u]));refine⟨_,?_,R,S,kV _ g⟩;simp[Builtin.delete_,run_underlying mW,MapKept.run_getObj_map m,iw,L,MapKept.run_setObj_map _ m,Result.andThen,setBlock]
 ·have L:=kf _ _ _ _ (ql ds (fun t i'=>∃e∈es.toList,e.key=dS t i') l i w hex es.toList 0 (fun e he=>by
   obtain⟨t,i',E,F,_⟩:=J e he;exact⟨t,i',E,F,e,he,E⟩));obtain⟨R,S⟩:=key es (List.Sublist.refl _) (fun e he _=>he) (fun e he f=>hex ⟨e,he,f⟩);refine⟨_,?_,R,S,kV _ g⟩;simp[Builtin.delete_,run_underlying mW,MapKept.run_getObj_map m,iw,L,MapKept.run_setObj_map _ m,Result.andThen,setBlock]
theorem pO{ops:Array Oper}{rest:List Oper}{u:Oper}{a:Act}{w:World}{Q:Exit→Act→World→Prop}(g:u.guard=none)(m x:Operand)(e:u.op=Op.call {callee:=Callee.builtin Builtin.delete,args:=#[m,x],argTypes:=#[178,212]})
  (b r n l i:Nat)(ds:List (List UInt8))(C:Nat→Nat→Prop)(hm:a.eval m= .map (some b))(o:a.eval x=dS l i)(h:fh w b r n ds C (Eo l i))(j:n<(i+1)*2^l)
  (f:∀w',fh w' b r n ds C qe→w'.rangeLeft b r≤w.rangeLeft b r→Fr (fun k=>k=b) w w'→wpList Tryz.prog ops Q rest (a.put u.dst (.tuple #[])) w'):wpList Tryz.prog ops Q (u::rest) a w:=by
 refine wpList_plain g fun t d=>?_;obtain⟨w',c,p,q,s⟩:=sq h j u.type;unfold Oper.wp;simp[execOp,e,resolve,invoke,builtin,hm,o,c,Result.andThen];exact d _ _ (f w' p q s)
theorem pa(ds:List (List UInt8))(n:Nat):∀l i,(i+1)*2^l≤n→aG (ds.take n) l i=aG ds l i
 |0,i,h=>by
  have b:i<n:=by omega
  simp only[aG];rw[List.getD_eq_getElem?_getD,List.getD_eq_getElem?_getD,List.getElem?_take_of_lt b]
 |l+1,i,h=>by
  have c:2^(l+1)=2*2^l:=by rw[Nat.pow_succ];omega
  have a:(i+1)*2^(l+1)=(2*i+1+1)*2^l:=by rw[c,←Nat.mul_assoc];congr 1;omega
  have d:(2*i+1+1)*2^l=(2*i+1)*2^l+2^l:=by rw[Nat.add_mul,Nat.one_mul]
  rw[a]at h;rw[aG,aG,pa ds n l (2*i) (by omega),pa ds n l (2*i+1) h]
theorem df.take{w:World}{b n m:Nat}{ds:List (List UInt8)}(h:df w b ds (fun l i=>aY m l i∧(i+1)*2^l≤n))(c:n≤m):df w b (ds.take n) (aY n):=by
 obtain⟨es,clock,f,g,j,k⟩:=h;refine⟨es,clock,f,fun e he=>?_,fun l i a=>?_,k⟩;·obtain⟨l,i,o,p,q,d⟩:=g e he;exact⟨l,i,o,by rw[p,pa ds n l i d],q.1,d⟩
 ·exact j l i ⟨⟨a.1,Nat.le_trans a.2 c⟩,a.2⟩
end Go.Proofs.YtphjagkehiklkaaGreatDoor.Lt
namespace Go.Proofs.YtphjagkehiklkaaGreatDoor
open Go.RowKit Go.ChangeShapes Go.WideShapes Go.Deep
theorem zI:Tryz.prog.cellsOf 141=8:=by kernel_rfl
theorem xd:Tryz.prog.cellsOf 242=64:=by kernel_rfl
theorem uz:Tryz.prog.cellsOf 140=1:=by kernel_rfl
theorem qm:Tryz.prog.globalNamed "replevin/sha256.initial"=some 1:=by kernel_rfl
theorem tw:(Tryz.prog.globals[1]?).map (·.type)=some 141:=by kernel_rfl
theorem nK:Tryz.prog.globalNamed "replevin/sha256.constants"=some 2:=by kernel_rfl
theorem qa:(Tryz.prog.globals[2]?).map (·.type)=some 242:=by kernel_rfl
theorem Kf{W:World}{rest:List (String×DataW Unit)}(h:laidMet Tryz.prog (("replevin/sha256.initial",Rows.laid_replevin_sha256_initial)::("replevin/sha256.constants",Rows.laid_replevin_sha256_constants)::rest) W):bU W:=by
 have c:Lib.TabIs Tryz.prog W "replevin/sha256.initial" .u32 Dc:=Lib.tabIs_of_head qm tw Tryz.underlying141 Tryz.underlying140 uz zI (show laidMet Tryz.prog (_::_) W from h);have d:Lib.TabIs Tryz.prog W "replevin/sha256.constants" .u32 An:=Lib.tabIs_of_head nK qa Tryz.underlying242 Tryz.underlying140 uz xd (show laidMet Tryz.prog (_::_) W from laidMet.tail h);refine⟨fun j u hu=>?_,fun j a=>?_⟩
 ·have a:j<8:=(List.getElem?_eq_some_iff.1 hu).1;rw[c.cell qm j a,←hu];rcases j with _|_|_|_|_|_|_|_|j;·rfl
  ·rfl
  ·rfl
  ·rfl
  ·rfl
  ·rfl
  ·rfl
  ·rfl
  ·omega
 ·have b:j<sZ.length:=a;rw[d.cell nK j (by rw[An,List.length_map];exact b)];unfold jF An;rw[List.getD_eq_getElem?_getD,List.getElem?_map,List.getElem?_eq_getElem b];rfl
end Go.Proofs.YtphjagkehiklkaaGreatDoor
