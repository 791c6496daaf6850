/- Texts. -/
import Derived.Test.YtphjagkehiklkaaGreatDoorWK21
set_option linter.unusedVariables false
set_option linter.unusedSimpArgs false
set_option maxRecDepth 100000
set_option maxHeartbeats 4000000
namespace Go.Proofs.YtphjagkehiklkaaGreatDoor
open Go.RowKit Go.Shelf
def pd(w:World)(e:Ending)(w':World):Prop:=∃v l,e= .returned v∧dO w' v l∧l.length≤6∧(∀c∈l,ed c)∧Fr ag w w'∧∀k,v.ownBlock=some k→w.heap.size≤k
structure Gr(w wr:World)(v:Value)(l:List CV)(k:Nat):Prop where
 row:dO wr v l
 len:l.length≤k
 small:∀c∈l,ed c
 fr:Fr ag w wr
 new:∀i,v.ownBlock=some i→w.heap.size≤i
def pG(c:CV):CV:=⟨c.nm,if c.bA then ByteArray.empty else c.value,c.bA⟩
theorem y9{c:CV}(h:ed c):ed (pG c):=⟨h.owner,h.text,by
 have:=h.value;unfold pG;simp only;split;·simp
 ·exact this⟩
theorem nj(n:Nat)(xs:List CV)(A:Option Addr)(a3:Nat)(S:Nat→Prop)(w:World)(bW:CL w S A n xs)(bx:n≤9223372036854775807)(bt:n≤a3):
  Calls Tryz.prog 81 #[.slice A n a3] w (pd w):=by
 have bJ:Hid (∀w' G,Fr ag w w'→Calls Tryz.prog 127 #[.slice A (min n 6) G] w' (Jw w' (min n 6) (rE (xs.take (min n 6)) (min n 6)))):=fun w' G b=>by
  have:=JJ (min n 6) (xs.take (min n 6)) A G S w' ((bW.take (by omega)).ar b) (by omega);rw[show min (min n 6) 24=min n 6 by omega]at this;exact this
 have bi:=af (xQ (xs.take (min n 6)) (min n 6));have ae:Hid (min n 6≤a3∧min n 6≤6):=by simp only[Hid];omega
 have a8:min (n:Int) 6=((min n 6:Nat):Int):=by omega
 generalize rE (xs.take (min n 6)) (min n 6)=cF at*;generalize min n 6=m at*;clear bW;have bs:(0:Int)≤(m:Int):=by omega
 have cd:(m:Int)≤(a3:Int):=by have:=ae.out;omega
 obtain⟨Z,I,Y,D,al⟩:=info_parts pc;have bp:Hid (¬1*Z.size>2^24):=by simp only[Hid];rw[D];omega
 have bq:Hid (¬1*Z.size=0):=by simp only[Hid];rw[D];omega
 have br:Hid (∀c:CV,Instr.fill (fun i=>some (i*Z.size,Z.size)) ((Array.range (1*Z.size)).map (di.cells[· %di.cells.size]!)) [(0, .agg c.cells.toArray)]=some c.cells.toArray):=fun c=>by rw[D];exact mc _ _ rfl (by simp)
 go_enter Tryz.func81,Tryz.ntmps81;go_wp2_with fail;refine(bJ.out _ _ aD).mono ?_;rintro e w1⟨cv,ck,cw,cB,rfl,f1,bX⟩;have bK:=af f1;have b5:=af bX.Kl;clear f1 bX bJ a8 bs cd;go_wp2;go_loopw[5,6](fun v i wr=>∃(k:Nat)(ls:List CV),k≤m∧i= .int .i64 (k:Int)∧Gr w1 wr v ls k)(fun _ i _=>m-(intOf i).toNat);case atStart=>exact⟨0,[],Nat.zero_le _,rfl,⟨dO.nil _,by simp,by simp,aD,by intro i V;cases V⟩⟩
 case round=>
  obtain⟨k,ls,r,rfl,a7⟩:=hrel;have g:=af a7;have bL:=af r;obtain⟨q,n6,k6,rfl,ao,ap⟩:=aU a7.row;have s:Hid (n6≤6):=by have:=a7.len;have:=ae.out;have:=ao.out;simp only[Hid];omega
  clear a7 r;generalize wr=w3 at*;by_cases bw:k<m
  ·have t0:decide ((k:Int)<(m:Int))=true:=dh (by omega);have cq:(k:Int)<(m:Int):=by omega
   have b1:(0:Int)≤(k:Int):=by omega
   obtain⟨bN,c,rfl,bt,U⟩:=(b5.out.ar g.out.fr).at_ bw;have aL:=af U;have bM:=af (bi.out c (List.mem_of_getElem? bt));have bI:=af c.one;clear bt U;go_wp2_with(refine aF rfl 119 (.tmp 27) rfl (bN.add (k*7)) rfl c.cells _ ?zJ Tryz.underlying119 rfl jr (bj.go ?hold));case zJ=>exact aL.out
   unfold bj;go_wp2_with(refine ak rfl 119 rfl di DW #[.int .i64 0, .string ByteArray.empty, .int .i64 0, .int .i64 0, .string ByteArray.empty, .string ByteArray.empty, .bool false] rfl ?_);intro cr b0;have bk:=af b0;clear b0;generalize aX:w3.heap.size=g7 at*;have av:=af aX;clear aX;have bG:Hid (aq cr g7 119 #[.int .i64 0, .string ByteArray.empty, .int .i64 0, .int .i64 0, .string ByteArray.empty, .string ByteArray.empty, .bool false]):=by have h:=bk.out.aH;rw[av.out]at h;exact h
   go_wp2_with(refine ai rfl 119 (.tmp 7) _ rfl g7 c.cells.toArray rfl rfl _ _ bG.out jr rfl bI.out ?_);intro ba bb bS;have aY:Hid (aq ba g7 119 #[.int .i64 c.nm.kind, .string c.nm.owner, .int .i64 c.nm.number, .int .i64 c.nm.index, .string c.nm.text, .string c.value, .bool c.bA]):=bb;have bf:Hid (Fr ag w3 ba):=bk.out.fr.aw bS (fun i V e=>by have b8:i=g7:=e;have:=av.out;omega);clear bb bS bk bG aL;have bP:ba.cell? ⟨g7,6,none⟩=some (.bool c.bA):=aY.out.cell 6;obtain⟨b7,aI⟩:∃z,c.bA=z:=⟨_,rfl⟩;have aP:=af aI;rw[aI]at bP;clear aI;have b6:Hid ((Value.string ByteArray.empty).oneCell'=true):=by simp[Hid,Value.oneCell']
   go_upto_if 30 with fail;clear bP;go_cut[3,5,6,7](fun cm cn co cp bc=>cm= .slice (some bN) m ck∧cn= .slice q n6 k6∧co= .int .i64 (k:Int)∧cp= .pointer (some ⟨g7,0,none⟩)∧aq bc g7 119 (pG c).cells.toArray∧Fr ag w3 bc);case first=>
    cases b7
    ·have aS:Hid (#[Value.int .i64 c.nm.kind, .string c.nm.owner, .int .i64 c.nm.number, .int .i64 c.nm.index, .string c.nm.text, .string c.value, .bool c.bA]=(pG c).cells.toArray):=by
      rw[Hid,pG,if_neg (by rw[aP.out];decide)];rfl
     have HB:Hid (aq ba g7 119 (pG c).cells.toArray):=by rw[←aS.out];exact aY.out
     clear aS;go_wp2;go_meet;exact⟨rfl,rfl,rfl,rfl,HB.out,bf.out⟩
    ·have aS:Hid (#[Value.int .i64 c.nm.kind, .string c.nm.owner, .int .i64 c.nm.number, .int .i64 c.nm.index, .string c.nm.text, .string ByteArray.empty, .bool c.bA]=(pG c).cells.toArray):=by
      rw[Hid,pG,if_pos aP.out];rfl
     go_wp2_with(refine sX rfl 9 _ _ rfl g7 5 (.string ByteArray.empty) rfl rfl b6.out oM _ _ _ aY.out (show 5<7 by decide) rfl ?_);intro wc bO bT;have HB:Hid (aq wc g7 119 (pG c).cells.toArray):=by rw[←aS.out];exact bO
     have b3:Hid (Fr ag w3 wc):=bf.out.aw bT (fun i V e=>by have b8:i=g7:=e;have:=av.out;omega);clear bO bT aS;go_wp2;go_meet;exact⟨rfl,rfl,rfl,rfl,HB.out,b3.out⟩
   case rest=>
    obtain⟨rfl,rfl,rfl,rfl,bY,b⟩:=hcut;have aZ:=af bY;have be:=af b;have ax:=af (y9 bM.out);clear bY b aY bf bI bM;generalize pG c=d at*;have cy:=af g.out.row;have ab:=af (show CL w3 (fun _=>True) q n6 ls from by have e:=ao.out;subst e;exact⟨(Rd.ib g.out.row).any,rfl⟩);go_wp2;go_loopw[8](fun i bc=>∃j:Nat,j≤n6∧i= .int .i64 (j:Int)∧Fr ag wc bc)(fun i _=>n6-(intOf i).toNat);case atStart=>exact⟨0,Nat.zero_le _,rfl,aD⟩
    case round=>
     obtain⟨j,a8,rfl,b⟩:=hrel;have ad:=af a8;have a0:=af b;clear a8 b;obtain⟨E,z,O⟩:∃(E:Addr)(z:CV),Hid (j<n6→q=some E∧ls[j]? =some z∧∀aa x,z.cells[aa]? =some x→wc.cell? ((E.add (j*7)).add aa)=some x):=by
      by_cases h:j<n6;·obtain⟨E,z,ca,cb,cc⟩:=(ab.out.ar be.out).at_ h;exact⟨E,z,fun _=>⟨ca,cb,cc⟩⟩
      ·exact⟨⟨0,0,none⟩,d,fun a5=>absurd a5 h⟩
     obtain⟨P,bQ⟩:∃z:Bool,decide (j<n6)=z:=⟨_,rfl⟩;have J:=af bQ;have ah:Hid (decide ((j:Int)<(n6:Int))=P):=by rw[Hid,←J.out];exact decide_eq_decide.2 (by omega)
     obtain⟨Q,aW⟩:∃bF:Bool,decide (cT z.nm d.nm<0)=bF:=⟨_,rfl⟩;have EQ:=af aW;clear bQ aW;have M:Hid (j<n6→q=some E):=fun h=>(O.out h).1;have bH:Hid (j<n6→∀w',Calls Tryz.prog 128 #[.agg z.nm.cells.toArray, .agg d.nm.cells.toArray] w' (aJ w' (.int .i64 (cT z.nm d.nm)))):=fun h w'=>gN z.nm d.nm w' (by have:=(g.out.small z (List.mem_of_getElem? (O.out h).2.1)).owner;omega) (by have:=ax.out.owner;omega);obtain⟨B,bU⟩:∃z:Bool,(bif P then Q else false)=z:=⟨_,rfl⟩;have HB:=af bU;clear bU;go_upto_region 10 with fail;refine jS 15 [.int .i64 (j:Int), .slice q n6 k6, .int .i64 (n6:Nat), .bool P, .bool P,bif P then .slice q n6 k6 else undef,bif P then .int .i64 (j:Int)else undef,bif P then .pointer (some (E.add (j*7)))else undef,bif P then .pointer (some (E.add (j*7)))else undef,bif P then .agg z.nm.cells.toArray else undef,bif P then .pointer (some ⟨g7,0,none⟩)else undef,bif P then .agg d.nm.cells.toArray else undef,bif P then .int .i64 (cT z.nm d.nm)else undef,bif P then .bool Q else undef, .bool B] ?zK ?_;case zK=>
      refine⟨?yK,?yL,?zN,?zO,?zP,?zQ,?zR,?zS,?zT,?zU,?zA,?zB,?zC,?zD,?zE,trivial⟩;all_goals intro u w' b a
      all_goals simp only[z1,z2,z3,z4,ay,Act.put,z5,z6,z7,Nat.reduceAdd,Nat.zero_add]
      case' zN=>simp only[show u 1=_ from a 1]
      case zO=>
       simp only[show u 0=_ from a 0,show u 2=_ from a 2];refine aG ?_;have t1:=ah.out;have t2:=J.out;go_simp;exact aM
      case' zP=>simp only[show u 3=_ from a 3]
      case' zQ=>
       simp only[show u 4=_ from a 4];cases P;case false=>exact bE
      case' zR=>
       simp only[show u 4=_ from a 4];cases P;case false=>exact bE
      case zS=>
       simp only[show u 5=_ from a 5,show u 6=_ from a 6,show u 4=_ from a 4];cases P;case false=>exact bE
       refine aG ?_;have r:=of_decide_eq_true J.out;have bn:q=some E:=M.out r;have aN:(j:Int)<(n6:Int):=by omega
       have a4:(0:Int)≤(j:Int):=by omega
       clear M;subst bn;go_simp;exact aM
      case' zT=>
       simp only[show u 7=_ from a 7,show u 4=_ from a 4];cases P;case false=>exact bE
      case zU=>
       simp only[show u 8=_ from a 8,show u 4=_ from a 4];cases P;case false=>exact bE
       refine aG ?_;have r:=of_decide_eq_true J.out;exact az _ _ rfl (E.add (j*7)) rfl z.nm.cells _ (fun aa v X=>(a0.out.trans b).an ((O.out r).2.2 aa v (by rw[CV.cells,List.getElem?_append_left (List.getElem?_eq_some_iff.1 X).1];exact X)) (fun x=>x)) Tryz.underlying106 rfl bD aM
      case' zA=>
       simp only[show u 4=_ from a 4];cases P;case false=>exact bE
      case zB=>
       simp only[show u 10=_ from a 10,show u 4=_ from a 4];cases P;case false=>exact bE
       refine aG ?_;exact az _ _ rfl ⟨g7,0,none⟩ rfl d.nm.cells _ (fun aa v X=>by rw[Addr.add_mid,Nat.zero_add,(aZ.out.fr (a0.out.trans b) (fun x=>x)).cell aa,bR,CV.cells,List.getElem?_append_left (List.getElem?_eq_some_iff.1 X).1];exact X) Tryz.underlying106 rfl bD aM
      case zC=>
       simp only[show u 9=_ from a 9,show u 11=_ from a 11,show u 4=_ from a 4];cases P;case false=>exact bE
       refine aG ?_;have r:=of_decide_eq_true J.out;go_simp;refine(bH.out r _).mono ?_;rintro e aO⟨rfl,f4⟩;exact⟨rfl,f4⟩
      case zD=>
       simp only[show u 12=_ from a 12,show u 4=_ from a 4];cases P;case false=>exact bE
       refine aG ?_;have t:=EQ.out;go_simp;exact aM
      case zE=>
       simp only[show u 4=_ from a 4,show u 13=_ from a 13];cases P<;>exact aG (by go_simp;exact⟨by rw[←HB.out];rfl,aD⟩)
      all_goals
       try simp only[cond]
       refine aG ?_;go_simp;exact aM
     intro w' b;simp only[z1,z2,z3,z4,ay,Act.put,z5,z6,z7,z8,z9,jx,jy,Nat.reduceAdd,Nat.zero_add];have a1:=af (a0.out.trans b);clear b a0 bH EQ;cases B
     ·generalize w'=aO at*;have L:Hid (Fr ag w3 aO):=be.out.trans a1.out;clear HB;go_upto_region 12 with fail;refine Df 9 ag (fun i=>i==7) (fun i j=>(i==7&&(j==0||j==4||j==6))) [⟨fun K am=>∃i:Nat,K= .slice (some ⟨i,0,none⟩) 0 0∧am.ownsRow 0 119 7 (.slice (some ⟨i,0,none⟩) 0 0) 0 []∧aO.heap.size≤i,fun _ _ _ f⟨i,e,h,l⟩=>⟨i,e,aQ h f (fun _ _ x=>x),l⟩⟩,iS (.slice q n6 k6),iS (.int .i64 (j:Int)),iS (.slice q j k6),⟨fun K am=>am.ownsRow 0 119 7 K j ((ls.take j).flatMap CV.cells)∧∀k,K.ownBlock=some k→aO.heap.size≤k,fun _ _ _ f h=>⟨aQ h.1 f (fun _ _ x=>x),h.2⟩⟩,iS (.agg d.cells.toArray),⟨fun K am=>∃i:Nat,K= .slice (some ⟨i,0,none⟩) 1 1∧aq am i 119 d.cells.toArray,fun _ _ _ f⟨i,e,h⟩=>⟨i,e,h.fr f (fun x=>x)⟩⟩,⟨fun K am=>dO am K (ls.take j++[d])∧∀k,K.ownBlock=some k→aO.heap.size≤k,fun _ _ _ f h=>⟨h.1.ar f,h.2⟩⟩,⟨fun K am=>dO am K (ls.take j++[d])∧∀k,K.ownBlock=some k→aO.heap.size≤k,fun _ _ _ f h=>⟨h.1.ar f,h.2⟩⟩] ?zM ?_;case zM=>
       refine⟨?yD,?yO,?yP,?yE,?yF,?yG,?yH,?yI,?yJ,trivial⟩;all_goals intro u w' b a cA
       all_goals simp only[z1,z2,z3,z4,ay,Act.put,z5,z6,z7,Nat.reduceAdd,Nat.zero_add]
       case yD=>
        refine aG ?_;refine nZ 44 119 rfl Z Tryz.underlying44 I ?_;intro b2 bx;exact⟨_,rfl,bx.fr,⟨w'.heap.size,rfl,bx.Hu,b.size⟩⟩
       case yE=>
        simp only[show u 1=_ from a 1,show u 2=_ from a 2];refine aG ?_;have aN:(j:Int)≤(k6:Int):=by have:=ad.out;have:=ap.out;omega
        have a4:(0:Int)≤(j:Int):=by omega
        go_simp;exact⟨_,rfl,aD,rfl⟩
       case yF=>
        obtain⟨i0,b9,bs,cC⟩:=a 0;simp only[b9,show u 3=_ from a 3];refine aG ?_;refine Al (.tmp 49) (.tmp 52) 44 rfl 119 Z di 7 80 Tryz.underlying44 I Y D al rfl (by decide) i0 rfl bs (fun _=>True) q j k6 ((ls.take j).flatMap CV.cells) rfl ((ab.out.ar (L.out.trans b)).take ad.out).rd (by have:=ad.out;have:=s.out;omega) (by have:=ad.out;have:=s.out;omega) ?_;intro v5 b2 ci bu ch;exact⟨_,rfl,bu,ci,fun k r=>(ch k r).elim (fun e=>by omega) (fun e=>Nat.le_trans b.size e)⟩
       case yG=>
        refine aG ?_;exact az _ _ rfl ⟨g7,0,none⟩ rfl d.cells _ (fE (aZ.out.fr (a1.out.trans b) (fun x=>x))) Tryz.underlying119 rfl jr ⟨_,rfl,aD,rfl⟩
       case yH=>
        simp only[show u 5=_ from a 5];refine aG ?_;refine wp_buildSlice 44 119 1 #[(0, .tmp 54)] rfl d.cells.toArray Z di Tryz.underlying44 I Y bp.out bq.out ?_ ?_;·simp only[List.map_toArray,List.map_cons,List.map_nil];exact br.out d
        ·exact⟨_,rfl,aD.alloc _,⟨w'.heap.size,rfl,aq.new _ _ _⟩⟩
       case yI=>
        obtain⟨ce,bZ⟩:=a 4;obtain⟨i6,aN,cf⟩:=a 6;simp only[aN];refine aG ?_;refine ti _ (.tmp 53) (.tmp 55) 44 rfl 119 Z di 7 80 Tryz.underlying44 I Y D al rfl (by decide) _ _ _ rfl ce (fun _=>True) (some ⟨i6,0,none⟩) 1 1 d.cells rfl ⟨rfl,fun _=>⟨_,rfl,trivial,fun aa x cj=>by rw[Addr.add_mid,Nat.zero_add,cf.cell,bR];exact cj⟩⟩ (ts d) (by have:=ad.out;have:=s.out;omega) (by decide) ?_;intro cD cE H;refine⟨_,rfl,⟨b.aw H.fr (fun k r e=>by have:=bZ k e;omega),?_⟩,?_,fun k r=>(H.ew k r).elim (bZ k) (fun h=>Nat.le_trans b.size h)⟩;·exact⟨mP,fun _ h=>h,fun _ h=>h,fun _ h=>h,mP,fun _ h=>h,mP,mP,mP,trivial⟩
        ·have h:=H.own;unfold dO;rw[show(ls.take j++[d]).length=j+1 by rw[bh,List.length_take,List.length_singleton,Nat.min_eq_left (by have:=ad.out;have:=ao.out;omega)],List.flatMap_append];simpa using h
       case yJ=>
        obtain⟨cg,cl⟩:=a 7;refine aG ?_;go_simp;exact⟨_,rfl,aD,cg,cl⟩
       all_goals
        refine aG ?_;go_simp;exact⟨_,rfl,aD,rfl⟩
      intro u w' b a;obtain⟨a6,bB⟩:=a 8 (by omega);obtain⟨bd,bC,bz,bo,cx,b4⟩:=aU a6;rw[bo]at a6 bB;simp only[z1,z2,z3,z4,ay,Act.put,z5,z6,z7,z8,z9,Nat.reduceAdd,Nat.zero_add];clear a;simp only[bo];have aT:=af a6;have a2:=af bB;have ac:=af (a1.out.trans b);clear b a6 bB bo;obtain⟨Q,aW⟩:∃bF:Bool,xM z.nm d.nm=bF:=⟨_,rfl⟩;have EQ:=af aW;clear aW;obtain⟨C,bV⟩:∃z:Bool,(bif P then Q else false)=z:=⟨_,rfl⟩;have aL:=af bV;clear bV;have aV:Hid (∀W,Fr ag w' W→dO W (.slice bd bC bz) (ls.take j++[d])):=fun W f=>aT.out.ar f;clear aT;generalize w'=b2 at*;go_upto_region 13 with fail;refine jS 14 [.int .i64 (j:Int), .slice q n6 k6, .int .i64 (n6:Nat), .bool P, .bool P,bif P then .slice q n6 k6 else undef,bif P then .int .i64 (j:Int)else undef,bif P then .pointer (some (E.add (j*7)))else undef,bif P then .pointer (some (E.add (j*7)))else undef,bif P then .agg z.nm.cells.toArray else undef,bif P then .pointer (some ⟨g7,0,none⟩)else undef,bif P then .agg d.nm.cells.toArray else undef,bif P then .bool Q else undef, .bool C] ?zL ?_;case zL=>
       refine⟨?yM,?yN,?zV,?zW,?zX,?zY,?zZ,?yA,?yB,?yC,?zF,?zG,?zH,?zI,trivial⟩;all_goals intro u w' b a
       all_goals simp only[z1,z2,z3,z4,ay,Act.put,z5,z6,z7,Nat.reduceAdd,Nat.zero_add]
       case' zV=>simp only[show u 1=_ from a 1]
       case zW=>
        simp only[show u 0=_ from a 0,show u 2=_ from a 2];refine aG ?_;have t1:=ah.out;have t2:=J.out;go_simp;exact aM
       case' zX=>simp only[show u 3=_ from a 3]
       case' zY=>
        simp only[show u 4=_ from a 4];cases P;case false=>exact bE
       case' zZ=>
        simp only[show u 4=_ from a 4];cases P;case false=>exact bE
       case yA=>
        simp only[show u 5=_ from a 5,show u 6=_ from a 6,show u 4=_ from a 4];cases P;case false=>exact bE
        refine aG ?_;have r:=of_decide_eq_true J.out;have bn:q=some E:=M.out r;have aN:(j:Int)<(n6:Int):=by omega
        have a4:(0:Int)≤(j:Int):=by omega
        clear M;subst bn;go_simp;exact aM
       case' yB=>
        simp only[show u 7=_ from a 7,show u 4=_ from a 4];cases P;case false=>exact bE
       case yC=>
        simp only[show u 8=_ from a 8,show u 4=_ from a 4];cases P;case false=>exact bE
        refine aG ?_;have r:=of_decide_eq_true J.out;exact az _ _ rfl (E.add (j*7)) rfl z.nm.cells _ (fun aa v X=>(ac.out.trans b).an ((O.out r).2.2 aa v (by rw[CV.cells,List.getElem?_append_left (List.getElem?_eq_some_iff.1 X).1];exact X)) (fun x=>x)) Tryz.underlying106 rfl bD aM
       case' zF=>
        simp only[show u 4=_ from a 4];cases P;case false=>exact bE
       case zG=>
        simp only[show u 10=_ from a 10,show u 4=_ from a 4];cases P;case false=>exact bE
        refine aG ?_;exact az _ _ rfl ⟨g7,0,none⟩ rfl d.nm.cells _ (fun aa v X=>by rw[Addr.add_mid,Nat.zero_add,(aZ.out.fr (ac.out.trans b) (fun x=>x)).cell aa,bR,CV.cells,List.getElem?_append_left (List.getElem?_eq_some_iff.1 X).1];exact X) Tryz.underlying106 rfl bD aM
       case zH=>
        simp only[show u 9=_ from a 9,show u 11=_ from a 11,show u 4=_ from a 4];cases P;case false=>exact bE
        refine aG ?_;exact fD _ _ _ _ _ rfl _ _ rfl rfl Tryz.eqGuardType106 _ (by rw[←EQ.out];exact EH z.nm d.nm _) aM
       case zI=>
        simp only[show u 4=_ from a 4,show u 12=_ from a 12];cases P<;>exact aG (by go_simp;exact⟨by rw[←aL.out];rfl,aD⟩)
       all_goals
        try simp only[cond]
        refine aG ?_;go_simp;exact aM
      intro w' b;simp only[z1,z2,z3,z4,ay,Act.put,z5,z6,z7,z8,z9,jx,jy,Nat.reduceAdd,Nat.zero_add];have aT:=af (aV.out _ b);have F:=af (be.out.trans (ac.out.trans b));clear b aV;generalize w'=a9 at*;have cz:=ad.out;have cu:IntKind.i64.wrap ((k:Int)+1)=(k:Int)+1:=IntWalk.i64_in _ (by have:=bL.out;have:=ae.out;omega);have aR:Hid (C=true→j<n6):=fun h=>by
       have a5:=aL.out;rw[h]at a5;cases P;·cases a5
       ·exact of_decide_eq_true J.out
      clear J ah EQ aL O M ac aZ;cases C
      ·clear aR;have aN:(j:Int)≤(n6:Int):=by omega
       have a4:(0:Int)≤(j:Int):=by omega
       obtain⟨N,aj⟩:∃N,(ls.take j++[d]).length=N:=⟨_,rfl⟩;obtain⟨aE,y⟩:∃aE,(ls.take j++[d]).flatMap CV.cells=aE:=⟨_,rfl⟩;obtain⟨T,o⟩:∃T,(ls.drop (j)).flatMap CV.cells=T:=⟨_,rfl⟩;have bm:Hid (a9.ownsRow 0 119 7 (.slice bd bC bz) N aE):=by rw[Hid,←aj,←y];exact aT.out
       have bl:Hid (Rd a9 (fun _=>True) 7 (if k6=j then q else q.map (·.add ((j)*7))) (n6-(j)) T):=by rw[Hid,←o];exact((ab.out.ar F.out).cut (k:=j) (cap:=k6) (by omega) ap.out).rd
       have R:Hid (∀u∈T,u.oneCell'=true):=by
        rw[Hid,←o];intro u hu;obtain⟨G,_,p⟩:=List.mem_flatMap.1 hu;exact ts G u p
       have au:Hid ((N+(n6-(j)))*80≤140737488355328):=by
        have:=s.out;rw[Hid,←aj,bh,List.length_take,List.length_singleton];omega
       have bg:=af aj;have aA:=af y;have aB:=af o;clear aj y o;go_wp2_with(refine iE _ rfl _ _ 44 rfl 119 Z di 7 80 Tryz.underlying44 I Y D al rfl (by decide) _ _ _ rfl bm.out (fun _=>True) _ _ _ T rfl bl.out R.out au.out (by decide) ?_);all_goals
        intro v10 aK H;have aC:Hid (Gr w1 aK v10 (ls.take j++[d]++ls.drop (j)) (k+1)):=by
         refine⟨?_,?_,?_,?_,?_⟩;·have h:=H.own;unfold dO;rw[List.flatMap_append,bh,List.length_drop,←ao.out,bg.out,aA.out,aB.out];exact h
         ·have:=g.out.len;have:=ao.out;have:=ad.out;rw[bh,bh,List.length_take,List.length_drop,List.length_singleton];omega
         ·intro G p;rw[List.mem_append,List.mem_append,List.mem_singleton]at p;rcases p with(h|rfl)|h;·exact g.out.small G (List.mem_of_mem_take h)
          ·exact ax.out
          ·exact g.out.small G (List.mem_of_mem_drop h)
         ·exact(g.out.fr.trans F.out).aw H.fr (fun i V e=>by have:=a2.out i e;have:=g.out.fr.size;have:=L.out.size;omega)
         ·intro i V;have:=g.out.fr.size;have:=L.out.size;have:=F.out.size;rcases H.ew i V with h|h;·have:=a2.out i h;omega
          ·omega
        clear H;go_wp2;go_roundw;case rel=>exact⟨k+1,_,by omega,by go_num,aC.out⟩
        case measure=>simp[intOf];omega
      ·have bv:j<n6:=aR.out rfl;have cs:IntKind.i64.wrap ((j:Int)+1)=(j:Int)+1:=IntWalk.i64_in _ (by have:=s.out;omega);have aN:(j:Int)+1≤(n6:Int):=by omega
       have a4:(0:Int)≤(j:Int)+1:=by omega
       obtain⟨N,aj⟩:∃N,(ls.take j++[d]).length=N:=⟨_,rfl⟩;obtain⟨aE,y⟩:∃aE,(ls.take j++[d]).flatMap CV.cells=aE:=⟨_,rfl⟩;obtain⟨T,o⟩:∃T,(ls.drop (j+1)).flatMap CV.cells=T:=⟨_,rfl⟩;have bm:Hid (a9.ownsRow 0 119 7 (.slice bd bC bz) N aE):=by rw[Hid,←aj,←y];exact aT.out
       have bl:Hid (Rd a9 (fun _=>True) 7 (if k6=j+1 then q else q.map (·.add ((j+1)*7))) (n6-(j+1)) T):=by rw[Hid,←o];exact((ab.out.ar F.out).cut (k:=j+1) (cap:=k6) (by omega) ap.out).rd
       have R:Hid (∀u∈T,u.oneCell'=true):=by
        rw[Hid,←o];intro u hu;obtain⟨G,_,p⟩:=List.mem_flatMap.1 hu;exact ts G u p
       have au:Hid ((N+(n6-(j+1)))*80≤140737488355328):=by
        have:=s.out;rw[Hid,←aj,bh,List.length_take,List.length_singleton];omega
       have bg:=af aj;have aA:=af y;have aB:=af o;clear aj y o;go_wp2_with(refine iE _ rfl _ _ 44 rfl 119 Z di 7 80 Tryz.underlying44 I Y D al rfl (by decide) _ _ _ rfl bm.out (fun _=>True) _ _ _ T rfl bl.out R.out au.out (by decide) ?_);all_goals
        intro v10 aK H;have aC:Hid (Gr w1 aK v10 (ls.take j++[d]++ls.drop (j+1)) (k+1)):=by
         refine⟨?_,?_,?_,?_,?_⟩;·have h:=H.own;unfold dO;rw[List.flatMap_append,bh,List.length_drop,←ao.out,bg.out,aA.out,aB.out];exact h
         ·have:=g.out.len;have:=ao.out;have:=ad.out;rw[bh,bh,List.length_take,List.length_drop,List.length_singleton];omega
         ·intro G p;rw[List.mem_append,List.mem_append,List.mem_singleton]at p;rcases p with(h|rfl)|h;·exact g.out.small G (List.mem_of_mem_take h)
          ·exact ax.out
          ·exact g.out.small G (List.mem_of_mem_drop h)
         ·exact(g.out.fr.trans F.out).aw H.fr (fun i V e=>by have:=a2.out i e;have:=g.out.fr.size;have:=L.out.size;omega)
         ·intro i V;have:=g.out.fr.size;have:=L.out.size;have:=F.out.size;rcases H.ew i V with h|h;·have:=a2.out i h;omega
          ·omega
        clear H;go_wp2;go_roundw;case rel=>exact⟨k+1,_,by omega,by go_num,aC.out⟩
        case measure=>simp[intOf];omega
     ·have bv:j<n6:=by
       have h:=HB.out;cases P;·cases h
       ·exact of_decide_eq_true J.out
      have cs:IntKind.i64.wrap ((j:Int)+1)=(j:Int)+1:=IntWalk.i64_in _ (by have:=s.out;omega);clear HB J ah;go_wp2;go_roundw;case rel=>exact⟨j+1,by omega,by go_num,a1.out⟩
      case measure=>simp[intOf];omega
  ·obtain rfl:k=m:=by have:=bL.out;omega
   have t0:decide ((k:Int)<(k:Int))=false:=ct (by omega);go_wp2;go_ret;exact⟨_,ls,rfl,g.out.row,by have:=g.out.len;have:=ae.out;omega,g.out.small,bK.out.trans g.out.fr,fun i V=>by have:=g.out.new i V;have:=bK.out.size;omega⟩
end Go.Proofs.YtphjagkehiklkaaGreatDoor
namespace Go.Proofs.YtphjagkehiklkaaGreatDoor
open Go.RowKit
def eH(s:ByteArray):List UInt8:=s.data.toList
theorem dL(s:ByteArray):(eH s).length=s.size:=by simp[eH]
structure tm(W w:World)(v:Value)(l:List UInt8):Prop where
 fr:Fr ag W w
 row:∃g cap,v= .slice (some ⟨g,0,none⟩) l.length cap∧W.heap.size≤g∧g<w.heap.size∧l.length≤cap∧cap≤maxLen∧(∀j,j<cap→(w.cell? ⟨g,j,none⟩).isSome=true)∧
  (∀j,j<cap→w.frozen? ⟨g,j,none⟩=false)∧(∀j u,(l.map aS)[j]? =some u→w.cell? ⟨g,j,none⟩=some u)
theorem EX:(Tryz.prog.info? 5).map (fun i=>(i.zero,i.size,i.bytes))=some (some (.int .u8 0),1,1):=by kernel_rfl
theorem tm.ib{W w:World}{base:Nat}{v:Value}{l:List UInt8}(h:w.ownsRow base 5 1 v l.length (l.map aS))(s:W.heap.size≤base)(p:Fr ag W w)(q:l≠[]):tm W w v l:=by
 rcases h.2 with⟨rfl,m⟩|⟨g,cap,cur,rfl,n,a,f,c,o,i⟩
 ·cases l with
  |nil=>exact absurd rfl q
  |cons x r=>simp at m
 ·have e:g<w.heap.size:=by
   rcases Nat.lt_or_ge g w.heap.size with b|b;·exact b
   ·rw[Array.getElem?_eq_none b]at a;cases a
  refine⟨p,g,cap,rfl,by omega,e,f,c,fun j t=>?_,fun j _=>by simp[World.frozen?,a],fun j u hu=>?_⟩
  ·have d:j<cur.size:=by omega
   simp[World.cell?,a,d]
  ·have k:=h.cells (g:=g) rfl j u hu;rw[show(⟨g,0,none⟩:Addr).add j=⟨g,j,none⟩by unfold Addr.add;split<;>simp_all]at k;exact k
end Go.Proofs.YtphjagkehiklkaaGreatDoor
namespace Go.Proofs.YtphjagkehiklkaaGreatDoor
open Go.RowKit
theorem Gz(l:List UInt8):∀(s:ByteArray),(l.map (fun b:UInt8=>(b.toNat:Int))).foldl (fun r n=>r.push (UInt8.ofNat n.toNat)) s=⟨(s.data.toList++l).toArray⟩:=by
 induction l with
 |nil=>intro s;simp
 |cons b l a=>
  intro s;simp only[List.map_cons,List.foldl_cons];rw[a];congr 1;have e:UInt8.ofNat (Int.toNat (b.toNat:Int))=b:=by simp
  rw[e];simp[ByteArray.push]
theorem uY{P:Program}(w:World)(src dst e:TypeId)(q:P.underlying src=some (.slice e))(he:P.underlying e=some (.int .u8))(p:P.underlying dst=some .string)
  (S:Nat→Prop)(A:Option Addr)(n c:Nat)(l:List UInt8)(f:Rd w S 1 A n (l.map aS)):(convert src dst (.slice A n c)).run P w= .ok (.string ⟨l.toArray⟩) w:=by
 rw[run_convert_bytes_string w src dst e A n c q he p];have d:l.length=n:=by simpa using f.1
 rcases A with _|a
 ·have:l=[]:=by
   rcases Nat.eq_zero_or_pos n with h|h;·exact List.eq_nil_of_length_eq_zero (d.trans h)
   ·obtain⟨a,e,_⟩:=f.2 h;cases e
  subst this;rfl
 ·have o:∀j v,(l.map aS)[j]? =some v→w.cell? (a.add j)=some v:=by
   intro j v i;rcases Nat.eq_zero_or_pos n with h|h;·have:l=[]:=List.eq_nil_of_length_eq_zero (d.trans h);subst this;simp at i
   ·obtain⟨k,e,_,m⟩:=f.2 h;injection e with e;subst e;exact m j v i
  have g:=run_loadCells_list (P:=P) w a (l.map aS) o;rw[List.length_map,d]at g;rw[run_bytesToString w a n c (l.map (fun b:UInt8=>(b.toNat:Int))) (by rw[g];simp[aS,Function.comp_def])];rw[Gz];rfl
abbrev Au(w:World)(v:Value)(w':World)(a:Value)(l:List UInt8):Prop:=bW 5 1 w v w' a l.length (l.map aS)
theorem vW(s:ByteArray):Lib.strCells s=(eH s).map aS:=rfl
theorem gH(l:List UInt8):∀u∈l.map aS,u.oneCell'=true:=by
 intro u hu;obtain⟨b,_,rfl⟩:=List.mem_map.1 hu;rfl
theorem zG(n:Nat):aS (ij n)= .int .u8 ((n%256:Nat):Int):=by
 unfold aS ij;rw[UInt8.toNat_ofNat']
def mS(s:ByteArray):Value:= .string s
def ea(tag:UInt8)(a:List ByteArray)(k:Nat):List UInt8:=tag::ij a.length::(a.take k).flatMap fun p=>ee p.size++eH p
theorem sf(tag:UInt8)(a:List ByteArray)(k:Nat)(p:ByteArray)(h:a[k]? =some p):ea tag a (k+1)=ea tag a k++ee p.size++eH p:=by
 unfold ea;rw[List.take_add_one,h];simp[List.flatMap_append]
theorem tG(tag:UInt8)(a:List ByteArray)(k:Nat)(h:a.length≤k):ea tag a k=gV tag (a.map eH):=by
 unfold ea gV;rw[List.take_of_length_le h,List.length_map];congr 2;rw[List.flatMap_map];congr 1
def Joined(w:World)(s:ByteArray)(e:Ending)(w':World):Prop:=e= .returned (.tuple #[.string s, .int .i64 0])∧Fr ag w w'
theorem Bp(n:Nat)(h:n<4294967296):[Value.int .u8 ((n:Int)/16777216), .int .u8 ((n:Int)/65536%256), .int .u8 ((n:Int)/256%256), .int .u8 ((n:Int)%256)]=(ee n).map aS:=by
 unfold ee;simp only[List.map_cons,List.map_nil,zG];rw[show((n/16777216%256:Nat):Int)=(n:Int)/16777216 by omega,show((n/65536%256:Nat):Int)=(n:Int)/65536%256 by omega,show((n/256%256:Nat):Int)=(n:Int)/256%256 by omega,show((n%256:Nat):Int)=(n:Int)%256 by omega]
end Go.Proofs.YtphjagkehiklkaaGreatDoor
namespace Go.Proofs.YtphjagkehiklkaaGreatDoor
open Go.RowKit
theorem AD(tag:UInt8)(a:List ByteArray)(k:Nat)(p:ByteArray)(h:a[k]? =some p):(ea tag a (k+1)).length=(ea tag a k).length+(4+p.size):=by
 rw[sf tag a k p h,bh,bh,dL];have:(ee p.size).length=4:=rfl;omega
theorem Ec(tag:UInt8)(a:List ByteArray)(A:Option Addr)(n c:Nat)(S:Nat→Prop)(w:World)(R:Rd w S 1 A n (a.map mS))(aq:n≤255)(ac:∀k,(ea tag a k).length≤1099511627776)(ab:∀p∈a,p.size<4294967296):
  Calls Tryz.prog 125 #[aS tag, .slice A n c] w (Joined w ⟨(gV tag (a.map eH)).toArray⟩):=by
 obtain⟨i0,M,g,j,l⟩:=info_parts EX;have aa:=af R;have z:Hid (a.length=n):=by have:=R.1;simpa[Hid]using this
 have I:=af ac;have ah:=af ab;have ai:Hid (gV tag (a.map eH)=ea tag a n):=(tG tag a n (by rw[z.out];exact Nat.le_refl _)).symm;generalize C:(⟨(gV tag (a.map eH)).toArray⟩:ByteArray)=RS at*;have O:=af C;clear C;clear R ac ab;unfold aS;have ap:decide ((255:Int)<(n:Int))=false:=ct (by omega);go_enter Tryz.func125,Tryz.ntmps125;go_wp2;go_loopw[18,6](fun i sz wr=>∃k:Nat,k≤n∧i= .int .i64 k∧sz= .int .i64 ((ea tag a k).length:Nat)∧wr=w)(fun i _ _=>n-(intOf i).toNat);case atStart=>exact⟨0,by omega,rfl,rfl,rfl⟩
 case round=>
  obtain⟨k,s,rfl,rfl,rfl⟩:=hrel;by_cases f:k<n
  ·obtain⟨al,u,rfl,_,hu,b⟩:=aa.out.at_ f;obtain⟨p,t,rfl⟩:∃p,a[k]? =some p∧u=mS p:=by
    rw[List.getElem?_map]at hu;cases h:a[k]? with
    |none=>rw[h]at hu;cases hu
    |some p=>rw[h]at hu;exact⟨p,rfl,(Option.some.inj hu).symm⟩
   have B:=af (AD tag a k p t);have J:=I.out (k+1);rw[B.out]at J;unfold mS at b;clear hu t;have V:(k:Int)<(n:Int):=by omega
   generalize(ea tag a k).length=L at*;go_wp2;go_roundw;case rel=>exact⟨k+1,by omega,by go_num,by rw[B.out];go_num,by first|rfl|trivial⟩
   case measure=>simp[intOf];omega
  ·have D:decide ((k:Int)<(n:Int))=false:=ct (by omega);have E:decide (k<n)=false:=ct (by omega);have J:=I.out k;obtain⟨Z,ad⟩:∃Z,Z=(ea tag a k).length:=⟨_,rfl⟩;rw[←ad]at J⊢;clear ad s f;go_wp2_with(at_make;refine wpList_make_own _ rfl _ _ 61 rfl 0 5 i0 (.int .u8 0) 1 Tryz.underlying61 M g j _ _ _ Z rfl rfl ?zC ?zA ?zB (Nat.zero_le _) ?_);case zC=>rfl
   case zA=>rw[l];omega
   case zB=>unfold maxLen;omega
   intro w1 o G;have X:Hid (Fr ag wr w1):=(Fr.grown G).mono (fun k _ s=>by cases s);have H1:=af o;clear o G;go_wp2_with(at_builtin;refine da _ rfl _ _ 61 rfl 5 i0 _ 1 1 Tryz.underlying61 M g j l rfl (by omega) _ _ _ rfl H1.out 2 _ _ rfl rfl rfl ?zD ?zE (by omega) ?_);case zD=>simp[Value.oneCell']
   case zE=>omega
   intro v2 w2 d;have Y:Hid (Au wr (.slice none 0 0) w2 v2 (ea tag a 0)):=by
    have e:(ea tag a 0).map aS=[Value.int .u8 (tag.toNat:Int), .int .u8 (n:Int)]:=by
     show[aS tag,aS (ij a.length)]=_;rw[zG,z.out,Nat.mod_eq_of_lt (by omega)];rfl
    have h:=bW.fresh X.out (fun k s=>by simp[Value.ownBlock]at s;omega) d;simp only[Hid,Au];rw[e];simpa[ea]using h
   clear d H1 X;obtain⟨w,hw⟩:∃x,x=wr:=⟨_,rfl⟩;subst hw;clear D E J;go_wp2;go_loopw[9,39](fun v i wr=>∃k:Nat,k≤n∧i= .int .i64 k∧Au w (.slice none 0 0) wr v (ea tag a k))(fun _ i _=>n-(intOf i).toNat);case atStart=>exact⟨0,by omega,rfl,Y.out⟩
   case round=>
    obtain⟨k,s,rfl,U⟩:=hrel;have q:=af U;obtain⟨N,n1,zA,rfl,Q,_⟩:=aU U.own;clear U Y;by_cases f:k<n
    ·obtain⟨al,u,rfl,_,hu,r⟩:=aa.out.at_ f;obtain⟨p,t,rfl⟩:∃p,a[k]? =some p∧u=mS p:=by
      rw[List.getElem?_map]at hu;cases h:a[k]? with
      |none=>rw[h]at hu;cases hu
      |some p=>rw[h]at hu;exact⟨p,rfl,(Option.some.inj hu).symm⟩
     have B:=af (sf tag a k p t);have W:p.size<4294967296:=ah.out p (List.mem_of_getElem? t);have aj:=af (I.out k);have m:Hid ((ea tag a k).length+4+p.size≤1099511627776):=by
      have h:=I.out (k+1);rw[B.out,bh,bh,dL]at h;simp only[Hid];have:(ee p.size).length=4:=rfl;omega
     unfold mS at r;have b:=q.out.ar.an r (fun x=>x);clear hu t;have V:(k:Int)<(n:Int):=by omega
     go_wp2_with(at_builtin;refine da _ rfl _ _ 61 rfl 5 i0 _ 1 1 Tryz.underlying61 M g j l rfl (by omega) _ _ _ rfl q.out.own 4 _ _ rfl rfl rfl ?f1 ?f2 (by omega) ?_);case f1=>simp[Value.oneCell']
     case f2=>have:=m.out;omega
     intro v2 w2 d;have y:Hid (Au w (.slice none 0 0) w2 v2 (ea tag a k++ee p.size)):=by
      have h:=q.out.trans d;rw[Bp p.size W]at h;simpa[Hid,Au,ee]using h
     obtain⟨am,au,zB,rfl,ak,_⟩:=aU y.out.own;have K:=y.out.ar.an r (fun x=>x);clear d b q;go_wp2_with(at_builtin;refine lM _ rfl _ _ 61 9 rfl 5 i0 Tryz.underlying61 Tryz.underlying9 M g j l _ _ _ rfl y.out.own p rfl ?f3 ?_);case f3=>
      have:=m.out;have ao:(ee p.size).length=4:=rfl;rw[bh];omega
     intro v3 w3 F;have ae:Hid (Au w (.slice none 0 0) w3 v3 (ea tag a (k+1))):=by
      have h:=y.out.trans F;rw[vW]at h;simp only[Hid];rw[B.out];simpa[Au,dL,Nat.add_assoc]using h
     clear F y;go_wp2;go_roundw;case rel=>exact⟨k+1,by omega,by go_num,ae.out⟩
     case measure=>simp[intOf];omega
    ·have D:decide ((k:Int)<(n:Int))=false:=ct (by omega);have E:decide (k<n)=false:=ct (by omega);rw[show k=n by omega]at q;have H:Rd wr (mZ (.slice N n1 zA)) 1 N n1 ((ea tag a n).map aS):=by
      have h:=q.out.own;have e:n1=(ea tag a n).length:=by have:=Q.out;rw[show k=n by omega]at this;exact this
      rw[←e]at h;exact Rd.ib h
     have T:=uY (P:=Tryz.prog) wr 61 9 5 Tryz.underlying61 Tryz.underlying5 Tryz.underlying9 _ N n1 zA _ H;rw[←ai.out,O.out]at T;clear H;go_wp2;go_ret2;exact⟨rfl,q.out.ar⟩
theorem Cy{w:World}{g:Nat}{t:TypeId}{s:cS}(h:aq w g t (fC s).toArray):
  w.cell? ⟨g,0,none⟩=some (.int .u32 s.a)∧w.cell? ⟨g,1,none⟩=some (.int .u32 s.b)∧w.cell? ⟨g,2,none⟩=some (.int .u32 s.c)∧w.cell? ⟨g,3,none⟩=some (.int .u32 s.d)∧
  w.cell? ⟨g,4,none⟩=some (.int .u32 s.e)∧w.cell? ⟨g,5,none⟩=some (.int .u32 s.f)∧w.cell? ⟨g,6,none⟩=some (.int .u32 s.g)∧w.cell? ⟨g,7,none⟩=some (.int .u32 s.h):=
 ⟨h.cell 0,h.cell 1,h.cell 2,h.cell 3,h.cell 4,h.cell 5,h.cell 6,h.cell 7⟩
def aE(l:List UInt8):Value:= .agg (l.map aS).toArray
end Go.Proofs.YtphjagkehiklkaaGreatDoor
