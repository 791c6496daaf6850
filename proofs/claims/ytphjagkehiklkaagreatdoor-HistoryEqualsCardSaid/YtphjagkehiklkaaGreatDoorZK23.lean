/- Texts. -/
import Derived.Test.YtphjagkehiklkaaGreatDoorZK12
import Derived.Test.YtphjagkehiklkaaGreatDoorZK20
set_option linter.unusedVariables false
set_option linter.unusedSimpArgs false
set_option maxRecDepth 100000
set_option maxHeartbeats 4000000
namespace Go.Proofs.YtphjagkehiklkaaGreatDoor
open Go.RowKit Go.Shelf
theorem xQ:lH=ou.cells.toArray:=rfl
def mL:CV:=⟨ou,⟨#[53]⟩,false⟩
def clockA:ActV:=⟨⟨1,0,1,ByteArray.empty⟩,[],[mL]⟩
theorem D1:Tryz.prog.built 43 [(0, .int .i64 1),(2, .int .i64 1)]=some clockA.key.cells.toArray:=by kernel_rfl
theorem Ht:Tryz.prog.built 119 [(0, .agg ou.cells.toArray),(1, .string ⟨#[53]⟩)]=some mL.cells.toArray:=by kernel_rfl
theorem D0(A:Option Addr)(x y:Nat):Tryz.prog.built 46 [(0, .agg clockA.key.cells.toArray),(2, .slice A x y)]=some (clockA.key.cells++[Value.slice none 0 0, .slice A x y]).toArray:=by kernel_rfl
theorem J1{w:World}{g:Nat}{c:CV}(h:aq w g 119 c.cells.toArray):dV w (.slice (some ⟨g,0,none⟩) 1 1) [c]:=by
 exact⟨rfl, .inr ⟨g,1,c.cells.toArray,rfl,Nat.zero_le _,h,Nat.le_refl _,by decide,rfl,by rfl⟩⟩
theorem uD{P:Program}{ops:Array Oper}{rest:List Oper}{u:Oper}{a:Act}{w:World}{Q:Exit→Act→World→Prop}(j:u.guard=none)(ty:TypeId)(x y:Operand)(p:u.op= .store ty x y)
  (g f:Nat)(v:Value)(r:a.eval x= .pointer (some ⟨g,f,none⟩))(s:a.eval y=v)(m:v.oneCell'=true)(d:(P.info? ty).map (·.size)=some 1)
  (t:TypeId)(cs cs':Array Value)(e:aq w g t cs)(o:f<cs.size)(i:cs.setIfInBounds f v=cs')
  (h:∀w',aq w' g t cs'→Fr (fun k=>k=g) w w'→wpList P ops Q rest (a.put u.dst undef) w'):wpList P ops Q (u::rest) a w:=by
 subst i;obtain⟨b,l,q⟩:∃b,P.info? ty=some b∧b.size=1:=by
  cases he:P.info? ty with
  |none=>rw[he]at d;cases d
  |some b=>rw[he]at d;exact⟨b,rfl,by simpa using d⟩
 have c:=Lib.rl_storeVar_one (P:=P) ty b l q ⟨g,f,none⟩ v (cs[f]) m w (by rw[e.cell];simp[o]) (e.frozen _);refine wpList_plain j fun K n=>?_;unfold Oper.wp execOp;simp only[p,r,s,Instr.storeAt,Instr.sureAddr,Sem.run_bind,Sem.run_pure,Result.andThen_ok,c];exact n _ _ (h _ (e.j7 f v) (Fr.setCell (T:=fun k=>k=g) (Fr.refl _ w) (fun _=>rfl) v))
theorem oB:∀(xs:List CV)(k:Nat),(xs.flatMap CV.cells).take (k*7)=(xs.take k).flatMap CV.cells
 |[],k=>by simp
 |c::r,0=>by simp
 |c::r,k+1=>by
  rw[List.take_succ_cons,List.flatMap_cons,List.flatMap_cons,List.take_append,List.take_of_length_le (by rw[CV.eK];omega),CV.eK,show(k+1)*7-7=k*7 by omega,oB r k]
theorem ml:∀(xs:List CV)(k:Nat),(xs.flatMap CV.cells).drop (k*7)=(xs.drop k).flatMap CV.cells
 |[],k=>by simp
 |c::r,0=>by simp
 |c::r,k+1=>by
  rw[List.drop_succ_cons,List.flatMap_cons,List.drop_append,List.drop_of_length_le (by rw[CV.eK];omega),List.nil_append,CV.eK,show(k+1)*7-7=k*7 by omega,ml r k]
theorem CL.take{w:World}{S:Nat→Prop}{A:Option Addr}{n k:Nat}{xs:List CV}(h:CL w S A n xs)(a:k≤n):CL w S A k (xs.take k):=
 ⟨by have:=h.rd.take a;rw[oB]at this;exact this,by rw[List.length_take,h.len];omega⟩
theorem CL.cut{w:World}{S:Nat→Prop}{A:Option Addr}{n k cap:Nat}{xs:List CV}(h:CL w S A n xs)(b:k≤n)(a:n≤cap):CL w S (if cap=k then A else A.map (·.add (k*7))) (n-k) (xs.drop k):=
 ⟨by have:=h.rd.cut b a;rw[ml]at this;exact this,by rw[List.length_drop,h.len]⟩
def DI(w:World)(a:ActV)(e:Ending)(w':World):Prop:=∃cs,e= .returned (.agg cs.toArray)∧cF w' cs a∧Fr ag w w'∧j8 w.heap.size cs
theorem vL{B:Nat}{k:dJ}{c d:Value}(e:∀i,c.ownBlock=some i→B≤i)(f:∀i,d.ownBlock=some i→B≤i):j8 B (k.cells++[c,d]):=fun v b i a=>by
 simp only[dJ.cells,List.cons_append,List.nil_append,List.mem_cons,List.not_mem_nil,or_false]at b;rcases b with rfl|rfl|rfl|rfl|rfl|rfl;·cases a
 ·cases a
 ·cases a
 ·cases a
 ·exact e i a
 ·exact f i a
theorem qQ(w:World):Calls Tryz.prog 49 #[] w (DI w clockA):=by
 obtain⟨h,C,D,d,U⟩:=info_parts nV;have y:Hid (¬1*h.size>2^24):=by simp only[Hid];rw[d];omega
 have z:Hid (¬1*h.size=0):=by simp only[Hid];rw[d];omega
 have q:Hid (Instr.fill (fun i=>some (i*7,7)) ((Array.range (1*7)).map (bY.cells[· %bY.cells.size]!)) [(0, .agg mL.cells.toArray)]=some mL.cells.toArray):=kT _ _ rfl (by simp);have A:Hid (Instr.fill (fun i=>some (i*h.size,h.size)) ((Array.range (1*h.size)).map (bY.cells[· %bY.cells.size]!)) [(0, .agg mL.cells.toArray)]=some mL.cells.toArray):=by simp only[Hid];rw[d];exact q.out
 have O:=af D1;have N:=af Ht;have M:=af D0;have G:Hid (∀w,Calls Tryz.prog 54 #[] w (aH w (.agg ou.cells.toArray))):=fun w=>by rw[←xQ];exact rL w
 have n:Hid (∀j k:Value,(clockA.key.cells++[j,k]).toArray.size=6):=fun j k=>rfl;have u:Hid (∀j k:Value,j.oneCell'=true→k.oneCell'=true→(clockA.key.cells++[j,k]).toArray.all (·.oneCell')=true):=fun j k B T=>by simp only[dJ.cells,List.cons_append,List.nil_append,List.all_toArray,List.all_cons,List.all_nil,B,T];rfl
 have b:Hid (∀(w':World)(g:Nat),aq w' g 119 mL.cells.toArray→Fr ag w w'→w.heap.size≤g→DI w clockA (.returned (.agg (clockA.key.cells++[Value.slice none 0 0, .slice (some ⟨g,0,none⟩) 1 1]).toArray)) w'):=fun w' g B f n1=>⟨_,rfl,⟨_,_,rfl,dV.nil _,J1 B⟩,f,vL (fun i s=>by cases s) (fun i s=>by simp only[Value.ownBlock,Option.some.injEq]at s;omega)⟩;generalize DI w clockA=PP at*;generalize clockA.key.cells=o at*;generalize mL.cells=c at*;generalize ou.cells=V at*;clear q;go_enter Tryz.func49,Tryz.ntmps49;go_wp2_with(refine an rfl 46 rfl ep kC #[.int .i64 0, .int .i64 0, .int .i64 0, .string ByteArray.empty, .slice none 0 0, .slice none 0 0] rfl ?_);intro w1 n1;have H:=af n1.fr;have E:=af n1.aE;clear n1;generalize r:w.heap.size=g0 at*;have l:=af r;clear r;go_wp2_with(refine dM rfl 43 _ rfl o.toArray _ (by simp only[List.map_toArray,List.map_cons,List.map_nil];rfl) O.out (aR.go ?zC));unfold aR;go_wp2_with fail;refine(G.out _).mono ?_;rintro e w2⟨rfl,f2⟩;have I:=af (H.out.trans f2);have F:=af (E.out.fr f2 (fun x=>x));clear f2 H E G;go_wp2_with(refine dM rfl 119 _ rfl c.toArray _ (by simp only[List.map_toArray,List.map_cons,List.map_nil];rfl) N.out (aR.go ?zB));unfold aR;refine wpList_buildSlice rfl 44 119 1 _ rfl c.toArray h bY Tryz.underlying44 C D y.out z.out (by simp only[List.map_toArray,List.map_cons,List.map_nil];exact A.out) ?_;have t:Hid (aq (w2.alloc (.cells c.toArray 119)) w2.heap.size 119 c.toArray):=aq.new _ _ _;have P:=af (I.out.trans ((Fr.refl ag w2).alloc (.cells c.toArray 119)));have L:=af (F.out.fr ((Fr.refl ag w2).alloc (.cells c.toArray 119)) (fun x=>x));have m:Hid (w.heap.size≤w2.heap.size∧g0<w2.heap.size):=⟨I.out.size,F.out.lt⟩;generalize(w2.alloc (.cells c.toArray 119))=w3 at*;generalize w2.heap.size=g3 at*;go_wp2_with(refine dM rfl 46 _ rfl (o++[Value.slice none 0 0, .slice (some ⟨g3,0,none⟩) 1 1]).toArray _ (by simp only[List.map_toArray,List.map_cons,List.map_nil];rfl) (M.out _ _ _) (aR.go ?zA));unfold aR;have a:Hid ((Tryz.prog.info? 46).map (·.size)=some (o++[Value.slice none 0 0, .slice (some ⟨g3,0,none⟩) 1 1]).toArray.size):=by rw[Hid,n.out];exact bL
 refine ai rfl 46 (.tmp 0) _ rfl g0 (o++[Value.slice none 0 0, .slice (some ⟨g3,0,none⟩) 1 1]).toArray rfl rfl _ _ L.out a.out (by rw[n.out];rfl) (u.out _ _ rfl rfl) ?_;intro K J v;have R:=af J;have Q:=af (b.out K g3 (t.out.fr v (fun e=>by have S:g3=g0:=e;have:=m.out;omega)) (P.out.aw v (fun i s e=>by have S:i=g0:=e;have:=l.out;omega)) (by have:=m.out;have:=l.out;omega));clear J v;go_wp2;exact bodyPost_ret (results_cell_row (fn:=Tryz.f49) (p:=0) (ty:=46) Tryz.results49 _ K _ 46 (o++[Value.slice none 0 0, .slice (some ⟨g3,0,none⟩) 1 1]).toArray (0,0) _ rfl R.out Tryz.underlying46 rfl a.out) rfl Q.out
def qb(w:World)(e:Ending)(w':World):Prop:=∃v l,e= .returned v∧dV w' v l∧l.length≤6∧(∀c∈l,ev c)∧Fr ag w w'∧∀k,v.ownBlock=some k→w.heap.size≤k
structure JH(w wr:World)(v:Value)(l:List CV)(k:Nat):Prop where
 row:dV wr v l
 len:l.length≤k
 small:∀c∈l,ev c
 fr:Fr ag w wr
 new:∀i,v.ownBlock=some i→w.heap.size≤i
def qz(c:CV):CV:=⟨c.nm,if c.bI then ByteArray.empty else c.value,c.bI⟩
theorem Bk{c:CV}(h:ev c):ev (qz c):=⟨h.owner,h.text,by
 have:=h.value;unfold qz;simp only;split;·simp
 ·exact this⟩
theorem ot(n:Nat)(xs:List CV)(A:Option Addr)(a6:Nat)(S:Nat→Prop)(w:World)(bX:CL w S A n xs)(bz:n≤9223372036854775807)(bu:n≤a6):
  Calls Tryz.prog 81 #[.slice A n a6] w (qb w):=by
 have bH:Hid (∀w' G,Fr ag w w'→Calls Tryz.prog 127 #[.slice A (min n 6) G] w' (MQ w' (min n 6) (sQ (xs.take (min n 6)) (min n 6)))):=fun w' G b=>by
  have:=Nh (min n 6) (xs.take (min n 6)) A G S w' ((bX.take (by omega)).ao b) (by omega);rw[show min (min n 6) 24=min n 6 by omega]at this;exact this
 have bk:=af (zG (xs.take (min n 6)) (min n 6));have ae:Hid (min n 6≤a6∧min n 6≤6):=by simp only[Hid];omega
 have bc:min (n:Int) 6=((min n 6:Nat):Int):=by omega
 generalize sQ (xs.take (min n 6)) (min n 6)=cH at*;generalize min n 6=m at*;clear bX;have bt:(0:Int)≤(m:Int):=by omega
 have cf:(m:Int)≤(a6:Int):=by have:=ae.out;omega
 obtain⟨Z,I,Y,D,al⟩:=info_parts nV;have bq:Hid (¬1*Z.size>2^24):=by simp only[Hid];rw[D];omega
 have br:Hid (¬1*Z.size=0):=by simp only[Hid];rw[D];omega
 have bs:Hid (∀c:CV,Instr.fill (fun i=>some (i*Z.size,Z.size)) ((Array.range (1*Z.size)).map (bY.cells[· %bY.cells.size]!)) [(0, .agg c.cells.toArray)]=some c.cells.toArray):=fun c=>by rw[D];exact kT _ _ rfl (by simp)
 go_enter Tryz.func81,Tryz.ntmps81;go_wp2_with fail;refine(bH.out _ _ az).mono ?_;rintro e w1⟨cw,cm,cx,cC,rfl,f1,bZ⟩;have bJ:=af f1;have b7:=af bZ.NQ;clear f1 bZ bH bc bt cf;go_wp2;go_loopw[5,6](fun v i wr=>∃(k:Nat)(ls:List CV),k≤m∧i= .int .i64 (k:Int)∧JH w1 wr v ls k)(fun _ i _=>m-(intOf i).toNat);case atStart=>exact⟨0,[],Nat.zero_le _,rfl,⟨dV.nil _,by simp,by simp,az,by intro i V;cases V⟩⟩
 case round=>
  obtain⟨k,ls,r,rfl,ba⟩:=hrel;have g:=af ba;have bK:=af r;obtain⟨q,n6,k6,rfl,ap,av⟩:=aG ba.row;have s:Hid (n6≤6):=by have:=ba.len;have:=ae.out;have:=ap.out;simp only[Hid];omega
  clear ba r;generalize wr=w3 at*;by_cases bx:k<m
  ·have t0:decide ((k:Int)<(m:Int))=true:=de (by omega);have cs:(k:Int)<(m:Int):=by omega
   have b3:(0:Int)≤(k:Int):=by omega
   obtain⟨bM,c,rfl,bu,U⟩:=(b7.out.ao g.out.fr).at_ bx;have aO:=af U;have bL:=af (bk.out c (List.mem_of_getElem? bu));have bG:=af c.one;clear bu U;go_wp2_with(refine aC rfl 119 (.tmp 27) rfl (bM.add (k*7)) rfl c.cells _ ?zL Tryz.underlying119 rfl jQ (aR.go ?hold));case zL=>exact aO.out
   unfold aR;go_wp2_with(refine an rfl 119 rfl bY GV #[.int .i64 0, .string ByteArray.empty, .int .i64 0, .int .i64 0, .string ByteArray.empty, .string ByteArray.empty, .bool false] rfl ?_);intro ct b2;have bl:=af b2;clear b2;generalize a0:w3.heap.size=g7 at*;have ay:=af a0;clear a0;have bE:Hid (aq ct g7 119 #[.int .i64 0, .string ByteArray.empty, .int .i64 0, .int .i64 0, .string ByteArray.empty, .string ByteArray.empty, .bool false]):=by have h:=bl.out.aE;rw[ay.out]at h;exact h
   go_wp2_with(refine ai rfl 119 (.tmp 7) _ rfl g7 c.cells.toArray rfl rfl _ _ bE.out jQ rfl bG.out ?_);intro be bb bS;have a1:Hid (aq be g7 119 #[.int .i64 c.nm.kind, .string c.nm.owner, .int .i64 c.nm.number, .int .i64 c.nm.index, .string c.nm.text, .string c.value, .bool c.bI]):=bb;have bi:Hid (Fr ag w3 be):=bl.out.fr.aw bS (fun i V e=>by have ca:i=g7:=e;have:=ay.out;omega);clear bb bS bl bE aO;have bO:be.cell? ⟨g7,6,none⟩=some (.bool c.bI):=a1.out.cell 6;obtain⟨b9,aK⟩:∃z,c.bI=z:=⟨_,rfl⟩;have aU:=af aK;rw[aK]at bO;clear aK;have b8:Hid ((Value.string ByteArray.empty).oneCell'=true):=by simp[Hid,Value.oneCell']
   go_upto_if 30 with fail;clear bO;go_cut[3,5,6,7](fun co cp cq cr bf=>co= .slice (some bM) m cm∧cp= .slice q n6 k6∧cq= .int .i64 (k:Int)∧cr= .pointer (some ⟨g7,0,none⟩)∧aq bf g7 119 (qz c).cells.toArray∧Fr ag w3 bf);case first=>
    cases b9
    ·have aW:Hid (#[Value.int .i64 c.nm.kind, .string c.nm.owner, .int .i64 c.nm.number, .int .i64 c.nm.index, .string c.nm.text, .string c.value, .bool c.bI]=(qz c).cells.toArray):=by
      rw[Hid,qz,if_neg (by rw[aU.out];decide)];rfl
     have HB:Hid (aq be g7 119 (qz c).cells.toArray):=by rw[←aW.out];exact a1.out
     clear aW;go_wp2;go_meet;exact⟨rfl,rfl,rfl,rfl,HB.out,bi.out⟩
    ·have aW:Hid (#[Value.int .i64 c.nm.kind, .string c.nm.owner, .int .i64 c.nm.number, .int .i64 c.nm.index, .string c.nm.text, .string ByteArray.empty, .bool c.bI]=(qz c).cells.toArray):=by
      rw[Hid,qz,if_pos aU.out];rfl
     go_wp2_with(refine uD rfl 9 _ _ rfl g7 5 (.string ByteArray.empty) rfl rfl b8.out pL _ _ _ a1.out (show 5<7 by decide) rfl ?_);intro wc bN bT;have HB:Hid (aq wc g7 119 (qz c).cells.toArray):=by rw[←aW.out];exact bN
     have b5:Hid (Fr ag w3 wc):=bi.out.aw bT (fun i V e=>by have ca:i=g7:=e;have:=ay.out;omega);clear bN bT aW;go_wp2;go_meet;exact⟨rfl,rfl,rfl,rfl,HB.out,b5.out⟩
   case rest=>
    obtain⟨rfl,rfl,rfl,rfl,b0,b⟩:=hcut;have a2:=af b0;have bh:=af b;have aA:=af (Bk bL.out);clear b0 b a1 bi bG bL;generalize qz c=d at*;have cz:=af g.out.row;have ab:=af (show CL w3 (fun _=>True) q n6 ls from by have e:=ap.out;subst e;exact⟨(Rd.gR g.out.row).any,rfl⟩);go_wp2;go_loopw[8](fun i bf=>∃j:Nat,j≤n6∧i= .int .i64 (j:Int)∧Fr ag wc bf)(fun i _=>n6-(intOf i).toNat);case atStart=>exact⟨0,Nat.zero_le _,rfl,az⟩
    case round=>
     obtain⟨j,bc,rfl,b⟩:=hrel;have ad:=af bc;have a3:=af b;clear bc b;obtain⟨E,z,O⟩:∃(E:Addr)(z:CV),Hid (j<n6→q=some E∧ls[j]? =some z∧∀aa x,z.cells[aa]? =some x→wc.cell? ((E.add (j*7)).add aa)=some x):=by
      by_cases h:j<n6;·obtain⟨E,z,cc,cd,ce⟩:=(ab.out.ao bh.out).at_ h;exact⟨E,z,fun _=>⟨cc,cd,ce⟩⟩
      ·exact⟨⟨0,0,none⟩,d,fun a8=>absurd a8 h⟩
     obtain⟨P,bR⟩:∃z:Bool,decide (j<n6)=z:=⟨_,rfl⟩;have J:=af bR;have ah:Hid (decide ((j:Int)<(n6:Int))=P):=by rw[Hid,←J.out];exact decide_eq_decide.2 (by omega)
     obtain⟨Q,aZ⟩:∃bD:Bool,decide (bQ z.nm d.nm<0)=bD:=⟨_,rfl⟩;have EQ:=af aZ;clear bR aZ;have M:Hid (j<n6→q=some E):=fun h=>(O.out h).1;have bF:Hid (j<n6→∀w',Calls Tryz.prog 128 #[.agg z.nm.cells.toArray, .agg d.nm.cells.toArray] w' (aH w' (.int .i64 (bQ z.nm d.nm)))):=fun h w'=>gh z.nm d.nm w' (by have:=(g.out.small z (List.mem_of_getElem? (O.out h).2.1)).owner;omega) (by have:=aA.out.owner;omega);obtain⟨B,bU⟩:∃z:Bool,(bif P then Q else false)=z:=⟨_,rfl⟩;have HB:=af bU;clear bU;go_upto_region 10 with fail;refine jn 15 [.int .i64 (j:Int), .slice q n6 k6, .int .i64 (n6:Nat), .bool P, .bool P,bif P then .slice q n6 k6 else undef,bif P then .int .i64 (j:Int)else undef,bif P then .pointer (some (E.add (j*7)))else undef,bif P then .pointer (some (E.add (j*7)))else undef,bif P then .agg z.nm.cells.toArray else undef,bif P then .pointer (some ⟨g7,0,none⟩)else undef,bif P then .agg d.nm.cells.toArray else undef,bif P then .int .i64 (bQ z.nm d.nm)else undef,bif P then .bool Q else undef, .bool B] ?zM ?_;case zM=>
      refine⟨?yM,?yN,?zP,?zQ,?zR,?zS,?zT,?zU,?zV,?zW,?zA,?zB,?zC,?zD,?zF,trivial⟩;all_goals intro u w' b a
      all_goals simp only[z1,z2,z3,z4,ar,Act.put,z5,z6,z7,Nat.reduceAdd,Nat.zero_add]
      case' zP=>simp only[show u 1=_ from a 1]
      case zQ=>
       simp only[show u 0=_ from a 0,show u 2=_ from a 2];refine aF ?_;have t1:=ah.out;have t2:=J.out;go_simp;exact aM
      case' zR=>simp only[show u 3=_ from a 3]
      case' zS=>
       simp only[show u 4=_ from a 4];cases P;case false=>exact bV
      case' zT=>
       simp only[show u 4=_ from a 4];cases P;case false=>exact bV
      case zU=>
       simp only[show u 5=_ from a 5,show u 6=_ from a 6,show u 4=_ from a 4];cases P;case false=>exact bV
       refine aF ?_;have r:=of_decide_eq_true J.out;have bo:q=some E:=M.out r;have aP:(j:Int)<(n6:Int):=by omega
       have a7:(0:Int)≤(j:Int):=by omega
       clear M;subst bo;go_simp;exact aM
      case' zV=>
       simp only[show u 7=_ from a 7,show u 4=_ from a 4];cases P;case false=>exact bV
      case zW=>
       simp only[show u 8=_ from a 8,show u 4=_ from a 4];cases P;case false=>exact bV
       refine aF ?_;have r:=of_decide_eq_true J.out;exact au _ _ rfl (E.add (j*7)) rfl z.nm.cells _ (fun aa v X=>(a3.out.trans b).ak ((O.out r).2.2 aa v (by rw[CV.cells,List.getElem?_append_left (List.getElem?_eq_some_iff.1 X).1];exact X)) (fun x=>x)) Tryz.underlying106 rfl aT aM
      case' zA=>
       simp only[show u 4=_ from a 4];cases P;case false=>exact bV
      case zB=>
       simp only[show u 10=_ from a 10,show u 4=_ from a 4];cases P;case false=>exact bV
       refine aF ?_;exact au _ _ rfl ⟨g7,0,none⟩ rfl d.nm.cells _ (fun aa v X=>by rw[Addr.add_mid,Nat.zero_add,(a2.out.fr (a3.out.trans b) (fun x=>x)).cell aa,bP,CV.cells,List.getElem?_append_left (List.getElem?_eq_some_iff.1 X).1];exact X) Tryz.underlying106 rfl aT aM
      case zC=>
       simp only[show u 9=_ from a 9,show u 11=_ from a 11,show u 4=_ from a 4];cases P;case false=>exact bV
       refine aF ?_;have r:=of_decide_eq_true J.out;go_simp;refine(bF.out r _).mono ?_;rintro e aQ⟨rfl,f4⟩;exact⟨rfl,f4⟩
      case zD=>
       simp only[show u 12=_ from a 12,show u 4=_ from a 4];cases P;case false=>exact bV
       refine aF ?_;have t:=EQ.out;go_simp;exact aM
      case zF=>
       simp only[show u 4=_ from a 4,show u 13=_ from a 13];cases P<;>exact aF (by go_simp;exact⟨by rw[←HB.out];rfl,az⟩)
      all_goals
       try simp only[cond]
       refine aF ?_;go_simp;exact aM
     intro w' b;simp only[z1,z2,z3,z4,ar,Act.put,z5,z6,z7,z8,z9,jX,jY,Nat.reduceAdd,Nat.zero_add];have a4:=af (a3.out.trans b);clear b a3 bF EQ;cases B
     ·generalize w'=aQ at*;have L:Hid (Fr ag w3 aQ):=bh.out.trans a4.out;clear HB;go_upto_region 12 with fail;refine Gd 9 ag (fun i=>i==7) (fun i j=>(i==7&&(j==0||j==4||j==6))) [⟨fun K am=>∃i:Nat,K= .slice (some ⟨i,0,none⟩) 0 0∧am.ownsRow 0 119 7 (.slice (some ⟨i,0,none⟩) 0 0) 0 []∧aQ.heap.size≤i,fun _ _ _ f⟨i,e,h,l⟩=>⟨i,e,aL h f (fun _ _ x=>x),l⟩⟩,iS (.slice q n6 k6),iS (.int .i64 (j:Int)),iS (.slice q j k6),⟨fun K am=>am.ownsRow 0 119 7 K j ((ls.take j).flatMap CV.cells)∧∀k,K.ownBlock=some k→aQ.heap.size≤k,fun _ _ _ f h=>⟨aL h.1 f (fun _ _ x=>x),h.2⟩⟩,iS (.agg d.cells.toArray),⟨fun K am=>∃i:Nat,K= .slice (some ⟨i,0,none⟩) 1 1∧aq am i 119 d.cells.toArray,fun _ _ _ f⟨i,e,h⟩=>⟨i,e,h.fr f (fun x=>x)⟩⟩,⟨fun K am=>dV am K (ls.take j++[d])∧∀k,K.ownBlock=some k→aQ.heap.size≤k,fun _ _ _ f h=>⟨h.1.ao f,h.2⟩⟩,⟨fun K am=>dV am K (ls.take j++[d])∧∀k,K.ownBlock=some k→aQ.heap.size≤k,fun _ _ _ f h=>⟨h.1.ao f,h.2⟩⟩] ?zO ?_;case zO=>
       refine⟨?yF,?yQ,?yR,?yG,?yH,?yI,?yJ,?yK,?yL,trivial⟩;all_goals intro u w' b a cB
       all_goals simp only[z1,z2,z3,z4,ar,Act.put,z5,z6,z7,Nat.reduceAdd,Nat.zero_add]
       case yF=>
        refine aF ?_;refine jW 44 119 rfl Z Tryz.underlying44 I ?_;intro b4 bz;exact⟨_,rfl,bz.fr,⟨w'.heap.size,rfl,bz.Cq,b.size⟩⟩
       case yG=>
        simp only[show u 1=_ from a 1,show u 2=_ from a 2];refine aF ?_;have aP:(j:Int)≤(k6:Int):=by have:=ad.out;have:=av.out;omega
        have a7:(0:Int)≤(j:Int):=by omega
        go_simp;exact⟨_,rfl,az,rfl⟩
       case yH=>
        obtain⟨i0,cb,bt,cE⟩:=a 0;simp only[cb,show u 3=_ from a 3];refine aF ?_;refine Dl (.tmp 49) (.tmp 52) 44 rfl 119 Z bY 7 80 Tryz.underlying44 I Y D al rfl (by decide) i0 rfl bt (fun _=>True) q j k6 ((ls.take j).flatMap CV.cells) rfl ((ab.out.ao (L.out.trans b)).take ad.out).rd (by have:=ad.out;have:=s.out;omega) (by have:=ad.out;have:=s.out;omega) ?_;intro v5 b4 ck bv cj;exact⟨_,rfl,bv,ck,fun k r=>(cj k r).elim (fun e=>by omega) (fun e=>Nat.le_trans b.size e)⟩
       case yI=>
        refine aF ?_;exact au _ _ rfl ⟨g7,0,none⟩ rfl d.cells _ (kX (a2.out.fr (a4.out.trans b) (fun x=>x))) Tryz.underlying119 rfl jQ ⟨_,rfl,az,rfl⟩
       case yJ=>
        simp only[show u 5=_ from a 5];refine aF ?_;refine wp_buildSlice 44 119 1 #[(0, .tmp 54)] rfl d.cells.toArray Z bY Tryz.underlying44 I Y bq.out br.out ?_ ?_;·simp only[List.map_toArray,List.map_cons,List.map_nil];exact bs.out d
        ·exact⟨_,rfl,az.alloc _,⟨w'.heap.size,rfl,aq.new _ _ _⟩⟩
       case yK=>
        obtain⟨cg,b1⟩:=a 4;obtain⟨i6,aP,ch⟩:=a 6;simp only[aP];refine aF ?_;refine uP _ (.tmp 53) (.tmp 55) 44 rfl 119 Z bY 7 80 Tryz.underlying44 I Y D al rfl (by decide) _ _ _ rfl cg (fun _=>True) (some ⟨i6,0,none⟩) 1 1 d.cells rfl ⟨rfl,fun _=>⟨_,rfl,trivial,fun aa x cl=>by rw[Addr.add_mid,Nat.zero_add,ch.cell,bP];exact cl⟩⟩ (uV d) (by have:=ad.out;have:=s.out;omega) (by decide) ?_;intro cF cG H;refine⟨_,rfl,⟨b.aw H.fr (fun k r e=>by have:=b1 k e;omega),?_⟩,?_,fun k r=>(H.eG k r).elim (b1 k) (fun h=>Nat.le_trans b.size h)⟩;·exact⟨nP,fun _ h=>h,fun _ h=>h,fun _ h=>h,nP,fun _ h=>h,nP,nP,nP,trivial⟩
        ·have h:=H.own;unfold dV;rw[show(ls.take j++[d]).length=j+1 by rw[aS,List.length_take,List.length_singleton,Nat.min_eq_left (by have:=ad.out;have:=ap.out;omega)],List.flatMap_append];simpa using h
       case yL=>
        obtain⟨ci,cn⟩:=a 7;refine aF ?_;go_simp;exact⟨_,rfl,az,ci,cn⟩
       all_goals
        refine aF ?_;go_simp;exact⟨_,rfl,az,rfl⟩
      intro u w' b a;obtain⟨a9,bB⟩:=a 8 (by omega);obtain⟨bg,bC,bA,bp,cy,b6⟩:=aG a9;rw[bp]at a9 bB;simp only[z1,z2,z3,z4,ar,Act.put,z5,z6,z7,z8,z9,Nat.reduceAdd,Nat.zero_add];clear a;simp only[bp];have aX:=af a9;have a5:=af bB;have ac:=af (a4.out.trans b);clear b a9 bB bp;obtain⟨Q,aZ⟩:∃bD:Bool,zE z.nm d.nm=bD:=⟨_,rfl⟩;have EQ:=af aZ;clear aZ;obtain⟨C,bW⟩:∃z:Bool,(bif P then Q else false)=z:=⟨_,rfl⟩;have aO:=af bW;clear bW;have aY:Hid (∀W,Fr ag w' W→dV W (.slice bg bC bA) (ls.take j++[d])):=fun W f=>aX.out.ao f;clear aX;generalize w'=b4 at*;go_upto_region 13 with fail;refine jn 14 [.int .i64 (j:Int), .slice q n6 k6, .int .i64 (n6:Nat), .bool P, .bool P,bif P then .slice q n6 k6 else undef,bif P then .int .i64 (j:Int)else undef,bif P then .pointer (some (E.add (j*7)))else undef,bif P then .pointer (some (E.add (j*7)))else undef,bif P then .agg z.nm.cells.toArray else undef,bif P then .pointer (some ⟨g7,0,none⟩)else undef,bif P then .agg d.nm.cells.toArray else undef,bif P then .bool Q else undef, .bool C] ?zN ?_;case zN=>
       refine⟨?yO,?yP,?zX,?zY,?zZ,?yA,?yB,?yC,?yD,?yE,?zH,?zI,?zJ,?zK,trivial⟩;all_goals intro u w' b a
       all_goals simp only[z1,z2,z3,z4,ar,Act.put,z5,z6,z7,Nat.reduceAdd,Nat.zero_add]
       case' zX=>simp only[show u 1=_ from a 1]
       case zY=>
        simp only[show u 0=_ from a 0,show u 2=_ from a 2];refine aF ?_;have t1:=ah.out;have t2:=J.out;go_simp;exact aM
       case' zZ=>simp only[show u 3=_ from a 3]
       case' yA=>
        simp only[show u 4=_ from a 4];cases P;case false=>exact bV
       case' yB=>
        simp only[show u 4=_ from a 4];cases P;case false=>exact bV
       case yC=>
        simp only[show u 5=_ from a 5,show u 6=_ from a 6,show u 4=_ from a 4];cases P;case false=>exact bV
        refine aF ?_;have r:=of_decide_eq_true J.out;have bo:q=some E:=M.out r;have aP:(j:Int)<(n6:Int):=by omega
        have a7:(0:Int)≤(j:Int):=by omega
        clear M;subst bo;go_simp;exact aM
       case' yD=>
        simp only[show u 7=_ from a 7,show u 4=_ from a 4];cases P;case false=>exact bV
       case yE=>
        simp only[show u 8=_ from a 8,show u 4=_ from a 4];cases P;case false=>exact bV
        refine aF ?_;have r:=of_decide_eq_true J.out;exact au _ _ rfl (E.add (j*7)) rfl z.nm.cells _ (fun aa v X=>(ac.out.trans b).ak ((O.out r).2.2 aa v (by rw[CV.cells,List.getElem?_append_left (List.getElem?_eq_some_iff.1 X).1];exact X)) (fun x=>x)) Tryz.underlying106 rfl aT aM
       case' zH=>
        simp only[show u 4=_ from a 4];cases P;case false=>exact bV
       case zI=>
        simp only[show u 10=_ from a 10,show u 4=_ from a 4];cases P;case false=>exact bV
        refine aF ?_;exact au _ _ rfl ⟨g7,0,none⟩ rfl d.nm.cells _ (fun aa v X=>by rw[Addr.add_mid,Nat.zero_add,(a2.out.fr (ac.out.trans b) (fun x=>x)).cell aa,bP,CV.cells,List.getElem?_append_left (List.getElem?_eq_some_iff.1 X).1];exact X) Tryz.underlying106 rfl aT aM
       case zJ=>
        simp only[show u 9=_ from a 9,show u 11=_ from a 11,show u 4=_ from a 4];cases P;case false=>exact bV
        refine aF ?_;exact mF _ _ _ _ _ rfl _ _ rfl rfl Tryz.eqGuardType106 _ (by rw[←EQ.out];exact It z.nm d.nm _) aM
       case zK=>
        simp only[show u 4=_ from a 4,show u 12=_ from a 12];cases P<;>exact aF (by go_simp;exact⟨by rw[←aO.out];rfl,az⟩)
       all_goals
        try simp only[cond]
        refine aF ?_;go_simp;exact aM
      intro w' b;simp only[z1,z2,z3,z4,ar,Act.put,z5,z6,z7,z8,z9,jX,jY,Nat.reduceAdd,Nat.zero_add];have aX:=af (aY.out _ b);have F:=af (bh.out.trans (ac.out.trans b));clear b aY;generalize w'=bd at*;have cA:=ad.out;have cv:IntKind.i64.wrap ((k:Int)+1)=(k:Int)+1:=IntWalk.i64_in _ (by have:=bK.out;have:=ae.out;omega);have aV:Hid (C=true→j<n6):=fun h=>by
       have a8:=aO.out;rw[h]at a8;cases P;·cases a8
       ·exact of_decide_eq_true J.out
      clear J ah EQ aO O M ac a2;cases C
      ·clear aV;have aP:(j:Int)≤(n6:Int):=by omega
       have a7:(0:Int)≤(j:Int):=by omega
       obtain⟨N,aj⟩:∃N,(ls.take j++[d]).length=N:=⟨_,rfl⟩;obtain⟨aJ,y⟩:∃aJ,(ls.take j++[d]).flatMap CV.cells=aJ:=⟨_,rfl⟩;obtain⟨T,o⟩:∃T,(ls.drop (j)).flatMap CV.cells=T:=⟨_,rfl⟩;have bn:Hid (bd.ownsRow 0 119 7 (.slice bg bC bA) N aJ):=by rw[Hid,←aj,←y];exact aX.out
       have bm:Hid (Rd bd (fun _=>True) 7 (if k6=j then q else q.map (·.add ((j)*7))) (n6-(j)) T):=by rw[Hid,←o];exact((ab.out.ao F.out).cut (k:=j) (cap:=k6) (by omega) av.out).rd
       have R:Hid (∀u∈T,u.oneCell'=true):=by
        rw[Hid,←o];intro u hu;obtain⟨G,_,p⟩:=List.mem_flatMap.1 hu;exact uV G u p
       have ax:Hid ((N+(n6-(j)))*80≤140737488355328):=by
        have:=s.out;rw[Hid,←aj,aS,List.length_take,List.length_singleton];omega
       have bj:=af aj;have aB:=af y;have aD:=af o;clear aj y o;go_wp2_with(refine dR _ rfl _ _ 44 rfl 119 Z bY 7 80 Tryz.underlying44 I Y D al rfl (by decide) _ _ _ rfl bn.out (fun _=>True) _ _ _ T rfl bm.out R.out ax.out (by decide) ?_);all_goals
        intro v10 aN H;have aI:Hid (JH w1 aN v10 (ls.take j++[d]++ls.drop (j)) (k+1)):=by
         refine⟨?_,?_,?_,?_,?_⟩;·have h:=H.own;unfold dV;rw[List.flatMap_append,aS,List.length_drop,←ap.out,bj.out,aB.out,aD.out];exact h
         ·have:=g.out.len;have:=ap.out;have:=ad.out;rw[aS,aS,List.length_take,List.length_drop,List.length_singleton];omega
         ·intro G p;rw[List.mem_append,List.mem_append,List.mem_singleton]at p;rcases p with(h|rfl)|h;·exact g.out.small G (List.mem_of_mem_take h)
          ·exact aA.out
          ·exact g.out.small G (List.mem_of_mem_drop h)
         ·exact(g.out.fr.trans F.out).aw H.fr (fun i V e=>by have:=a5.out i e;have:=g.out.fr.size;have:=L.out.size;omega)
         ·intro i V;have:=g.out.fr.size;have:=L.out.size;have:=F.out.size;rcases H.eG i V with h|h;·have:=a5.out i h;omega
          ·omega
        clear H;go_wp2;go_roundw;case rel=>exact⟨k+1,_,by omega,by go_num,aI.out⟩
        case measure=>simp[intOf];omega
      ·have bw:j<n6:=aV.out rfl;have cu:IntKind.i64.wrap ((j:Int)+1)=(j:Int)+1:=IntWalk.i64_in _ (by have:=s.out;omega);have aP:(j:Int)+1≤(n6:Int):=by omega
       have a7:(0:Int)≤(j:Int)+1:=by omega
       obtain⟨N,aj⟩:∃N,(ls.take j++[d]).length=N:=⟨_,rfl⟩;obtain⟨aJ,y⟩:∃aJ,(ls.take j++[d]).flatMap CV.cells=aJ:=⟨_,rfl⟩;obtain⟨T,o⟩:∃T,(ls.drop (j+1)).flatMap CV.cells=T:=⟨_,rfl⟩;have bn:Hid (bd.ownsRow 0 119 7 (.slice bg bC bA) N aJ):=by rw[Hid,←aj,←y];exact aX.out
       have bm:Hid (Rd bd (fun _=>True) 7 (if k6=j+1 then q else q.map (·.add ((j+1)*7))) (n6-(j+1)) T):=by rw[Hid,←o];exact((ab.out.ao F.out).cut (k:=j+1) (cap:=k6) (by omega) av.out).rd
       have R:Hid (∀u∈T,u.oneCell'=true):=by
        rw[Hid,←o];intro u hu;obtain⟨G,_,p⟩:=List.mem_flatMap.1 hu;exact uV G u p
       have ax:Hid ((N+(n6-(j+1)))*80≤140737488355328):=by
        have:=s.out;rw[Hid,←aj,aS,List.length_take,List.length_singleton];omega
       have bj:=af aj;have aB:=af y;have aD:=af o;clear aj y o;go_wp2_with(refine dR _ rfl _ _ 44 rfl 119 Z bY 7 80 Tryz.underlying44 I Y D al rfl (by decide) _ _ _ rfl bn.out (fun _=>True) _ _ _ T rfl bm.out R.out ax.out (by decide) ?_);all_goals
        intro v10 aN H;have aI:Hid (JH w1 aN v10 (ls.take j++[d]++ls.drop (j+1)) (k+1)):=by
         refine⟨?_,?_,?_,?_,?_⟩;·have h:=H.own;unfold dV;rw[List.flatMap_append,aS,List.length_drop,←ap.out,bj.out,aB.out,aD.out];exact h
         ·have:=g.out.len;have:=ap.out;have:=ad.out;rw[aS,aS,List.length_take,List.length_drop,List.length_singleton];omega
         ·intro G p;rw[List.mem_append,List.mem_append,List.mem_singleton]at p;rcases p with(h|rfl)|h;·exact g.out.small G (List.mem_of_mem_take h)
          ·exact aA.out
          ·exact g.out.small G (List.mem_of_mem_drop h)
         ·exact(g.out.fr.trans F.out).aw H.fr (fun i V e=>by have:=a5.out i e;have:=g.out.fr.size;have:=L.out.size;omega)
         ·intro i V;have:=g.out.fr.size;have:=L.out.size;have:=F.out.size;rcases H.eG i V with h|h;·have:=a5.out i h;omega
          ·omega
        clear H;go_wp2;go_roundw;case rel=>exact⟨k+1,_,by omega,by go_num,aI.out⟩
        case measure=>simp[intOf];omega
     ·have bw:j<n6:=by
       have h:=HB.out;cases P;·cases h
       ·exact of_decide_eq_true J.out
      have cu:IntKind.i64.wrap ((j:Int)+1)=(j:Int)+1:=IntWalk.i64_in _ (by have:=s.out;omega);clear HB J ah;go_wp2;go_roundw;case rel=>exact⟨j+1,by omega,by go_num,a4.out⟩
      case measure=>simp[intOf];omega
  ·obtain rfl:k=m:=by have:=bK.out;omega
   have t0:decide ((k:Int)<(k:Int))=false:=cD (by omega);go_wp2;go_ret;exact⟨_,ls,rfl,g.out.row,by have:=g.out.len;have:=ae.out;omega,g.out.small,bJ.out.trans g.out.fr,fun i V=>by have:=g.out.new i V;have:=bJ.out.size;omega⟩
end Go.Proofs.YtphjagkehiklkaaGreatDoor
