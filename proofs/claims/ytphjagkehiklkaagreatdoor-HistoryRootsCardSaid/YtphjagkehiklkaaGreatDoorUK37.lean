/- Texts. -/
import Derived.Test.YtphjagkehiklkaaGreatDoorUK21
import Derived.Test.YtphjagkehiklkaaGreatDoorUK26
import Derived.Test.YtphjagkehiklkaaGreatDoorUK36
set_option linter.unusedVariables false
set_option linter.unusedSimpArgs false
set_option maxRecDepth 100000
set_option maxHeartbeats 4000000
namespace Go.Proofs.YtphjagkehiklkaaGreatDoor
open Go.ChangeShapes Go.WideShapes Go.ChangeAt Go.RowKit Go.Deep
theorem Am{H:Type}{enc:TypeId×Value→H}{w:World}{base:Nat}{sp:Nat→Bool}{held:Bool}{fuel:Nat}{l:List Value}{x:DataW H×List MemPlace}
  (h:DataW.trod enc Tryz.prog w base sp held fuel 245 l=some x):∃n:aD,n.kX∧l=n.cells:=by
 obtain⟨p,q,_,rfl,a,c,b⟩:=DataW.trod_struct Tryz.underlying245 h;rw[xO]at a;match l,a with
 |[r,s,t,x3,u],_=>
  have g0:=b 0 _ rfl;have g1:=b 1 _ rfl;have g2:=b 2 _ rfl;have g3:=b 3 _ rfl;have g4:=b 4 _ rfl;match p,c with
  |[v,y,z,y3,y4],_=>
   simp[nY,nZ]at g0 g1 g2 g3 g4;obtain⟨a0,d,rfl,b0⟩:=DataW.trod_int Tryz.underlying3 g0;obtain⟨o,e,rfl,b1⟩:=DataW.trod_string Tryz.underlying9 g1;obtain⟨a2,f,rfl,b2⟩:=DataW.trod_int Tryz.underlying3 g2;obtain⟨a3,g,rfl,b3⟩:=DataW.trod_int Tryz.underlying3 g3;obtain⟨a4,i,rfl,b4⟩:=DataW.trod_string Tryz.underlying9 g4;simp only[List.cons.injEq,and_true]at d e f g i;subst d e f g i;have j:=bounds_i64 b0;have k:=bounds_i64 b2;have m:=bounds_i64 b3;unfold maxLen at b1 b4;exact⟨⟨a0,o,a2,a3,a4⟩,⟨⟨j.1,j.2⟩,⟨k.1,k.2⟩,⟨m.1,m.2⟩,b1,b4⟩,rfl⟩
theorem GO{H:Type}{enc:TypeId×Value→H}{w:World}{base:Nat}{sp:Nat→Bool}{held:Bool}{fuel:Nat}{l:List Value}{x:DataW H×List MemPlace}
  (h:DataW.trod enc Tryz.prog w base sp held fuel 247 l=some x):∃c:CV,c.kX∧l=c.cells:=by
 obtain⟨k,m,_,rfl,a,d,b⟩:=DataW.trod_struct Tryz.underlying247 h;rw[Bm]at a;match l,a with
 |[o,p,q,x3,r,s,t],_=>
  have g0:=b 0 _ rfl;have g1:=b 1 _ rfl;have g2:=b 2 _ rfl;match k,d with
  |[u,v,y],_=>
   simp[xO,nZ,sI]at g0 g1 g2;obtain⟨n,j,i⟩:=Am g0;obtain⟨g,e,rfl,b1⟩:=DataW.trod_string Tryz.underlying9 g1;obtain⟨a2,f,rfl⟩:=DataW.trod_bool Tryz.underlying4 g2;simp only[List.cons.injEq,and_true]at e f;subst e f;unfold maxLen at b1;refine⟨⟨n,g,a2⟩,⟨j,b1⟩,?_⟩;rw[CV.cells,←i];rfl
theorem yv{H:Type}{enc:TypeId×Value→H}{w:World}{fuel:Nat}{a:Option Addr}{len cap:Nat}{x:DataW H×List MemPlace}
  (h:DataW.trod enc Tryz.prog w 0 (fun _=>true) true fuel 55 [.slice a len cap]=some x):
  ∃cs:List CV,CL w (Old w) a len cs∧(∀c∈cs,c.kX)∧len≤cap∧cap≤9223372036854775807:=by
 rcases open_slice Tryz.underlying55 h with⟨b,_⟩|⟨p,F,E,m,n,D,C,b,_,B,hm,g,_,o⟩;·simp only[List.cons.injEq,Value.slice.injEq,and_true]at b;obtain⟨rfl,rfl,rfl⟩:=b;exact⟨[],⟨Rd.none_,rfl⟩,by simp,Nat.le_refl _,Nat.zero_le _⟩
 ·simp only[List.cons.injEq,Value.slice.injEq,and_true]at b;obtain⟨rfl,rfl,rfl⟩:=b;simp only[if_true]at g;rw[Bm]at o;have f:∀i,i<len→∃c:CV,c.kX∧∀j u,c.cells[j]? =some u→w.cell? ((p.add (i*7)).add j)=some u:=by
   intro i z;obtain⟨cs',t,k⟩:=o i (by omega);obtain⟨c,y,e⟩:=GO k;obtain⟨_,v,d⟩:=World.cells?_some t;refine⟨c,y,fun j u hu=>?_⟩;have A:j<7:=by
    have:=(List.getElem?_eq_some_iff.1 hu).1;simpa[CV.cells,aD.cells]using this
   rw[d j A,←hu,←e]
  obtain⟨l,q,r,s⟩:=qa CV.cells 7 CV.kX (fun c=>c.dE) (by omega) f;exact⟨l,⟨s,q⟩,r,B,by unfold maxLen at hm;exact hm⟩
end Go.Proofs.YtphjagkehiklkaaGreatDoor
namespace Go.Proofs.YtphjagkehiklkaaGreatDoor
open Go.RowKit Go.Shelf
theorem rT{P:Program}{ops:Array Oper}{rest:List Oper}{u:Oper}{a:Act}{w:World}{Q:Exit→Act→World→Prop}(j:u.guard=none)(ty:TypeId)(x y:Operand)(p:u.op= .store ty x y)
  (g f:Nat)(v:Value)(r:a.eval x= .pointer (some ⟨g,f,none⟩))(s:a.eval y=v)(m:v.oneCell'=true)(d:(P.info? ty).map (·.size)=some 1)
  (t:TypeId)(cs cs':Array Value)(e:ak w g t cs)(o:f<cs.size)(i:cs.setIfInBounds f v=cs')
  (h:∀w',ak w' g t cs'→Fr (fun k=>k=g) w w'→wpList P ops Q rest (a.put u.dst undef) w'):wpList P ops Q (u::rest) a w:=by
 subst i;obtain⟨b,l,q⟩:∃b,P.info? ty=some b∧b.size=1:=by
  cases he:P.info? ty with
  |none=>rw[he]at d;cases d
  |some b=>rw[he]at d;exact⟨b,rfl,by simpa using d⟩
 have c:=Lib.rl_storeVar_one (P:=P) ty b l q ⟨g,f,none⟩ v (cs[f]) m w (by rw[e.cell];simp[o]) (e.frozen _);refine wpList_plain j fun K n=>?_;unfold Oper.wp execOp;simp only[p,r,s,Instr.storeAt,Instr.sureAddr,Sem.run_bind,Sem.run_pure,Result.andThen_ok,c];exact n _ _ (h _ (e.iV f v) (Fr.setCell (T:=fun k=>k=g) (Fr.refl _ w) (fun _=>rfl) v))
theorem CL.cut{w:World}{S:Nat→Prop}{A:Option Addr}{n k cap:Nat}{xs:List CV}(h:CL w S A n xs)(b:k≤n)(a:n≤cap):CL w S (if cap=k then A else A.map (·.add (k*7))) (n-k) (xs.drop k):=
 ⟨by have:=h.rd.cut b a;rw[mj]at this;exact this,by rw[List.length_drop,h.len]⟩
end Go.Proofs.YtphjagkehiklkaaGreatDoor
namespace Go.Proofs.YtphjagkehiklkaaGreatDoor
open Go.RowKit Go.Shelf
def nU(w:World)(e:Ending)(w':World):Prop:=∃v l,e= .returned v∧dh w' v l∧l.length≤6∧(∀c∈l,du c)∧Fr af w w'∧∀k,v.ownBlock=some k→w.heap.size≤k
def oA(c:CV):CV:=⟨c.nm,if c.aV then ByteArray.empty else c.value,c.aV⟩
theorem xR{c:CV}(h:du c):du (oA c):=⟨h.owner,h.text,by
 have:=h.value;unfold oA;simp only;split;·simp
 ·exact this⟩
theorem me(n:Nat)(xs:List CV)(A:Option Addr)(a4:Nat)(S:Nat→Prop)(w:World)(bS:CL w S A n xs)(bw:n≤9223372036854775807)(bs:n≤a4):
  Calls Tryz.prog 81 #[.slice A n a4] w (nU w):=by
 have bG:Hid (∀w' G,Fr af w w'→Calls Tryz.prog 127 #[.slice A (min n 6) G] w' (Hj w' (min n 6) (qs (xs.take (min n 6)) (min n 6)))):=fun w' G b=>by
  have:=Ht (min n 6) (xs.take (min n 6)) A G S w' ((bS.take (by omega)).al b) (by omega);rw[show min (min n 6) 24=min n 6 by omega]at this;exact this
 have bi:=Lib.hid (wI (xs.take (min n 6)) (min n 6));have ae:Hid (min n 6≤a4∧min n 6≤6):=by simp only[Hid];omega
 have a9:min (n:Int) 6=((min n 6:Nat):Int):=by omega
 generalize qs (xs.take (min n 6)) (min n 6)=cB at*;generalize min n 6=m at*;clear bS;have br:(0:Int)≤(m:Int):=by omega
 have b9:(m:Int)≤(a4:Int):=by have:=ae.out;omega
 obtain⟨aa,I,Z,D,ap⟩:=info_parts nS;have bo:Hid (¬1*aa.size>2^24):=by simp only[Hid];rw[D];omega
 have bp:Hid (¬1*aa.size=0):=by simp only[Hid];rw[D];omega
 have bq:Hid (∀c:CV,Instr.fill (fun i=>some (i*aa.size,aa.size)) ((Array.range (1*aa.size)).map (cE.cells[· %cE.cells.size]!)) [(0, .agg c.cells.toArray)]=some c.cells.toArray):=fun c=>by rw[D];exact kV _ _ rfl (by simp)
 go_enter Tryz.func81,Tryz.ntmps81;go_wp2_with fail;refine(bG.out _ _ (Fr.refl _ _)).mono ?_;rintro e w1⟨cr,cg,cs,cx,rfl,f1,bT⟩;have bH:=Lib.hid f1;have b1:=Lib.hid bT.IA;clear f1 bT bG a9 br b9;go_wp2;go_loopw[5,6](fun v i wr=>∃(k:Nat)(ls:List CV),k≤m∧i= .int .i64 (k:Int)∧Eo w1 wr v ls k)(fun _ i _=>m-(intOf i).toNat);case atStart=>exact⟨0,[],Nat.zero_le _,rfl,⟨dh.nil _,by simp,by simp,Fr.refl _ _,by intro i Y;cases Y⟩⟩
 case round=>
  obtain⟨k,ls,r,rfl,a8⟩:=hrel;have g:=Lib.hid a8;have bI:=Lib.hid r;obtain⟨q,n6,k6,rfl,au,av⟩:=aP a8.row;have s:Hid (n6≤6):=by have:=a8.len;have:=ae.out;have:=au.out;simp only[Hid];omega
  clear a8 r;generalize wr=aM at*;by_cases bv:k<m
  ·have t0:decide ((k:Int)<(m:Int))=true:=decide_eq_true (by omega);have cm:(k:Int)<(m:Int):=by omega
   have bX:(0:Int)≤(k:Int):=by omega
   obtain⟨bK,c,rfl,bs,X⟩:=(b1.out.al g.out.fr).at_ bv;have aJ:=Lib.hid X;have bJ:=Lib.hid (bi.out c (List.mem_of_getElem? bs));have bF:=Lib.hid c.one;clear bs X;go_wp2_with(refine aw rfl 119 (.tmp 27) rfl (bK.add (k*7)) rfl c.cells _ ?zJ Tryz.underlying119 rfl iD (aR.go ?hold));case zJ=>exact aJ.out
   unfold aR;go_wp2_with(refine ai rfl 119 rfl cE BU #[.int .i64 0, .string ByteArray.empty, .int .i64 0, .int .i64 0, .string ByteArray.empty, .string ByteArray.empty, .bool false] rfl ?_);intro cn bW;have bj:=Lib.hid bW;clear bW;generalize aY:aM.heap.size=g7 at*;have ay:=Lib.hid aY;clear aY;have bD:Hid (ak cn g7 119 #[.int .i64 0, .string ByteArray.empty, .int .i64 0, .int .i64 0, .string ByteArray.empty, .string ByteArray.empty, .bool false]):=by have h:=bj.out.az;rw[ay.out]at h;exact h
   go_wp2_with(refine ah rfl 119 (.tmp 7) _ rfl g7 c.cells.toArray rfl rfl _ _ bD.out iD rfl bF.out ?_);intro bc bb bO;have aZ:Hid (ak bc g7 119 #[.int .i64 c.nm.kind, .string c.nm.owner, .int .i64 c.nm.number, .int .i64 c.nm.index, .string c.nm.text, .string c.value, .bool c.aV]):=bb;have bg:Hid (Fr af aM bc):=bj.out.fr.ao bO (fun i Y e=>by have b4:i=g7:=e;have:=ay.out;omega);clear bb bO bj bD aJ;have bM:bc.cell? ⟨g7,6,none⟩=some (.bool c.aV):=aZ.out.cell 6;obtain⟨b3,aG⟩:∃z,c.aV=z:=⟨_,rfl⟩;have aO:=Lib.hid aG;rw[aG]at bM;clear aG;have b2:Hid ((Value.string ByteArray.empty).oneCell'=true):=by simp[Hid,Value.oneCell']
   go_upto_if 30 with fail;clear bM;go_cut[3,5,6,7](fun ci cj ck cl bd=>ci= .slice (some bK) m cg∧cj= .slice q n6 k6∧ck= .int .i64 (k:Int)∧cl= .pointer (some ⟨g7,0,none⟩)∧ak bd g7 119 (oA c).cells.toArray∧Fr af aM bd);case first=>
    cases b3
    ·have aS:Hid (#[Value.int .i64 c.nm.kind, .string c.nm.owner, .int .i64 c.nm.number, .int .i64 c.nm.index, .string c.nm.text, .string c.value, .bool c.aV]=(oA c).cells.toArray):=by
      rw[Hid,oA,if_neg (by rw[aO.out];decide)];rfl
     have HB:Hid (ak bc g7 119 (oA c).cells.toArray):=by rw[←aS.out];exact aZ.out
     clear aS;go_wp2;go_meet;exact⟨rfl,rfl,rfl,rfl,HB.out,bg.out⟩
    ·have aS:Hid (#[Value.int .i64 c.nm.kind, .string c.nm.owner, .int .i64 c.nm.number, .int .i64 c.nm.index, .string c.nm.text, .string ByteArray.empty, .bool c.aV]=(oA c).cells.toArray):=by
      rw[Hid,oA,if_pos aO.out];rfl
     go_wp2_with(refine rT rfl 9 _ _ rfl g7 5 (.string ByteArray.empty) rfl rfl b2.out nA _ _ _ aZ.out (show 5<7 by decide) rfl ?_);intro wc bL bP;have HB:Hid (ak wc g7 119 (oA c).cells.toArray):=by rw[←aS.out];exact bL
     have bZ:Hid (Fr af aM wc):=bg.out.ao bP (fun i Y e=>by have b4:i=g7:=e;have:=ay.out;omega);clear bL bP aS;go_wp2;go_meet;exact⟨rfl,rfl,rfl,rfl,HB.out,bZ.out⟩
   case rest=>
    obtain⟨rfl,rfl,rfl,rfl,bU,b⟩:=hcut;have a0:=Lib.hid bU;have bf:=Lib.hid b;have aA:=Lib.hid (xR bJ.out);clear bU b aZ bg bF bJ;generalize oA c=d at*;have cu:=Lib.hid g.out.row;have ab:=Lib.hid (show CL aM (fun _=>True) q n6 ls from by have e:=au.out;subst e;exact⟨(Rd.gj g.out.row).any,rfl⟩);go_wp2;go_loopw[8](fun i bd=>∃j:Nat,j≤n6∧i= .int .i64 (j:Int)∧Fr af wc bd)(fun i _=>n6-(intOf i).toNat);case atStart=>exact⟨0,Nat.zero_le _,rfl,Fr.refl _ _⟩
    case round=>
     obtain⟨j,a9,rfl,b⟩:=hrel;have ad:=Lib.hid a9;have a1:=Lib.hid b;clear a9 b;obtain⟨E,z,T⟩:∃(E:Addr)(z:CV),Hid (j<n6→q=some E∧ls[j]? =some z∧∀K x,z.cells[K]? =some x→wc.cell? ((E.add (j*7)).add K)=some x):=by
      by_cases h:j<n6;·obtain⟨E,z,b6,b7,b8⟩:=(ab.out.al bf.out).at_ h;exact⟨E,z,fun _=>⟨b6,b7,b8⟩⟩
      ·exact⟨⟨0,0,none⟩,d,fun a6=>absurd a6 h⟩
     obtain⟨P,bN⟩:∃z:Bool,decide (j<n6)=z:=⟨_,rfl⟩;have L:=Lib.hid bN;have ag:Hid (decide ((j:Int)<(n6:Int))=P):=by rw[Hid,←L.out];exact decide_eq_decide.2 (by omega)
     obtain⟨Q,aW⟩:∃bC:Bool,decide (cp z.nm d.nm<0)=bC:=⟨_,rfl⟩;have EQ:=Lib.hid aW;clear bN aW;have R:Hid (j<n6→q=some E):=fun h=>(T.out h).1;have bE:Hid (j<n6→∀w',Calls Tryz.prog 128 #[.agg z.nm.cells.toArray, .agg d.nm.cells.toArray] w' (aH w' (.int .i64 (cp z.nm d.nm)))):=fun h w'=>fO z.nm d.nm w' (by have:=(g.out.small z (List.mem_of_getElem? (T.out h).2.1)).owner;omega) (by have:=aA.out.owner;omega);obtain⟨B,bQ⟩:∃z:Bool,(bif P then Q else false)=z:=⟨_,rfl⟩;have HB:=Lib.hid bQ;clear bQ;go_upto_region 10 with fail;refine iP 15 [.int .i64 (j:Int), .slice q n6 k6, .int .i64 (n6:Nat), .bool P, .bool P,bif P then .slice q n6 k6 else undef,bif P then .int .i64 (j:Int)else undef,bif P then .pointer (some (E.add (j*7)))else undef,bif P then .pointer (some (E.add (j*7)))else undef,bif P then .agg z.nm.cells.toArray else undef,bif P then .pointer (some ⟨g7,0,none⟩)else undef,bif P then .agg d.nm.cells.toArray else undef,bif P then .int .i64 (cp z.nm d.nm)else undef,bif P then .bool Q else undef, .bool B] ?zK ?_;case zK=>
      refine⟨?yK,?yL,?zN,?zO,?zP,?zQ,?zR,?zS,?zT,?zU,?zA,?zB,?zC,?zD,?zE,trivial⟩;all_goals intro u w' b a
      all_goals simp only[z1,z2,z3,z4,an,Act.put,z5,z6,z7,Nat.reduceAdd,Nat.zero_add]
      case' zN=>simp only[show u 1=_ from a 1]
      case zO=>
       simp only[show u 0=_ from a 0,show u 2=_ from a 2];refine aB ?_;have t1:=ag.out;have t2:=L.out;go_simp;exact⟨rfl,Fr.refl _ _⟩
      case' zP=>simp only[show u 3=_ from a 3]
      case' zQ=>
       simp only[show u 4=_ from a 4];cases P;case false=>exact bB
      case' zR=>
       simp only[show u 4=_ from a 4];cases P;case false=>exact bB
      case zS=>
       simp only[show u 5=_ from a 5,show u 6=_ from a 6,show u 4=_ from a 4];cases P;case false=>exact bB
       refine aB ?_;have r:=of_decide_eq_true L.out;have bm:q=some E:=R.out r;have aL:(j:Int)<(n6:Int):=by omega
       have a5:(0:Int)≤(j:Int):=by omega
       clear R;subst bm;go_simp;exact⟨rfl,Fr.refl _ _⟩
      case' zT=>
       simp only[show u 7=_ from a 7,show u 4=_ from a 4];cases P;case false=>exact bB
      case zU=>
       simp only[show u 8=_ from a 8,show u 4=_ from a 4];cases P;case false=>exact bB
       refine aB ?_;have r:=of_decide_eq_true L.out;exact ar _ _ rfl (E.add (j*7)) rfl z.nm.cells _ (fun K v J=>(a1.out.trans b).aj ((T.out r).2.2 K v (by rw[CV.cells,List.getElem?_append_left (List.getElem?_eq_some_iff.1 J).1];exact J)) (fun x=>x)) Tryz.underlying106 rfl aX ⟨rfl,Fr.refl _ _⟩
      case' zA=>
       simp only[show u 4=_ from a 4];cases P;case false=>exact bB
      case zB=>
       simp only[show u 10=_ from a 10,show u 4=_ from a 4];cases P;case false=>exact bB
       refine aB ?_;exact ar _ _ rfl ⟨g7,0,none⟩ rfl d.nm.cells _ (fun K v J=>by rw[Addr.add_mid,Nat.zero_add,(a0.out.fr (a1.out.trans b) (fun x=>x)).cell K,List.getElem?_toArray,CV.cells,List.getElem?_append_left (List.getElem?_eq_some_iff.1 J).1];exact J) Tryz.underlying106 rfl aX ⟨rfl,Fr.refl _ _⟩
      case zC=>
       simp only[show u 9=_ from a 9,show u 11=_ from a 11,show u 4=_ from a 4];cases P;case false=>exact bB
       refine aB ?_;have r:=of_decide_eq_true L.out;go_simp;refine(bE.out r _).mono ?_;rintro e aN⟨rfl,f4⟩;exact⟨rfl,f4⟩
      case zD=>
       simp only[show u 12=_ from a 12,show u 4=_ from a 4];cases P;case false=>exact bB
       refine aB ?_;have t:=EQ.out;go_simp;exact⟨rfl,Fr.refl _ _⟩
      case zE=>
       simp only[show u 4=_ from a 4,show u 13=_ from a 13];cases P<;>exact aB (by go_simp;exact⟨by rw[←HB.out];rfl,Fr.refl _ _⟩)
      all_goals
       try simp only[cond]
       refine aB ?_;go_simp;exact⟨rfl,Fr.refl _ _⟩
     intro w' b;simp only[z1,z2,z3,z4,an,Act.put,z5,z6,z7,z8,z9,jl,jm,Nat.reduceAdd,Nat.zero_add];have a2:=Lib.hid (a1.out.trans b);clear b a1 bE EQ;cases B
     ·generalize w'=aN at*;have O:Hid (Fr af aM aN):=bf.out.trans a2.out;clear HB;go_upto_region 12 with fail;refine xp 9 af (fun i=>i==7) (fun i j=>(i==7&&(j==0||j==4||j==6))) [⟨fun M aq=>∃i:Nat,M= .slice (some ⟨i,0,none⟩) 0 0∧aq.ownsRow 0 119 7 (.slice (some ⟨i,0,none⟩) 0 0) 0 []∧aN.heap.size≤i,fun _ _ _ f⟨i,e,h,l⟩=>⟨i,e,aK h f (fun _ _ x=>x),l⟩⟩,iS (.slice q n6 k6),iS (.int .i64 (j:Int)),iS (.slice q j k6),⟨fun M aq=>aq.ownsRow 0 119 7 M j ((ls.take j).flatMap CV.cells)∧∀k,M.ownBlock=some k→aN.heap.size≤k,fun _ _ _ f h=>⟨aK h.1 f (fun _ _ x=>x),h.2⟩⟩,iS (.agg d.cells.toArray),⟨fun M aq=>∃i:Nat,M= .slice (some ⟨i,0,none⟩) 1 1∧ak aq i 119 d.cells.toArray,fun _ _ _ f⟨i,e,h⟩=>⟨i,e,h.fr f (fun x=>x)⟩⟩,⟨fun M aq=>dh aq M (ls.take j++[d])∧∀k,M.ownBlock=some k→aN.heap.size≤k,fun _ _ _ f h=>⟨h.1.al f,h.2⟩⟩,⟨fun M aq=>dh aq M (ls.take j++[d])∧∀k,M.ownBlock=some k→aN.heap.size≤k,fun _ _ _ f h=>⟨h.1.al f,h.2⟩⟩] ?zM ?_;case zM=>
       refine⟨?yD,?yO,?yP,?yE,?yF,?yG,?yH,?yI,?yJ,trivial⟩;all_goals intro u w' b a cw
       all_goals simp only[z1,z2,z3,z4,an,Act.put,z5,z6,z7,Nat.reduceAdd,Nat.zero_add]
       case yD=>
        refine aB ?_;refine mK 44 119 rfl aa Tryz.underlying44 I ?_;intro bY bw;exact⟨_,rfl,bw.fr,⟨w'.heap.size,rfl,bw.Ft,b.size⟩⟩
       case yE=>
        simp only[show u 1=_ from a 1,show u 2=_ from a 2];refine aB ?_;have aL:(j:Int)≤(k6:Int):=by have:=ad.out;have:=av.out;omega
        have a5:(0:Int)≤(j:Int):=by omega
        go_simp;exact⟨_,rfl,Fr.refl _ _,rfl⟩
       case yF=>
        obtain⟨i0,b5,br,cy⟩:=a 0;simp only[b5,show u 3=_ from a 3];refine aB ?_;refine yX (.tmp 49) (.tmp 52) 44 rfl 119 aa cE 7 80 Tryz.underlying44 I Z D ap rfl (by decide) i0 rfl br (fun _=>True) q j k6 ((ls.take j).flatMap CV.cells) rfl ((ab.out.al (O.out.trans b)).take ad.out).rd (by have:=ad.out;have:=s.out;omega) (by have:=ad.out;have:=s.out;omega) ?_;intro v5 bY ce bt cd;exact⟨_,rfl,bt,ce,fun k r=>(cd k r).elim (fun e=>by omega) (fun e=>Nat.le_trans b.size e)⟩
       case yG=>
        refine aB ?_;exact ar _ _ rfl ⟨g7,0,none⟩ rfl d.cells _ (fun K v J=>by rw[Addr.add_mid,Nat.zero_add,(a0.out.fr (a2.out.trans b) (fun x=>x)).cell K,List.getElem?_toArray];exact J) Tryz.underlying119 rfl iD ⟨_,rfl,Fr.refl _ _,rfl⟩
       case yH=>
        simp only[show u 5=_ from a 5];refine aB ?_;refine wp_buildSlice 44 119 1 #[(0, .tmp 54)] rfl d.cells.toArray aa cE Tryz.underlying44 I Z bo.out bp.out ?_ ?_;·simp only[List.map_toArray,List.map_cons,List.map_nil];exact bq.out d
        ·exact⟨_,rfl,(Fr.refl _ _).alloc _,⟨w'.heap.size,rfl,ak.new _ _ _⟩⟩
       case yI=>
        obtain⟨ca,bV⟩:=a 4;obtain⟨i6,aL,cb⟩:=a 6;simp only[aL];refine aB ?_;refine sd _ (.tmp 53) (.tmp 55) 44 rfl 119 aa cE 7 80 Tryz.underlying44 I Z D ap rfl (by decide) _ _ _ rfl ca (fun _=>True) (some ⟨i6,0,none⟩) 1 1 d.cells rfl ⟨rfl,fun _=>⟨_,rfl,trivial,fun K x cf=>by rw[Addr.add_mid,Nat.zero_add,cb.cell,List.getElem?_toArray];exact cf⟩⟩ (sj d) (by have:=ad.out;have:=s.out;omega) (by decide) ?_;intro cz cA H;refine⟨_,rfl,⟨b.ao H.fr (fun k r e=>by have:=bV k e;omega),?_⟩,?_,fun k r=>(H.dD k r).elim (bV k) (fun h=>Nat.le_trans b.size h)⟩;·exact⟨jJ,fun _ h=>h,fun _ h=>h,fun _ h=>h,jJ,fun _ h=>h,jJ,jJ,jJ,trivial⟩
        ·have h:=H.own;unfold dh;rw[show(ls.take j++[d]).length=j+1 by rw[List.length_append,List.length_take,List.length_singleton,Nat.min_eq_left (by have:=ad.out;have:=au.out;omega)],List.flatMap_append];simpa using h
       case yJ=>
        obtain⟨cc,ch⟩:=a 7;refine aB ?_;go_simp;exact⟨_,rfl,Fr.refl _ _,cc,ch⟩
       all_goals
        refine aB ?_;go_simp;exact⟨_,rfl,Fr.refl _ _,rfl⟩
      intro u w' b a;obtain⟨a7,bz⟩:=a 8 (by omega);obtain⟨be,bA,bx,bn,ct,b0⟩:=aP a7;rw[bn]at a7 bz;simp only[z1,z2,z3,z4,an,Act.put,z5,z6,z7,z8,z9,Nat.reduceAdd,Nat.zero_add];clear a;simp only[bn];have aT:=Lib.hid a7;have a3:=Lib.hid bz;have ac:=Lib.hid (a2.out.trans b);clear b a7 bz bn;obtain⟨Q,aW⟩:∃bC:Bool,wG z.nm d.nm=bC:=⟨_,rfl⟩;have EQ:=Lib.hid aW;clear aW;obtain⟨C,bR⟩:∃z:Bool,(bif P then Q else false)=z:=⟨_,rfl⟩;have aJ:=Lib.hid bR;clear bR;have aU:Hid (∀W,Fr af w' W→dh W (.slice be bA bx) (ls.take j++[d])):=fun W f=>aT.out.al f;clear aT;generalize w'=bY at*;go_upto_region 13 with fail;refine iP 14 [.int .i64 (j:Int), .slice q n6 k6, .int .i64 (n6:Nat), .bool P, .bool P,bif P then .slice q n6 k6 else undef,bif P then .int .i64 (j:Int)else undef,bif P then .pointer (some (E.add (j*7)))else undef,bif P then .pointer (some (E.add (j*7)))else undef,bif P then .agg z.nm.cells.toArray else undef,bif P then .pointer (some ⟨g7,0,none⟩)else undef,bif P then .agg d.nm.cells.toArray else undef,bif P then .bool Q else undef, .bool C] ?zL ?_;case zL=>
       refine⟨?yM,?yN,?zV,?zW,?zX,?zY,?zZ,?yA,?yB,?yC,?zF,?zG,?zH,?zI,trivial⟩;all_goals intro u w' b a
       all_goals simp only[z1,z2,z3,z4,an,Act.put,z5,z6,z7,Nat.reduceAdd,Nat.zero_add]
       case' zV=>simp only[show u 1=_ from a 1]
       case zW=>
        simp only[show u 0=_ from a 0,show u 2=_ from a 2];refine aB ?_;have t1:=ag.out;have t2:=L.out;go_simp;exact⟨rfl,Fr.refl _ _⟩
       case' zX=>simp only[show u 3=_ from a 3]
       case' zY=>
        simp only[show u 4=_ from a 4];cases P;case false=>exact bB
       case' zZ=>
        simp only[show u 4=_ from a 4];cases P;case false=>exact bB
       case yA=>
        simp only[show u 5=_ from a 5,show u 6=_ from a 6,show u 4=_ from a 4];cases P;case false=>exact bB
        refine aB ?_;have r:=of_decide_eq_true L.out;have bm:q=some E:=R.out r;have aL:(j:Int)<(n6:Int):=by omega
        have a5:(0:Int)≤(j:Int):=by omega
        clear R;subst bm;go_simp;exact⟨rfl,Fr.refl _ _⟩
       case' yB=>
        simp only[show u 7=_ from a 7,show u 4=_ from a 4];cases P;case false=>exact bB
       case yC=>
        simp only[show u 8=_ from a 8,show u 4=_ from a 4];cases P;case false=>exact bB
        refine aB ?_;have r:=of_decide_eq_true L.out;exact ar _ _ rfl (E.add (j*7)) rfl z.nm.cells _ (fun K v J=>(ac.out.trans b).aj ((T.out r).2.2 K v (by rw[CV.cells,List.getElem?_append_left (List.getElem?_eq_some_iff.1 J).1];exact J)) (fun x=>x)) Tryz.underlying106 rfl aX ⟨rfl,Fr.refl _ _⟩
       case' zF=>
        simp only[show u 4=_ from a 4];cases P;case false=>exact bB
       case zG=>
        simp only[show u 10=_ from a 10,show u 4=_ from a 4];cases P;case false=>exact bB
        refine aB ?_;exact ar _ _ rfl ⟨g7,0,none⟩ rfl d.nm.cells _ (fun K v J=>by rw[Addr.add_mid,Nat.zero_add,(a0.out.fr (ac.out.trans b) (fun x=>x)).cell K,List.getElem?_toArray,CV.cells,List.getElem?_append_left (List.getElem?_eq_some_iff.1 J).1];exact J) Tryz.underlying106 rfl aX ⟨rfl,Fr.refl _ _⟩
       case zH=>
        simp only[show u 9=_ from a 9,show u 11=_ from a 11,show u 4=_ from a 4];cases P;case false=>exact bB
        refine aB ?_;exact ji _ _ _ _ _ rfl _ _ rfl rfl Tryz.eqGuardType106 _ (by rw[←EQ.out];exact De z.nm d.nm _) ⟨rfl,Fr.refl _ _⟩
       case zI=>
        simp only[show u 4=_ from a 4,show u 12=_ from a 12];cases P<;>exact aB (by go_simp;exact⟨by rw[←aJ.out];rfl,Fr.refl _ _⟩)
       all_goals
        try simp only[cond]
        refine aB ?_;go_simp;exact⟨rfl,Fr.refl _ _⟩
      intro w' b;simp only[z1,z2,z3,z4,an,Act.put,z5,z6,z7,z8,z9,jl,jm,Nat.reduceAdd,Nat.zero_add];have aT:=Lib.hid (aU.out _ b);have F:=Lib.hid (bf.out.trans (ac.out.trans b));clear b aU;generalize w'=ba at*;have cv:=ad.out;have cq:IntKind.i64.wrap ((k:Int)+1)=(k:Int)+1:=IntWalk.i64_in _ (by have:=bI.out;have:=ae.out;omega);have aQ:Hid (C=true→j<n6):=fun h=>by
       have a6:=aJ.out;rw[h]at a6;cases P;·cases a6
       ·exact of_decide_eq_true L.out
      clear L ag EQ aJ T R ac a0;cases C
      ·clear aQ;have aL:(j:Int)≤(n6:Int):=by omega
       have a5:(0:Int)≤(j:Int):=by omega
       obtain⟨N,am⟩:∃N,(ls.take j++[d]).length=N:=⟨_,rfl⟩;obtain⟨aF,y⟩:∃aF,(ls.take j++[d]).flatMap CV.cells=aF:=⟨_,rfl⟩;obtain⟨V,o⟩:∃V,(ls.drop (j)).flatMap CV.cells=V:=⟨_,rfl⟩;have bl:Hid (ba.ownsRow 0 119 7 (.slice be bA bx) N aF):=by rw[Hid,←am,←y];exact aT.out
       have bk:Hid (Rd ba (fun _=>True) 7 (if k6=j then q else q.map (·.add ((j)*7))) (n6-(j)) V):=by rw[Hid,←o];exact((ab.out.al F.out).cut (k:=j) (cap:=k6) (by omega) av.out).rd
       have U:Hid (∀u∈V,u.oneCell'=true):=by
        rw[Hid,←o];intro u hu;obtain⟨G,_,p⟩:=List.mem_flatMap.1 hu;exact sj G u p
       have ax:Hid ((N+(n6-(j)))*80≤140737488355328):=by
        have:=s.out;rw[Hid,←am,List.length_append,List.length_take,List.length_singleton];omega
       have bh:=Lib.hid am;have aC:=Lib.hid y;have aD:=Lib.hid o;clear am y o;go_wp2_with(refine gK _ rfl _ _ 44 rfl 119 aa cE 7 80 Tryz.underlying44 I Z D ap rfl (by decide) _ _ _ rfl bl.out (fun _=>True) _ _ _ V rfl bk.out U.out ax.out (by decide) ?_);all_goals
        intro v10 aI H;have aE:Hid (Eo w1 aI v10 (ls.take j++[d]++ls.drop (j)) (k+1)):=by
         refine⟨?_,?_,?_,?_,?_⟩;·have h:=H.own;unfold dh;rw[List.flatMap_append,List.length_append,List.length_drop,←au.out,bh.out,aC.out,aD.out];exact h
         ·have:=g.out.len;have:=au.out;have:=ad.out;rw[List.length_append,List.length_append,List.length_take,List.length_drop,List.length_singleton];omega
         ·intro G p;rw[List.mem_append,List.mem_append,List.mem_singleton]at p;rcases p with(h|rfl)|h;·exact g.out.small G (List.mem_of_mem_take h)
          ·exact aA.out
          ·exact g.out.small G (List.mem_of_mem_drop h)
         ·exact(g.out.fr.trans F.out).ao H.fr (fun i Y e=>by have:=a3.out i e;have:=g.out.fr.size;have:=O.out.size;omega)
         ·intro i Y;have:=g.out.fr.size;have:=O.out.size;have:=F.out.size;rcases H.dD i Y with h|h;·have:=a3.out i h;omega
          ·omega
        clear H;go_wp2;go_roundw;case rel=>exact⟨k+1,_,by omega,by go_num,aE.out⟩
        case measure=>simp[intOf];omega
      ·have bu:j<n6:=aQ.out rfl;have co:IntKind.i64.wrap ((j:Int)+1)=(j:Int)+1:=IntWalk.i64_in _ (by have:=s.out;omega);have aL:(j:Int)+1≤(n6:Int):=by omega
       have a5:(0:Int)≤(j:Int)+1:=by omega
       obtain⟨N,am⟩:∃N,(ls.take j++[d]).length=N:=⟨_,rfl⟩;obtain⟨aF,y⟩:∃aF,(ls.take j++[d]).flatMap CV.cells=aF:=⟨_,rfl⟩;obtain⟨V,o⟩:∃V,(ls.drop (j+1)).flatMap CV.cells=V:=⟨_,rfl⟩;have bl:Hid (ba.ownsRow 0 119 7 (.slice be bA bx) N aF):=by rw[Hid,←am,←y];exact aT.out
       have bk:Hid (Rd ba (fun _=>True) 7 (if k6=j+1 then q else q.map (·.add ((j+1)*7))) (n6-(j+1)) V):=by rw[Hid,←o];exact((ab.out.al F.out).cut (k:=j+1) (cap:=k6) (by omega) av.out).rd
       have U:Hid (∀u∈V,u.oneCell'=true):=by
        rw[Hid,←o];intro u hu;obtain⟨G,_,p⟩:=List.mem_flatMap.1 hu;exact sj G u p
       have ax:Hid ((N+(n6-(j+1)))*80≤140737488355328):=by
        have:=s.out;rw[Hid,←am,List.length_append,List.length_take,List.length_singleton];omega
       have bh:=Lib.hid am;have aC:=Lib.hid y;have aD:=Lib.hid o;clear am y o;go_wp2_with(refine gK _ rfl _ _ 44 rfl 119 aa cE 7 80 Tryz.underlying44 I Z D ap rfl (by decide) _ _ _ rfl bl.out (fun _=>True) _ _ _ V rfl bk.out U.out ax.out (by decide) ?_);all_goals
        intro v10 aI H;have aE:Hid (Eo w1 aI v10 (ls.take j++[d]++ls.drop (j+1)) (k+1)):=by
         refine⟨?_,?_,?_,?_,?_⟩;·have h:=H.own;unfold dh;rw[List.flatMap_append,List.length_append,List.length_drop,←au.out,bh.out,aC.out,aD.out];exact h
         ·have:=g.out.len;have:=au.out;have:=ad.out;rw[List.length_append,List.length_append,List.length_take,List.length_drop,List.length_singleton];omega
         ·intro G p;rw[List.mem_append,List.mem_append,List.mem_singleton]at p;rcases p with(h|rfl)|h;·exact g.out.small G (List.mem_of_mem_take h)
          ·exact aA.out
          ·exact g.out.small G (List.mem_of_mem_drop h)
         ·exact(g.out.fr.trans F.out).ao H.fr (fun i Y e=>by have:=a3.out i e;have:=g.out.fr.size;have:=O.out.size;omega)
         ·intro i Y;have:=g.out.fr.size;have:=O.out.size;have:=F.out.size;rcases H.dD i Y with h|h;·have:=a3.out i h;omega
          ·omega
        clear H;go_wp2;go_roundw;case rel=>exact⟨k+1,_,by omega,by go_num,aE.out⟩
        case measure=>simp[intOf];omega
     ·have bu:j<n6:=by
       have h:=HB.out;cases P;·cases h
       ·exact of_decide_eq_true L.out
      have co:IntKind.i64.wrap ((j:Int)+1)=(j:Int)+1:=IntWalk.i64_in _ (by have:=s.out;omega);clear HB L ag;go_wp2;go_roundw;case rel=>exact⟨j+1,by omega,by go_num,a2.out⟩
      case measure=>simp[intOf];omega
  ·obtain rfl:k=m:=by have:=bI.out;omega
   have t0:decide ((k:Int)<(k:Int))=false:=decide_eq_false (by omega);go_wp2;go_ret;exact⟨_,ls,rfl,g.out.row,by have:=g.out.len;have:=ae.out;omega,g.out.small,bH.out.trans g.out.fr,fun i Y=>by have:=g.out.new i Y;have:=bH.out.size;omega⟩
end Go.Proofs.YtphjagkehiklkaaGreatDoor
namespace Go.Proofs.YtphjagkehiklkaaGreatDoor
open Go.RowKit Go.Shelf
def Ee(w:World)(e:Ending)(w':World):Prop:=∃s E,e= .returned (.pointer (some ⟨s,0,none⟩))∧ew w' s E∧ct 6 E∧Fr af w w'
theorem zw(n:Nat)(xs:List CV)(A:Option Addr)(D:Nat)(S:Nat→Prop)(w:World)(Y:CL w S A n xs)(ae:n≤9223372036854775807)(aa:n≤D)(Z:dy w):
  Calls Tryz.prog 28 #[.slice A n D] w (Ee w):=by
 have Q:Hid (∀w',Fr af w w'→Calls Tryz.prog 81 #[.slice A n D] w' (nU w')):=fun w' f=>me n xs A D S w' (Y.al f) ae aa;have an:=Lib.hid Z;clear Y ae aa Z;go_enter Tryz.func28,Tryz.ntmps28;go_wp2_with fail;refine(py _).mono ?_;rintro e w1⟨aj,rfl,y,f1⟩;have G:=Lib.hid f1;have W:Hid (ew w1 aj []):=⟨_,y,rfl⟩;clear y f1;go_wp2_with fail;refine(Q.out _ G.out).mono ?_;rintro e w2⟨v,l,rfl,ah,aq,z,f2,_⟩;obtain⟨ar,b,M,rfl,U,o,t⟩:=ah.cl;have R:=Lib.hid (G.out.trans f2);have ao:=Lib.hid (W.out.al f2);have am:=Lib.hid t;have h:Hid (b≤6∧b=l.length∧b≤M):=⟨by omega,U,o⟩;have I:=Lib.hid z;clear ah aq z f2 t U o Q W G;go_wp2;go_loopw[3,5](fun s i wr=>∃(k F:Nat)(E:List Ent),k≤b∧s= .pointer (some ⟨F,0,none⟩)∧i= .int .i64 (k:Int)∧ew wr F E∧ct k E∧Fr af w2 wr)(fun _ i _=>b-(intOf i).toNat);case atStart=>exact⟨0,aj,[],Nat.zero_le _,rfl,rfl,ao.out,ct.nil,Fr.refl _ _⟩
 case round=>
  obtain⟨k,s,E,ad,rfl,rfl,ai,ac,ab⟩:=hrel;have V:=Lib.hid ad;have J:=Lib.hid ai;have C:=Lib.hid ac;have B:=Lib.hid ab;clear ad ai ac ab;by_cases N:k<b
  ·have t0:decide ((k:Int)<(b:Int))=true:=decide_eq_true (by omega);obtain⟨X,c,rfl,r,a⟩:=(am.out.al B.out).at_ N;have H:Hid (CL wr (fun _=>True) (some (X.add (k*7))) 1 [c]):=⟨⟨rfl,fun _=>⟨_,rfl,trivial,fun j x g=>a j x (by simpa using g)⟩⟩,rfl⟩;have m:=Lib.hid (I.out c (List.mem_of_getElem? r));have O:¬M=k:=by have:=h.out;omega
   have av:IntKind.i64.wrap ((k:Int)+1)=(k:Int)+1:=IntWalk.i64_in _ (by have:=h.out;omega);have b0:(0:Int)≤(k:Int):=by omega
   have b1:(k:Int)≤(k:Int)+1:=by omega
   have b2:(k:Int)+1≤(M:Int):=by have:=h.out;omega
   have P:Hid (∀L,Calls Tryz.prog 82 #[.pointer (some ⟨s,0,none⟩), .slice (some (X.add (k*7))) 1 L] wr (lH wr E [c])):=fun L=>sg E [c] 1 k _ L _ s wr J.out (an.out.al (R.out.trans B.out)) C.out H.out (fun x g=>by rw[List.mem_singleton]at g;rw[g];exact m.out) (by have:=h.out;have:=V.out;omega);clear a r;go_wp2_with fail;refine(P.out _).mono ?_;rintro e au⟨p,q,rfl,f3,d⟩;have T:=Lib.hid (B.out.trans f3);have K:=Lib.hid (J.out.al f3);clear f3 P b0 b1 b2 O;rcases d with⟨ag,rfl,F,rfl,u⟩|⟨_,rfl,rfl⟩
   ·have ap:=Lib.hid u;have ak:Hid (ct (k+1) (ln [c] E)):=ph [c] E k C.out (fun x g=>by rw[List.mem_singleton]at g;rw[g];exact m.out) ag;clear u ag;go_wp2;go_roundw;case rel=>exact⟨k+1,F,_,by omega,rfl,by go_num,ap.out,ak.out,T.out⟩
    case measure=>simp[intOf];omega
   ·go_wp2;go_roundw;case rel=>exact⟨k+1,s,E,by omega,rfl,by go_num,K.out,C.out.more (by omega),T.out⟩
    case measure=>simp[intOf];omega
  ·obtain rfl:k=b:=by have:=V.out;omega
   have t0:decide ((k:Int)<(k:Int))=false:=decide_eq_false (by omega);go_wp2;go_ret;exact⟨s,E,rfl,J.out,C.out.more h.out.1,R.out.trans B.out⟩
end Go.Proofs.YtphjagkehiklkaaGreatDoor
