/- Texts. -/
import Derived.Test.YtphjagkehiklkaaGreatDoorUK03
import Derived.Test.YtphjagkehiklkaaGreatDoorUK17
set_option linter.unusedVariables false
set_option linter.unusedSimpArgs false
set_option maxRecDepth 100000
set_option maxHeartbeats 4000000
namespace Go.Proofs.YtphjagkehiklkaaGreatDoor
open Go.RowKit Go.Shelf
theorem rj(w:World)(s:ByteArray):∃c w1,(convert 9 61 (.string s)).run Tryz.prog w= .ok (.slice (some ⟨w.heap.size,0,none⟩) s.size c) w1∧Fr af w w1∧Rd w1 (fun k=>k=w.heap.size) 1 (some ⟨w.heap.size,0,none⟩) s.size ((aC s).map bv):=by
 refine⟨_,_,Lib.run_convert_string_bytes w 9 61 5 s Tryz.underlying9 Tryz.underlying61 Tryz.underlying5,⟨rfl,rfl,rfl,?_,fun k d _=>Lib.bytesWorld_at_old w _ s k d⟩,?_,fun _=>⟨_,rfl,rfl,fun j u hu=>?_⟩⟩;·rw[Lib.bytesWorld_size];omega
 ·rw[List.length_map,aG,Nat.mul_one]
 ·rw[List.getElem?_map]at hu;cases a:(aC s)[j]? with
  |none=>rw[a]at hu;cases hu
  |some x=>
   rw[a]at hu;simp only[Option.map_some,Option.some.injEq]at hu;have b:j<s.size:=by rw[←aG];exact(List.getElem?_eq_some_iff.1 a).1
   rw[show(⟨w.heap.size,0,none⟩:Addr).add j=⟨w.heap.size,j,none⟩by unfold Addr.add;split<;>simp_all,Lib.bytesWorld_cell w _ s j b];unfold aC at a;rw[List.getD_eq_getElem?_getD,a,←hu];rfl
theorem aS{P:Program}{fn:Func}{p q:Tmp}{ty:TypeId}(h:fn.results=#[.cell p ty, .tmp q])(tmps:Array Value)(w:World)(g:Nat)(t:TypeId)(cs:Array Value)(fr:Nat×Nat)(d:TypeDesc)
  (i:tmps.getD p undef= .pointer (some ⟨g,0,none⟩))(e:w.heap[g]? =some (.cells cs t fr))
  (hu:P.underlying ty=some d)(c:(match d with| .struct _| .array _ _=>true|_=>false)=true)(f:(P.info? ty).map (·.size)=some cs.size)(v:Value)(j:tmps.getD q undef=v):
  (results fn tmps).run P w= .ok (.tuple #[.agg cs,v]) w:=by
 have a:tmps[p]?.getD undef= .pointer (some ⟨g,0,none⟩):=by simpa using i
 have b:tmps[q]?.getD undef=v:=by simpa using j
 simp[results,h,a,b,asAddr,run_loadVar_row w g t ty cs fr d e hu c f]
def dm(l:List UInt8):Int×(List UInt8×Nat×Int):=aF 0 (aT 20) (l,0,0)
def jz(u:fM)(st:List UInt8×Nat×Int):List UInt8×(List UInt8×Nat×Int):=if u.owner then aF [] (bJ 16777216) st else([],st)
def lM(u:fM)(st:List UInt8×Nat×Int):Int×(List UInt8×Nat×Int):=if u.number then aF 0 (aT 1073741824) st else(0,st)
def nh(u:fM)(st:List UInt8×Nat×Int):Int×(List UInt8×Nat×Int):=if u.index then aF 0 (aT u.aJ) st else(0,st)
def oD(u:fM)(st:List UInt8×Nat×Int):List UInt8×(List UInt8×Nat×Int):=if u.text then aF [] (bJ 32) st else([],st)
def eK(st:List UInt8×Nat×Int):Int:=if st.2.2=0 then(if 0<st.1.length then 5 else 0)else st.2.2
def eD(u:fM)(l:List UInt8):aD×(List UInt8×Nat×Int):=
 (⟨(dm l).1,⟨(jz u (dm l).2).1.toArray⟩,(lM u (jz u (dm l).2).2).1,(nh u (lM u (jz u (dm l).2).2).2).1,⟨(oD u (nh u (lM u (jz u (dm l).2).2).2).2).1.toArray⟩⟩,(oD u (nh u (lM u (jz u (dm l).2).2).2).2).2)
theorem sU(l:List UInt8):0≤(dm l).1∧(dm l).1≤20:=by
 unfold dm aF;simp only[ne_eq,not_true_eq_false,if_false];split;·omega
 next h=>
  simp only[aT]at h⊢;split at h;·omega
  next a=>
   have b:(pn l 9).2.2=0:=by omega
   have:¬(20:Int)<((pn l 9).1:Int):=fun e=>a ⟨b,e⟩;omega
def ig(k:Int)(c:ByteArray)(b a:Int)(d:ByteArray):Array Value:=#[.int .i64 k, .string c, .int .i64 b, .int .i64 a, .string d]
theorem Ct(k:Int):Tryz.prog.built 106 [(0, .int .i64 k)]=some (ig k ByteArray.empty 0 0 ByteArray.empty):=by kernel_rfl
theorem Cs:Tryz.prog.built 106 []=some (ig 0 ByteArray.empty 0 0 ByteArray.empty):=by kernel_rfl
theorem ko:(Tryz.prog.info? 106).map (·.size)=some 5:=by kernel_rfl
theorem tg:(Tryz.prog.info? 41).map (·.size)=some 1:=by kernel_rfl
theorem lP:(Tryz.prog.info? 3).map (·.size)=some 1:=by kernel_rfl
theorem yZ(w:World):(zeroValue 106).run Tryz.prog w= .ok qC w:=by kernel_rfl
structure RS(w W:World)(g a c b:Nat)(S:Nat→Prop)(us nm:Array Value)(st:List UInt8×Nat×Int):Prop where
 rr:Rr W g S st.1 st.2.1 st.2.2
 nb:ak W a 106 nm
 ub:ak W c 189 us
 rb:ak W b 106 (ig 0 ByteArray.empty 0 0 ByteArray.empty)
 fr:Fr af w W
structure y7(w:World)(g a c b:Nat)(S:Nat→Prop):Prop where
 g_:w.heap.size≤g
 n_:w.heap.size≤a
 ne:a≠b
 sn:¬S a
theorem RS.step{w W W':World}{g d j f:Nat}{S:Nat→Prop}{us nm:Array Value}{st b:List UInt8×Nat×Int}(h:RS w W g d j f S us nm st)(a:y7 w g d j f S)(k:fi W g S W' b.1 b.2.1 b.2.2):RS w W' g d j f S us nm b:=by
 obtain⟨⟨A,n,c,l,_,_⟩,_,_⟩:=h.rr;have ne:∀{x:Nat}{t:TypeId}{cs:Array Value},ak W x t cs→t≠193→¬dJ g x:=fun o m e=>dB o l m e;exact⟨k.rr,h.nb.fr k.fr (ne h.nb (by decide)),h.ub.fr k.fr (ne h.ub (by decide)),h.rb.fr k.fr (ne h.rb (by decide)),h.fr.ao k.fr (fun i q e=>by have p:i=g:=e;have:=a.g_;omega)⟩
theorem RS.put{w W W':World}{g b l j:Nat}{S:Nat→Prop}{us nm d:Array Value}{st:List UInt8×Nat×Int}(h:RS w W g b l j S us nm st)(a:y7 w g b l j S)(r:ak W' b 106 d)(f:Fr (fun k=>k=b) W W'):RS w W' g b l j S us d st:=by
 have q:=h.rr;obtain⟨⟨A,n,c,m,_,_⟩,_,_⟩:=h.rr;refine⟨q.jQ f (fun e=>dB h.nb m (by decide) e.symm) (fun k p e=>?_),r,h.ub.fr f (fun e=>dB h.nb h.ub (by decide) e.symm),h.rb.fr f (fun e=>a.ne e.symm),h.fr.ao f (fun i s e=>by have o:i=b:=e;have:=a.n_;omega)⟩;have o:k=b:=e;rw[o]at p;exact a.sn p
def Cf(w:World)(nm:aD)(st:List UInt8×Nat×Int)(e:Ending)(w':World):Prop:=∃n k,e= .returned (.tuple #[.agg n, .int .i64 k])∧Fr af w w'∧
 ((eK st=0∧cU nm=true∧n=nm.cells.toArray∧k=0)∨(¬(eK st=0∧cU nm=true)∧n=ig 0 ByteArray.empty 0 0 ByteArray.empty∧k=3))
theorem zm(s:ByteArray)(u:fM)(w:World)(bO:dy w)(b2:s.size≤16777216)(hu:fQ[(dm (aC s)).1.toNat]? =some u):
  Calls Tryz.prog 118 #[.string s] w (Cf w (eD u (aC s)).1 (eD u (aC s)).2):=by
 have bC:=Lib.hid (sU (aC s));obtain⟨l,bd⟩:∃l,aC s=l:=⟨_,rfl⟩;have bj:Hid (l.length≤16777216):=by rw[←bd];simp only[Hid];rw[aG];exact b2
 rw[bd]at hu bC;rw[bd];obtain⟨k,N⟩:∃k:Nat,(dm l).1=(k:Int):=⟨(dm l).1.toNat,by have:=bC.out;omega⟩;rw[N,Int.toNat_natCast]at hu;have b0:Hid (∀j v,u.cells[j]? =some v→w.cell? ⟨0,k*6+j,none⟩=some v):=bO.row k _ hu;have bh:Hid (dm l=((k:Int),(dm l).2)):=by simp only[Hid];rw[←N]
 have K:(k:Int)<21:=by have:=bC.out;rw[N]at this;omega
 have cl:k<21:=by omega
 have cm:(0:Int)≤(k:Int):=by omega
 have aK:Hid (s.size=l.length∧aC s=l):=⟨by rw[←bd,aG],bd⟩;have bU:Hid (∀n:aD,n.owner.size≤1099511627776→n.text.size≤1099511627776→∀w',Fr af w w'→Calls Tryz.prog 115 #[.agg n.cells.toArray] w' (Checked w' n)):=fun n ba bb w' f=>j9 n w' (bO.al f) ba bb;have aI:Hid (∀(st:List UInt8×Nat×Int)(aJ:Int),(aF [] (bJ aJ) st).1.length≤16777216):=fun st aJ=>by
  unfold aF;split;·simp
  ·split;·simp
   next h=>
    simp only[bJ]at h⊢;split;·simp
    ·split;·simp
     ·split;·simp
      next ba bb ca=>
       simp only[List.length_take];omega
 obtain⟨wd,I,H,bi,J,D⟩:=u;obtain⟨G,ab⟩:∃a,jz ⟨wd,I,H,bi,J,D⟩ (dm l).2=a:=⟨_,rfl⟩;obtain⟨a2,aU⟩:∃a,lM ⟨wd,I,H,bi,J,D⟩ G.2=a:=⟨_,rfl⟩;obtain⟨a3,aV⟩:∃a,nh ⟨wd,I,H,bi,J,D⟩ a2.2=a:=⟨_,rfl⟩;obtain⟨a4,ac⟩:∃a,oD ⟨wd,I,H,bi,J,D⟩ a3.2=a:=⟨_,rfl⟩;have bx:eD ⟨wd,I,H,bi,J,D⟩ l=(⟨(k:Int),⟨G.1.toArray⟩,a2.1,a3.1,⟨a4.1.toArray⟩⟩,a4.2):=by
  rw[eD,ab,aU,aV,ac,N]
 rw[bx];obtain⟨nm,C⟩:∃nm:aD,nm=⟨(k:Int),⟨G.1.toArray⟩,a2.1,a3.1,⟨a4.1.toArray⟩⟩:=⟨_,rfl⟩;rw[←C];have bI:=Lib.hid C;clear C;have av:=Lib.hid ab;have ax:=Lib.hid aU;have ay:=Lib.hid aV;have aA:=Lib.hid ac;have bX:Hid (G.1.length≤16777216):=by
  rw[←ab];unfold jz;split;·exact aI.out _ _
  ·simp[Hid]
 have bY:Hid (a4.1.length≤16777216):=by
  rw[←ac];unfold oD;split;·exact aI.out _ _
  ·simp[Hid]
 clear hu bO N bC bx ab aU aV ac aI bd b2;go_enter Tryz.func118,Tryz.ntmps118;go_wp2_with(refine ai rfl 106 rfl qC yZ (ig 0 ByteArray.empty 0 0 ByteArray.empty) rfl ?_);intro w1 n1;have bV:=Lib.hid n1.fr;have bo:=Lib.hid n1.az;have aB:Sz w w.heap.size:=Nat.le_refl _;clear n1;generalize w.heap.size=B at*;obtain⟨b7,w2,bP,aY,bw⟩:=rj w1 s;have bH:=Lib.hid (bV.out.trans aY);have bp:=Lib.hid (bo.out.fr aY (fun x=>x));have bZ:=Lib.hid bw;clear aY bw bo bV;generalize w1.heap.size=gc at*;go_wp2_with fail;refine(mU _ _ b7 l _ _ (by have h:=bZ.out;rw[aK.out.2]at h;exact h) (by have:=aK.out.1;have:=bj.out;omega)).mono ?_;rintro e bz⟨g,S,rfl,a0,f3,bQ,bs⟩;have bL:=Lib.hid a0;have bW:=Lib.hid (bH.out.trans f3);have aN:=Lib.hid (bp.out.fr f3 (fun x=>x));have Z:Hid (w.heap.size≤g∧g<bz.heap.size):=⟨by have:=bH.out.size;omega,by obtain⟨⟨A,n,c,bc,_,_⟩,_,_⟩:=a0;exact bc.lt⟩;have aa:Hid (∀k,S k→k<bz.heap.size):=fun k N=>(bs k N).2;clear a0 f3 bQ bs bP bZ bp bH;go_wp2_with fail;refine(jq g S l 0 0 20 _ bL.out).mono ?_;rintro e X⟨rfl,m⟩;rw[show(aF 0 (aT 20) (l,0,0)).1=(k:Int)from congrArg Prod.fst bh.out];have bq:Hid (fi bz g S X (dm l).2.1 (dm l).2.2.1 (dm l).2.2.2):=m;have b5:=Lib.hid (Ct (k:Int));have bB:Hid (Fr af w X):=bW.out.ao m.fr (fun i bv e=>by have V:i=g:=e;have:=Z.out;omega);have aO:Hid (ak X B 106 (ig 0 ByteArray.empty 0 0 ByteArray.empty)):=by
  obtain⟨⟨A,n,c,bc,_,_⟩,_,_⟩:=bL.out;exact aN.out.fr m.fr (fun e=>dB aN.out bc (by decide) e)
 have T:Hid (bz.heap.size≤X.heap.size):=m.fr.size;clear m aN bW bL;go_wp2_with(refine dH rfl 106 _ rfl (ig (k:Int) ByteArray.empty 0 0 ByteArray.empty) _ (by simp only[List.map_toArray,List.map_cons,List.map_nil];rfl) b5.out (aR.go ?yC));unfold aR;go_wp2_with(refine ai rfl 106 rfl qC yZ (ig 0 ByteArray.empty 0 0 ByteArray.empty) rfl ?_);intro cd b3;have a8:=Lib.hid b3;clear b3;generalize bt:X.heap.size=o at*;have M:=Lib.hid bt;clear bt;have bn:Hid (ak cd o 106 (ig 0 ByteArray.empty 0 0 ByteArray.empty)):=by have h:=a8.out.az;rw[M.out]at h;exact h
 refine ah rfl 106 (.tmp 5) _ rfl o (ig (k:Int) ByteArray.empty 0 0 ByteArray.empty) rfl rfl _ _ bn.out ko rfl (by simp[ig,Value.oneCell']) ?_;intro be b1 f6;have bM:Hid (Rr be g S (dm l).2.1 (dm l).2.2.1 (dm l).2.2.2):=(bq.out.rr.jH a8.out.fr).jQ f6 (fun e=>by have V:g=o:=e;have:=Z.out;have:=T.out;omega) (fun k N e=>by have V:k=o:=e;have:=aa.out k N;have:=T.out;omega);have bf:Hid (Fr af w be):=(bB.out.trans a8.out.fr).ao f6 (fun i bv e=>by have V:i=o:=e;have:=M.out;have:=bB.out.size;omega);have NE:Hid (o≠B):=by have:=aO.out.lt;have:=M.out;simp only[Hid];omega
 have aP:Hid (ak be B 106 (ig 0 ByteArray.empty 0 0 ByteArray.empty)):=(aO.out.fr a8.out.fr (fun x=>x)).fr f6 (fun e=>NE.out (show B=o from e).symm);have Q:=Lib.hid b1;have bE:Hid (w.heap.size≤o∧¬S o):=⟨by have:=bB.out.size;have:=M.out;omega,fun N=>by have:=aa.out o N;have:=T.out;omega⟩;have bk:Hid (bz.heap.size≤be.heap.size):=by have ba:=T.out;have bb:=a8.out.fr.size;have ca:=f6.size;have ck:=M.out;simp only[Hid];omega
 clear b1 f6 a8 bn aO bB M bq T;have b6:be.cell? ⟨o,0,none⟩=some (.int .i64 (k:Int)):=Q.out.cell 0;go_wp2_with(refine aw rfl 189 (.tmp 15) rfl ⟨0,k*6,none⟩ rfl (nM wd I H bi J D).toList _ ?zV Tryz.underlying189 rfl jc (aR.go ?yA));case zV=>exact fun j x a1=>by rw[Addr.add_mid];exact bf.out.aj (b0.out j x a1) (fun x=>x)
 unfold aR;go_wp2_with(refine ai rfl 189 rfl BM ud #[.string ByteArray.empty, .bool false, .bool false, .bool false, .bool false, .int .i64 0] rfl ?_);intro cf b4;have a9:=Lib.hid b4;clear b4;generalize bu:be.heap.size=z at*;have E:=Lib.hid bu;clear bu;have br:Hid (ak cf z 189 #[.string ByteArray.empty, .bool false, .bool false, .bool false, .bool false, .int .i64 0]):=by have h:=a9.out.az;rw[E.out]at h;exact h
 refine ah rfl 189 (.tmp 6) _ rfl z (nM wd I H bi J D) rfl rfl _ _ br.out jc rfl (fM.one ⟨wd,I,H,bi,J,D⟩) ?_;intro L b8 f8;have ae:Hid (y7 w g o z B S):=⟨Z.out.1,bE.out.1,NE.out,bE.out.2⟩;have ST:Hid (RS w L g o z B S (nM wd I H bi J D) (ig (k:Int) ByteArray.empty 0 0 ByteArray.empty) (dm l).2):=by
  have cb:=bM.out;obtain⟨⟨A,n,c,bc,_,_⟩,_,_⟩:=bM.out;refine⟨(cb.jH a9.out.fr).jQ f8 (fun e=>?_) (fun k N e=>?_),(Q.out.fr a9.out.fr (fun x=>x)).fr f8 (fun e=>?_),b8,(aP.out.fr a9.out.fr (fun x=>x)).fr f8 (fun e=>?_),(bf.out.trans a9.out.fr).ao f8 (fun i bv e=>?_)⟩;·have V:g=z:=e;have:=bc.lt;have:=E.out;omega
  ·have V:k=z:=e;have:=aa.out k N;have:=Q.out.lt;have:=E.out;have:=bc.lt;have:=bf.out.size;have:=bk.out;omega
  ·have V:o=z:=e;have:=Q.out.lt;have:=E.out;omega
  ·have V:B=z:=e;have:=aP.out.lt;have:=E.out;omega
  ·have V:i=z:=e;have:=E.out;have:=bf.out.size;omega
 clear b8 f8 a9 br bM Q aP bf E b6 bE NE Z aa b0;have ub:L.cell? ⟨z,1,none⟩=some (.bool I):=ST.out.ub.cell 1;go_upto_if 18 with fail;clear ub;go_cut[5](fun a5 a7=>a5= .pointer (some ⟨o,0,none⟩)∧RS w a7 g o z B S (nM wd I H bi J D) (ig (k:Int) ⟨G.1.toArray⟩ 0 0 ByteArray.empty) G.2);case first=>
  cases I;·go_wp2;go_meet;refine⟨rfl,?_⟩;rw[←av.out];exact ST.out
  ·go_wp2_with fail;refine(mC g S _ _ _ 16777216 _ ST.out.rr).mono ?_;rintro e bT⟨rfl,m⟩;have F:=Lib.hid (ST.out.step ae.out m);clear m;go_wp2_with(refine aM rfl 41 (.tmp 21) (.tmp 20) rfl o 1 (tV (aF [] (bJ 16777216) (dm l).2).1) rfl rfl rfl tg _ _ (ig (k:Int) ⟨(aF [] (bJ 16777216) (dm l).2).1.toArray⟩ 0 0 ByteArray.empty) F.out.nb (by simp[ig]) rfl ?_);intro ad U W;have aQ:=Lib.hid (F.out.put ae.out U W);clear U W F;go_wp2;go_meet;refine⟨rfl,?_⟩;rw[←av.out];exact aQ.out
 case rest=>
  obtain⟨rfl,t⟩:=hcut;clear ST;have ST:=Lib.hid t;clear t;generalize wc=L at*;have ub:L.cell? ⟨z,2,none⟩=some (.bool H):=ST.out.ub.cell 2;go_upto_if 23 with fail;clear ub;go_cut[5](fun a5 a7=>a5= .pointer (some ⟨o,0,none⟩)∧RS w a7 g o z B S (nM wd I H bi J D) (ig (k:Int) ⟨G.1.toArray⟩ a2.1 0 ByteArray.empty) a2.2);case first=>
   cases H;·go_wp2;go_meet;refine⟨rfl,?_⟩;rw[←ax.out];exact ST.out
   ·go_wp2_with fail;refine(jq g S _ _ _ 1073741824 _ ST.out.rr).mono ?_;rintro e bT⟨rfl,m⟩;have F:=Lib.hid (ST.out.step ae.out m);clear m;go_wp2_with(refine aM rfl 3 (.tmp 26) (.tmp 25) rfl o 2 (.int .i64 (aF 0 (aT 1073741824) G.2).1) rfl rfl rfl lP _ _ (ig (k:Int) ⟨G.1.toArray⟩ (aF 0 (aT 1073741824) G.2).1 0 ByteArray.empty) F.out.nb (by simp[ig]) rfl ?_);intro ad U W;have aQ:=Lib.hid (F.out.put ae.out U W);clear U W F;go_wp2;go_meet;refine⟨rfl,?_⟩;rw[←ax.out];exact aQ.out
  case rest=>
   obtain⟨rfl,t⟩:=hcut;clear ST;have ST:=Lib.hid t;clear t;generalize wc=L at*;have ub:L.cell? ⟨z,3,none⟩=some (.bool bi):=ST.out.ub.cell 3;go_upto_if 28 with fail;clear ub;go_cut[5](fun a5 a7=>a5= .pointer (some ⟨o,0,none⟩)∧RS w a7 g o z B S (nM wd I H bi J D) (ig (k:Int) ⟨G.1.toArray⟩ a2.1 a3.1 ByteArray.empty) a3.2);case first=>
    cases bi;·go_wp2;go_meet;refine⟨rfl,?_⟩;rw[←ay.out];exact ST.out
    ·have cc:L.cell? ⟨z,5,none⟩=some (.int .i64 D):=ST.out.ub.cell 5;go_wp2_with fail;refine(jq g S _ _ _ D _ ST.out.rr).mono ?_;rintro e bT⟨rfl,m⟩;have F:=Lib.hid (ST.out.step ae.out m);clear m cc;go_wp2_with(refine aM rfl 3 (.tmp 33) (.tmp 32) rfl o 3 (.int .i64 (aF 0 (aT D) a2.2).1) rfl rfl rfl lP _ _ (ig (k:Int) ⟨G.1.toArray⟩ a2.1 (aF 0 (aT D) a2.2).1 ByteArray.empty) F.out.nb (by simp[ig]) rfl ?_);intro ad U W;have aQ:=Lib.hid (F.out.put ae.out U W);clear U W F;go_wp2;go_meet;refine⟨rfl,?_⟩;rw[←ay.out];exact aQ.out
   case rest=>
    obtain⟨rfl,t⟩:=hcut;clear ST;have ST:=Lib.hid t;clear t;generalize wc=L at*;have ub:L.cell? ⟨z,4,none⟩=some (.bool J):=ST.out.ub.cell 4;go_upto_if 35 with fail;clear ub;go_cut[5](fun a5 a7=>a5= .pointer (some ⟨o,0,none⟩)∧RS w a7 g o z B S (nM wd I H bi J D) (ig (k:Int) ⟨G.1.toArray⟩ a2.1 a3.1 ⟨a4.1.toArray⟩) a4.2);case first=>
     cases J;·go_wp2;go_meet;refine⟨rfl,?_⟩;rw[←aA.out];exact ST.out
     ·go_wp2_with fail;refine(mC g S _ _ _ 32 _ ST.out.rr).mono ?_;rintro e bT⟨rfl,m⟩;have F:=Lib.hid (ST.out.step ae.out m);clear m;go_wp2_with(refine aM rfl 9 (.tmp 38) (.tmp 37) rfl o 4 (tV (aF [] (bJ 32) a3.2).1) rfl rfl rfl nA _ _ (ig (k:Int) ⟨G.1.toArray⟩ a2.1 a3.1 ⟨(aF [] (bJ 32) a3.2).1.toArray⟩) F.out.nb (by simp[ig]) rfl ?_);intro ad U W;have aQ:=Lib.hid (F.out.put ae.out U W);clear U W F;go_wp2;go_meet;refine⟨rfl,?_⟩;rw[←aA.out];exact aQ.out
    case rest=>
     obtain⟨rfl,t⟩:=hcut;clear ST;have ST:=Lib.hid t;clear t;generalize wc=L at*;have C:=bI.out;have aL:Hid (ak L o 106 nm.cells.toArray):=by rw[C];exact ST.out.nb
     have bD:Hid (nm.owner.size≤1099511627776∧nm.text.size≤1099511627776):=by
      have ci:nm.owner.size=G.1.length:=by rw[C,←aG];rfl
      have cj:nm.text.size=a4.1.length:=by rw[C,←aG];rfl
      have ba:=bX.out;have bb:=bY.out;simp only[Hid];omega
     have ch:=Lib.hid Cs;obtain⟨ce,aW⟩:∃ce,eK a4.2=ce:=⟨_,rfl⟩;have bF:Hid (∀ad,Fr af L ad→Calls Tryz.prog 72 #[.pointer (some ⟨g,0,none⟩)] ad (aH ad (.int .i64 ce))):=fun ad r=>by
      have h:=rI g S a4.2.1 a4.2.2.1 a4.2.2.2 ad (ST.out.rr.jH r);rw[←aW];exact h.mono (fun e w'⟨ba,bb⟩=>⟨ba,by rw[bb];exact Fr.refl _ _⟩)
     have bg:=Lib.hid aW;clear aW C bX bY bj aK bh av ax ay aA;by_cases bS:ce=0
     ·subst bS;cases O:cU nm
      ·have aE:=Lib.hid O;have bG:Hid (∀w',Fr af L w'→Calls Tryz.prog 115 #[.agg nm.cells.toArray] w' (fun e a6=>∃q:Int,e= .returned (.int .i64 q)∧q≠0∧Fr af w' a6)):=fun w' f=>(bU.out nm bD.out.1 bD.out.2 w' (ST.out.fr.trans f)).mono (fun e a6⟨q,he,aZ,r⟩=>⟨q,he,fun bN=>by rw[bN,O]at aZ;exact absurd aZ (by decide),r⟩);clear O;go_upto_region 12 with fail;refine fS 8 af [Is (.pointer (some ⟨g,0,none⟩)),Is (.int .i64 0),Is (.bool false),Is (.bool false),Is (.agg nm.cells.toArray),(fun cg _=>∃q:Int,cg= .int .i64 q∧q≠0),Is (.bool true),Is (.bool true)] [] (fun _=>True) (fun _ _=>false) (by kernel_rfl) (by kernel_rfl) (by kernel_rfl) ⟨Is.ag _,Is.ag _,Is.ag _,Is.ag _,Is.ag _,fun _ _ _ _ _ h=>h,Is.ag _,Is.ag _,trivial⟩ trivial (fun _ _ _ _ h=>h) trivial ?_ ?_
       ·refine⟨?zY,?zH,?zI,?zJ,?zK,?zL,?zM,?zN,trivial⟩;all_goals intro u w' d r b K P y
        all_goals simp only[List.take_succ_cons,List.take_zero,List.map_cons,List.map_nil,an,Act.put,List.setIfInBounds_toArray,List.set_cons_zero,List.set_cons_succ,Nat.reduceAdd,Nat.zero_add]
        case zH=>
         simp only[show u 0=_ from b 0 (by kernel_rfl)];clear b K P y;refine .inl ⟨by kernel_rfl,?_⟩;go_simp;refine(bF.out _ r).mono ?_;rintro e X⟨rfl,f4⟩;exact⟨_,rfl,f4.bA,rfl,trivial⟩
        case' zI=>simp only[show u 1=_ from b 1 (by kernel_rfl)]
        case' zJ=>simp only[show u 2=_ from b 2 (by kernel_rfl)]
        case zK=>
         simp only[show u 3=_ from b 3 (by kernel_rfl)];clear b K P y;refine .inl ⟨by kernel_rfl,?_⟩;exact ar _ _ rfl ⟨o,0,none⟩ rfl nm.cells _ (fun j x a1=>by rw[Addr.add_mid,Nat.zero_add];exact(aL.out.fr r (fun x=>x)).cell j|>.trans (by rw[List.getElem?_toArray];exact a1)) Tryz.underlying106 rfl aX ⟨_,rfl,Fr.refl _ _,rfl,trivial⟩
        case zL=>
         simp only[show u 4=_ from b 4 (by kernel_rfl),show u 3=_ from b 3 (by kernel_rfl)];clear b K P y;refine .inl ⟨by kernel_rfl,?_⟩;go_simp;refine(bG.out _ r).mono ?_;rintro e X⟨q,rfl,aZ,f4⟩;exact⟨_,rfl,f4.bA,⟨q,rfl,aZ⟩,trivial⟩
        case zM=>
         obtain⟨q,b9,bR⟩:=b 5 (by kernel_rfl);simp only[b9,show u 3=_ from b 3 (by kernel_rfl)];clear b K P y;refine .inl ⟨by kernel_rfl,?_⟩;go_simp;have t0:(q !=0)=true:=by rw[bne_iff_ne];exact bR
         simp only[t0];exact⟨_,rfl,Fr.refl _ _,rfl,trivial⟩
        case' zN=>simp only[show u 3=_ from b 3 (by kernel_rfl),show u 6=_ from b 6 (by kernel_rfl)]
        all_goals
         clear b K P y;refine .inl ⟨by kernel_rfl,?_⟩;go_simp;exact⟨_,rfl,Fr.refl _ _,rfl,trivial⟩
       ·intro u w' r b y;have aq:u 7=_:=b 7 (by omega);clear b y;simp only[List.take_succ_cons,List.take_zero,List.map_cons,List.map_nil,an,Act.put,List.setIfInBounds_toArray,List.set_cons_zero,List.set_cons_succ,List.drop_succ_cons,List.drop_zero,Nat.reduceAdd,Nat.zero_add,aq];have Y:=Lib.hid r;clear r aq;have R:=Lib.hid (ST.out.rb.fr Y.out (fun x=>x));go_wp2_with(refine ah rfl 106 (.tmp 2) _ rfl B (ig 0 ByteArray.empty 0 0 ByteArray.empty) rfl rfl _ _ R.out ko rfl (by simp[ig,Value.oneCell']) ?_);intro au am ap;have bm:=Lib.hid am;have bl:Hid (Fr af w au):=(ST.out.fr.trans Y.out).ao ap (fun i bv e=>by have V:i=B:=e;have:=aB;unfold Sz at this;omega);clear am ap;go_wp2;exact bodyPost_ret (aS (fn:=Tryz.f118) (p:=2) (q:=3) (ty:=106) Tryz.results118 _ au _ 106 (ig 0 ByteArray.empty 0 0 ByteArray.empty) (0,0) _ rfl bm.out Tryz.underlying106 rfl ko _ rfl) rfl ⟨_,_,rfl,bl.out, .inr ⟨fun h=>Bool.false_ne_true (aE.out.symm.trans h.2),rfl,rfl⟩⟩
      ·have aE:=Lib.hid O;have bG:Hid (∀w',Fr af L w'→Calls Tryz.prog 115 #[.agg nm.cells.toArray] w' (aH w' (.int .i64 0))):=fun w' f=>(bU.out nm bD.out.1 bD.out.2 w' (ST.out.fr.trans f)).mono (fun e a6⟨q,he,aZ,r⟩=>by
        have bN:q=0:=by rw[O]at aZ;exact beq_iff_eq.1 aZ
        subst bN;exact⟨he,r⟩);clear O;go_upto_region 12 with fail;refine fS 8 af [Is (.pointer (some ⟨g,0,none⟩)),Is (.int .i64 0),Is (.bool false),Is (.bool false),Is (.agg nm.cells.toArray),Is (.int .i64 0),Is (.bool false),Is (.bool false)] [] (fun _=>True) (fun _ _=>false) (by kernel_rfl) (by kernel_rfl) (by kernel_rfl) ⟨Is.ag _,Is.ag _,Is.ag _,Is.ag _,Is.ag _,Is.ag _,Is.ag _,Is.ag _,trivial⟩ trivial (fun _ _ _ _ h=>h) trivial ?_ ?_
       ·refine⟨?zZ,?zO,?zP,?zQ,?zR,?zS,?zT,?zU,trivial⟩;all_goals intro u w' d r b K P y
        all_goals simp only[List.take_succ_cons,List.take_zero,List.map_cons,List.map_nil,an,Act.put,List.setIfInBounds_toArray,List.set_cons_zero,List.set_cons_succ,Nat.reduceAdd,Nat.zero_add]
        case zO=>
         simp only[show u 0=_ from b 0 (by kernel_rfl)];clear b K P y;refine .inl ⟨by kernel_rfl,?_⟩;go_simp;refine(bF.out _ r).mono ?_;rintro e X⟨rfl,f4⟩;exact⟨_,rfl,f4.bA,rfl,trivial⟩
        case' zP=>simp only[show u 1=_ from b 1 (by kernel_rfl)]
        case' zQ=>simp only[show u 2=_ from b 2 (by kernel_rfl)]
        case zR=>
         simp only[show u 3=_ from b 3 (by kernel_rfl)];clear b K P y;refine .inl ⟨by kernel_rfl,?_⟩;exact ar _ _ rfl ⟨o,0,none⟩ rfl nm.cells _ (fun j x a1=>by rw[Addr.add_mid,Nat.zero_add];exact(aL.out.fr r (fun x=>x)).cell j|>.trans (by rw[List.getElem?_toArray];exact a1)) Tryz.underlying106 rfl aX ⟨_,rfl,Fr.refl _ _,rfl,trivial⟩
        case zS=>
         simp only[show u 4=_ from b 4 (by kernel_rfl),show u 3=_ from b 3 (by kernel_rfl)];clear b K P y;refine .inl ⟨by kernel_rfl,?_⟩;go_simp;refine(bG.out _ r).mono ?_;rintro e X⟨rfl,f4⟩;exact⟨_,rfl,f4.bA,rfl,trivial⟩
        case' zT=>simp only[show u 5=_ from b 5 (by kernel_rfl),show u 3=_ from b 3 (by kernel_rfl)]
        case' zU=>simp only[show u 3=_ from b 3 (by kernel_rfl),show u 6=_ from b 6 (by kernel_rfl)]
        all_goals
         clear b K P y;refine .inl ⟨by kernel_rfl,?_⟩;go_simp;exact⟨_,rfl,Fr.refl _ _,rfl,trivial⟩
       ·intro u w' r b y;have aq:u 7=_:=b 7 (by omega);clear b y;simp only[List.take_succ_cons,List.take_zero,List.map_cons,List.map_nil,an,Act.put,List.setIfInBounds_toArray,List.set_cons_zero,List.set_cons_succ,List.drop_succ_cons,List.drop_zero,Nat.reduceAdd,Nat.zero_add,aq];have Y:=Lib.hid r;clear r aq;have bK:=Lib.hid (aL.out.fr Y.out (fun x=>x));have R:=Lib.hid (ST.out.rb.fr Y.out (fun x=>x));go_wp2_with(refine aw rfl 106 (.tmp 5) rfl ⟨o,0,none⟩ rfl nm.cells _ ?zW Tryz.underlying106 rfl aX (aR.go ?yB));case zW=>exact fun j x a1=>by rw[Addr.add_mid,Nat.zero_add];exact bK.out.cell j|>.trans (by rw[List.getElem?_toArray];exact a1)
        unfold aR;refine ah rfl 106 (.tmp 2) _ rfl B nm.cells.toArray rfl rfl _ _ R.out ko rfl nm.one ?_;intro au am ap;have bm:=Lib.hid am;have bl:Hid (Fr af w au):=(ST.out.fr.trans Y.out).ao ap (fun i bv e=>by have V:i=B:=e;have:=aB;unfold Sz at this;omega);clear am ap;go_wp2;exact bodyPost_ret (aS (fn:=Tryz.f118) (p:=2) (q:=3) (ty:=106) Tryz.results118 _ au _ 106 nm.cells.toArray (0,0) _ rfl bm.out Tryz.underlying106 rfl ko _ rfl) rfl ⟨_,_,rfl,bl.out, .inl ⟨bg.out,aE.out,rfl,rfl⟩⟩
     ·have t0:(ce !=0)=true:=by rw[bne_iff_ne];exact bS
      go_upto_region 12 with fail;refine fS 8 af [Is (.pointer (some ⟨g,0,none⟩)),Is (.int .i64 ce),Is (.bool true),Is (.bool true),Is (undef),Is (undef),Is (undef),Is (.bool true)] [] (fun _=>True) (fun _ _=>false) (by kernel_rfl) (by kernel_rfl) (by kernel_rfl) ⟨Is.ag _,Is.ag _,Is.ag _,Is.ag _,Is.ag _,Is.ag _,Is.ag _,Is.ag _,trivial⟩ trivial (fun _ _ _ _ h=>h) trivial ?_ ?_
      ·refine⟨?zX,?zA,?zB,?zC,?zD,?zE,?zF,?zG,trivial⟩;all_goals intro u w' d r b K P y
       all_goals simp only[List.take_succ_cons,List.take_zero,List.map_cons,List.map_nil,an,Act.put,List.setIfInBounds_toArray,List.set_cons_zero,List.set_cons_succ,Nat.reduceAdd,Nat.zero_add]
       case zA=>
        simp only[show u 0=_ from b 0 (by kernel_rfl)];clear b K P y;refine .inl ⟨by kernel_rfl,?_⟩;go_simp;refine(bF.out _ r).mono ?_;rintro e X⟨rfl,f4⟩;exact⟨_,rfl,f4.bA,rfl,trivial⟩
       case' zB=>simp only[show u 1=_ from b 1 (by kernel_rfl)]
       case' zC=>simp only[show u 2=_ from b 2 (by kernel_rfl)]
       case zD=>simp only[show u 3=_ from b 3 (by kernel_rfl)];exact .inr ⟨by kernel_rfl,_,rfl,Fr.refl _ _,rfl,trivial⟩
       case zE=>simp only[show u 3=_ from b 3 (by kernel_rfl)];exact .inr ⟨by kernel_rfl,_,rfl,Fr.refl _ _,rfl,trivial⟩
       case zF=>simp only[show u 3=_ from b 3 (by kernel_rfl)];exact .inr ⟨by kernel_rfl,_,rfl,Fr.refl _ _,rfl,trivial⟩
       case' zG=>simp only[show u 3=_ from b 3 (by kernel_rfl),show u 6=_ from b 6 (by kernel_rfl)]
       all_goals
        clear b K P y;refine .inl ⟨by kernel_rfl,?_⟩;go_simp;exact⟨_,rfl,Fr.refl _ _,rfl,trivial⟩
      ·intro u w' r b y;have aq:u 7=_:=b 7 (by omega);clear b y;simp only[List.take_succ_cons,List.take_zero,List.map_cons,List.map_nil,an,Act.put,List.setIfInBounds_toArray,List.set_cons_zero,List.set_cons_succ,List.drop_succ_cons,List.drop_zero,Nat.reduceAdd,Nat.zero_add,aq];have Y:=Lib.hid r;clear r aq;have R:=Lib.hid (ST.out.rb.fr Y.out (fun x=>x));go_wp2_with(refine ah rfl 106 (.tmp 2) _ rfl B (ig 0 ByteArray.empty 0 0 ByteArray.empty) rfl rfl _ _ R.out ko rfl (by simp[ig,Value.oneCell']) ?_);intro au am ap;have bm:=Lib.hid am;have bl:Hid (Fr af w au):=(ST.out.fr.trans Y.out).ao ap (fun i bv e=>by have V:i=B:=e;have:=aB;unfold Sz at this;omega);clear am ap;go_wp2;exact bodyPost_ret (aS (fn:=Tryz.f118) (p:=2) (q:=3) (ty:=106) Tryz.results118 _ au _ 106 (ig 0 ByteArray.empty 0 0 ByteArray.empty) (0,0) _ rfl bm.out Tryz.underlying106 rfl ko _ rfl) rfl ⟨_,_,rfl,bl.out, .inr ⟨fun h=>bS (bg.out.symm.trans h.1),rfl,rfl⟩⟩
end Go.Proofs.YtphjagkehiklkaaGreatDoor
namespace Go.Proofs.YtphjagkehiklkaaGreatDoor
open Go.RowKit Go.Shelf
def sa(P:Program)(ops:Array Oper)(Q:Exit→Act→World→Prop)(T:Nat→Prop)(w:World)(F:(Nat→Value)→Act)(c:Nat→Value→World→Prop)(ws:List (Nat×(World→Prop)))(a:World→Prop)(B:Nat→Nat→Bool)(n:Nat)(b:List (Nat×Value)):Nat→List Oper→Prop
 |_,[]=>True
 |i,e::r=>(∀u w' d,Fr T w w'→(∀j,Region.waitsFor .any ops i j=true→c j (u j) w')→(∀p,p<n→B p i=true→d p=true)→(∀p,(p==i||B i p)=true→d p=false)→cI ws a d w'→(∀x∈b,d x.1=false→u x.1=x.2)→
   lT P ops Q e (F u) w' (sy (F u) e.dst (fP ws T i) w' (c i) (jU ws i)))∧sa P ops Q T w F c ws a B n b (i+1) r
theorem sa.at_{P:Program}{ops:Array Oper}{Q:Exit→Act→World→Prop}{T:Nat→Prop}{w:World}{F:(Nat→Value)→Act}{f:Nat→Value→World→Prop}{ws:List (Nat×(World→Prop))}{b:World→Prop}{B:Nat→Nat→Bool}{n:Nat}{e:List (Nat×Value)}:
  ∀{l:List Oper}{k:Nat},sa P ops Q T w F f ws b B n e k l→∀i g,l[i]? =some g→∀u w' d,Fr T w w'→(∀j,Region.waitsFor .any ops (k+i) j=true→f j (u j) w')→(∀p,p<n→B p (k+i)=true→d p=true)→(∀p,(p==k+i||B (k+i) p)=true→d p=false)→cI ws b d w'→(∀x∈e,d x.1=false→u x.1=x.2)→
   lT P ops Q g (F u) w' (sy (F u) g.dst (fP ws T (k+i)) w' (f (k+i)) (jU ws (k+i)))
 |[],_,_,_,_,h=>by simp at h
 |c::r,k,h,0,g,a=>by
  have:c=g:=by simpa using a
  subst this;exact h.1
 |c::r,k,h,i+1,g,a=>by
  have:=sa.at_ h.2 i g (by simpa using a);rw[show k+1+i=k+(i+1)by omega]at this;exact this
end Go.Proofs.YtphjagkehiklkaaGreatDoor
