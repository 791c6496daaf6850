/- Texts. -/
import Derived.Test.YtphjagkehiklkaaGreatDoorZK10
set_option linter.unusedVariables false
set_option linter.unusedSimpArgs false
set_option maxRecDepth 100000
set_option maxHeartbeats 4000000
namespace Go.Proofs.YtphjagkehiklkaaGreatDoor
open Go.RowKit Go.Shelf
theorem tP(w:World)(s:ByteArray):∃c w1,(convert 9 61 (.string s)).run Tryz.prog w= .ok (.slice (some ⟨w.heap.size,0,none⟩) s.size c) w1∧Fr ag w w1∧Rd w1 (fun k=>k=w.heap.size) 1 (some ⟨w.heap.size,0,none⟩) s.size ((aQ s).map bv):=by
 refine⟨_,_,Lib.run_convert_string_bytes w 9 61 5 s Tryz.underlying9 Tryz.underlying61 Tryz.underlying5,⟨rfl,rfl,rfl,?_,fun k d _=>Lib.bytesWorld_at_old w _ s k d⟩,?_,fun _=>⟨_,rfl,rfl,fun j u hu=>?_⟩⟩;·rw[Lib.bytesWorld_size];omega
 ·rw[List.length_map,aK,Nat.mul_one]
 ·rw[List.getElem?_map]at hu;cases a:(aQ s)[j]? with
  |none=>rw[a]at hu;cases hu
  |some x=>
   rw[a]at hu;simp only[Option.map_some,Option.some.injEq]at hu;have b:j<s.size:=by rw[←aK];exact(List.getElem?_eq_some_iff.1 a).1
   rw[show(⟨w.heap.size,0,none⟩:Addr).add j=⟨w.heap.size,j,none⟩by unfold Addr.add;split<;>simp_all,Lib.bytesWorld_cell w _ s j b];unfold aQ at a;rw[List.getD_eq_getElem?_getD,a,←hu];rfl
theorem bh{P:Program}{fn:Func}{p q:Tmp}{ty:TypeId}(h:fn.results=#[.cell p ty, .tmp q])(tmps:Array Value)(w:World)(g:Nat)(t:TypeId)(cs:Array Value)(fr:Nat×Nat)(d:TypeDesc)
  (i:tmps.getD p undef= .pointer (some ⟨g,0,none⟩))(e:w.heap[g]? =some (.cells cs t fr))
  (hu:P.underlying ty=some d)(c:(match d with| .struct _| .array _ _=>true|_=>false)=true)(f:(P.info? ty).map (·.size)=some cs.size)(v:Value)(j:tmps.getD q undef=v):
  (results fn tmps).run P w= .ok (.tuple #[.agg cs,v]) w:=by
 have a:tmps[p]?.getD undef= .pointer (some ⟨g,0,none⟩):=by simpa using i
 have b:tmps[q]?.getD undef=v:=by simpa using j
 simp[results,h,a,b,asAddr,run_loadVar_row w g t ty cs fr d e hu c f]
def ed(l:List UInt8):Int×(List UInt8×Nat×Int):=aO 0 (bj 20) (l,0,0)
def kQ(u:iC)(st:List UInt8×Nat×Int):List UInt8×(List UInt8×Nat×Int):=if u.owner then aO [] (cu 16777216) st else([],st)
def nJ(u:iC)(st:List UInt8×Nat×Int):Int×(List UInt8×Nat×Int):=if u.number then aO 0 (bj 1073741824) st else(0,st)
def pE(u:iC)(st:List UInt8×Nat×Int):Int×(List UInt8×Nat×Int):=if u.index then aO 0 (bj u.aP) st else(0,st)
def qC(u:iC)(st:List UInt8×Nat×Int):List UInt8×(List UInt8×Nat×Int):=if u.text then aO [] (cu 32) st else([],st)
def gQ(st:List UInt8×Nat×Int):Int:=if st.2.2=0 then(if 0<st.1.length then 5 else 0)else st.2.2
def gg(u:iC)(l:List UInt8):aJ×(List UInt8×Nat×Int):=
 (⟨(ed l).1,⟨(kQ u (ed l).2).1.toArray⟩,(nJ u (kQ u (ed l).2).2).1,(pE u (nJ u (kQ u (ed l).2).2).2).1,⟨(qC u (pE u (nJ u (kQ u (ed l).2).2).2).2).1.toArray⟩⟩,(qC u (pE u (nJ u (kQ u (ed l).2).2).2).2).2)
theorem vN(l:List UInt8):0≤(ed l).1∧(ed l).1≤20:=by
 unfold ed aO;simp only[ne_eq,not_true_eq_false,if_false];split;·omega
 next h=>
  simp only[bj]at h⊢;split at h;·omega
  next a=>
   have b:(pn l 9).2.2=0:=by omega
   have:¬(20:Int)<((pn l 9).1:Int):=fun e=>a ⟨b,e⟩;omega
def jB(k:Int)(c:ByteArray)(b a:Int)(d:ByteArray):Array Value:=#[.int .i64 k, .string c, .int .i64 b, .int .i64 a, .string d]
theorem Hv(k:Int):Tryz.prog.built 106 [(0, .int .i64 k)]=some (jB k ByteArray.empty 0 0 ByteArray.empty):=by kernel_rfl
theorem Hu:Tryz.prog.built 106 []=some (jB 0 ByteArray.empty 0 0 ByteArray.empty):=by kernel_rfl
theorem mm:(Tryz.prog.info? 106).map (·.size)=some 5:=by kernel_rfl
theorem wu:(Tryz.prog.info? 41).map (·.size)=some 1:=by kernel_rfl
theorem nN:(Tryz.prog.info? 3).map (·.size)=some 1:=by kernel_rfl
theorem Dn(w:World):(zeroValue 106).run Tryz.prog w= .ok sY w:=by kernel_rfl
structure RS(w W:World)(g a c b:Nat)(S:Nat→Prop)(us nm:Array Value)(st:List UInt8×Nat×Int):Prop where
 rr:Rr W g S st.1 st.2.1 st.2.2
 nb:aq W a 106 nm
 ub:aq W c 189 us
 rb:aq W b 106 (jB 0 ByteArray.empty 0 0 ByteArray.empty)
 fr:Fr ag w W
structure Dq(w:World)(g a c b:Nat)(S:Nat→Prop):Prop where
 g_:w.heap.size≤g
 n_:w.heap.size≤a
 ne:a≠b
 sn:¬S a
theorem RS.step{w W W':World}{g d j f:Nat}{S:Nat→Prop}{us nm:Array Value}{st b:List UInt8×Nat×Int}(h:RS w W g d j f S us nm st)(a:Dq w g d j f S)(k:gP W g S W' b.1 b.2.1 b.2.2):RS w W' g d j f S us nm b:=by
 obtain⟨⟨A,n,c,l,_,_⟩,_,_⟩:=h.rr;have ne:∀{x:Nat}{t:TypeId}{cs:Array Value},aq W x t cs→t≠193→¬eN g x:=fun o m e=>eE o l m e;exact⟨k.rr,h.nb.fr k.fr (ne h.nb (by decide)),h.ub.fr k.fr (ne h.ub (by decide)),h.rb.fr k.fr (ne h.rb (by decide)),h.fr.aw k.fr (fun i q e=>by have p:i=g:=e;have:=a.g_;omega)⟩
theorem RS.put{w W W':World}{g b l j:Nat}{S:Nat→Prop}{us nm d:Array Value}{st:List UInt8×Nat×Int}(h:RS w W g b l j S us nm st)(a:Dq w g b l j S)(r:aq W' b 106 d)(f:Fr (fun k=>k=b) W W'):RS w W' g b l j S us d st:=by
 have q:=h.rr;obtain⟨⟨A,n,c,m,_,_⟩,_,_⟩:=h.rr;refine⟨q.lA f (fun e=>eE h.nb m (by decide) e.symm) (fun k p e=>?_),r,h.ub.fr f (fun e=>eE h.nb h.ub (by decide) e.symm),h.rb.fr f (fun e=>a.ne e.symm),h.fr.aw f (fun i s e=>by have o:i=b:=e;have:=a.n_;omega)⟩;have o:k=b:=e;rw[o]at p;exact a.sn p
def Hh(w:World)(nm:aJ)(st:List UInt8×Nat×Int)(e:Ending)(w':World):Prop:=∃n k,e= .returned (.tuple #[.agg n, .int .i64 k])∧Fr ag w w'∧
 ((gQ st=0∧du nm=true∧n=nm.cells.toArray∧k=0)∨(¬(gQ st=0∧du nm=true)∧n=jB 0 ByteArray.empty 0 0 ByteArray.empty∧k=3))
theorem DJ(s:ByteArray)(u:iC)(w:World)(bY:eh w)(cd:s.size≤16777216)(hu:iP[(ed (aQ s)).1.toNat]? =some u):
  Calls Tryz.prog 118 #[.string s] w (Hh w (gg u (aQ s)).1 (gg u (aQ s)).2):=by
 have bL:=af (vN (aQ s));obtain⟨l,bf⟩:∃l,aQ s=l:=⟨_,rfl⟩;have bn:Hid (l.length≤16777216):=by rw[←bf];simp only[Hid];rw[aK];exact cd
 rw[bf]at hu bL;rw[bf];obtain⟨k,N⟩:∃k:Nat,(ed l).1=(k:Int):=⟨(ed l).1.toNat,by have:=bL.out;omega⟩;rw[N,Int.toNat_natCast]at hu;have cb:Hid (∀j v,u.cells[j]? =some v→w.cell? ⟨0,k*6+j,none⟩=some v):=bY.row k _ hu;have bm:Hid (ed l=((k:Int),(ed l).2)):=by simp only[Hid];rw[←N]
 have K:(k:Int)<21:=by have:=bL.out;rw[N]at this;omega
 have ct:k<21:=by omega
 have cv:(0:Int)≤(k:Int):=by omega
 have aL:Hid (s.size=l.length∧aQ s=l):=⟨by rw[←bf,aK],bf⟩;have b4:Hid (∀n:aJ,n.owner.size≤1099511627776→n.text.size≤1099511627776→∀w',Fr ag w w'→Calls Tryz.prog 115 #[.agg n.cells.toArray] w' (Checked w' n)):=fun n bc bd w' f=>lV n w' (bY.ao f) bc bd;have aI:Hid (∀(st:List UInt8×Nat×Int)(aP:Int),(aO [] (cu aP) st).1.length≤16777216):=fun st aP=>by
  unfold aO;split;·simp
  ·split;·simp
   next h=>
    simp only[cu]at h⊢;split;·simp
    ·split;·simp
     ·split;·simp
      next bc bd cj=>
       simp only[List.length_take];omega
 obtain⟨wd,I,H,bi,J,D⟩:=u;obtain⟨G,ab⟩:∃a,kQ ⟨wd,I,H,bi,J,D⟩ (ed l).2=a:=⟨_,rfl⟩;obtain⟨a2,aX⟩:∃a,nJ ⟨wd,I,H,bi,J,D⟩ G.2=a:=⟨_,rfl⟩;obtain⟨a3,aY⟩:∃a,pE ⟨wd,I,H,bi,J,D⟩ a2.2=a:=⟨_,rfl⟩;obtain⟨a4,ac⟩:∃a,qC ⟨wd,I,H,bi,J,D⟩ a3.2=a:=⟨_,rfl⟩;have bJ:gg ⟨wd,I,H,bi,J,D⟩ l=(⟨(k:Int),⟨G.1.toArray⟩,a2.1,a3.1,⟨a4.1.toArray⟩⟩,a4.2):=by
  rw[gg,ab,aX,aY,ac,N]
 rw[bJ];obtain⟨nm,C⟩:∃nm:aJ,nm=⟨(k:Int),⟨G.1.toArray⟩,a2.1,a3.1,⟨a4.1.toArray⟩⟩:=⟨_,rfl⟩;rw[←C];have bT:=af C;clear C;have ay:=af ab;have aA:=af aX;have aB:=af aY;have aD:=af ac;have b7:Hid (G.1.length≤16777216):=by
  rw[←ab];unfold kQ;split;·exact aI.out _ _
  ·simp[Hid]
 have b9:Hid (a4.1.length≤16777216):=by
  rw[←ac];unfold qC;split;·exact aI.out _ _
  ·simp[Hid]
 clear hu bY N bL bJ ab aX aY ac aI bf cd;go_enter Tryz.func118,Tryz.ntmps118;go_wp2_with(refine an rfl 106 rfl sY Dn (jB 0 ByteArray.empty 0 0 ByteArray.empty) rfl ?_);intro w1 n1;have b5:=af n1.fr;have bs:=af n1.aE;have aF:Sz w w.heap.size:=Nat.le_refl _;clear n1;generalize w.heap.size=B at*;obtain⟨ch,w2,bZ,a0,bI⟩:=tP w1 s;have bS:=af (b5.out.trans a0);have bt:=af (bs.out.fr a0 (fun x=>x));have ca:=af bI;clear a0 bI bs b5;generalize w1.heap.size=gc at*;go_wp2_with fail;refine(pk _ _ ch l _ _ (by have h:=ca.out;rw[aL.out.2]at h;exact h) (by have:=aL.out.1;have:=bn.out;omega)).mono ?_;rintro e w3⟨g,S,rfl,a5,f3,b0,bx⟩;have bV:=af a5;have b6:=af (bS.out.trans f3);have aN:=af (bt.out.fr f3 (fun x=>x));have Z:Hid (w.heap.size≤g∧g<w3.heap.size):=⟨by have:=bS.out.size;omega,by obtain⟨⟨A,n,c,be,_,_⟩,_,_⟩:=a5;exact be.lt⟩;have aa:Hid (∀k,S k→k<w3.heap.size):=fun k N=>(bx k N).2;clear a5 f3 b0 bx bZ ca bt bS;go_wp2_with fail;refine(kG g S l 0 0 20 _ bV.out).mono ?_;rintro e X⟨rfl,m⟩;rw[show(aO 0 (bj 20) (l,0,0)).1=(k:Int)from congrArg Prod.fst bm.out];have bu:Hid (gP w3 g S X (ed l).2.1 (ed l).2.2.1 (ed l).2.2.2):=m;have cf:=af (Hv (k:Int));have bK:Hid (Fr ag w X):=b6.out.aw m.fr (fun i bB e=>by have V:i=g:=e;have:=Z.out;omega);have aS:Hid (aq X B 106 (jB 0 ByteArray.empty 0 0 ByteArray.empty)):=by
  obtain⟨⟨A,n,c,be,_,_⟩,_,_⟩:=bV.out;exact aN.out.fr m.fr (fun e=>eE aN.out be (by decide) e)
 have T:Hid (w3.heap.size≤X.heap.size):=m.fr.size;clear m aN b6 bV;go_wp2_with(refine dM rfl 106 _ rfl (jB (k:Int) ByteArray.empty 0 0 ByteArray.empty) _ (by simp only[List.map_toArray,List.map_cons,List.map_nil];rfl) cf.out (aR.go ?yC));unfold aR;go_wp2_with(refine an rfl 106 rfl sY Dn (jB 0 ByteArray.empty 0 0 ByteArray.empty) rfl ?_);intro cm n5;have ba:=af n5;clear n5;generalize bz:X.heap.size=o at*;have M:=af bz;clear bz;have br:Hid (aq cm o 106 (jB 0 ByteArray.empty 0 0 ByteArray.empty)):=by have h:=ba.out.aE;rw[M.out]at h;exact h
 refine ai rfl 106 (.tmp 5) _ rfl o (jB (k:Int) ByteArray.empty 0 0 ByteArray.empty) rfl rfl _ _ br.out mm rfl (by simp[jB,Value.oneCell']) ?_;intro bg cc f6;have bW:Hid (Rr bg g S (ed l).2.1 (ed l).2.2.1 (ed l).2.2.2):=(bu.out.rr.lg ba.out.fr).lA f6 (fun e=>by have V:g=o:=e;have:=Z.out;have:=T.out;omega) (fun k N e=>by have V:k=o:=e;have:=aa.out k N;have:=T.out;omega);have bk:Hid (Fr ag w bg):=(bK.out.trans ba.out.fr).aw f6 (fun i bB e=>by have V:i=o:=e;have:=M.out;have:=bK.out.size;omega);have NE:Hid (o≠B):=by have:=aS.out.lt;have:=M.out;simp only[Hid];omega
 have aU:Hid (aq bg B 106 (jB 0 ByteArray.empty 0 0 ByteArray.empty)):=(aS.out.fr ba.out.fr (fun x=>x)).fr f6 (fun e=>NE.out (show B=o from e).symm);have Q:=af cc;have bN:Hid (w.heap.size≤o∧¬S o):=⟨by have:=bK.out.size;have:=M.out;omega,fun N=>by have:=aa.out o N;have:=T.out;omega⟩;have bo:Hid (w3.heap.size≤bg.heap.size):=by have bc:=T.out;have bd:=ba.out.fr.size;have cj:=f6.size;have cs:=M.out;simp only[Hid];omega
 clear cc f6 ba br aS bK M bu T;have cg:bg.cell? ⟨o,0,none⟩=some (.int .i64 (k:Int)):=Q.out.cell 0;go_wp2_with(refine aC rfl 189 (.tmp 15) rfl ⟨0,k*6,none⟩ rfl (pX wd I H bi J D).toList _ ?zV Tryz.underlying189 rfl ki (aR.go ?yA));case zV=>exact fun j x a6=>by rw[Addr.add_mid];exact bk.out.ak (cb.out j x a6) (fun x=>x)
 unfold aR;go_wp2_with(refine an rfl 189 rfl GS xL #[.string ByteArray.empty, .bool false, .bool false, .bool false, .bool false, .int .i64 0] rfl ?_);intro cn n7;have bb:=af n7;clear n7;generalize bA:bg.heap.size=z at*;have E:=af bA;clear bA;have bv:Hid (aq cn z 189 #[.string ByteArray.empty, .bool false, .bool false, .bool false, .bool false, .int .i64 0]):=by have h:=bb.out.aE;rw[E.out]at h;exact h
 refine ai rfl 189 (.tmp 6) _ rfl z (pX wd I H bi J D) rfl rfl _ _ bv.out ki rfl (iC.one ⟨wd,I,H,bi,J,D⟩) ?_;intro L b8 f8;have ae:Hid (Dq w g o z B S):=⟨Z.out.1,bN.out.1,NE.out,bN.out.2⟩;have ST:Hid (RS w L g o z B S (pX wd I H bi J D) (jB (k:Int) ByteArray.empty 0 0 ByteArray.empty) (ed l).2):=by
  have ck:=bW.out;obtain⟨⟨A,n,c,be,_,_⟩,_,_⟩:=bW.out;refine⟨(ck.lg bb.out.fr).lA f8 (fun e=>?_) (fun k N e=>?_),(Q.out.fr bb.out.fr (fun x=>x)).fr f8 (fun e=>?_),b8,(aU.out.fr bb.out.fr (fun x=>x)).fr f8 (fun e=>?_),(bk.out.trans bb.out.fr).aw f8 (fun i bB e=>?_)⟩;·have V:g=z:=e;have:=be.lt;have:=E.out;omega
  ·have V:k=z:=e;have:=aa.out k N;have:=Q.out.lt;have:=E.out;have:=be.lt;have:=bk.out.size;have:=bo.out;omega
  ·have V:o=z:=e;have:=Q.out.lt;have:=E.out;omega
  ·have V:B=z:=e;have:=aU.out.lt;have:=E.out;omega
  ·have V:i=z:=e;have:=E.out;have:=bk.out.size;omega
 clear b8 f8 bb bv bW Q aU bk E cg bN NE Z aa cb;have ub:L.cell? ⟨z,1,none⟩=some (.bool I):=ST.out.ub.cell 1;go_upto_if 18 with fail;clear ub;go_cut[5](fun a7 a9=>a7= .pointer (some ⟨o,0,none⟩)∧RS w a9 g o z B S (pX wd I H bi J D) (jB (k:Int) ⟨G.1.toArray⟩ 0 0 ByteArray.empty) G.2);case first=>
  cases I;·go_wp2;go_meet;refine⟨rfl,?_⟩;rw[←ay.out];exact ST.out
  ·go_wp2_with fail;refine(oN g S _ _ _ 16777216 _ ST.out.rr).mono ?_;rintro e b3⟨rfl,m⟩;have F:=af (ST.out.step ae.out m);clear m;go_wp2_with(refine aW rfl 41 (.tmp 21) (.tmp 20) rfl o 1 (tV (aO [] (cu 16777216) (ed l).2).1) rfl rfl rfl wu _ _ (jB (k:Int) ⟨(aO [] (cu 16777216) (ed l).2).1.toArray⟩ 0 0 ByteArray.empty) F.out.nb (by simp[jB]) rfl ?_);intro ad U W;have aV:=af (F.out.put ae.out U W);clear U W F;go_wp2;go_meet;refine⟨rfl,?_⟩;rw[←ay.out];exact aV.out
 case rest=>
  obtain⟨rfl,t⟩:=hcut;clear ST;have ST:=af t;clear t;generalize wc=L at*;have ub:L.cell? ⟨z,2,none⟩=some (.bool H):=ST.out.ub.cell 2;go_upto_if 23 with fail;clear ub;go_cut[5](fun a7 a9=>a7= .pointer (some ⟨o,0,none⟩)∧RS w a9 g o z B S (pX wd I H bi J D) (jB (k:Int) ⟨G.1.toArray⟩ a2.1 0 ByteArray.empty) a2.2);case first=>
   cases H;·go_wp2;go_meet;refine⟨rfl,?_⟩;rw[←aA.out];exact ST.out
   ·go_wp2_with fail;refine(kG g S _ _ _ 1073741824 _ ST.out.rr).mono ?_;rintro e b3⟨rfl,m⟩;have F:=af (ST.out.step ae.out m);clear m;go_wp2_with(refine aW rfl 3 (.tmp 26) (.tmp 25) rfl o 2 (.int .i64 (aO 0 (bj 1073741824) G.2).1) rfl rfl rfl nN _ _ (jB (k:Int) ⟨G.1.toArray⟩ (aO 0 (bj 1073741824) G.2).1 0 ByteArray.empty) F.out.nb (by simp[jB]) rfl ?_);intro ad U W;have aV:=af (F.out.put ae.out U W);clear U W F;go_wp2;go_meet;refine⟨rfl,?_⟩;rw[←aA.out];exact aV.out
  case rest=>
   obtain⟨rfl,t⟩:=hcut;clear ST;have ST:=af t;clear t;generalize wc=L at*;have ub:L.cell? ⟨z,3,none⟩=some (.bool bi):=ST.out.ub.cell 3;go_upto_if 28 with fail;clear ub;go_cut[5](fun a7 a9=>a7= .pointer (some ⟨o,0,none⟩)∧RS w a9 g o z B S (pX wd I H bi J D) (jB (k:Int) ⟨G.1.toArray⟩ a2.1 a3.1 ByteArray.empty) a3.2);case first=>
    cases bi;·go_wp2;go_meet;refine⟨rfl,?_⟩;rw[←aB.out];exact ST.out
    ·have cl:L.cell? ⟨z,5,none⟩=some (.int .i64 D):=ST.out.ub.cell 5;go_wp2_with fail;refine(kG g S _ _ _ D _ ST.out.rr).mono ?_;rintro e b3⟨rfl,m⟩;have F:=af (ST.out.step ae.out m);clear m cl;go_wp2_with(refine aW rfl 3 (.tmp 33) (.tmp 32) rfl o 3 (.int .i64 (aO 0 (bj D) a2.2).1) rfl rfl rfl nN _ _ (jB (k:Int) ⟨G.1.toArray⟩ a2.1 (aO 0 (bj D) a2.2).1 ByteArray.empty) F.out.nb (by simp[jB]) rfl ?_);intro ad U W;have aV:=af (F.out.put ae.out U W);clear U W F;go_wp2;go_meet;refine⟨rfl,?_⟩;rw[←aB.out];exact aV.out
   case rest=>
    obtain⟨rfl,t⟩:=hcut;clear ST;have ST:=af t;clear t;generalize wc=L at*;have ub:L.cell? ⟨z,4,none⟩=some (.bool J):=ST.out.ub.cell 4;go_upto_if 35 with fail;clear ub;go_cut[5](fun a7 a9=>a7= .pointer (some ⟨o,0,none⟩)∧RS w a9 g o z B S (pX wd I H bi J D) (jB (k:Int) ⟨G.1.toArray⟩ a2.1 a3.1 ⟨a4.1.toArray⟩) a4.2);case first=>
     cases J;·go_wp2;go_meet;refine⟨rfl,?_⟩;rw[←aD.out];exact ST.out
     ·go_wp2_with fail;refine(oN g S _ _ _ 32 _ ST.out.rr).mono ?_;rintro e b3⟨rfl,m⟩;have F:=af (ST.out.step ae.out m);clear m;go_wp2_with(refine aW rfl 9 (.tmp 38) (.tmp 37) rfl o 4 (tV (aO [] (cu 32) a3.2).1) rfl rfl rfl pL _ _ (jB (k:Int) ⟨G.1.toArray⟩ a2.1 a3.1 ⟨(aO [] (cu 32) a3.2).1.toArray⟩) F.out.nb (by simp[jB]) rfl ?_);intro ad U W;have aV:=af (F.out.put ae.out U W);clear U W F;go_wp2;go_meet;refine⟨rfl,?_⟩;rw[←aD.out];exact aV.out
    case rest=>
     obtain⟨rfl,t⟩:=hcut;clear ST;have ST:=af t;clear t;generalize wc=L at*;have C:=bT.out;have aM:Hid (aq L o 106 nm.cells.toArray):=by rw[C];exact ST.out.nb
     have bM:Hid (nm.owner.size≤1099511627776∧nm.text.size≤1099511627776):=by
      have cq:nm.owner.size=G.1.length:=by rw[C,←aK];rfl
      have cr:nm.text.size=a4.1.length:=by rw[C,←aK];rfl
      have bc:=b7.out;have bd:=b9.out;simp only[Hid];omega
     have cp:=af Hu;obtain⟨ce,aZ⟩:∃ce,gQ a4.2=ce:=⟨_,rfl⟩;have bQ:Hid (∀ad,Fr ag L ad→Calls Tryz.prog 72 #[.pointer (some ⟨g,0,none⟩)] ad (aH ad (.int .i64 ce))):=fun ad r=>by
      have h:=uh g S a4.2.1 a4.2.2.1 a4.2.2.2 ad (ST.out.rr.lg r);rw[←aZ];exact h.mono (fun e w'⟨bc,bd⟩=>⟨bc,by rw[bd];exact az⟩)
     have bl:=af aZ;clear aZ C b7 b9 bn aL bm ay aA aB aD;by_cases b2:ce=0
     ·subst b2;cases O:du nm
      ·have aG:=af O;have bR:Hid (∀w',Fr ag L w'→Calls Tryz.prog 115 #[.agg nm.cells.toArray] w' (fun e a8=>∃q:Int,e= .returned (.int .i64 q)∧q≠0∧Fr ag w' a8)):=fun w' f=>(b4.out nm bM.out.1 bM.out.2 w' (ST.out.fr.trans f)).mono (fun e a8⟨q,he,a1,r⟩=>⟨q,he,fun bX=>by rw[bX,O]at a1;exact absurd a1 (by decide),r⟩);clear O;go_upto_region 12 with fail;refine iG 8 ag [Is (.pointer (some ⟨g,0,none⟩)),Is (.int .i64 0),Is (.bool false),Is (.bool false),Is (.agg nm.cells.toArray),(fun co _=>∃q:Int,co= .int .i64 q∧q≠0),Is (.bool true),Is (.bool true)] [] (fun _=>True) (fun _ _=>false) (by kernel_rfl) (by kernel_rfl) (by kernel_rfl) ⟨Is.ah _,Is.ah _,Is.ah _,Is.ah _,Is.ah _,fun _ _ _ _ _ h=>h,Is.ah _,Is.ah _,trivial⟩ trivial (fun _ _ _ _ h=>h) trivial ?_ ?_
       ·refine⟨?zY,?zH,?zI,?zJ,?zK,?zL,?zM,?zN,trivial⟩;all_goals intro u w' d r b K P y
        all_goals simp only[bw,bC,bD,bE,ar,Act.put,bF,bG,bH,Nat.reduceAdd,Nat.zero_add]
        case zH=>
         simp only[show u 0=_ from b 0];clear b K P y;refine aj ?_;go_simp;refine(bQ.out _ r).mono ?_;rintro e X⟨rfl,f4⟩;exact⟨_,rfl,f4.bO,rfl,trivial⟩
        case' zI=>simp only[show u 1=_ from b 1]
        case' zJ=>simp only[show u 2=_ from b 2]
        case zK=>
         simp only[show u 3=_ from b 3];clear b K P y;refine aj ?_;exact au _ _ rfl ⟨o,0,none⟩ rfl nm.cells _ (fun j x a6=>by rw[Addr.add_mid,Nat.zero_add];exact(aM.out.fr r (fun x=>x)).cell j|>.trans (by rw[bP];exact a6)) Tryz.underlying106 rfl aT ⟨_,rfl,al⟩
        case zL=>
         simp only[show u 4=_ from b 4,show u 3=_ from b 3];clear b K P y;refine aj ?_;go_simp;refine(bR.out _ r).mono ?_;rintro e X⟨q,rfl,a1,f4⟩;exact⟨_,rfl,f4.bO,⟨q,rfl,a1⟩,trivial⟩
        case zM=>
         obtain⟨q,ci,b1⟩:=b 5;simp only[ci,show u 3=_ from b 3];clear b K P y;refine aj ?_;go_simp;have t0:(q !=0)=true:=by rw[bne_iff_ne];exact b1
         simp only[t0];exact⟨_,rfl,al⟩
        case' zN=>simp only[show u 3=_ from b 3,show u 6=_ from b 6]
        all_goals
         clear b K P y;refine aj ?_;go_simp;exact⟨_,rfl,al⟩
       ·intro u w' r b y;have av:u 7=_:=b 7 (by omega);clear b y;simp only[bw,bC,bD,bE,ar,Act.put,bF,bG,bH,dj,dk,Nat.reduceAdd,Nat.zero_add,av];have Y:=af r;clear r av;have R:=af (ST.out.rb.fr Y.out (fun x=>x));go_wp2_with(refine ai rfl 106 (.tmp 2) _ rfl B (jB 0 ByteArray.empty 0 0 ByteArray.empty) rfl rfl _ _ R.out mm rfl (by simp[jB,Value.oneCell']) ?_);intro ax am ap;have bq:=af am;have bp:Hid (Fr ag w ax):=(ST.out.fr.trans Y.out).aw ap (fun i bB e=>by have V:i=B:=e;have:=aF;unfold Sz at this;omega);clear am ap;go_wp2;exact bodyPost_ret (bh (fn:=Tryz.f118) (p:=2) (q:=3) (ty:=106) Tryz.results118 _ ax _ 106 (jB 0 ByteArray.empty 0 0 ByteArray.empty) (0,0) _ rfl bq.out Tryz.underlying106 rfl mm _ rfl) rfl ⟨_,_,rfl,bp.out, .inr ⟨fun h=>Bool.false_ne_true (aG.out.symm.trans h.2),rfl,rfl⟩⟩
      ·have aG:=af O;have bR:Hid (∀w',Fr ag L w'→Calls Tryz.prog 115 #[.agg nm.cells.toArray] w' (aH w' (.int .i64 0))):=fun w' f=>(b4.out nm bM.out.1 bM.out.2 w' (ST.out.fr.trans f)).mono (fun e a8⟨q,he,a1,r⟩=>by
        have bX:q=0:=by rw[O]at a1;exact beq_iff_eq.1 a1
        subst bX;exact⟨he,r⟩);clear O;go_upto_region 12 with fail;refine iG 8 ag [Is (.pointer (some ⟨g,0,none⟩)),Is (.int .i64 0),Is (.bool false),Is (.bool false),Is (.agg nm.cells.toArray),Is (.int .i64 0),Is (.bool false),Is (.bool false)] [] (fun _=>True) (fun _ _=>false) (by kernel_rfl) (by kernel_rfl) (by kernel_rfl) ⟨Is.ah _,Is.ah _,Is.ah _,Is.ah _,Is.ah _,Is.ah _,Is.ah _,Is.ah _,trivial⟩ trivial (fun _ _ _ _ h=>h) trivial ?_ ?_
       ·refine⟨?zZ,?zO,?zP,?zQ,?zR,?zS,?zT,?zU,trivial⟩;all_goals intro u w' d r b K P y
        all_goals simp only[bw,bC,bD,bE,ar,Act.put,bF,bG,bH,Nat.reduceAdd,Nat.zero_add]
        case zO=>
         simp only[show u 0=_ from b 0];clear b K P y;refine aj ?_;go_simp;refine(bQ.out _ r).mono ?_;rintro e X⟨rfl,f4⟩;exact⟨_,rfl,f4.bO,rfl,trivial⟩
        case' zP=>simp only[show u 1=_ from b 1]
        case' zQ=>simp only[show u 2=_ from b 2]
        case zR=>
         simp only[show u 3=_ from b 3];clear b K P y;refine aj ?_;exact au _ _ rfl ⟨o,0,none⟩ rfl nm.cells _ (fun j x a6=>by rw[Addr.add_mid,Nat.zero_add];exact(aM.out.fr r (fun x=>x)).cell j|>.trans (by rw[bP];exact a6)) Tryz.underlying106 rfl aT ⟨_,rfl,al⟩
        case zS=>
         simp only[show u 4=_ from b 4,show u 3=_ from b 3];clear b K P y;refine aj ?_;go_simp;refine(bR.out _ r).mono ?_;rintro e X⟨rfl,f4⟩;exact⟨_,rfl,f4.bO,rfl,trivial⟩
        case' zT=>simp only[show u 5=_ from b 5,show u 3=_ from b 3]
        case' zU=>simp only[show u 3=_ from b 3,show u 6=_ from b 6]
        all_goals
         clear b K P y;refine aj ?_;go_simp;exact⟨_,rfl,al⟩
       ·intro u w' r b y;have av:u 7=_:=b 7 (by omega);clear b y;simp only[bw,bC,bD,bE,ar,Act.put,bF,bG,bH,dj,dk,Nat.reduceAdd,Nat.zero_add,av];have Y:=af r;clear r av;have bU:=af (aM.out.fr Y.out (fun x=>x));have R:=af (ST.out.rb.fr Y.out (fun x=>x));go_wp2_with(refine aC rfl 106 (.tmp 5) rfl ⟨o,0,none⟩ rfl nm.cells _ ?zW Tryz.underlying106 rfl aT (aR.go ?yB));case zW=>exact fun j x a6=>by rw[Addr.add_mid,Nat.zero_add];exact bU.out.cell j|>.trans (by rw[bP];exact a6)
        unfold aR;refine ai rfl 106 (.tmp 2) _ rfl B nm.cells.toArray rfl rfl _ _ R.out mm rfl nm.one ?_;intro ax am ap;have bq:=af am;have bp:Hid (Fr ag w ax):=(ST.out.fr.trans Y.out).aw ap (fun i bB e=>by have V:i=B:=e;have:=aF;unfold Sz at this;omega);clear am ap;go_wp2;exact bodyPost_ret (bh (fn:=Tryz.f118) (p:=2) (q:=3) (ty:=106) Tryz.results118 _ ax _ 106 nm.cells.toArray (0,0) _ rfl bq.out Tryz.underlying106 rfl mm _ rfl) rfl ⟨_,_,rfl,bp.out, .inl ⟨bl.out,aG.out,rfl,rfl⟩⟩
     ·have t0:(ce !=0)=true:=by rw[bne_iff_ne];exact b2
      go_upto_region 12 with fail;refine iG 8 ag [Is (.pointer (some ⟨g,0,none⟩)),Is (.int .i64 ce),Is (.bool true),Is (.bool true),Is (undef),Is (undef),Is (undef),Is (.bool true)] [] (fun _=>True) (fun _ _=>false) (by kernel_rfl) (by kernel_rfl) (by kernel_rfl) ⟨Is.ah _,Is.ah _,Is.ah _,Is.ah _,Is.ah _,Is.ah _,Is.ah _,Is.ah _,trivial⟩ trivial (fun _ _ _ _ h=>h) trivial ?_ ?_
      ·refine⟨?zX,?zA,?zB,?zC,?zD,?zE,?zF,?zG,trivial⟩;all_goals intro u w' d r b K P y
       all_goals simp only[bw,bC,bD,bE,ar,Act.put,bF,bG,bH,Nat.reduceAdd,Nat.zero_add]
       case zA=>
        simp only[show u 0=_ from b 0];clear b K P y;refine aj ?_;go_simp;refine(bQ.out _ r).mono ?_;rintro e X⟨rfl,f4⟩;exact⟨_,rfl,f4.bO,rfl,trivial⟩
       case' zB=>simp only[show u 1=_ from b 1]
       case' zC=>simp only[show u 2=_ from b 2]
       case zD=>simp only[show u 3=_ from b 3];exact .inr ⟨by kernel_rfl,_,rfl,az,rfl,trivial⟩
       case zE=>simp only[show u 3=_ from b 3];exact .inr ⟨by kernel_rfl,_,rfl,az,rfl,trivial⟩
       case zF=>simp only[show u 3=_ from b 3];exact .inr ⟨by kernel_rfl,_,rfl,az,rfl,trivial⟩
       case' zG=>simp only[show u 3=_ from b 3,show u 6=_ from b 6]
       all_goals
        clear b K P y;refine aj ?_;go_simp;exact⟨_,rfl,al⟩
      ·intro u w' r b y;have av:u 7=_:=b 7 (by omega);clear b y;simp only[bw,bC,bD,bE,ar,Act.put,bF,bG,bH,dj,dk,Nat.reduceAdd,Nat.zero_add,av];have Y:=af r;clear r av;have R:=af (ST.out.rb.fr Y.out (fun x=>x));go_wp2_with(refine ai rfl 106 (.tmp 2) _ rfl B (jB 0 ByteArray.empty 0 0 ByteArray.empty) rfl rfl _ _ R.out mm rfl (by simp[jB,Value.oneCell']) ?_);intro ax am ap;have bq:=af am;have bp:Hid (Fr ag w ax):=(ST.out.fr.trans Y.out).aw ap (fun i bB e=>by have V:i=B:=e;have:=aF;unfold Sz at this;omega);clear am ap;go_wp2;exact bodyPost_ret (bh (fn:=Tryz.f118) (p:=2) (q:=3) (ty:=106) Tryz.results118 _ ax _ 106 (jB 0 ByteArray.empty 0 0 ByteArray.empty) (0,0) _ rfl bq.out Tryz.underlying106 rfl mm _ rfl) rfl ⟨_,_,rfl,bp.out, .inr ⟨fun h=>b2 (bl.out.symm.trans h.1),rfl,rfl⟩⟩
theorem GM(l:List UInt8)(m:Nat)(hm:m≤10)(h:(pn l m).2.2=0):enc (pn l m).1=l.take (pn l m).2.1∧(pn l m).2.1≤l.length:=by
 rcases s8 l m hm with(a|a)|⟨k,c,d,b,e,_,f,a⟩;·rw[a]at h;simp at h
 ·rw[a]at h;simp at h
 ·rw[a];exact⟨Kf l m k c hm d b e f,b⟩
theorem qH{α:Type}(zero:α)(parse:List UInt8→α×Nat×Int)(st:List UInt8×Nat×Int)(h:st.2.2≠0):(aO zero parse st).2=st:=by
 unfold aO;rw[if_pos h]
theorem mX(aP:Int)(st:List UInt8×Nat×Int)(h:(aO [] (cu aP) st).2.2.2=0):st.2.2=0∧st.1=aV (aO [] (cu aP) st).1++(aO [] (cu aP) st).2.1:=by
 by_cases b:st.2.2=0
 ·refine⟨b,?_⟩;unfold aO at h⊢;rw[if_neg (by omega)]at h⊢;by_cases a:(cu aP st.1).2.2=0
  ·rw[if_neg (by omega)];simp only;unfold cu at a⊢;by_cases c:(pn st.1 9).2.2≠0;·rw[if_pos c]at a;simp only at a;omega
   rw[if_neg c]at a⊢;by_cases d:aP<((pn st.1 9).1:Int)∨16777216<(pn st.1 9).1;·rw[if_pos d]at a;cases a
   rw[if_neg d]at a⊢;by_cases e:st.1.length<(pn st.1 9).2.1+(pn st.1 9).1;·rw[if_pos e]at a;cases a
   rw[if_neg e];simp only[aV];obtain⟨he,g⟩:=GM st.1 9 (by omega) (by omega);generalize(pn st.1 9).2.1=k at*;generalize(pn st.1 9).1=n at*;have f:((st.1.drop k).take n).length=n:=by rw[List.length_take,List.length_drop];omega
   rw[f,he,List.append_assoc,←List.drop_drop,List.take_append_drop,List.take_append_drop]
  ·rw[if_pos a]at h;exact absurd h a
 ·rw[qH _ _ _ b]at h;exact absurd h b
theorem rk(aP:Int)(st:List UInt8×Nat×Int)(h:(aO 0 (bj aP) st).2.2.2=0):st.2.2=0∧st.1=enc (aO 0 (bj aP) st).1.toNat++(aO 0 (bj aP) st).2.1:=by
 by_cases b:st.2.2=0
 ·refine⟨b,?_⟩;unfold aO at h⊢;rw[if_neg (by omega)]at h⊢;by_cases a:(bj aP st.1).2.2=0
  ·rw[if_neg (by omega)];simp only;unfold bj at a⊢;simp only at a⊢;have c:(pn st.1 9).2.2=0:=by
    split at a;·omega
    ·omega
   obtain⟨he,d⟩:=GM st.1 9 (by omega) c;rw[Int.toNat_natCast,he,List.take_append_drop]
  ·rw[if_pos a]at h;exact absurd h a
 ·rw[qH _ _ _ b]at h;exact absurd h b
theorem rm{α:Type}(zero:α)(parse:List UInt8→α×Nat×Int)(l:List UInt8)(p:Nat)(x:α)(k:Nat)(h:parse l=(x,k,0)):aO zero parse (l,p,0)=(x,(l.drop k,p+k,0)):=by
 unfold aO;simp[h]
theorem kr(u:Nat)(aP:Int)(hu:u<9223372036854775808)(hm:(u:Int)≤aP)(r:List UInt8)(p:Nat):aO 0 (bj aP) (enc u++r,p,0)=((u:Int),(r,p+(enc u).length,0)):=by
 have h:bj aP (enc u++r)=((u:Int),(enc u).length,0):=by
  unfold bj;rw[sq u r hu];simp only[true_and];rw[if_neg (by omega)];rfl
 rw[rm 0 (bj aP) _ p _ _ h,List.drop_left]
theorem mz(s:List UInt8)(aP:Int)(a:(s.length:Int)≤aP)(b:s.length≤16777216)(r:List UInt8)(p:Nat):aO [] (cu aP) (aV s++r,p,0)=(s,(r,p+(aV s).length,0)):=by
 have h:cu aP (aV s++r)=(s,(aV s).length,0):=by
  unfold cu aV;rw[List.append_assoc,sq s.length (s++r) (by omega)];simp only[ne_eq,not_true_eq_false,if_false];rw[if_neg (by omega),if_neg (by simp only[aS];omega),List.drop_left,List.take_left,aS]
 rw[rm [] (cu aP) _ p _ _ h,List.drop_left]
theorem tp(l:List UInt8):aQ ⟨l.toArray⟩=l:=rfl
theorem zB{st:List UInt8×Nat×Int}(h:gQ st=0):st.2.2=0∧st.1=[]:=by
 unfold gQ at h;split at h;next a=>
  refine⟨a,?_⟩;split at h;·cases h
  ·exact List.eq_nil_of_length_eq_zero (by omega)
 next a=>exact absurd h a
theorem Fp{u:iC}{l:List UInt8}(hu:iP[(ed l).1.toNat]? =some u)(m:gQ (gg u l).2=0)(s:du (gg u l).1=true):cM (gg u l).1=l:=by
 have x:=vN l;have d:ed l=aO 0 (bj 20) (l,0,0):=rfl;obtain⟨a0,n⟩:∃a,ed l=a:=⟨_,rfl⟩;obtain⟨c,o⟩:∃a,kQ u a0.2=a:=⟨_,rfl⟩;obtain⟨a2,p⟩:∃a,nJ u c.2=a:=⟨_,rfl⟩;obtain⟨a3,q⟩:∃a,pE u a2.2=a:=⟨_,rfl⟩;obtain⟨a4,r⟩:∃a,qC u a3.2=a:=⟨_,rfl⟩;have y:gg u l=(⟨a0.1,⟨c.1.toArray⟩,a2.1,a3.1,⟨a4.1.toArray⟩⟩,a4.2):=by rw[gg,n,o,p,q,r]
 rw[y]at m s⊢;rw[n]at hu x d;simp only at m;obtain⟨k,A⟩:=zB m;have z:o3 u ⟨a0.1,⟨c.1.toArray⟩,a2.1,a3.1,⟨a4.1.toArray⟩⟩=true:=by
  obtain⟨_,B,f,h⟩:=nQ s;simp only at f;rw[hu]at f;cases f;exact h
 rw[nO (u:=u) hu];have w:a3.2.2.2=0∧a3.2.1=(if u.text then aV a4.1 else[])++a4.2.1:=by
  rw[←r]at k⊢;unfold qC at k⊢;split;next b=>rw[if_pos b]at k;exact mX 32 a3.2 k
  next b=>rw[if_neg b]at k;exact⟨k,rfl⟩
 have v:a2.2.2.2=0∧a2.2.1=(if u.index then enc a3.1.toNat else[])++a3.2.1:=by
  have j:=w.1;rw[←q]at j⊢;unfold pE at j⊢;split;next b=>rw[if_pos b]at j;exact rk u.aP a2.2 j
  next b=>rw[if_neg b]at j;exact⟨j,rfl⟩
 have s2:c.2.2.2=0∧c.2.1=(if u.number then enc a2.1.toNat else[])++a2.2.1:=by
  have i:=v.1;rw[←p]at i⊢;unfold nJ at i⊢;split;next b=>rw[if_pos b]at i;exact rk 1073741824 c.2 i
  next b=>rw[if_neg b]at i;exact⟨i,rfl⟩
 have s1:a0.2.2.2=0∧a0.2.1=(if u.owner then aV c.1 else[])++c.2.1:=by
  have g:=s2.1;rw[←o]at g⊢;unfold kQ at g⊢;split;next b=>rw[if_pos b]at g;exact mX 16777216 a0.2 g
  next b=>rw[if_neg b]at g;exact⟨g,rfl⟩
 have t:=rk 20 (l,0,0) (by rw[←d];exact s1.1);rw[←d]at t;have e:=t.2;simp only at e;rw[e,s1.2,s2.2,v.2,w.2,A,List.append_nil];rfl
theorem EV{u:iC}{n:aJ}(h:o3 u n=true)(a:u.text=true):n.text.size≤32:=by
 simp only[o3,Bool.and_eq_true,Bool.or_eq_true,Bool.not_eq_true']at h;rcases h.2 with h|h;·rw[a]at h;cases h
 ·simp only[lj,Bool.and_eq_true,decide_eq_true_eq]at h;exact h.1.2
theorem Fo{m:aJ}(G:du m=true)(I:m.owner.size≤16777216):∃u,iP[(ed (cM m)).1.toNat]? =some u∧gQ (gg u (cM m)).2=0∧(gg u (cM m)).1=m:=by
 obtain⟨A,u,hu,v⟩:=nQ G;have g:=mT v;have hm:=wY hu;rw[nO hu];have B:=@EV u m v;obtain⟨k,O,n,i,t⟩:=m;obtain⟨wd,b,a,bi,c,d⟩:=u;obtain⟨kk,rfl⟩:∃q:Nat,k=(q:Int):=⟨k.toNat,by simp only at A;omega⟩;simp only at A I hm B hu;simp only[kq];rw[Int.toNat_natCast]at hu⊢;have d0:∀r,ed (enc kk++r)=((kk:Int),(r,(enc kk).length,0)):=fun r=>by
  unfold ed;rw[kr kk 20 (by omega) (by omega) r 0,Nat.zero_add]
 refine⟨⟨wd,b,a,bi,c,d⟩,by rw[d0,Int.toNat_natCast];exact hu,?_⟩;obtain⟨y,s⟩:∃N,(if c=true then aV (aQ t)else[])=N:=⟨_,rfl⟩;obtain⟨x,o⟩:∃N,(if bi=true then enc i.toNat else[])++y=N:=⟨_,rfl⟩;obtain⟨w,l⟩:∃N,(if a=true then enc n.toNat else[])++x=N:=⟨_,rfl⟩;obtain⟨z,j⟩:∃N,(if b=true then aV (aQ O)else[])++w=N:=⟨_,rfl⟩;rw[s,o,l,j];have d1:∀p,∃f,kQ ⟨wd,b,a,bi,c,d⟩ (z,p,0)=(aQ O,(w,f,0)):=fun p=>by
  rw[←j];unfold kQ;cases b;·have e:=g.o0 rfl;simp only at e;exact⟨p,by rw[e];rfl⟩
  ·exact⟨_,mz (aQ O) 16777216 (by rw[aK];omega) (by rw[aK];omega) w p⟩
 have d2:∀p,∃f,nJ ⟨wd,b,a,bi,c,d⟩ (w,p,0)=(n,(x,f,0)):=fun p=>by
  rw[←l];unfold nJ;cases a;·have e:=g.n0 rfl;simp only at e;exact⟨p,by rw[e];rfl⟩
  ·have e:=g.n1 rfl;simp only at e;have h:=kr n.toNat 1073741824 (by omega) (by omega) x p;rw[Int.toNat_of_nonneg e.1]at h;exact⟨_,h⟩
 have d3:∀p,∃f,pE ⟨wd,b,a,bi,c,d⟩ (x,p,0)=(i,(y,f,0)):=fun p=>by
  rw[←o];unfold pE;cases bi;·have e:=g.i0 rfl;simp only at e;exact⟨p,by rw[e];rfl⟩
  ·have e:=g.i1 rfl;simp only at e;have h:=kr i.toNat d (by omega) (by omega) y p;rw[Int.toNat_of_nonneg e.1]at h;exact⟨_,h⟩
 have d4:∀p,∃f,qC ⟨wd,b,a,bi,c,d⟩ (y,p,0)=(aQ t,([],f,0)):=fun p=>by
  rw[←s];unfold qC;cases c;·have e:=g.t0 rfl;simp only at e;exact⟨p,by rw[e];rfl⟩
  ·have e:=B rfl;have h:=mz (aQ t) 32 (by rw[aK];omega) (by rw[aK];omega) [] p;rw[List.append_nil]at h;exact⟨_,h⟩
 obtain⟨J,C⟩:=d1 (enc kk).length;obtain⟨K,D⟩:=d2 J;obtain⟨L,E⟩:=d3 K;obtain⟨M,F⟩:=d4 L;have H:gg ⟨wd,b,a,bi,c,d⟩ (enc kk++z)=(⟨(kk:Int),⟨(aQ O).toArray⟩,n,i,⟨(aQ t).toArray⟩⟩,([],M,0)):=by
  rw[gg,d0];simp only[C,D,E,F]
 rw[H];exact⟨rfl,rfl⟩
def gU(l:List UInt8):aJ×Int:=match iP[(ed l).1.toNat]? with
 |some u=>if gQ (gg u l).2=0∧du (gg u l).1=true then((gg u l).1,0)else(⟨0,ByteArray.empty,0,0,ByteArray.empty⟩,3)
 |none=>(⟨0,ByteArray.empty,0,0,ByteArray.empty⟩,3)
theorem sP(l:List UInt8):∃u,iP[(ed l).1.toNat]? =some u:=by
 have h:=vN l;have a:iP.length=21:=by decide
 exact⟨_,List.getElem?_eq_getElem (show(ed l).1.toNat<iP.length by omega)⟩
theorem rU{l:List UInt8}{u:iC}(h:iP[(ed l).1.toNat]? =some u):gU l=if gQ (gg u l).2=0∧du (gg u l).1=true then((gg u l).1,0)else(⟨0,ByteArray.empty,0,0,ByteArray.empty⟩,3):=by
 unfold gU;rw[h]
theorem Ig{m:aJ}(a:du m=true)(d:m.owner.size≤16777216):gU (cM m)=(m,0):=by
 obtain⟨u,hu,b,c⟩:=Fo a d;rw[rU hu,c,if_pos ⟨b,a⟩]
theorem Ih{l:List UInt8}(h:(gU l).2=0):du (gU l).1=true∧cM (gU l).1=l:=by
 obtain⟨u,hu⟩:=sP l;rw[rU hu]at h⊢;by_cases a:gQ (gg u l).2=0∧du (gg u l).1=true;·rw[if_pos a];exact⟨a.2,Fp hu a.1 a.2⟩
 ·rw[if_neg a]at h;cases h
theorem xl(aP:Int)(st:List UInt8×Nat×Int):(aO [] (cu aP) st).1.length≤st.1.length:=by
 unfold aO;split;·simp
 ·split;·simp
  next h=>
   simp only[cu];split;·simp
   ·split;·simp
    ·split;·simp
     ·simp only[List.length_take,List.length_drop];omega
theorem Cz(aP:Int)(st:List UInt8×Nat×Int):(aO [] (cu aP) st).2.1.length≤st.1.length:=by
 unfold aO;split;·simp
 ·split;·simp
  ·simp only[List.length_drop];omega
theorem my(aP:Int)(st:List UInt8×Nat×Int):(aO 0 (bj aP) st).2.1.length≤st.1.length:=by
 unfold aO;split;·simp
 ·split;·simp
  ·simp only[List.length_drop];omega
theorem tQ(l:List UInt8):(gU l).1.owner.size≤l.length∧(gU l).1.text.size≤l.length:=by
 obtain⟨u,hu⟩:=sP l;rw[rU hu];split
 ·have a:=my 20 (l,0,0);have b:ed l=aO 0 (bj 20) (l,0,0):=rfl;rw[←b]at a;simp only at a;have c:∀st,(kQ u st).1.length≤st.1.length∧(kQ u st).2.1.length≤st.1.length:=fun st=>by
   unfold kQ;split;·exact⟨xl _ _,Cz _ _⟩
   ·simp
  have d:∀st,(nJ u st).2.1.length≤st.1.length:=fun st=>by
   unfold nJ;split;·exact my _ _
   ·simp
  have e:∀st,(pE u st).2.1.length≤st.1.length:=fun st=>by
   unfold pE;split;·exact my _ _
   ·simp
  have f:∀st,(qC u st).1.length≤st.1.length:=fun st=>by
   unfold qC;split;·exact xl _ _
   ·simp
  simp only[gg,ByteArray.size,List.size_toArray];have g:=c (ed l).2;have a2:=d (kQ u (ed l).2).2;have a3:=e (nJ u (kQ u (ed l).2).2).2;have a4:=f (pE u (nJ u (kQ u (ed l).2).2).2).2;omega
 ·simp
def vm(w:World)(l:List UInt8)(e:Ending)(w':World):Prop:=e= .returned (.tuple #[.agg (gU l).1.cells.toArray, .int .i64 (gU l).2])∧Fr ag w w'
theorem Hg(s:ByteArray)(w:World)(d:eh w)(f:s.size≤16777216):Calls Tryz.prog 118 #[.string s] w (vm w (aQ s)):=by
 obtain⟨u,hu⟩:=sP (aQ s);refine(DJ s u w d f hu).mono ?_;rintro e w'⟨n,k,rfl,a,h⟩;unfold vm;rw[rU hu];rcases h with⟨b,c,rfl,rfl⟩|⟨h,rfl,rfl⟩;·rw[if_pos ⟨b,c⟩];exact⟨rfl,a⟩
 ·rw[if_neg h];exact⟨rfl,a⟩
abbrev fX:=List UInt8×Nat×Int
def dK(st:fX):List UInt8×fX:=aO [] (cu 65536) st
def NU:aJ:=⟨0,ByteArray.empty,0,0,ByteArray.empty⟩
structure rI(L:List Ent)(last:aJ)(st:fX):Prop where
 sort:cG L
 ok:∀x∈L,du x.1=true
 owner:∀x∈L,x.1.owner.size≤70000
 text:∀x∈L,x.1.text.size≤70000
 value:∀x∈L,x.2.size≤70000
 len:2*L.length+st.1.length≤70000
 bytes:cJ L+st.1.length≤70000
 last:L=[]∨∃M v,L=M++[(last,v)]
theorem rI.nil{l:List UInt8}(h:l.length≤70000)(st:fX)(a:st.1.length≤l.length):rI [] NU st:=
 ⟨List.Pairwise.nil,(fun _ h=>by cases h),(fun _ h=>by cases h),(fun _ h=>by cases h),(fun _ h=>by cases h),by simp;omega,by simp[cJ];omega,Or.inl rfl⟩
theorem rI.j5{L:List Ent}{last:aJ}{st:fX}(h:rI L last st):kY L:=
 ⟨h.sort,fun x a=>by have:=h.owner x a;omega,by have:=h.len;omega,by have:=h.bytes;omega,h.ok⟩
theorem rI.small{L:List Ent}{last:aJ}{st:fX}(h:rI L last st):uH L:=
 ⟨h.ok,fun x a=>by have:=h.owner x a;omega,fun x a=>by have:=h.text x a;omega,fun x a=>by have:=h.value x a;omega,by have:=h.len;omega⟩
theorem oR(s:List UInt8):s.length+1≤(aV s).length:=by
 unfold aV;have:1≤(enc s.length).length:=rX 9 _;rw[aS];omega
theorem AX(A B:List Ent):cJ (A++B)=cJ A+cJ B:=by simp[cJ]
theorem Fv{L:List Ent}{last m:aJ}(f:cG L)(e:L=[]∨∃M v,L=M++[(last,v)])(d:¬(0<L.length∧bQ m last≤0)):∀y∈L,0<bQ m y.1:=by
 rcases e with rfl|⟨M,u,rfl⟩;·intro y a;cases a
 ·have b:0<bQ m last:=by
   by_cases h:0<bQ m last;·exact h
   ·exact absurd ⟨by simp,by omega⟩ d
  intro y a;rcases List.mem_append.1 a with a|a;·have c:=(cG.parts f).2.2.1 y a;exact gT (bZ.trans y.1 last m c (lS b))
  ·simp only[List.mem_singleton]at a;rw[a];exact b
theorem rI.next{L:List Ent}{last:aJ}{st:fX}(h:rI L last st)(i:(gU (dK st).1).2=0)(j:¬(0<L.length∧bQ (gU (dK st).1).1 last≤0))(k:(dK (dK st).2).2.2.2=0):
  rI (L++[((gU (dK st).1).1,⟨(dK (dK st).2).1.toArray⟩)]) (gU (dK st).1).1 (dK (dK st).2).2∧dE (gU (dK st).1).1 ⟨(dK (dK st).2).1.toArray⟩ L=L++[((gU (dK st).1).1,⟨(dK (dK st).2).1.toArray⟩)]∧
  (dK st).2.2.2=0∧st.2.2=0∧st.1=mO ((gU (dK st).1).1,⟨(dK (dK st).2).1.toArray⟩)++(dK (dK st).2).2.1:=by
 have Iz:=Fv h.sort h.last j;obtain⟨d,s1⟩:=mX 65536 (dK st).2 k;obtain⟨g,c⟩:=mX 65536 st d;obtain⟨ok,l⟩:=Ih i;have n:=tQ (dK st).1;have e:dE (gU (dK st).1).1 ⟨(dK (dK st).2).1.toArray⟩ L=L++[((gU (dK st).1).1,⟨(dK (dK st).2).1.toArray⟩)]:=by
  have:=mn (v:=⟨(dK (dK st).2).1.toArray⟩) L [] Iz;rw[List.append_nil]at this;rw[this];rfl
 have t0:(dK st).1=(aO [] (cu 65536) st).1:=rfl;have t1:(dK st).2=(aO [] (cu 65536) st).2:=rfl;have q:(dK (dK st).2).1=(aO [] (cu 65536) (dK st).2).1:=rfl;have r:(dK (dK st).2).2=(aO [] (cu 65536) (dK st).2).2:=rfl;rw[←t0,←t1]at c;rw[←q,←r]at s1;have o:=congrArg List.length c;have l1:=congrArg List.length s1;rw[aS]at o l1;have b0:=oR (dK st).1;have b1:=oR (dK (dK st).2).1;have hlen:=h.len;have b:=h.bytes;generalize(dK (dK st).2).2=st2 at*;generalize(dK (dK st).2).1=v at*;generalize(dK st).2=st1 at*;generalize(dK st).1=p at*;generalize(gU p).1=m at*;have f:(⟨v.toArray⟩:ByteArray).size=v.length:=by simp[ByteArray.size]
 refine⟨⟨by rw[←e];exact(oE h.sort).1,?_,?_,?_,?_,?_,?_,Or.inr ⟨L,_,rfl⟩⟩,e,d,g,?_⟩
 ·intro x a;rcases List.mem_append.1 a with a|a;·exact h.ok x a
  ·simp only[List.mem_singleton]at a;rw[a];exact ok
 ·intro x a;rcases List.mem_append.1 a with a|a;·exact h.owner x a
  ·simp only[List.mem_singleton]at a;rw[a];simp only;omega
 ·intro x a;rcases List.mem_append.1 a with a|a;·exact h.text x a
  ·simp only[List.mem_singleton]at a;rw[a];simp only;omega
 ·intro x a;rcases List.mem_append.1 a with a|a;·exact h.value x a
  ·simp only[List.mem_singleton]at a;rw[a];simp only[f];omega
 ·simp only[aS,List.length_cons,List.length_nil];omega
 ·rw[AX];have:cJ [((m:aJ),(⟨v.toArray⟩:ByteArray))]=v.length:=by simp[cJ,f]
  rw[this];omega
 ·rw[c,s1];simp only[mO];rw[l,List.append_assoc];rfl
structure dJ where
 tick:Int
 cls:Int
 num:Int
 fV:ByteArray
structure ActV where
 key:dJ
 reads:List CV
 writes:List CV
def dS(k:dJ):Bool:=
 decide (0≤k.tick)&&decide (k.tick≤1073741824)&&(decide (0≤k.cls)&&decide (k.cls≤2))&&(decide (0≤k.num)&&decide (k.num≤999999)&&!(k.cls==0&&k.num==0))&&
 (if k.cls=0 then k.fV.toList.isEmpty else(!k.fV.toList.isEmpty&&df k.fV&&!(k.cls==2&&k.num !=0)))
def jM(c:CV):Bool:=du c.nm&&decide (c.value.size≤65536)&&(!c.bI||c.value.toList.isEmpty)
def gN:List CV→Bool
 |[]=>true
 |c::r=>jM c&&(match r with|[]=>true|d::_=>decide (bQ c.nm d.nm<0))&&gN r
def fY(a:ActV):Bool:=dS a.key&&gN a.reads&&gN a.writes
def kg(b:Bool):List UInt8:=[if b then 1 else 0]
def om(c:CV):List UInt8:=aV (cM c.nm)++(kg c.bI++aV (aQ c.value))
def eW(l:List CV):List UInt8:=enc l.length++l.flatMap om
def sf(k:dJ):List UInt8:=enc k.tick.toNat++(enc k.cls.toNat++(enc k.num.toNat++aV (aQ k.fV)))
def cC(a:ActV):List UInt8:=sf a.key++(eW a.reads++eW a.writes)
theorem Fk(b:Bool)(r:List UInt8)(p:Nat):aO false cZ (kg b++r,p,0)=(b,(r,p+1,0)):=by
 have h:cZ (kg b++r)=(b,1,0):=by
  unfold cZ kg;cases b<;>simp
 rw[rm false cZ _ p _ _ h];rfl
theorem Cy(st:fX):(aO false cZ st).2.1.length≤st.1.length:=by
 unfold aO;split;·simp
 ·split;·simp
  ·simp only[List.length_drop];omega
def kB(st:fX):List UInt8×fX:=aO [] (cu 16777216) st
def mA:Nat→fX→List CV→Option (List CV×fX)
 |0,st,L=>some (L,st)
 |n+1,st,L=>
  if(gU (kB st).1).2≠0 then none else
  mA n (dK (aO false cZ (kB st).2).2).2 (L++[⟨(gU (kB st).1).1,⟨(dK (aO false cZ (kB st).2).2).1.toArray⟩,(aO false cZ (kB st).2).1⟩])
def jF(st:fX):Option (List CV×fX):=mA (aO 0 (bj (st.1.length:Int)) st).1.toNat (aO 0 (bj (st.1.length:Int)) st).2 []
def jx(l:List UInt8):Int×fX:=aO 0 (bj 1073741824) (l,0,0)
def ks(l:List UInt8):Int×fX:=aO 0 (bj 2) (jx l).2
def rdNum(l:List UInt8):Int×fX:=aO 0 (bj 999999) (ks l).2
def jm(l:List UInt8):List UInt8×fX:=kB (rdNum l).2
def iZ(l:List UInt8):dJ×fX:=(⟨(jx l).1,(ks l).1,(rdNum l).1,⟨(jm l).1.toArray⟩⟩,(jm l).2)
def nI(l:List UInt8):Option ActV:=
 match jF (iZ l).2 with
 |none=>none
 |some (a,st)=>match jF st with
  |none=>none
  |some (W,st2)=>if gQ st2=0∧fY ⟨(iZ l).1,a,W⟩=true then some ⟨(iZ l).1,a,W⟩else none
structure iB(c:CV):Prop where
 owner:c.nm.owner.size≤1048576
 text:c.nm.text.size≤1048576
theorem yT:∀(M:List CV)(p:Nat)(r:List UInt8)(L:List CV),(∀c∈M,jM c=true)→(∀c∈M,iB c)→∃b,mA M.length (M.flatMap om++r,p,0) L=some (L++M,(r,b,0))
 |[],p,r,L,_,_=>⟨p,by simp[mA]⟩
 |c::M,p,r,L,f,g=>by
  have a0:=f c (by simp);have e:=g c (by simp);simp only[jM,Bool.and_eq_true,decide_eq_true_eq]at a0;have a4:=dW c.nm;have b1:=e.owner;have b2:=e.text;have t0:kB ((c::M).flatMap om++r,p,0)=(cM c.nm,(kg c.bI++(aV (aQ c.value)++(M.flatMap om++r)),p+(aV (cM c.nm)).length,0)):=by
   unfold kB;rw[List.flatMap_cons,om,List.append_assoc,List.append_assoc,List.append_assoc];exact mz (cM c.nm) 16777216 (by omega) (by omega) _ p
  have t1:=Fk c.bI (aV (aQ c.value)++(M.flatMap om++r)) (p+(aV (cM c.nm)).length);have t2:∀q,dK (aV (aQ c.value)++(M.flatMap om++r),q,0)=(aQ c.value,(M.flatMap om++r,q+(aV (aQ c.value)).length,0)):=fun q=>by
   unfold dK;exact mz (aQ c.value) 65536 (by rw[aK];omega) (by rw[aK];omega) _ _
  have t3:gU (cM c.nm)=(c.nm,0):=Ig a0.1.1 (by omega);rw[List.length_cons,mA,t0];simp only;rw[t3];simp only[ne_eq,not_true_eq_false,if_false];rw[t1];simp only;rw[t2];simp only;obtain⟨b,h⟩:=yT M (p+(aV (cM c.nm)).length+1+(aV (aQ c.value)).length) r (L++[c]) (fun d a=>f d (by simp[a])) (fun d a=>g d (by simp[a]));refine⟨b,?_⟩;rw[show L++c::M=L++[c]++M by simp,←h];rfl
theorem JY(c:CV):3≤(om c).length:=by
 have a:=oR (cM c.nm);have b:=oR (aQ c.value);simp only[om,kg,aS,List.length_cons,List.length_nil];omega
theorem Bg:∀M:List CV,3*M.length≤(M.flatMap om).length
 |[]=>by simp
 |c::M=>by
  have a:=JY c;have b:=Bg M;simp only[List.flatMap_cons,aS,List.length_cons];omega
theorem kV:∀{l:List CV},gN l=true→∀c∈l,jM c=true
 |[],_,_,h=>by cases h
 |d::r,h,c,a=>by
  simp only[gN,Bool.and_eq_true]at h;rcases List.mem_cons.1 a with rfl|a;·exact h.1.1
  ·exact kV h.2 c a
theorem xm(M:List CV)(p:Nat)(r:List UInt8)(d:∀c∈M,jM c=true)(e:∀c∈M,iB c)(g:(eW M++r).length<9223372036854775808):∃a,jF (eW M++r,p,0)=some (M,(r,a,0)):=by
 have f:=Bg M;unfold jF;have hm:((M.length:Nat):Int)≤(((eW M++r).length:Nat):Int):=by
  rw[eW];simp only[aS];omega
 have b:M.length<9223372036854775808:=by omega
 simp only;generalize(((eW M++r).length:Nat):Int)=aP at hm;rw[eW,List.append_assoc,kr M.length aP b hm _ p];simp only[Int.toNat_natCast];obtain⟨a,h⟩:=yT M (p+(enc M.length).length) r [] d e;exact⟨a,h⟩
theorem Ie{a:ActV}(f:fY a=true)(r:a.key.fV.size≤16777216)(h:∀c∈a.reads,iB c)(i:∀c∈a.writes,iB c)(hlen:(cC a).length<9223372036854775808):nI (cC a)=some a:=by
 have g:=f;simp only[fY,Bool.and_eq_true]at f;obtain⟨⟨e,k⟩,hw⟩:=f;obtain⟨⟨t,c,n,li⟩,z,W⟩:=a;simp only at r h i e k hw;simp only[dS,Bool.and_eq_true,decide_eq_true_eq]at e;obtain⟨⟨⟨⟨t0,t1⟩,u,v⟩,⟨n0,n1⟩,_⟩,_⟩:=e;obtain⟨t,rfl⟩:∃q:Nat,t=(q:Int):=⟨t.toNat,by omega⟩;obtain⟨c,rfl⟩:∃q:Nat,c=(q:Int):=⟨c.toNat,by omega⟩;obtain⟨n,rfl⟩:∃q:Nat,n=(q:Int):=⟨n.toNat,by omega⟩;have o:cC ⟨⟨t,c,n,li⟩,z,W⟩=enc t++(enc c++(enc n++(aV (aQ li)++(eW z++eW W)))):=by
  simp[cC,sf]
 rw[o]at hlen⊢;obtain⟨l,j⟩:∃l,enc t++(enc c++(enc n++(aV (aQ li)++(eW z++eW W))))=l:=⟨_,rfl⟩;have d1:jx l=((t:Int),(enc c++(enc n++(aV (aQ li)++(eW z++eW W))),0+(enc t).length,0)):=by
  rw[←j];exact kr t 1073741824 (by omega) (by omega) _ 0
 have d2:∃p,ks l=((c:Int),(enc n++(aV (aQ li)++(eW z++eW W)),p,0)):=by
  rw[ks,d1];exact⟨_,kr c 2 (by omega) (by omega) _ _⟩
 obtain⟨w,d2⟩:=d2;have d3:∃p,rdNum l=((n:Int),(aV (aQ li)++(eW z++eW W),p,0)):=by
  rw[rdNum,d2];exact⟨_,kr n 999999 (by omega) (by omega) _ _⟩
 obtain⟨x,d3⟩:=d3;have d4:∃p,jm l=(aQ li,(eW z++eW W,p,0)):=by
  rw[jm,d3];exact⟨_,mz (aQ li) 16777216 (by rw[aK];omega) (by rw[aK];omega) _ _⟩
 obtain⟨m,d4⟩:=d4;have b:(eW z++(eW W++[])).length<9223372036854775808:=by
  simp only[aS,List.length_nil]at hlen⊢;omega
 obtain⟨s,d5⟩:=xm z m (eW W++[]) (kV k) h b;obtain⟨y,d6⟩:=xm W s [] (kV hw) i (by simp only[aS,List.length_nil]at b⊢;omega);rw[List.append_nil]at d5 d6;have d:iZ l=(⟨t,c,n,⟨(aQ li).toArray⟩⟩,(eW z++eW W,m,0)):=by
  rw[iZ,d1,d2,d3,d4]
 rw[j,nI,d];simp only;rw[d5];simp only;rw[d6];simp only;rw[if_pos ⟨rfl,g⟩];rfl
def ew(a b:dJ):Int:=aX (dU a.tick b.tick) (aX (dU a.cls b.cls) (aX (dU a.num b.num) (lz a.fV b.fV)))
theorem jA:ij ew:=
 (fh.lex (fh.lex (fh.lex Bm))).pull (fun k:dJ=>(k.tick,k.cls,k.num,k.fV)) (fun a b e=>by
  cases a;cases b;simpa using e)
def eS(L:List ActV)(a:ActV):Int×List ActV:=
 if fY a=false then(3,L)else
 match L.getLast? with
 |some b=>if ew a.key b.key≤0 then(32,L)else(0,L++[a])
 |none=>(0,L++[a])
def fj(L:List ActV)(E:List Ent):List Ent:=L.foldl (fun e a=>js a.writes e) E
theorem xr(L:List ActV)(a:ActV)(E:List Ent):fj (L++[a]) E=js a.writes (fj L E):=by
 simp[fj]
theorem Fs{L:List ActV}{k:Nat}{a:ActV}(h:L[k]? =some a)(E:List Ent):fj (L.take (k+1)) E=js a.writes (fj (L.take k) E):=by
 rw[List.take_add_one,h,Option.toList_some,xr]
structure eI(a:ActV):Prop where
 fV:a.key.fV.size≤100
 reads:∀c∈a.reads,ev c
 writes:∀c∈a.writes,ev c
 nr:a.reads.length≤6
 nw:a.writes.length≤6
theorem ev.cv{c:CV}(h:ev c):iB c:=⟨by have:=h.owner;omega,by have:=h.text;omega⟩
theorem EU{a:ActV}(h:fY a=true):dS a.key=true∧gN a.reads=true∧gN a.writes=true:=by
 simp only[fY,Bool.and_eq_true]at h;exact⟨h.1.1,h.1.2,h.2⟩
theorem rj{a:ActV}(h:fY a=true):∀c∈a.writes,du c.nm=true:=fun c b=>by
 have:=kV (EU h).2.2 c b;simp only[jM,Bool.and_eq_true]at this;exact this.1.1
theorem Ec{c:CV}(h:ev c):(om c).length≤500:=by
 have a:=h.owner;have b:=h.text;have d:=h.value;have e:=dW c.nm;have f:=aU (cM c.nm).length;have g:=aU (aQ c.value).length;have i:=aK c.value;simp only[om,aV,kg,aS,List.length_cons,List.length_nil];omega
theorem qP:∀(l:List CV),(∀c∈l,ev c)→(l.flatMap om).length≤500*l.length
 |[],_=>by simp
 |c::l,h=>by
  have b:=Ec (h c (by simp));have e:=qP l (fun d a=>h d (by simp[a]));simp only[List.flatMap_cons,aS,List.length_cons];omega
theorem eI.len{a:ActV}(h:eI a):(cC a).length≤6300:=by
 have e:=qP a.reads h.reads;have f:=qP a.writes h.writes;have g:=h.nr;have i:=h.nw;have j:=aU a.reads.length;have k:=aU a.writes.length;have l:=aU a.key.tick.toNat;have m:=aU a.key.cls.toNat;have n:=aU a.key.num.toNat;have b:=aU (aQ a.key.fV).length;have c:=aK a.key.fV;have d:=h.fV;simp only[cC,sf,eW,aV,aS];omega
theorem eI.dec{a:ActV}(h:eI a)(d:fY a=true):nI (cC a)=some a:=
 Ie d (by have:=h.fV;omega) (fun c b=>(h.reads c b).cv) (fun c b=>(h.writes c b).cv) (by have:=h.len;omega)
theorem Ho{a b:ActV}(d:eI a)(e:eI b)(f:fY a=true)(ob:fY b=true)(h:cC a=cC b):a=b:=by
 have c:=d.dec f;rw[h,e.dec ob]at c;exact(Option.some.inj c).symm
structure eH(L:List ActV):Prop where
 ok:∀a∈L,fY a=true
 small:∀a∈L,eI a
 len:L.length≤16
 ord:L.Pairwise (fun a b=>ew a.key b.key<0)
theorem eH.nil:eH []:=⟨fun _ h=>(by cases h),fun _ h=>(by cases h),Nat.zero_le _,List.Pairwise.nil⟩
theorem mI(L:List ActV)(a:ActV):((eS L a).1≠0∧(eS L a).2=L)∨((eS L a).1=0∧(eS L a).2=L++[a]∧fY a=true):=by
 unfold eS;cases h:fY a;·simp
 ·simp only[Bool.true_eq_false,if_false];split
  ·split;·exact .inl ⟨by simp,rfl⟩
   ·exact .inr ⟨rfl,rfl,trivial⟩
  ·exact .inr ⟨rfl,rfl,trivial⟩
theorem DW(L:List ActV)(a:ActV)(h:(eS L a).1=0):∀b,L.getLast?=some b→ew b.key a.key<0:=fun b c=>by
 unfold eS at h;split at h;·cases h
 ·rw[c]at h;simp only at h;split at h;·cases h
  ·have:=jA.lY b.key a.key;omega
theorem Cp:∀{L:List ActV},L.Pairwise (fun a b=>ew a.key b.key<0)→∀b,L.getLast?=some b→∀x∈L,ew x.key b.key≤0
 |[],_,_,h,_,_=>by cases h
 |[c],_,b,h,x,e=>by
  rw[List.mem_singleton.1 e];obtain rfl:c=b:=by simpa using h
  rw[jA.refl];exact Int.le_refl 0
 |c::d::L,g,b,h,x,e=>by
  have f:(d::L).getLast?=some b:=by simpa using h
  rcases List.mem_cons.1 e with rfl|e;·have:=(List.pairwise_cons.1 g).1 b (List.mem_of_getLast? f);omega
  ·exact Cp (List.pairwise_cons.1 g).2 b f x e
theorem eH.append{L:List ActV}{a:ActV}(h:eH L)(j:eI a)(l:L.length<16):eH (eS L a).2:=by
 rcases mI L a with⟨_,e⟩|⟨g,e,i⟩;·rw[e];exact h
 ·rw[e];refine⟨fun b c=>?_,fun b c=>?_,by rw[aS];simp;omega,?_⟩
  ·rcases List.mem_append.1 c with c|c;·exact h.ok b c
   ·rw[List.mem_singleton.1 c];exact i
  ·rcases List.mem_append.1 c with c|c;·exact h.small b c
   ·rw[List.mem_singleton.1 c];exact j
  ·refine List.pairwise_append.2 ⟨h.ord,List.pairwise_singleton _ _,fun x f y k=>?_⟩;rw[List.mem_singleton.1 k];have d:L≠[]:=by rintro rfl;cases f
   obtain⟨b,c⟩:∃b,L.getLast?=some b:=⟨L.getLast d,List.getLast?_eq_some_getLast d⟩;exact jA.IN (Cp h.ord b c x f) (DW L a g b c)
theorem jG:∀(L:List ActV)(E:List Ent)(m:Nat),cE m E→(∀a∈L,fY a=true)→(∀a∈L,eI a)→cE (m+6*L.length) (fj L E)
 |[],_,_,h,_,_=>h
 |a::L,E,m,h,e,f=>by
  have d:=f a (by simp);have g:=ru a.writes E m h d.writes (rj (e a (by simp)));have i:=jG L (js a.writes E) (m+a.writes.length) g (fun b c=>e b (by simp[c])) (fun b c=>f b (by simp[c]));have:=d.nw;exact i.more (by simp only[List.length_cons];omega)
theorem eH.take{L:List ActV}(h:eH L)(k:Nat):eH (L.take k):=
 ⟨fun a b=>h.ok a (List.mem_of_mem_take b),fun a b=>h.small a (List.mem_of_mem_take b),by have:=h.len;rw[List.length_take];omega,h.ord.sublist (List.take_sublist _ _)⟩
def Ty(w:World)(k:Nat)(t:TypeId):Prop:=∃cs,w.heap[k]? =some (.cells cs t (0,0))
theorem aq.ty{w:World}{g:Nat}{t:TypeId}{cs:Array Value}(h:aq w g t cs):Ty w g t:=⟨cs,h⟩
theorem Ty.one{w:World}{k:Nat}{t b:TypeId}(h:Ty w k t)(a:Ty w k b):t=b:=by
 obtain⟨cs,h⟩:=h;obtain⟨cs',a⟩:=a;rw[h]at a;injection a with a;injection a with _ c
theorem jw{w:World}{base:Nat}{e:TypeId}{size n:Nat}{v:Value}{xs:List Value}(h:w.ownsRow base e size v n xs){k:Nat}(a:v.ownBlock=some k):Ty w k e:=by
 rcases h.2 with⟨rfl,_⟩|⟨b,cap,cur,rfl,_,c,_⟩;·simp[Value.ownBlock]at a
 ·have:b=k:=by simpa[Value.ownBlock]using a
  subst this;exact⟨cur,c⟩
def fM(w:World)(T:Nat→Prop):Prop:=∀k,T k→¬Ty w k 177∧¬Ty w k 174∧¬Ty w k 119
theorem fM.nothing(w:World):fM w ag:=fun _ h=>h.elim
theorem fM.of{w:World}{T:Nat→Prop}(h:∀k,T k→∃t,Ty w k t∧t≠177∧t≠174∧t≠119):fM w T:=fun k e=>by
 obtain⟨t,a,b,c,d⟩:=h k e;exact⟨fun x=>b (a.one x),fun x=>c (a.one x),fun x=>d (a.one x)⟩
theorem fM.new{w w':World}{T:Nat→Prop}(f:Fr ag w w')(h:∀k,T k→k<w.heap.size)(hF:fM w T):fM w' T:=fun k a=>by
 have e:=f.block k (h k a) (fun x=>x);obtain⟨b,c,d⟩:=hF k a;exact⟨fun⟨cs,x⟩=>b ⟨cs,by rw[←e];exact x⟩,fun⟨cs,x⟩=>c ⟨cs,by rw[←e];exact x⟩,fun⟨cs,x⟩=>d ⟨cs,by rw[←e];exact x⟩⟩
theorem cm.cN{w w':World}{T:Nat→Prop}(c:Fr T w w')(b:fM w T):∀{a:Option Addr}{t:Tr},cm w a t→cm w' a t
 |_, .leaf,h=>h
 |_, .node _ _ _ _,⟨k,i,ra,e,f,g,d⟩=>⟨k,i,ra,e,f.cN c b,g.cN c b,d.fr c (fun x=>(b k x).1 d.ty)⟩
theorem eJ.cN{w w':World}{T:Nat→Prop}{s:Nat}{L:List Ent}(h:eJ w s L)(c:Fr T w w')(b:fM w T):eJ w' s L:=by
 obtain⟨t,⟨a,d,f⟩,e⟩:=h;exact⟨t,⟨a,d.fr c (fun x=>(b s x).2.1 d.ty),f.cN c b⟩,e⟩
def dV(w:World)(v:Value)(l:List CV):Prop:=w.ownsRow 0 119 7 v l.length (l.flatMap CV.cells)
theorem dV.cN{w w':World}{T:Nat→Prop}{v:Value}{l:List CV}(h:dV w v l)(b:Fr T w w')(a:fM w T):dV w' v l:=
 aL h b (fun k c d=>(a k d).2.2 (jw h c))
theorem dV.ao{w w':World}{v:Value}{l:List CV}(h:dV w v l)(a:Fr ag w w'):dV w' v l:=h.cN a (fM.nothing w)
theorem dV.nil(w:World):dV w (.slice none 0 0) []:=⟨rfl, .inl ⟨rfl,rfl⟩⟩
theorem dV.cl{w:World}{v:Value}{l:List CV}(h:dV w v l):∃A n c,v= .slice A n c∧n=l.length∧n≤c∧CL w (fun _=>True) A n l:=by
 obtain⟨A,n,c,rfl,a,d⟩:=aG h;refine⟨A,n,c,rfl,a.out,?_,?_⟩
 ·rcases h.2 with⟨e,_⟩|⟨g,cap,cur,e,_,_,b,_⟩;·cases e;exact Nat.le_refl _
  ·cases e;exact b
 ·have e:=a.out;subst e;exact⟨(Rd.gR h).any,rfl⟩
def dJ.cells(k:dJ):List Value:=[.int .i64 k.tick, .int .i64 k.cls, .int .i64 k.num, .string k.fV]
def cF(w:World)(cs:List Value)(a:ActV):Prop:=∃b c,cs=a.key.cells++[b,c]∧dV w b a.reads∧dV w c a.writes
theorem cF.cN{w w':World}{T:Nat→Prop}{cs:List Value}{a:ActV}(h:cF w cs a)(c:Fr T w w')(b:fM w T):cF w' cs a:=by
 obtain⟨g,i,e,d,f⟩:=h;exact⟨g,i,e,d.cN c b,f.cN c b⟩
theorem cF.ao{w w':World}{cs:List Value}{a:ActV}(h:cF w cs a)(b:Fr ag w w'):cF w' cs a:=h.cN b (fM.nothing w)
theorem cF.len{w:World}{cs:List Value}{a:ActV}(h:cF w cs a):cs.length=6:=by
 obtain⟨b,c,rfl,_⟩:=h;rfl
def dG(w:World):List (List Value)→List ActV→Prop
 |[],[]=>True
 |c::cs,a::l=>cF w c a∧dG w cs l
 |_,_=>False
theorem dG.cN{w w':World}{T:Nat→Prop}(b:Fr T w w')(a:fM w T):∀{cs:List (List Value)}{l:List ActV},dG w cs l→dG w' cs l
 |[],[],_=>trivial
 |_::_,_::_,h=>⟨h.1.cN b a,dG.cN b a h.2⟩
 |[],_::_,h=>h.elim
 |_::_,[],h=>h.elim
theorem dG.snoc{w:World}:∀{cs:List (List Value)}{l:List ActV}{c:List Value}{a:ActV},dG w cs l→cF w c a→dG w (cs++[c]) (l++[a])
 |[],[],_,_,_,h=>⟨h,trivial⟩
 |_::_,_::_,_,_,h,k=>⟨h.1,dG.snoc h.2 k⟩
 |[],_::_,_,_,h,_=>h.elim
 |_::_,[],_,_,h,_=>h.elim
theorem dG.len{w:World}:∀{cs:List (List Value)}{l:List ActV},dG w cs l→cs.length=l.length
 |[],[],_=>rfl
 |_::_,_::_,h=>by simp[dG.len h.2]
 |[],_::_,h=>h.elim
 |_::_,[],h=>h.elim
theorem dG.at_{w:World}:∀{cs:List (List Value)}{l:List ActV}{k:Nat},dG w cs l→k<l.length→∃c a,cs[k]? =some c∧l[k]? =some a∧cF w c a∧∀j x,c[j]? =some x→cs.flatten[k*6+j]? =some x
 |c::cs,a::l,0,h,_=>⟨c,a,rfl,rfl,h.1,fun j x b=>by
   rw[List.flatten_cons,Nat.zero_mul,Nat.zero_add,List.getElem?_append_left (List.getElem?_eq_some_iff.1 b).1];exact b⟩
 |c::cs,a::l,k+1,h,d=>by
  obtain⟨f,e,g,i,m,n⟩:=dG.at_ (k:=k) h.2 (by simpa using d);refine⟨f,e,by simpa using g,by simpa using i,m,fun j x b=>?_⟩;rw[List.flatten_cons,List.getElem?_append_right (by rw[h.1.len];omega),h.1.len,show(k+1)*6+j-6=k*6+j by omega];exact n j x b
 |[],_::_,_,h,_=>h.elim
 |_::_,[],_,h,_=>h.elim
 |[],[],_,_,d=>absurd d (by simp)
theorem dG.take{w:World}:∀{cs:List (List Value)}{l:List ActV}(k:Nat),dG w cs l→dG w (cs.take k) (l.take k)
 |[],[],_,_=>by simp[dG]
 |_::_,_::_,0,_=>by simp[dG]
 |_::_,_::_,k+1,h=>⟨h.1,dG.take k h.2⟩
 |[],_::_,_,h=>h.elim
 |_::_,[],_,h=>h.elim
def jZ(w:World)(v:Value)(l:List ActV):Prop:=∃cs,w.ownsRow 0 46 6 v l.length cs.flatten∧dG w cs l
theorem jZ.cN{w w':World}{T:Nat→Prop}{v:Value}{l:List ActV}(h:jZ w v l)(a:Fr T w w')(d:fM w T)(e:∀k,v.ownBlock=some k→¬T k):jZ w' v l:=by
 obtain⟨cs,b,c⟩:=h;exact⟨cs,aL b a e,c.cN a d⟩
theorem jZ.ao{w w':World}{v:Value}{l:List ActV}(h:jZ w v l)(a:Fr ag w w'):jZ w' v l:=h.cN a (fM.nothing w) (fun _ _ x=>x)
theorem jZ.nil(w:World):jZ w (.slice none 0 0) []:=⟨[],⟨rfl, .inl ⟨rfl,rfl⟩⟩,trivial⟩
def fp(l:List CV)(k:Nat):Bool:=match l[k]? with
 |some c=>jM c&&(match k with|0=>true|j+1=>match l[j]? with|some d=>decide (bQ d.nm c.nm<0)|none=>true)
 |none=>true
theorem sZ:∀(l:List CV),gN l=true↔∀k,k<l.length→fp l k=true
 |[]=>by simp[gN]
 |[c]=>by
  simp only[gN,Bool.and_true,List.length_singleton];constructor
  ·intro h k b;obtain rfl:k=0:=by omega
   simp[fp,h]
  ·intro h;have:=h 0 (by omega);simpa[fp]using this
 |c::d::r=>by
  have j:=sZ (d::r);have e:gN (c::d::r)=(jM c&&decide (bQ c.nm d.nm<0)&&gN (d::r)):=rfl;rw[e];simp only[Bool.and_eq_true];rw[j];constructor
  ·rintro⟨⟨g,i⟩,f⟩k b;rcases k with _|_|k;·simp[fp,g]
   ·have a:=f 0 (by simp);simp only[fp,List.getElem?_cons_zero,Bool.and_true]at a;simp[fp,a];simpa using i
   ·have a:=f (k+1) (by simpa using b);simpa[fp]using a
  ·intro h;refine⟨⟨?_,?_⟩,fun k b=>?_⟩;·have:=h 0 (by simp);simpa[fp]using this
   ·have:=h 1 (by simp);simp[fp]at this;simpa using this.2
   ·have:=h (k+1) (by simpa using b);rcases k with _|k;·simp[fp]at this⊢;exact this.1
    ·simpa[fp]using this
theorem IX{l:List CV}{k:Nat}(a:k<l.length)(h:fp l k=false):gN l=false:=by
 cases e:gN l;·rfl
 ·have:=(sZ l).1 e k a;rw[h]at this;cases this
theorem IW{l:List CV}(h:∀k,k<l.length→fp l k=true):gN l=true:=(sZ l).2 h
theorem Co{l:List CV}{c:CV}(h:l[0]? =some c):fp l 0=jM c:=by
 simp[fp,h]
theorem Cn{l:List CV}{k:Nat}{c d:CV}(h:l[k+1]? =some c)(a:l[k]? =some d):fp l (k+1)=(jM c&&decide (bQ d.nm c.nm<0)):=by
 simp[fp,h,a]
theorem gH:(Tryz.prog.info? 43).map (·.size)=some 4:=by kernel_rfl
theorem bL:(Tryz.prog.info? 46).map (·.size)=some 6:=by kernel_rfl
def tH(w:World)(k:dJ)(e:Ending)(w':World):Prop:=∃c:Int,e= .returned (.int .i64 c)∧(c==0)=dS k∧Fr ag w w'
theorem xN(k:dJ)(w:World)(v:k.fV.size≤1099511627776):
  Calls Tryz.prog 111 #[.agg k.cells.toArray] w (tH w k):=by
 obtain⟨t,c,n,s⟩:=k;simp only at v;have CV:Hid (∀w',Calls Tryz.prog 151 #[.string s] w' (aH w' (.bool (df s)))):=fun w'=>oh s w' v;obtain⟨va,d⟩:∃va,df s=va:=⟨_,rfl⟩;rw[d]at CV;obtain⟨em,p⟩:∃em,s.toList.isEmpty=em:=⟨_,rfl⟩;have f:Hid (dS ⟨t,c,n,s⟩=(decide (0≤t)&&decide (t≤1073741824)&&(decide (0≤c)&&decide (c≤2))&&(decide (0≤n)&&decide (n≤999999)&&!(c==0&&n==0))&&(if c=0 then em else(!em&&va&&!(c==2&&n !=0))))):=by
  rw[←d,←p];rfl
 have o:s.toList.isEmpty=em:=p;clear p;clear d v;unfold dJ.cells;go_enter Tryz.func111,Tryz.ntmps111;go_wp2_with(refine aB rfl 43 (.tmp 0) rfl _ rfl ?_);intro w1 n1;have A:=af n1.fr;have q:=af n1.aE;clear n1;generalize w.heap.size=g at*;have I:w1.cell? ⟨g,0,none⟩=some (.int .i64 t):=q.out.cell 0;have F:w1.cell? ⟨g,1,none⟩=some (.int .i64 c):=q.out.cell 1;have G:w1.cell? ⟨g,2,none⟩=some (.int .i64 n):=q.out.cell 2;have c3:w1.cell? ⟨g,3,none⟩=some (.string s):=q.out.cell 3;clear q;have done:∀k:Int,(k==0)=dS ⟨t,c,n,s⟩→tH w ⟨t,c,n,s⟩ (.returned (.int .i64 k)) w1:=fun k H=>⟨k,rfl,H,A.out⟩;have j:=af done;clear done;by_cases h:t<0
 ·have t1:decide (t<0)=true:=decide_eq_true h;have Z:Hid (((2:Int)==0)=dS ⟨t,c,n,s⟩):=by rw[Hid,f.out,cD (show¬0≤t by omega)];rfl
  clear h f;go_wp2;go_ret;exact j.out _ Z.out
 have D:=af h;have t1:decide (t<0)=false:=cD (by omega);clear h;by_cases h:1073741824<t
 ·have t2:decide (1073741824<t)=true:=decide_eq_true h;have Z:Hid (((2:Int)==0)=dS ⟨t,c,n,s⟩):=by rw[Hid,f.out,cD (show¬t≤1073741824 by omega)];simp
  clear h f;go_wp2;go_ret;exact j.out _ Z.out
 have E:=af h;have t2:decide (1073741824<t)=false:=cD (by omega);clear h;by_cases h:c<0
 ·have t3:decide (c<0)=true:=decide_eq_true h;have Z:Hid (((11:Int)==0)=dS ⟨t,c,n,s⟩):=by rw[Hid,f.out,cD (show¬0≤c by omega)];simp
  clear h f;go_wp2;go_ret;exact j.out _ Z.out
 have y:=af h;have t3:decide (c<0)=false:=cD (by omega);clear h;by_cases h:2<c
 ·have t4:decide (2<c)=true:=decide_eq_true h;have Z:Hid (((11:Int)==0)=dS ⟨t,c,n,s⟩):=by rw[Hid,f.out,cD (show¬c≤2 by omega)];simp
  clear h f;go_wp2;go_ret;exact j.out _ Z.out
 have z:=af h;have t4:decide (2<c)=false:=cD (by omega);clear h;by_cases h:n<0
 ·have t5:decide (n<0)=true:=decide_eq_true h;have Z:Hid (((2:Int)==0)=dS ⟨t,c,n,s⟩):=by rw[Hid,f.out,cD (show¬0≤n by omega)];simp
  clear h f;go_wp2;go_ret;exact j.out _ Z.out
 have B:=af h;have t5:decide (n<0)=false:=cD (by omega);clear h;by_cases h:999999<n
 ·have t6:decide (999999<n)=true:=decide_eq_true h;have Z:Hid (((2:Int)==0)=dS ⟨t,c,n,s⟩):=by rw[Hid,f.out,cD (show¬n≤999999 by omega)];simp
  clear h f;go_wp2;go_ret;exact j.out _ Z.out
 have C:=af h;have t6:decide (999999<n)=false:=cD (by omega);clear h;have b:Hid (dS ⟨t,c,n,s⟩=(!(c==0&&n==0)&&(if c=0 then em else(!em&&va&&!(c==2&&n !=0))))):=by
  rw[Hid,f.out,de (show 0≤t from Int.not_lt.1 D.out),de (show t≤1073741824 from Int.not_lt.1 E.out),de (show 0≤c from Int.not_lt.1 y.out),de (show c≤2 from Int.not_lt.1 z.out),de (show 0≤n from Int.not_lt.1 B.out),de (show n≤999999 from Int.not_lt.1 C.out)];simp
 clear f D E y z B C;by_cases h:c=0
 ·have t7:(c==0)=true:=by rw[beq_iff_eq];exact h
  have r:=af h;clear h;by_cases h:n=0
  ·have t8:(n==0)=true:=by rw[beq_iff_eq];exact h
   have Z:Hid (((2:Int)==0)=dS ⟨t,c,n,s⟩):=by rw[Hid,b.out,t7,t8];rfl
   clear h b r;go_wp2;go_ret;exact j.out _ Z.out
  ·have t8:(n==0)=false:=by rw[beq_eq_false_iff_ne];exact h
   cases a:em
   ·have Z:Hid (((3:Int)==0)=dS ⟨t,c,n,s⟩):=by rw[Hid,b.out,t7,t8,if_pos r.out,a];rfl
    rw[a]at o;clear h b r a;go_wp2;go_ret;exact j.out _ Z.out
   ·have Z:Hid (((0:Int)==0)=dS ⟨t,c,n,s⟩):=by rw[Hid,b.out,t7,t8,if_pos r.out,a];rfl
    rw[a]at o;clear h b r a;go_wp2;go_ret;exact j.out _ Z.out
 ·have t7:(c==0)=false:=by rw[beq_eq_false_iff_ne];exact h
  have l:Hid (dS ⟨t,c,n,s⟩=(!em&&va&&!(c==2&&n !=0))):=by rw[Hid,b.out,t7,if_neg h];simp
  clear h b;cases a:em
  ·rw[a]at o;have m:Hid (dS ⟨t,c,n,s⟩=(va&&!(c==2&&n !=0))):=by rw[Hid,l.out,a];rfl
   clear l a;go_wp2_with fail;refine(CV.out _).mono ?_;rintro e w2⟨rfl,f2⟩;have F:w2.cell? ⟨g,1,none⟩=some (.int .i64 c):=f2.ak F (fun x=>x);have G:w2.cell? ⟨g,2,none⟩=some (.int .i64 n):=f2.ak G (fun x=>x);have u:=af (A.out.trans f2);clear f2 j CV;cases d:va
   ·have Z:Hid (((12:Int)==0)=dS ⟨t,c,n,s⟩):=by rw[Hid,m.out,d];rfl
    clear m d;go_wp2;go_ret;exact⟨_,rfl,Z.out,u.out⟩
   ·have i:Hid (dS ⟨t,c,n,s⟩=!(c==2&&n !=0)):=by rw[Hid,m.out,d];rfl
    clear m d;cases t8:c==2
    ·have Z:Hid (((0:Int)==0)=dS ⟨t,c,n,s⟩):=by rw[Hid,i.out,t8];rfl
     clear i;go_wp2;go_ret;exact⟨_,rfl,Z.out,u.out⟩
    ·cases t9:n !=0
     ·have Z:Hid (((0:Int)==0)=dS ⟨t,c,n,s⟩):=by rw[Hid,i.out,t8,t9];rfl
      clear i;go_wp2;go_ret;exact⟨_,rfl,Z.out,u.out⟩
     ·have Z:Hid (((3:Int)==0)=dS ⟨t,c,n,s⟩):=by rw[Hid,i.out,t8,t9];rfl
      clear i;go_wp2;go_ret;exact⟨_,rfl,Z.out,u.out⟩
  ·rw[a]at o;have Z:Hid (((12:Int)==0)=dS ⟨t,c,n,s⟩):=by rw[Hid,l.out,a];rfl
   clear l a;go_wp2;go_ret;exact j.out _ Z.out
end Go.Proofs.YtphjagkehiklkaaGreatDoor
