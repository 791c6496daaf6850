/- Texts. -/
import Derived.Test.YtphjagkehiklkaaGreatDoorWK03
import Derived.Test.YtphjagkehiklkaaGreatDoorWK17
set_option linter.unusedVariables false
set_option linter.unusedSimpArgs false
set_option maxRecDepth 100000
set_option maxHeartbeats 4000000
namespace Go.Proofs.YtphjagkehiklkaaGreatDoor
open Go.RowKit Go.Shelf
theorem sv(w:World)(s:ByteArray):∃c w1,(convert 9 61 (.string s)).run Tryz.prog w= .ok (.slice (some ⟨w.heap.size,0,none⟩) s.size c) w1∧Fr ag w w1∧Rd w1 (fun k=>k=w.heap.size) 1 (some ⟨w.heap.size,0,none⟩) s.size ((aR s).map bv):=by
 refine⟨_,_,Lib.run_convert_string_bytes w 9 61 5 s Tryz.underlying9 Tryz.underlying61 Tryz.underlying5,⟨rfl,rfl,rfl,?_,fun k d _=>Lib.bytesWorld_at_old w _ s k d⟩,?_,fun _=>⟨_,rfl,rfl,fun j u hu=>?_⟩⟩;·rw[Lib.bytesWorld_size];omega
 ·rw[List.length_map,aO,Nat.mul_one]
 ·rw[List.getElem?_map]at hu;cases a:(aR s)[j]? with
  |none=>rw[a]at hu;cases hu
  |some x=>
   rw[a]at hu;simp only[Option.map_some,Option.some.injEq]at hu;have b:j<s.size:=by rw[←aO];exact(List.getElem?_eq_some_iff.1 a).1
   rw[show(⟨w.heap.size,0,none⟩:Addr).add j=⟨w.heap.size,j,none⟩by unfold Addr.add;split<;>simp_all,Lib.bytesWorld_cell w _ s j b];unfold aR at a;rw[List.getD_eq_getElem?_getD,a,←hu];rfl
theorem aZ{P:Program}{fn:Func}{p q:Tmp}{ty:TypeId}(h:fn.results=#[.cell p ty, .tmp q])(tmps:Array Value)(w:World)(g:Nat)(t:TypeId)(cs:Array Value)(fr:Nat×Nat)(d:TypeDesc)
  (i:tmps.getD p undef= .pointer (some ⟨g,0,none⟩))(e:w.heap[g]? =some (.cells cs t fr))
  (hu:P.underlying ty=some d)(c:(match d with| .struct _| .array _ _=>true|_=>false)=true)(f:(P.info? ty).map (·.size)=some cs.size)(v:Value)(j:tmps.getD q undef=v):
  (results fn tmps).run P w= .ok (.tuple #[.agg cs,v]) w:=by
 have a:tmps[p]?.getD undef= .pointer (some ⟨g,0,none⟩):=by simpa using i
 have b:tmps[q]?.getD undef=v:=by simpa using j
 simp[results,h,a,b,asAddr,run_loadVar_row w g t ty cs fr d e hu c f]
def dS(l:List UInt8):Int×(List UInt8×Nat×Int):=aN 0 (bp 20) (l,0,0)
def j7(u:gT)(st:List UInt8×Nat×Int):List UInt8×(List UInt8×Nat×Int):=if u.owner then aN [] (cq 16777216) st else([],st)
def mK(u:gT)(st:List UInt8×Nat×Int):Int×(List UInt8×Nat×Int):=if u.number then aN 0 (bp 1073741824) st else(0,st)
def oD(u:gT)(st:List UInt8×Nat×Int):Int×(List UInt8×Nat×Int):=if u.index then aN 0 (bp u.aP) st else(0,st)
def pJ(u:gT)(st:List UInt8×Nat×Int):List UInt8×(List UInt8×Nat×Int):=if u.text then aN [] (cq 32) st else([],st)
def fZ(st:List UInt8×Nat×Int):Int:=if st.2.2=0 then(if 0<st.1.length then 5 else 0)else st.2.2
def fG(u:gT)(l:List UInt8):aK×(List UInt8×Nat×Int):=
 (⟨(dS l).1,⟨(j7 u (dS l).2).1.toArray⟩,(mK u (j7 u (dS l).2).2).1,(oD u (mK u (j7 u (dS l).2).2).2).1,⟨(pJ u (oD u (mK u (j7 u (dS l).2).2).2).2).1.toArray⟩⟩,(pJ u (oD u (mK u (j7 u (dS l).2).2).2).2).2)
theorem ue(l:List UInt8):0≤(dS l).1∧(dS l).1≤20:=by
 unfold dS aN;simp only[ne_eq,not_true_eq_false,if_false];split;·omega
 next h=>
  simp only[bp]at h⊢;split at h;·omega
  next a=>
   have b:(pn l 9).2.2=0:=by omega
   have:¬(20:Int)<((pn l 9).1:Int):=fun e=>a ⟨b,e⟩;omega
def jf(k:Int)(c:ByteArray)(b a:Int)(d:ByteArray):Array Value:=#[.int .i64 k, .string c, .int .i64 b, .int .i64 a, .string d]
theorem Et(k:Int):Tryz.prog.built 106 [(0, .int .i64 k)]=some (jf k ByteArray.empty 0 0 ByteArray.empty):=by kernel_rfl
theorem Es:Tryz.prog.built 106 []=some (jf 0 ByteArray.empty 0 0 ByteArray.empty):=by kernel_rfl
theorem ly:(Tryz.prog.info? 106).map (·.size)=some 5:=by kernel_rfl
theorem uA:(Tryz.prog.info? 41).map (·.size)=some 1:=by kernel_rfl
theorem mO:(Tryz.prog.info? 3).map (·.size)=some 1:=by kernel_rfl
theorem An(w:World):(zeroValue 106).run Tryz.prog w= .ok rN w:=by kernel_rfl
structure RS(w W:World)(g a c b:Nat)(S:Nat→Prop)(us nm:Array Value)(st:List UInt8×Nat×Int):Prop where
 rr:Rr W g S st.1 st.2.1 st.2.2
 nb:aq W a 106 nm
 ub:aq W c 189 us
 rb:aq W b 106 (jf 0 ByteArray.empty 0 0 ByteArray.empty)
 fr:Fr ag w W
structure Ao(w:World)(g a c b:Nat)(S:Nat→Prop):Prop where
 g_:w.heap.size≤g
 n_:w.heap.size≤a
 ne:a≠b
 sn:¬S a
theorem RS.step{w W W':World}{g d j f:Nat}{S:Nat→Prop}{us nm:Array Value}{st b:List UInt8×Nat×Int}(h:RS w W g d j f S us nm st)(a:Ao w g d j f S)(k:fY W g S W' b.1 b.2.1 b.2.2):RS w W' g d j f S us nm b:=by
 obtain⟨⟨A,n,c,l,_,_⟩,_,_⟩:=h.rr;have ne:∀{x:Nat}{t:TypeId}{cs:Array Value},aq W x t cs→t≠193→¬eC g x:=fun o m e=>eo o l m e;exact⟨k.rr,h.nb.fr k.fr (ne h.nb (by decide)),h.ub.fr k.fr (ne h.ub (by decide)),h.rb.fr k.fr (ne h.rb (by decide)),h.fr.aw k.fr (fun i q e=>by have p:i=g:=e;have:=a.g_;omega)⟩
theorem RS.put{w W W':World}{g b l j:Nat}{S:Nat→Prop}{us nm d:Array Value}{st:List UInt8×Nat×Int}(h:RS w W g b l j S us nm st)(a:Ao w g b l j S)(r:aq W' b 106 d)(f:Fr (fun k=>k=b) W W'):RS w W' g b l j S us d st:=by
 have q:=h.rr;obtain⟨⟨A,n,c,m,_,_⟩,_,_⟩:=h.rr;refine⟨q.ks f (fun e=>eo h.nb m (by decide) e.symm) (fun k p e=>?_),r,h.ub.fr f (fun e=>eo h.nb h.ub (by decide) e.symm),h.rb.fr f (fun e=>a.ne e.symm),h.fr.aw f (fun i s e=>by have o:i=b:=e;have:=a.n_;omega)⟩;have o:k=b:=e;rw[o]at p;exact a.sn p
def Ee(w:World)(nm:aK)(st:List UInt8×Nat×Int)(e:Ending)(w':World):Prop:=∃n k,e= .returned (.tuple #[.agg n, .int .i64 k])∧Fr ag w w'∧
 ((fZ st=0∧dA nm=true∧n=nm.cells.toArray∧k=0)∨(¬(fZ st=0∧dA nm=true)∧n=jf 0 ByteArray.empty 0 0 ByteArray.empty∧k=3))
theorem AF(s:ByteArray)(u:gT)(w:World)(bY:eE w)(cd:s.size≤16777216)(hu:ig[(dS (aR s)).1.toNat]? =some u):
  Calls Tryz.prog 118 #[.string s] w (Ee w (fG u (aR s)).1 (fG u (aR s)).2):=by
 have bE:=af (ue (aR s));obtain⟨l,be⟩:∃l,aR s=l:=⟨_,rfl⟩;have bl:Hid (l.length≤16777216):=by rw[←be];simp only[Hid];rw[aO];exact cd
 rw[be]at hu bE;rw[be];obtain⟨k,N⟩:∃k:Nat,(dS l).1=(k:Int):=⟨(dS l).1.toNat,by have:=bE.out;omega⟩;rw[N,Int.toNat_natCast]at hu;have cb:Hid (∀j v,u.cells[j]? =some v→w.cell? ⟨0,k*6+j,none⟩=some v):=bY.row k _ hu;have bk:Hid (dS l=((k:Int),(dS l).2)):=by simp only[Hid];rw[←N]
 have K:(k:Int)<21:=by have:=bE.out;rw[N]at this;omega
 have cw:k<21:=by omega
 have cx:(0:Int)≤(k:Int):=by omega
 have aI:Hid (s.size=l.length∧aR s=l):=⟨by rw[←be,aO],be⟩;have b4:Hid (∀n:aK,n.owner.size≤1099511627776→n.text.size≤1099511627776→∀w',Fr ag w w'→Calls Tryz.prog 115 #[.agg n.cells.toArray] w' (Checked w' n)):=fun n bb bc w' f=>kS n w' (bY.ar f) bb bc;have aG:Hid (∀(st:List UInt8×Nat×Int)(aP:Int),(aN [] (cq aP) st).1.length≤16777216):=fun st aP=>by
  unfold aN;split;·simp
  ·split;·simp
   next h=>
    simp only[cq]at h⊢;split;·simp
    ·split;·simp
     ·split;·simp
      next bb bc cl=>
       simp only[List.length_take];omega
 obtain⟨wd,I,H,bi,J,D⟩:=u;obtain⟨G,ab⟩:∃a,j7 ⟨wd,I,H,bi,J,D⟩ (dS l).2=a:=⟨_,rfl⟩;obtain⟨a2,aV⟩:∃a,mK ⟨wd,I,H,bi,J,D⟩ G.2=a:=⟨_,rfl⟩;obtain⟨a3,aW⟩:∃a,oD ⟨wd,I,H,bi,J,D⟩ a2.2=a:=⟨_,rfl⟩;obtain⟨a4,ac⟩:∃a,pJ ⟨wd,I,H,bi,J,D⟩ a3.2=a:=⟨_,rfl⟩;have bB:fG ⟨wd,I,H,bi,J,D⟩ l=(⟨(k:Int),⟨G.1.toArray⟩,a2.1,a3.1,⟨a4.1.toArray⟩⟩,a4.2):=by
  rw[fG,ab,aV,aW,ac,N]
 rw[bB];obtain⟨nm,C⟩:∃nm:aK,nm=⟨(k:Int),⟨G.1.toArray⟩,a2.1,a3.1,⟨a4.1.toArray⟩⟩:=⟨_,rfl⟩;rw[←C];have bT:=af C;clear C;have av:=af ab;have ax:=af aV;have aA:=af aW;have aB:=af ac;have b7:Hid (G.1.length≤16777216):=by
  rw[←ab];unfold j7;split;·exact aG.out _ _
  ·simp[Hid]
 have b9:Hid (a4.1.length≤16777216):=by
  rw[←ac];unfold pJ;split;·exact aG.out _ _
  ·simp[Hid]
 clear hu bY N bE bB ab aV aW ac aG be cd;go_enter Tryz.func118,Tryz.ntmps118;go_wp2_with(refine ak rfl 106 rfl rN An (jf 0 ByteArray.empty 0 0 ByteArray.empty) rfl ?_);intro w1 n1;have b5:=af n1.fr;have br:=af n1.aH;have aC:Sz w w.heap.size:=Nat.le_refl _;clear n1;generalize w.heap.size=B at*;obtain⟨cj,w2,bZ,aY,bA⟩:=sv w1 s;have bS:=af (b5.out.trans aY);have bs:=af (br.out.fr aY (fun x=>x));have ca:=af bA;clear aY bA br b5;generalize w1.heap.size=gc at*;go_wp2_with fail;refine(ov _ _ cj l _ _ (by have h:=ca.out;rw[aI.out.2]at h;exact h) (by have:=aI.out.1;have:=bl.out;omega)).mono ?_;rintro e w3⟨g,S,rfl,a1,f3,b0,bv⟩;have bV:=af a1;have b6:=af (bS.out.trans f3);have aM:=af (bs.out.fr f3 (fun x=>x));have Z:Hid (w.heap.size≤g∧g<w3.heap.size):=⟨by have:=bS.out.size;omega,by obtain⟨⟨A,n,c,bd,_,_⟩,_,_⟩:=a1;exact bd.lt⟩;have aa:Hid (∀k,S k→k<w3.heap.size):=fun k N=>(bv k N).2;clear a1 f3 b0 bv bZ ca bs bS;go_wp2_with fail;refine(jW g S l 0 0 20 _ bV.out).mono ?_;rintro e X⟨rfl,m⟩;rw[show(aN 0 (bp 20) (l,0,0)).1=(k:Int)from congrArg Prod.fst bk.out];have bt:Hid (fY w3 g S X (dS l).2.1 (dS l).2.2.1 (dS l).2.2.2):=m;have ch:=af (Et (k:Int));have bC:Hid (Fr ag w X):=b6.out.aw m.fr (fun i bz e=>by have V:i=g:=e;have:=Z.out;omega);have aQ:Hid (aq X B 106 (jf 0 ByteArray.empty 0 0 ByteArray.empty)):=by
  obtain⟨⟨A,n,c,bd,_,_⟩,_,_⟩:=bV.out;exact aM.out.fr m.fr (fun e=>eo aM.out bd (by decide) e)
 have T:Hid (w3.heap.size≤X.heap.size):=m.fr.size;clear m aM b6 bV;go_wp2_with(refine eA rfl 106 _ rfl (jf (k:Int) ByteArray.empty 0 0 ByteArray.empty) _ (by simp only[List.map_toArray,List.map_cons,List.map_nil];rfl) ch.out (bj.go ?yC));unfold bj;go_wp2_with(refine ak rfl 106 rfl rN An (jf 0 ByteArray.empty 0 0 ByteArray.empty) rfl ?_);intro co cf;have a9:=af cf;clear cf;generalize bw:X.heap.size=o at*;have M:=af bw;clear bw;have bq:Hid (aq co o 106 (jf 0 ByteArray.empty 0 0 ByteArray.empty)):=by have h:=a9.out.aH;rw[M.out]at h;exact h
 refine ai rfl 106 (.tmp 5) _ rfl o (jf (k:Int) ByteArray.empty 0 0 ByteArray.empty) rfl rfl _ _ bq.out ly rfl (by simp[jf,Value.oneCell']) ?_;intro bf cc f6;have bW:Hid (Rr bf g S (dS l).2.1 (dS l).2.2.1 (dS l).2.2.2):=(bt.out.rr.kh a9.out.fr).ks f6 (fun e=>by have V:g=o:=e;have:=Z.out;have:=T.out;omega) (fun k N e=>by have V:k=o:=e;have:=aa.out k N;have:=T.out;omega);have bg:Hid (Fr ag w bf):=(bC.out.trans a9.out.fr).aw f6 (fun i bz e=>by have V:i=o:=e;have:=M.out;have:=bC.out.size;omega);have NE:Hid (o≠B):=by have:=aQ.out.lt;have:=M.out;simp only[Hid];omega
 have aS:Hid (aq bf B 106 (jf 0 ByteArray.empty 0 0 ByteArray.empty)):=(aQ.out.fr a9.out.fr (fun x=>x)).fr f6 (fun e=>NE.out (show B=o from e).symm);have Q:=af cc;have bG:Hid (w.heap.size≤o∧¬S o):=⟨by have:=bC.out.size;have:=M.out;omega,fun N=>by have:=aa.out o N;have:=T.out;omega⟩;have bm:Hid (w3.heap.size≤bf.heap.size):=by have bb:=T.out;have bc:=a9.out.fr.size;have cl:=f6.size;have cv:=M.out;simp only[Hid];omega
 clear cc f6 a9 bq aQ bC M bt T;have ci:bf.cell? ⟨o,0,none⟩=some (.int .i64 (k:Int)):=Q.out.cell 0;go_wp2_with(refine aF rfl 189 (.tmp 15) rfl ⟨0,k*6,none⟩ rfl (oY wd I H bi J D).toList _ ?zV Tryz.underlying189 rfl jJ (bj.go ?yA));case zV=>exact fun j x a5=>by rw[Addr.add_mid];exact bg.out.an (cb.out j x a5) (fun x=>x)
 unfold bj;go_wp2_with(refine ak rfl 189 rfl DT vz #[.string ByteArray.empty, .bool false, .bool false, .bool false, .bool false, .int .i64 0] rfl ?_);intro cp cg;have ba:=af cg;clear cg;generalize bx:bf.heap.size=z at*;have E:=af bx;clear bx;have bu:Hid (aq cp z 189 #[.string ByteArray.empty, .bool false, .bool false, .bool false, .bool false, .int .i64 0]):=by have h:=ba.out.aH;rw[E.out]at h;exact h
 refine ai rfl 189 (.tmp 6) _ rfl z (oY wd I H bi J D) rfl rfl _ _ bu.out jJ rfl (gT.one ⟨wd,I,H,bi,J,D⟩) ?_;intro L b8 f8;have ae:Hid (Ao w g o z B S):=⟨Z.out.1,bG.out.1,NE.out,bG.out.2⟩;have ST:Hid (RS w L g o z B S (oY wd I H bi J D) (jf (k:Int) ByteArray.empty 0 0 ByteArray.empty) (dS l).2):=by
  have cm:=bW.out;obtain⟨⟨A,n,c,bd,_,_⟩,_,_⟩:=bW.out;refine⟨(cm.kh ba.out.fr).ks f8 (fun e=>?_) (fun k N e=>?_),(Q.out.fr ba.out.fr (fun x=>x)).fr f8 (fun e=>?_),b8,(aS.out.fr ba.out.fr (fun x=>x)).fr f8 (fun e=>?_),(bg.out.trans ba.out.fr).aw f8 (fun i bz e=>?_)⟩;·have V:g=z:=e;have:=bd.lt;have:=E.out;omega
  ·have V:k=z:=e;have:=aa.out k N;have:=Q.out.lt;have:=E.out;have:=bd.lt;have:=bg.out.size;have:=bm.out;omega
  ·have V:o=z:=e;have:=Q.out.lt;have:=E.out;omega
  ·have V:B=z:=e;have:=aS.out.lt;have:=E.out;omega
  ·have V:i=z:=e;have:=E.out;have:=bg.out.size;omega
 clear b8 f8 ba bu bW Q aS bg E ci bG NE Z aa cb;have ub:L.cell? ⟨z,1,none⟩=some (.bool I):=ST.out.ub.cell 1;go_upto_if 18 with fail;clear ub;go_cut[5](fun a6 a8=>a6= .pointer (some ⟨o,0,none⟩)∧RS w a8 g o z B S (oY wd I H bi J D) (jf (k:Int) ⟨G.1.toArray⟩ 0 0 ByteArray.empty) G.2);case first=>
  cases I;·go_wp2;go_meet;refine⟨rfl,?_⟩;rw[←av.out];exact ST.out
  ·go_wp2_with fail;refine(nQ g S _ _ _ 16777216 _ ST.out.rr).mono ?_;rintro e b3⟨rfl,m⟩;have F:=af (ST.out.step ae.out m);clear m;go_wp2_with(refine aT rfl 41 (.tmp 21) (.tmp 20) rfl o 1 (tV (aN [] (cq 16777216) (dS l).2).1) rfl rfl rfl uA _ _ (jf (k:Int) ⟨(aN [] (cq 16777216) (dS l).2).1.toArray⟩ 0 0 ByteArray.empty) F.out.nb (by simp[jf]) rfl ?_);intro ad U W;have aU:=af (F.out.put ae.out U W);clear U W F;go_wp2;go_meet;refine⟨rfl,?_⟩;rw[←av.out];exact aU.out
 case rest=>
  obtain⟨rfl,t⟩:=hcut;clear ST;have ST:=af t;clear t;generalize wc=L at*;have ub:L.cell? ⟨z,2,none⟩=some (.bool H):=ST.out.ub.cell 2;go_upto_if 23 with fail;clear ub;go_cut[5](fun a6 a8=>a6= .pointer (some ⟨o,0,none⟩)∧RS w a8 g o z B S (oY wd I H bi J D) (jf (k:Int) ⟨G.1.toArray⟩ a2.1 0 ByteArray.empty) a2.2);case first=>
   cases H;·go_wp2;go_meet;refine⟨rfl,?_⟩;rw[←ax.out];exact ST.out
   ·go_wp2_with fail;refine(jW g S _ _ _ 1073741824 _ ST.out.rr).mono ?_;rintro e b3⟨rfl,m⟩;have F:=af (ST.out.step ae.out m);clear m;go_wp2_with(refine aT rfl 3 (.tmp 26) (.tmp 25) rfl o 2 (.int .i64 (aN 0 (bp 1073741824) G.2).1) rfl rfl rfl mO _ _ (jf (k:Int) ⟨G.1.toArray⟩ (aN 0 (bp 1073741824) G.2).1 0 ByteArray.empty) F.out.nb (by simp[jf]) rfl ?_);intro ad U W;have aU:=af (F.out.put ae.out U W);clear U W F;go_wp2;go_meet;refine⟨rfl,?_⟩;rw[←ax.out];exact aU.out
  case rest=>
   obtain⟨rfl,t⟩:=hcut;clear ST;have ST:=af t;clear t;generalize wc=L at*;have ub:L.cell? ⟨z,3,none⟩=some (.bool bi):=ST.out.ub.cell 3;go_upto_if 28 with fail;clear ub;go_cut[5](fun a6 a8=>a6= .pointer (some ⟨o,0,none⟩)∧RS w a8 g o z B S (oY wd I H bi J D) (jf (k:Int) ⟨G.1.toArray⟩ a2.1 a3.1 ByteArray.empty) a3.2);case first=>
    cases bi;·go_wp2;go_meet;refine⟨rfl,?_⟩;rw[←aA.out];exact ST.out
    ·have cn:L.cell? ⟨z,5,none⟩=some (.int .i64 D):=ST.out.ub.cell 5;go_wp2_with fail;refine(jW g S _ _ _ D _ ST.out.rr).mono ?_;rintro e b3⟨rfl,m⟩;have F:=af (ST.out.step ae.out m);clear m cn;go_wp2_with(refine aT rfl 3 (.tmp 33) (.tmp 32) rfl o 3 (.int .i64 (aN 0 (bp D) a2.2).1) rfl rfl rfl mO _ _ (jf (k:Int) ⟨G.1.toArray⟩ a2.1 (aN 0 (bp D) a2.2).1 ByteArray.empty) F.out.nb (by simp[jf]) rfl ?_);intro ad U W;have aU:=af (F.out.put ae.out U W);clear U W F;go_wp2;go_meet;refine⟨rfl,?_⟩;rw[←aA.out];exact aU.out
   case rest=>
    obtain⟨rfl,t⟩:=hcut;clear ST;have ST:=af t;clear t;generalize wc=L at*;have ub:L.cell? ⟨z,4,none⟩=some (.bool J):=ST.out.ub.cell 4;go_upto_if 35 with fail;clear ub;go_cut[5](fun a6 a8=>a6= .pointer (some ⟨o,0,none⟩)∧RS w a8 g o z B S (oY wd I H bi J D) (jf (k:Int) ⟨G.1.toArray⟩ a2.1 a3.1 ⟨a4.1.toArray⟩) a4.2);case first=>
     cases J;·go_wp2;go_meet;refine⟨rfl,?_⟩;rw[←aB.out];exact ST.out
     ·go_wp2_with fail;refine(nQ g S _ _ _ 32 _ ST.out.rr).mono ?_;rintro e b3⟨rfl,m⟩;have F:=af (ST.out.step ae.out m);clear m;go_wp2_with(refine aT rfl 9 (.tmp 38) (.tmp 37) rfl o 4 (tV (aN [] (cq 32) a3.2).1) rfl rfl rfl oM _ _ (jf (k:Int) ⟨G.1.toArray⟩ a2.1 a3.1 ⟨(aN [] (cq 32) a3.2).1.toArray⟩) F.out.nb (by simp[jf]) rfl ?_);intro ad U W;have aU:=af (F.out.put ae.out U W);clear U W F;go_wp2;go_meet;refine⟨rfl,?_⟩;rw[←aB.out];exact aU.out
    case rest=>
     obtain⟨rfl,t⟩:=hcut;clear ST;have ST:=af t;clear t;generalize wc=L at*;have C:=bT.out;have aL:Hid (aq L o 106 nm.cells.toArray):=by rw[C];exact ST.out.nb
     have bF:Hid (nm.owner.size≤1099511627776∧nm.text.size≤1099511627776):=by
      have ct:nm.owner.size=G.1.length:=by rw[C,←aO];rfl
      have cu:nm.text.size=a4.1.length:=by rw[C,←aO];rfl
      have bb:=b7.out;have bc:=b9.out;simp only[Hid];omega
     have cs:=af Es;obtain⟨ce,aX⟩:∃ce,fZ a4.2=ce:=⟨_,rfl⟩;have bO:Hid (∀ad,Fr ag L ad→Calls Tryz.prog 72 #[.pointer (some ⟨g,0,none⟩)] ad (aJ ad (.int .i64 ce))):=fun ad r=>by
      have h:=sL g S a4.2.1 a4.2.2.1 a4.2.2.2 ad (ST.out.rr.kh r);rw[←aX];exact h.mono (fun e w'⟨bb,bc⟩=>⟨bb,by rw[bc];exact aD⟩)
     have bh:=af aX;clear aX C b7 b9 bl aI bk av ax aA aB;by_cases b2:ce=0
     ·subst b2;cases O:dA nm
      ·have aE:=af O;have bQ:Hid (∀w',Fr ag L w'→Calls Tryz.prog 115 #[.agg nm.cells.toArray] w' (fun e a7=>∃q:Int,e= .returned (.int .i64 q)∧q≠0∧Fr ag w' a7)):=fun w' f=>(b4.out nm bF.out.1 bF.out.2 w' (ST.out.fr.trans f)).mono (fun e a7⟨q,he,a0,r⟩=>⟨q,he,fun bX=>by rw[bX,O]at a0;exact absurd a0 (by decide),r⟩);clear O;go_upto_region 12 with fail;refine gR 8 ag [Is (.pointer (some ⟨g,0,none⟩)),Is (.int .i64 0),Is (.bool false),Is (.bool false),Is (.agg nm.cells.toArray),(fun cr _=>∃q:Int,cr= .int .i64 q∧q≠0),Is (.bool true),Is (.bool true)] [] (fun _=>True) (fun _ _=>false) (by kernel_rfl) (by kernel_rfl) (by kernel_rfl) ⟨Is.ah _,Is.ah _,Is.ah _,Is.ah _,Is.ah _,fun _ _ _ _ _ h=>h,Is.ah _,Is.ah _,trivial⟩ trivial (fun _ _ _ _ h=>h) trivial ?_ ?_
       ·refine⟨?zY,?zH,?zI,?zJ,?zK,?zL,?zM,?zN,trivial⟩;all_goals intro u w' d r b K P y
        all_goals simp only[bH,bI,bJ,bK,ay,Act.put,bL,bM,bN,Nat.reduceAdd,Nat.zero_add]
        case zH=>
         simp only[show u 0=_ from b 0];clear b K P y;refine aj ?_;go_simp;refine(bO.out _ r).mono ?_;rintro e X⟨rfl,f4⟩;exact⟨_,rfl,f4.bP,rfl,trivial⟩
        case' zI=>simp only[show u 1=_ from b 1]
        case' zJ=>simp only[show u 2=_ from b 2]
        case zK=>
         simp only[show u 3=_ from b 3];clear b K P y;refine aj ?_;exact az _ _ rfl ⟨o,0,none⟩ rfl nm.cells _ (fun j x a5=>by rw[Addr.add_mid,Nat.zero_add];exact(aL.out.fr r (fun x=>x)).cell j|>.trans (by rw[bR];exact a5)) Tryz.underlying106 rfl bD ⟨_,rfl,al⟩
        case zL=>
         simp only[show u 4=_ from b 4,show u 3=_ from b 3];clear b K P y;refine aj ?_;go_simp;refine(bQ.out _ r).mono ?_;rintro e X⟨q,rfl,a0,f4⟩;exact⟨_,rfl,f4.bP,⟨q,rfl,a0⟩,trivial⟩
        case zM=>
         obtain⟨q,ck,b1⟩:=b 5;simp only[ck,show u 3=_ from b 3];clear b K P y;refine aj ?_;go_simp;have t0:(q !=0)=true:=by rw[bne_iff_ne];exact b1
         simp only[t0];exact⟨_,rfl,al⟩
        case' zN=>simp only[show u 3=_ from b 3,show u 6=_ from b 6]
        all_goals
         clear b K P y;refine aj ?_;go_simp;exact⟨_,rfl,al⟩
       ·intro u w' r b y;have ap:u 7=_:=b 7 (by omega);clear b y;simp only[bH,bI,bJ,bK,ay,Act.put,bL,bM,bN,dD,dE,Nat.reduceAdd,Nat.zero_add,ap];have Y:=af r;clear r ap;have R:=af (ST.out.rb.fr Y.out (fun x=>x));go_wp2_with(refine ai rfl 106 (.tmp 2) _ rfl B (jf 0 ByteArray.empty 0 0 ByteArray.empty) rfl rfl _ _ R.out ly rfl (by simp[jf,Value.oneCell']) ?_);intro au am ao;have bo:=af am;have bn:Hid (Fr ag w au):=(ST.out.fr.trans Y.out).aw ao (fun i bz e=>by have V:i=B:=e;have:=aC;unfold Sz at this;omega);clear am ao;go_wp2;exact bodyPost_ret (aZ (fn:=Tryz.f118) (p:=2) (q:=3) (ty:=106) Tryz.results118 _ au _ 106 (jf 0 ByteArray.empty 0 0 ByteArray.empty) (0,0) _ rfl bo.out Tryz.underlying106 rfl ly _ rfl) rfl ⟨_,_,rfl,bn.out, .inr ⟨fun h=>Bool.false_ne_true (aE.out.symm.trans h.2),rfl,rfl⟩⟩
      ·have aE:=af O;have bQ:Hid (∀w',Fr ag L w'→Calls Tryz.prog 115 #[.agg nm.cells.toArray] w' (aJ w' (.int .i64 0))):=fun w' f=>(b4.out nm bF.out.1 bF.out.2 w' (ST.out.fr.trans f)).mono (fun e a7⟨q,he,a0,r⟩=>by
        have bX:q=0:=by rw[O]at a0;exact beq_iff_eq.1 a0
        subst bX;exact⟨he,r⟩);clear O;go_upto_region 12 with fail;refine gR 8 ag [Is (.pointer (some ⟨g,0,none⟩)),Is (.int .i64 0),Is (.bool false),Is (.bool false),Is (.agg nm.cells.toArray),Is (.int .i64 0),Is (.bool false),Is (.bool false)] [] (fun _=>True) (fun _ _=>false) (by kernel_rfl) (by kernel_rfl) (by kernel_rfl) ⟨Is.ah _,Is.ah _,Is.ah _,Is.ah _,Is.ah _,Is.ah _,Is.ah _,Is.ah _,trivial⟩ trivial (fun _ _ _ _ h=>h) trivial ?_ ?_
       ·refine⟨?zZ,?zO,?zP,?zQ,?zR,?zS,?zT,?zU,trivial⟩;all_goals intro u w' d r b K P y
        all_goals simp only[bH,bI,bJ,bK,ay,Act.put,bL,bM,bN,Nat.reduceAdd,Nat.zero_add]
        case zO=>
         simp only[show u 0=_ from b 0];clear b K P y;refine aj ?_;go_simp;refine(bO.out _ r).mono ?_;rintro e X⟨rfl,f4⟩;exact⟨_,rfl,f4.bP,rfl,trivial⟩
        case' zP=>simp only[show u 1=_ from b 1]
        case' zQ=>simp only[show u 2=_ from b 2]
        case zR=>
         simp only[show u 3=_ from b 3];clear b K P y;refine aj ?_;exact az _ _ rfl ⟨o,0,none⟩ rfl nm.cells _ (fun j x a5=>by rw[Addr.add_mid,Nat.zero_add];exact(aL.out.fr r (fun x=>x)).cell j|>.trans (by rw[bR];exact a5)) Tryz.underlying106 rfl bD ⟨_,rfl,al⟩
        case zS=>
         simp only[show u 4=_ from b 4,show u 3=_ from b 3];clear b K P y;refine aj ?_;go_simp;refine(bQ.out _ r).mono ?_;rintro e X⟨rfl,f4⟩;exact⟨_,rfl,f4.bP,rfl,trivial⟩
        case' zT=>simp only[show u 5=_ from b 5,show u 3=_ from b 3]
        case' zU=>simp only[show u 3=_ from b 3,show u 6=_ from b 6]
        all_goals
         clear b K P y;refine aj ?_;go_simp;exact⟨_,rfl,al⟩
       ·intro u w' r b y;have ap:u 7=_:=b 7 (by omega);clear b y;simp only[bH,bI,bJ,bK,ay,Act.put,bL,bM,bN,dD,dE,Nat.reduceAdd,Nat.zero_add,ap];have Y:=af r;clear r ap;have bU:=af (aL.out.fr Y.out (fun x=>x));have R:=af (ST.out.rb.fr Y.out (fun x=>x));go_wp2_with(refine aF rfl 106 (.tmp 5) rfl ⟨o,0,none⟩ rfl nm.cells _ ?zW Tryz.underlying106 rfl bD (bj.go ?yB));case zW=>exact fun j x a5=>by rw[Addr.add_mid,Nat.zero_add];exact bU.out.cell j|>.trans (by rw[bR];exact a5)
        unfold bj;refine ai rfl 106 (.tmp 2) _ rfl B nm.cells.toArray rfl rfl _ _ R.out ly rfl nm.one ?_;intro au am ao;have bo:=af am;have bn:Hid (Fr ag w au):=(ST.out.fr.trans Y.out).aw ao (fun i bz e=>by have V:i=B:=e;have:=aC;unfold Sz at this;omega);clear am ao;go_wp2;exact bodyPost_ret (aZ (fn:=Tryz.f118) (p:=2) (q:=3) (ty:=106) Tryz.results118 _ au _ 106 nm.cells.toArray (0,0) _ rfl bo.out Tryz.underlying106 rfl ly _ rfl) rfl ⟨_,_,rfl,bn.out, .inl ⟨bh.out,aE.out,rfl,rfl⟩⟩
     ·have t0:(ce !=0)=true:=by rw[bne_iff_ne];exact b2
      go_upto_region 12 with fail;refine gR 8 ag [Is (.pointer (some ⟨g,0,none⟩)),Is (.int .i64 ce),Is (.bool true),Is (.bool true),Is (undef),Is (undef),Is (undef),Is (.bool true)] [] (fun _=>True) (fun _ _=>false) (by kernel_rfl) (by kernel_rfl) (by kernel_rfl) ⟨Is.ah _,Is.ah _,Is.ah _,Is.ah _,Is.ah _,Is.ah _,Is.ah _,Is.ah _,trivial⟩ trivial (fun _ _ _ _ h=>h) trivial ?_ ?_
      ·refine⟨?zX,?zA,?zB,?zC,?zD,?zE,?zF,?zG,trivial⟩;all_goals intro u w' d r b K P y
       all_goals simp only[bH,bI,bJ,bK,ay,Act.put,bL,bM,bN,Nat.reduceAdd,Nat.zero_add]
       case zA=>
        simp only[show u 0=_ from b 0];clear b K P y;refine aj ?_;go_simp;refine(bO.out _ r).mono ?_;rintro e X⟨rfl,f4⟩;exact⟨_,rfl,f4.bP,rfl,trivial⟩
       case' zB=>simp only[show u 1=_ from b 1]
       case' zC=>simp only[show u 2=_ from b 2]
       case zD=>simp only[show u 3=_ from b 3];exact .inr ⟨by kernel_rfl,_,rfl,aD,rfl,trivial⟩
       case zE=>simp only[show u 3=_ from b 3];exact .inr ⟨by kernel_rfl,_,rfl,aD,rfl,trivial⟩
       case zF=>simp only[show u 3=_ from b 3];exact .inr ⟨by kernel_rfl,_,rfl,aD,rfl,trivial⟩
       case' zG=>simp only[show u 3=_ from b 3,show u 6=_ from b 6]
       all_goals
        clear b K P y;refine aj ?_;go_simp;exact⟨_,rfl,al⟩
      ·intro u w' r b y;have ap:u 7=_:=b 7 (by omega);clear b y;simp only[bH,bI,bJ,bK,ay,Act.put,bL,bM,bN,dD,dE,Nat.reduceAdd,Nat.zero_add,ap];have Y:=af r;clear r ap;have R:=af (ST.out.rb.fr Y.out (fun x=>x));go_wp2_with(refine ai rfl 106 (.tmp 2) _ rfl B (jf 0 ByteArray.empty 0 0 ByteArray.empty) rfl rfl _ _ R.out ly rfl (by simp[jf,Value.oneCell']) ?_);intro au am ao;have bo:=af am;have bn:Hid (Fr ag w au):=(ST.out.fr.trans Y.out).aw ao (fun i bz e=>by have V:i=B:=e;have:=aC;unfold Sz at this;omega);clear am ao;go_wp2;exact bodyPost_ret (aZ (fn:=Tryz.f118) (p:=2) (q:=3) (ty:=106) Tryz.results118 _ au _ 106 (jf 0 ByteArray.empty 0 0 ByteArray.empty) (0,0) _ rfl bo.out Tryz.underlying106 rfl ly _ rfl) rfl ⟨_,_,rfl,bn.out, .inr ⟨fun h=>b2 (bh.out.symm.trans h.1),rfl,rfl⟩⟩
def Aq(xs:List CV):Prop:=xs.Pairwise (fun a b=>a.nm≠b.nm)
def xM(a b:aK):Bool:=cT a b==0
structure Ki(a c:List CV):Prop where
 Ks:Aq c
 ok:∀z∈c,dA z.nm=true
 of:∀z∈c,z∈a
theorem Aq.at_{c:List CV}(h:Aq c){p q:Nat}{a b:CV}(i:c[p]? =some a)(j:c[q]? =some b)(e:p≠q):a.nm≠b.nm:=by
 obtain⟨f,rfl⟩:=List.getElem?_eq_some_iff.1 i;obtain⟨g,rfl⟩:=List.getElem?_eq_some_iff.1 j;rcases Nat.lt_or_gt_of_ne e with d|d;·exact List.pairwise_iff_getElem.1 h p q f g d
 ·exact(List.pairwise_iff_getElem.1 h q p g f d).symm
def tg(P:Program)(ops:Array Oper)(Q:Exit→Act→World→Prop)(T:Nat→Prop)(w:World)(F:(Nat→Value)→Act)(c:Nat→Value→World→Prop)(ws:List (Nat×(World→Prop)))(a:World→Prop)(B:Nat→Nat→Bool)(n:Nat)(b:List (Nat×Value)):Nat→List Oper→Prop
 |_,[]=>True
 |i,e::r=>(∀u w' d,Fr T w w'→(∀j,(_:Region.waitsFor .any ops i j=true:=by kernel_rfl)→c j (u j) w')→(∀p,p<n→B p i=true→d p=true)→(∀p,(p==i||B i p)=true→d p=false)→bX ws a d w'→(∀x∈b,d x.1=false→u x.1=x.2)→
   mT P ops Q e (F u) w' (tI (F u) e.dst (gO ws T i) w' (c i) (kA ws i)))∧tg P ops Q T w F c ws a B n b (i+1) r
theorem tg.at_{P:Program}{ops:Array Oper}{Q:Exit→Act→World→Prop}{T:Nat→Prop}{w:World}{F:(Nat→Value)→Act}{f:Nat→Value→World→Prop}{ws:List (Nat×(World→Prop))}{b:World→Prop}{B:Nat→Nat→Bool}{n:Nat}{e:List (Nat×Value)}:
  ∀{l:List Oper}{k:Nat},tg P ops Q T w F f ws b B n e k l→∀i g,l[i]? =some g→∀u w' d,Fr T w w'→(∀j,Region.waitsFor .any ops (k+i) j=true→f j (u j) w')→(∀p,p<n→B p (k+i)=true→d p=true)→(∀p,(p==k+i||B (k+i) p)=true→d p=false)→bX ws b d w'→(∀x∈e,d x.1=false→u x.1=x.2)→
   mT P ops Q g (F u) w' (tI (F u) g.dst (gO ws T (k+i)) w' (f (k+i)) (kA ws (k+i)))
 |[],_,_,_,_,h=>by simp at h
 |c::r,k,h,0,g,a=>by
  have:c=g:=by simpa using a
  subst this;exact h.1
 |c::r,k,h,i+1,g,a=>by
  have:=tg.at_ h.2 i g (by simpa using a);rw[show k+1+i=k+(i+1)by omega]at this;exact this
theorem DW(w:World):(zeroValue 119).run Tryz.prog w= .ok di w:=by kernel_rfl
def mF(w:World)(L:List Ent)(xs:List CV)(e:Ending)(w':World):Prop:=∃p k,e= .returned (.tuple #[.pointer p, .int .i64 k])∧Fr ag w w'∧
 (((∀c∈xs,dA c.nm=true)∧k=0∧∃a,p=some ⟨a,0,none⟩∧ft w' a (mr xs L))∨((∃c∈xs,dA c.nm=false)∧k=12∧p=none))
def Ju(w:World)(L:List Ent)(xs:List CV)(n m:Nat)(s i:Value)(wr:World):Prop:=∃(k a:Nat),k≤n∧s= .pointer (some ⟨a,0,none⟩)∧i= .int .i64 (k:Int)∧ft wr a (mr (xs.take k) L)∧cW (m+k) (mr (xs.take k) L)∧(∀c∈xs.take k,dA c.nm=true)∧Fr ag w wr
theorem tk(L:List Ent)(xs:List CV)(n m:Nat)(A:Option Addr)(ax:Nat)(S:Nat→Prop)(s:Nat)(w:World)(aj:ft w s L)(al:eE w)(C:cW m L)(R:CL w S A n xs)(am:∀c∈xs,ed c)(hm:m+n≤60000):
  Calls Tryz.prog 82 #[.pointer (some ⟨s,0,none⟩), .slice A n ax] w (mF w L xs):=by
 have ap:=af R;have Z:=af al;have av:=af am;have au:=af R.len;have Y:Hid (Ju w L xs n m (.pointer (some ⟨s,0,none⟩)) (.int .i64 0) w):=⟨0,s,by omega,rfl,rfl,aj,C,(fun c v=>by simp at v),aD⟩;clear R am aj C al;go_enter Tryz.func82,Tryz.ntmps82;go_wp2;go_loopw[0,13](fun s i wr=>Ju w L xs n m s i wr)(fun _ i _=>n-(intOf i).toNat);case atStart=>exact Y.out
 case round=>
  obtain⟨k,s1,aI,rfl,rfl,ah,C,ae,hF⟩:=hrel;have K:=af hF;have Q:=af ah;have M:=af C;have H:=af ae;clear ah C ae hF Y;by_cases T:k<n
  ·have ay:(k:Int)<(n:Int):=by omega
   have az:(0:Int)≤(k:Int):=by omega
   have t0:decide ((k:Int)<(n:Int))=true:=decide_eq_true ay;obtain⟨aB,c,rfl,v,o⟩:=(ap.out.ar K.out).at_ T;have z:=af o;have ao:=af c.one;have G:=af (Cv v L);have u:Hid (ed c):=av.out c (List.mem_of_getElem? v);have r:Hid (xs[k]? =some c):=v;have X:Hid (rq (mr (xs.take k) L)):=M.out.oh (by omega);generalize mr (xs.take k) L=Lk at*;clear o v;go_wp2_with(refine aF rfl 119 (.tmp 15) rfl _ rfl c.cells _ ?zE Tryz.underlying119 rfl jr (bj.go ?hold));case zE=>exact z.out
   unfold bj;go_wp2_with(refine ak rfl 119 rfl di DW #[.int .i64 0, .string ByteArray.empty, .int .i64 0, .int .i64 0, .string ByteArray.empty, .string ByteArray.empty, .bool false] rfl ?_);intro aA an;have P:=af an;clear an;generalize D:wr.heap.size=g7 at*;have B:=af D;clear D;have U:Hid (aq aA g7 119 #[.int .i64 0, .string ByteArray.empty, .int .i64 0, .int .i64 0, .string ByteArray.empty, .string ByteArray.empty, .bool false]):=by have h:=P.out.aH;rw[B.out]at h;exact h
   go_wp2_with(refine ai rfl 119 (.tmp 7) _ rfl g7 c.cells.toArray rfl rfl _ _ U.out jr rfl ao.out ?_);intro t bb ad;have I:Hid (aq t g7 119 c.cells.toArray):=bb;have W:Hid (Fr ag wr t):=P.out.fr.aw ad (fun i aG e=>by have aE:i=g7:=e;have:=B.out;omega);clear bb ad P U z;have ab:Hid (ft t s1 Lk):=Q.out.ar W.out;have ac:t.cell? {block:=g7,off:=6}=some (.bool c.bA):=I.out.cell 6;have aC:t.cell? {block:=g7,off:=5}=some (.string c.value):=I.out.cell 5;have V:Hid (∀j x,c.nm.cells[j]? =some x→t.cell? ((⟨g7,0,none⟩:Addr).add j)=some x):=fun j x g=>by
    rw[Addr.add_mid,Nat.zero_add,I.out.cell j,bR,CV.cells,List.getElem?_append_left (List.getElem?_eq_some_iff.1 g).1];exact g
   have F:Hid (Fr ag w t):=K.out.trans W.out;cases l:c.bA
   ·rw[l]at ac;have N:Hid (ki c Lk=dY c.nm c.value Lk):=by simp only[Hid,ki,l];rfl
    have J:Hid (∀w',Fr ag t w'→Calls Tryz.prog 130 #[.pointer (some ⟨s1,0,none⟩), .agg c.nm.cells.toArray, .string c.value] w' (Dr w' Lk c.nm c.value)):=fun w' f=>Ej _ _ _ _ _ (ab.out.ar f) (Z.out.ar (F.out.trans f)) X.out u.out.name;have aa:Hid (c.value.size≤65536):=by have:=u.out.value;simp only[Hid];omega
    clear l;go_wp2_with(refine aF rfl 106 (.tmp 28) rfl ⟨g7,0,none⟩ rfl c.nm.cells _ ?zA Tryz.underlying106 rfl bD (bj.go ?zC));case zA=>exact V.out
    unfold bj;go_wp2_with fail;refine(J.out _ aD).mono ?_;rintro e w3⟨p,q,rfl,f3,a⟩;have y:Hid (Fr ag w w3):=F.out.trans f3;cases b:dA c.nm
    ·obtain⟨rfl,rfl⟩:q=12∧p=none:=by
      rcases a with⟨h,_⟩|⟨_,h⟩|⟨h,_⟩;·rw[b]at h;cases h
      ·exact h
      ·rw[b]at h;cases h
     have d:=af b;clear a b f3;go_wp2;go_ret2;exact⟨_,12,rfl,y.out, .inr ⟨⟨c,List.mem_of_getElem? r.out,d.out⟩,rfl,rfl⟩⟩
    ·obtain⟨rfl,s2,rfl,E⟩:q=0∧∃s2,p=some ⟨s2,0,none⟩∧ft w3 s2 (ki c Lk):=by
      rw[N.out];rcases a with⟨_,_,h⟩|⟨h,_⟩|⟨_,h,_⟩;·exact h
      ·rw[b]at h;cases h
      ·exact absurd aa.out (by omega)
     have d:=af b;have O:=af E;clear a b f3 E;go_wp2;go_roundw;case rel=>
      refine⟨k+1,s2,by omega,rfl,by go_num,?_,?_,fun x g=>?_,y.out⟩;·rw[G.out];exact O.out
      ·rw[G.out];exact(M.out.next u.out d.out).more (by omega)
      ·rw[List.take_add_one,r.out,Option.toList_some,List.mem_append,List.mem_singleton]at g;rcases g with g|rfl;·exact H.out x g
       ·exact d.out
     case measure=>simp[intOf];omega
   ·rw[l]at ac;have N:Hid (ki c Lk=dz c.nm Lk):=by simp only[Hid,ki,l];rfl
    have J:Hid (∀w',Fr ag t w'→Calls Tryz.prog 129 #[.pointer (some ⟨s1,0,none⟩), .agg c.nm.cells.toArray] w' (tM w' Lk c.nm)):=fun w' f=>xx _ _ _ _ (ab.out.ar f) (Z.out.ar (F.out.trans f)) X.out u.out.name;have aa:Hid (c.value.size≤65536):=by have:=u.out.value;simp only[Hid];omega
    clear l;go_wp2_with(refine aF rfl 106 (.tmp 21) rfl ⟨g7,0,none⟩ rfl c.nm.cells _ ?zB Tryz.underlying106 rfl bD (bj.go ?zD));case zB=>exact V.out
    unfold bj;go_wp2_with fail;refine(J.out _ aD).mono ?_;rintro e w3⟨p,q,rfl,f3,a⟩;have y:Hid (Fr ag w w3):=F.out.trans f3;cases b:dA c.nm
    ·obtain⟨rfl,rfl⟩:q=12∧p=none:=by
      rcases a with⟨h,_⟩|⟨_,h⟩;·rw[b]at h;cases h
      ·exact h
     have d:=af b;clear a b f3;go_wp2;go_ret2;exact⟨_,12,rfl,y.out, .inr ⟨⟨c,List.mem_of_getElem? r.out,d.out⟩,rfl,rfl⟩⟩
    ·obtain⟨rfl,s2,rfl,E⟩:q=0∧∃s2,p=some ⟨s2,0,none⟩∧ft w3 s2 (ki c Lk):=by
      rw[N.out];rcases a with⟨_,h⟩|⟨h,_⟩;·exact h
      ·rw[b]at h;cases h
     have d:=af b;have O:=af E;clear a b f3 E;go_wp2;go_roundw;case rel=>
      refine⟨k+1,s2,by omega,rfl,by go_num,?_,?_,fun x g=>?_,y.out⟩;·rw[G.out];exact O.out
      ·rw[G.out];exact(M.out.next u.out d.out).more (by omega)
      ·rw[List.take_add_one,r.out,Option.toList_some,List.mem_append,List.mem_singleton]at g;rcases g with g|rfl;·exact H.out x g
       ·exact d.out
     case measure=>simp[intOf];omega
  ·obtain rfl:k=n:=by omega
   have t0:decide ((k:Int)<(k:Int))=false:=ct (by omega);go_wp2;go_ret2;have g:xs.take k=xs:=List.take_of_length_le (by have:=au.out;omega);rw[g]at Q H;exact⟨_,0,rfl,K.out, .inl ⟨H.out,rfl,s1,rfl,Q.out⟩⟩
structure RE(w W:World)(a:Nat)(nm:Array Value)(v:Value)(l:List UInt8):Prop where
 Kt:gS w (.slice none 0 0) W v l
 nb:aq W a 245 nm
end Go.Proofs.YtphjagkehiklkaaGreatDoor
