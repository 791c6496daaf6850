/- Texts. -/
import Derived.Test.YtphjagkehiklkaaGreatDoorWK36
import Derived.Test.YtphjagkehiklkaaGreatDoorWK38
set_option linter.unusedVariables false
set_option linter.unusedSimpArgs false
set_option maxRecDepth 100000
set_option maxHeartbeats 8000000
namespace Go.Proofs.YtphjagkehiklkaaGreatDoor
open Go.RowKit Go.Shelf
def qx(w:World)(e:Ending)(w':World):Prop:=∃(h b:Nat)(ms:List Value)(E:List Ent)(L:List ActV)(T:Nat→Prop),e= .returned (.tuple #[.pointer (some ⟨h,0,none⟩), .agg ms.toArray])∧
 fK w' h E L T∧Mod w' ms b E L∧cW 6 E∧iH L∧(∀k,T k→w.heap.size≤k)∧Fr ag w w'
theorem Bt(n:Nat)(xs:List CV)(A:Option Addr)(bt:Nat)(S:Nat→Prop)(Z:Nat)(bV:Option Addr)(cp:Nat)(w:World)(cb:CL w S A n xs)(cj:n≤9223372036854775807)(ci:n≤bt)(cf:tK w bV Z)(bQ:eE w)(cg:bB w):
  Calls Tryz.prog 14 #[.slice A n bt, .slice bV Z cp] w (qx w):=by
 have bY:Hid (∀w',Fr ag w w'→Calls Tryz.prog 28 #[.slice A n bt] w' (Ge w')):=fun w' f=>AN n xs A bt S w' (cb.ar f) cj ci (bQ.ar f);have bs:=af bQ;have br:=af cg;have cn:=af cf;clear cb cj ci bQ cg cf;go_enter Tryz.func14,Tryz.ntmps14;go_wp2_with(refine ak rfl 28 rfl (.agg sd.toArray) Iv #[.pointer none, .slice none 0 0] rfl ?_);intro w1 n1;have bz:=af n1.fr;have bW:=af n1.aH;clear n1;generalize bi:w.heap.size=g5 at*;have H:=af bi;clear bi;go_wp2_with fail;refine(bY.out _ bz.out).mono ?_;rintro e w2⟨b,E,rfl,bv,cc,f2⟩;have b0:=af (bz.out.trans f2);have bw:=af (bW.out.fr f2 (fun x=>x));have b9:=af bv;have a6:=af cc;have a4:=af (GH b);clear f2 bv cc bz bW bY;go_wp2_with(refine eA rfl 28 _ rfl [Value.pointer (some ⟨b,0,none⟩), .slice none 0 0].toArray _ (by simp only[List.map_toArray,List.map_cons,List.map_nil];rfl) a4.out (bj.go ?zA));unfold bj;go_wp2_with(refine ak rfl 28 rfl (.agg sd.toArray) Iv #[.pointer none, .slice none 0 0] rfl ?_);intro bU bo;have aP:=af bo;clear bo;generalize bk:w2.heap.size=g6 at*;have Q:=af bk;clear bk;have a2:Hid (aq bU g6 28 #[.pointer none, .slice none 0 0]):=by have h:=aP.out.aH;rw[Q.out]at h;exact h
 have b7:Hid ([Value.pointer (some ⟨b,0,none⟩), .slice none 0 0].toArray.all (·.oneCell')=true):=by simp[Hid,Value.oneCell']
 go_wp2_with(refine ai rfl 28 (.tmp 6) _ rfl g6 [Value.pointer (some ⟨b,0,none⟩), .slice none 0 0].toArray rfl rfl _ _ a2.out je rfl b7.out ?_);intro w3 b3 f3;have bq:Hid (aq w3 g6 28 [Value.pointer (some ⟨b,0,none⟩), .slice none 0 0].toArray):=b3;have f23:Fr ag w2 w3:=aP.out.fr.aw f3 (fun i aU e=>by have M:i=g6:=e;have:=Q.out;omega);have a3:=af (b0.out.trans f23);have aR:=af (b9.out.ar f23);have cm:=af (bw.out.fr f23 (fun x=>x));have d:Hid (g6<w3.heap.size∧g5<g6∧w.heap.size≤w3.heap.size):=⟨bq.out.lt,by have:=bw.out.lt;have:=Q.out;omega,a3.out.size⟩;clear b3 f3 f23 aP a2 b7 b0 bw b9 a4;have cu:w3.cell? ⟨g6,0,none⟩=some (.pointer (some ⟨b,0,none⟩)):=bq.out.cell 0;go_wp2_with fail;refine(vY E b w3 aR.out (bs.out.ar a3.out) (br.out.ar a3.out) (a6.out.more (by decide))).mono ?_;rintro e cw⟨h,T,rfl,cd,f4,ch⟩;have b4:Hid (xl w w3 cw h b g5 g6 0 E [] T [Value.pointer (some ⟨b,0,none⟩), .slice none 0 0]):=⟨cd,⟨none,0,0,rfl,rfl,Nat.le_refl _,aR.out.ar f4,ko.nil _⟩,bq.out.fr f4 (fun x=>x),iH.nil,Nat.le_refl _,ch,(fun v z k zA=>by
  rw[List.mem_cons,List.mem_singleton]at z;rcases z with rfl|rfl;·cases zA
  ·cases zA),a3.out.trans f4,f4.size,cm.out.fr f4 (fun x=>x)⟩;clear cd f4 ch cu bq aR;go_wp2;go_loopw[9](fun i wr=>∃(k:Nat)(L:List ActV)(T:Nat→Prop)(ms:List Value),k≤16∧k≤Z∧i= .int .i64 (k:Int)∧xl w w3 wr h b g5 g6 k E L T ms)(fun i _=>16-(intOf i).toNat);case atStart=>exact⟨0,[],T,_,Nat.zero_le _,Nat.zero_le _,rfl,b4.out⟩
 case round=>
  obtain⟨k,L,T,ms,zA,bl,rfl,ce⟩:=hrel;have c:=af ce;have b2:Hid (k≤16∧k≤Z):=⟨zA,bl⟩;clear ce zA bl b4;by_cases X:k<Z∧k<16
  ·have t0:decide ((k:Int)<(Z:Int))=true:=dh (by omega);have t1:decide ((k:Int)<16)=true:=dh (by omega);have t2:(k:Int)<(Z:Int):=by omega
   have t3:(0:Int)≤(k:Int):=by omega
   have t4:(k:Int)<16:=by omega
   have t:=af X;obtain⟨co,bN,rfl,aV,U⟩:=(cn.out.ar c.out.fr) k X.1;have ba:=af aV;have a5:=af U;have IR:Hid ((Tryz.prog.info? 72).map (·.size)=some bN.length):=by rw[Hid,aV.len];exact Hh
   clear aV U X;go_wp2_with(refine aF rfl 72 (.tmp 34) rfl (co.add (k*6)) rfl bN _ ?zB Tryz.underlying72 rfl IR.out (bj.go ?zH));case zB=>exact a5.out
   unfold bj;go_wp2_with fail;refine(yK bN _ ba.out).mono ?_;rintro e ck⟨cs,a,rfl,K,bm,bS,f5⟩;have b1:=af f5;have aY:=af K;have aW:=af bm;have bG:Hid ((Tryz.prog.info? 46).map (·.size)=some cs.toArray.size):=by rw[Hid,List.size_toArray,K.len];exact bZ
   have ao:Hid ((Tryz.prog.info? 46).map (·.size)=some cs.length):=by rw[Hid,K.len];exact bZ
   have bE:Hid (6=cs.toArray.size):=by rw[Hid,List.size_toArray,K.len]
   have bK:=af (ActV.one K);clear f5 K bm bS a5 ba IR t0 t1 t2 t3 t4;go_wp2_with(refine ak rfl 46 rfl fH oc #[.int .i64 0, .int .i64 0, .int .i64 0, .string ByteArray.empty, .slice none 0 0, .slice none 0 0] rfl ?_);intro bU bo;have aP:=af bo;clear bo;generalize au:ck.heap.size=g10 at*;have am:=af au;clear au;have a2:Hid (aq bU g10 46 #[.int .i64 0, .int .i64 0, .int .i64 0, .string ByteArray.empty, .slice none 0 0, .slice none 0 0]):=by have h:=aP.out.aH;rw[am.out]at h;exact h
   go_wp2_with(refine ai rfl 46 (.tmp 10) _ rfl g10 cs.toArray rfl rfl _ _ a2.out bG.out bE.out bK.out ?_);intro bT ca f6;have aB:=af ca;have f56:Fr ag ck bT:=aP.out.fr.aw f6 (fun i aU e=>by have M:i=g10:=e;have:=am.out;omega);have D:=af (b1.out.trans f56);have aA:=af (aY.out.ar f56);clear ca f6 f56 aP a2 b1 aY;have b6:Hid (∀j x,ms[j]? =some x→bT.cell? ((⟨g6,0,none⟩:Addr).add j)=some x):=fE (c.out.box.fr D.out (fun x=>x));have ad:Hid ((Tryz.prog.info? 28).map (·.size)=some ms.length):=by rw[Hid,c.out.mod.len];exact je
   have al:Hid (∀j x,cs[j]? =some x→bT.cell? ((⟨g10,0,none⟩:Addr).add j)=some x):=fE aB.out;go_wp2_with(refine aF rfl 28 (.tmp 6) rfl ⟨g6,0,none⟩ rfl ms _ ?zD Tryz.underlying28 rfl ad.out (bj.go ?zJ));case zD=>exact b6.out
   unfold bj;go_wp2_with(refine aF rfl 46 (.tmp 10) rfl ⟨g10,0,none⟩ rfl cs _ ?zC Tryz.underlying46 rfl ao.out (bj.go ?zI));case zC=>exact al.out
   unfold bj;go_wp2_with fail;refine(yN ms cs b E L a _ (c.out.mod.ar D.out) aA.out (bs.out.ar (c.out.fr.trans D.out)) (a6.out.more (by decide)) c.out.run aW.out).mono ?_;rintro e cl⟨g,rfl,Y,f7,ax⟩;have bA:=af (D.out.trans f7);have b5:=af Y;have aI:Hid (∀v∈g,∀j,v.ownBlock=some j→¬T j):=fun v z j l N=>by
    rcases ax v z j l with o|⟨u,hu,o⟩;·have:=c.out.uy.lt j N;have:=D.out.size;omega
    ·exact c.out.rows u hu j o N
   have aZ:=af (aA.out.ar f7);have ah:=af (aB.out.fr f7 (fun x=>x));have y:Hid ((Tryz.prog.info? 28).map (·.size)=some g.toArray.size):=by rw[Hid,List.size_toArray,Y.len];exact je
   have I:Hid (2=g.toArray.size):=by rw[Hid,List.size_toArray,Y.len]
   have J:=af Y.one;clear f7 Y ax aA aB D b6 al;go_wp2_with(refine ak rfl 28 rfl (.agg sd.toArray) Iv #[.pointer none, .slice none 0 0] rfl ?_);intro cx nb;have bJ:=af nb;clear nb;generalize av:cl.heap.size=g12 at*;have P:=af av;clear av;have bX:Hid (aq cx g12 28 #[.pointer none, .slice none 0 0]):=by have h:=bJ.out.aH;rw[P.out]at h;exact h
   go_wp2_with(refine ai rfl 28 (.tmp 12) _ rfl g12 g.toArray rfl rfl _ _ bX.out y.out I.out J.out ?_);intro aa b8 f8;have ab:=af b8;have f78:Fr ag cl aa:=bJ.out.fr.aw f8 (fun i aU e=>by have M:i=g12:=e;have:=P.out;omega);have F:=af (bA.out.trans f78);have a0:=af (aZ.out.ar f78);have bc:=af (b5.out.ar f78);have a1:=af (ah.out.fr f78 (fun x=>x));have a7:Hid (wr.heap.size≤g12):=by have:=bA.out.size;have:=P.out;simp only[Hid];omega
   clear b8 f8 f78 bJ bX bA aZ b5 ah;have bx:Hid (∀j x,cs[j]? =some x→aa.cell? ((⟨g10,0,none⟩:Addr).add j)=some x):=fE a1.out;have cD:IntKind.i64.wrap ((k:Int)+1)=(k:Int)+1:=IntWalk.i64_in _ (by have:=t.out;omega);have a9:=af (c.out.run.append aW.out (by have:=c.out.len;have:=t.out;omega));have an:Hid ((eY L a).2.length≤k+1):=by
    have:=c.out.len;rcases oz L a with⟨_,e⟩|⟨_,e,_⟩;·rw[Hid,e];omega
    ·rw[Hid,e,bh,List.length_singleton];omega
   have aD:Hid (Calls Tryz.prog 32 #[.pointer (some ⟨h,0,none⟩), .agg cs.toArray] aa (yD aa h E L T a)):=by
    have bD:=c.out.fr.trans F.out;refine qw h E L T a cs aa (c.out.uy.ar F.out) a0.out (bs.out.ar bD) (br.out.ar bD) aW.out.sz (fun b bv=>by have:=(c.out.run.small b bv).fA;omega) (by have:=c.out.run.len;omega) (fun _=>by have:=aW.out.len;omega) (fun k zA N=>?_) (fun cC w' s f cq=>?_);·have o:=c.out.new k N;have cz:=br.out.Fg;have cA:=br.out.Fh;have cB:=a3.out.size;rcases zA with rfl|rfl<;>omega
    ·have G:=lI L E 24 (a6.out.more (by decide)) c.out.run.ok c.out.run.small;exact lQ _ a cs _ s w' (a0.out.ar f) cq (bs.out.ar (bD.trans f)) G aW.out.writes (by have:=aW.out.nw;have:=c.out.run.len;omega)
   have C:Hid ((eY L a).1≠0→(eY L a).2=L):=fun h=>by
    rcases oz L a with⟨_,e⟩|⟨e,_,_⟩;·exact e
    ·exact absurd e h
   by_cases aX:(eY L a).1=0
   ·rw[aX];have aj:Hid (Calls Tryz.prog 32 #[.pointer (some ⟨h,0,none⟩), .agg cs.toArray] aa (yD aa h E L T a)):=aD;clear C aD aX;generalize a8:(eY L a).2=aL at*;go_wp2_with(refine aF rfl 46 (.tmp 10) rfl ⟨g10,0,none⟩ rfl cs _ ?zG Tryz.underlying46 rfl ao.out (bj.go ?zK));case zG=>exact bx.out
    unfold bj;go_wp2_with fail;refine aj.out.mono ?_;rintro e bp⟨T',rfl,bf,f9,aT⟩;have ap:=(c.out.uy.ar F.out).cN;have bF:Hid (fK bp h E aL T'):=by rw[Hid,←a8];exact bf
    have bd:=af (bc.out.jZ f9 ap (fun v z j l=>aI.out v z j l));have O:=af (ab.out.fr f9 (fun N=>by have:=c.out.uy.lt _ N;have:=a7.out;omega));have B:=af ((c.out.box.fr F.out (fun x=>x)).fr f9 (fun N=>by have:=c.out.new _ N;have:=d.out;omega));have aC:=af ((c.out.out.fr F.out (fun x=>x)).fr f9 (fun N=>by have:=c.out.new _ N;have:=d.out;omega));have bC:Hid (Fr ag w bp):=(c.out.fr.trans F.out).aw f9 (fun i aU e=>by have:=c.out.new i e;have:=d.out;omega);have be:Hid (∀j,T' j→w3.heap.size≤j):=fun j l=>by
     rcases aT j l with o|o;·exact c.out.new j o
     ·have:=c.out.size;have:=F.out.size;omega
    have bL:Hid (∀v∈g,∀j,v.ownBlock=some j→¬T' j):=fun v z j l N=>by
     rcases aT j N with o|o;·exact aI.out v z j l o
     ·have:=(bc.out.lt v z j l).lt;omega
    have bM:Hid (w3.heap.size≤bp.heap.size):=by have:=c.out.size;have:=F.out.size;have:=f9.size;simp only[Hid];omega
    clear bf f9 aT ap aj bc ab;have aN:Hid (∀j x,g[j]? =some x→bp.cell? ((⟨g12,0,none⟩:Addr).add j)=some x):=fE O.out;have aK:Hid ((Tryz.prog.info? 28).map (·.size)=some g.length):=by have:=y.out;rw[List.size_toArray]at this;exact this
    have aJ:Hid (ms.toArray.size=g.toArray.size):=by rw[Hid,←I.out,List.size_toArray,c.out.mod.len]
    go_wp2_with(refine aF rfl 28 (.tmp 12) rfl ⟨g12,0,none⟩ rfl g _ ?zF Tryz.underlying28 rfl aK.out (bj.go ?zS));case zF=>exact aN.out
    unfold bj;go_wp2_with(refine ai rfl 28 (.tmp 6) _ rfl g6 g.toArray rfl rfl _ _ B.out y.out aJ.out J.out ?_);intro ae R r;have m:fJ bp (fun k=>k=g6):=fJ.of (fun k zA=>⟨28,(show k=g6 from zA)▸B.out.ty,by decide,by decide,by decide⟩);have bH:Hid (xl w w3 ae h b g5 g6 (k+1) E aL T' g):=⟨bF.out.jZ r m (fun j l e=>by have M:j=g6:=e;have:=be.out j l;have:=d.out;omega),by
      have bO:=bd.out;exact bO.jZ r m (fun v z j l e=>by
       have M:j=g6:=e;have o:=bd.out.lt v z j l;rw[M]at o;exact absurd (o.one B.out.ty) (by decide)),R,a9.out,an.out,be.out,bL.out,bC.out.aw r (fun i aU e=>by have M:i=g6:=e;have:=d.out;have:=Q.out;have:=H.out;omega),by have:=r.size;have:=bM.out;omega,aC.out.fr r (fun e=>by have M:g5=g6:=e;have:=d.out;omega)⟩;clear R r;go_wp2;go_roundw;case rel=>exact⟨k+1,aL,T',g,by have:=t.out;omega,by have:=t.out;omega,by go_num,bH.out⟩
    case measure=>simp[intOf];have:=t.out;omega
   ·have bn:=C.out aX;obtain⟨bu,bg⟩:∃bu,(eY L a).1=bu:=⟨_,rfl⟩;rw[bg]at aX⊢;have t5:decide (bu=0)=false:=decide_eq_false aX;have t6:(bu==0)=false:=ku aX;generalize a8:(eY L a).2=aL at*;have bF:Hid (fK aa h E aL T):=by rw[Hid,bn];exact c.out.uy.ar F.out
    have bd:=bc;have O:=ab;have B:=af (c.out.box.fr F.out (fun x=>x));have aC:=af (c.out.out.fr F.out (fun x=>x));have bC:=af (c.out.fr.trans F.out);have be:=af c.out.new;have bL:=aI;have bM:Hid (w3.heap.size≤aa.heap.size):=by have:=c.out.size;have:=F.out.size;simp only[Hid];omega
    clear bg bn C aD bc ab;have aN:Hid (∀j x,g[j]? =some x→aa.cell? ((⟨g12,0,none⟩:Addr).add j)=some x):=fE O.out;have aK:Hid ((Tryz.prog.info? 28).map (·.size)=some g.length):=by have:=y.out;rw[List.size_toArray]at this;exact this
    have aJ:Hid (ms.toArray.size=g.toArray.size):=by rw[Hid,←I.out,List.size_toArray,c.out.mod.len]
    go_wp2_with(refine aF rfl 28 (.tmp 12) rfl ⟨g12,0,none⟩ rfl g _ ?zE Tryz.underlying28 rfl aK.out (bj.go ?zR));case zE=>exact aN.out
    unfold bj;go_wp2_with(refine ai rfl 28 (.tmp 6) _ rfl g6 g.toArray rfl rfl _ _ B.out y.out aJ.out J.out ?_);intro ae R r;have m:fJ aa (fun k=>k=g6):=fJ.of (fun k zA=>⟨28,(show k=g6 from zA)▸B.out.ty,by decide,by decide,by decide⟩);have bH:Hid (xl w w3 ae h b g5 g6 (k+1) E aL T g):=⟨bF.out.jZ r m (fun j l e=>by have M:j=g6:=e;have:=be.out j l;have:=d.out;omega),by
      have bO:=bd.out;exact bO.jZ r m (fun v z j l e=>by
       have M:j=g6:=e;have o:=bd.out.lt v z j l;rw[M]at o;exact absurd (o.one B.out.ty) (by decide)),R,a9.out,an.out,be.out,bL.out,bC.out.aw r (fun i aU e=>by have M:i=g6:=e;have:=d.out;have:=Q.out;have:=H.out;omega),by have:=r.size;have:=bM.out;omega,aC.out.fr r (fun e=>by have M:g5=g6:=e;have:=d.out;omega)⟩;clear R r;go_wp2;go_roundw;case rel=>exact⟨k+1,aL,T,g,by have:=t.out;omega,by have:=t.out;omega,by go_num,bH.out⟩
    case measure=>simp[intOf];have:=t.out;omega
  ·have cy:=c;have bb:Hid (∀W,Fr ag wr W→∀j x,ms[j]? =some x→W.cell? ((⟨g6,0,none⟩:Addr).add j)=some x):=fun W f j x cr=>by rw[Addr.add_mid,Nat.zero_add,(c.out.box.fr f (fun x=>x)).cell j,bR];exact cr
   have ad:Hid ((Tryz.prog.info? 28).map (·.size)=some ms.length):=by rw[Hid,c.out.mod.len];exact je
   have ac:Hid ((Tryz.prog.info? 28).map (·.size)=some ms.toArray.size):=by rw[Hid,List.size_toArray,c.out.mod.len];exact je
   have I:Hid (2=ms.toArray.size):=by rw[Hid,List.size_toArray,c.out.mod.len]
   have J:=af c.out.mod.one;by_cases o:k<Z
   ·obtain rfl:k=16:=by have:=b2.out;omega
    have t0:decide (((16:Nat):Int)<(Z:Int))=true:=dh (by omega);have cv:decide ((16:Int)<(Z:Int))=true:=dh (by omega);clear o X;go_upto_region 11 with fail;refine jS 3 [.pointer (some ⟨h,0,none⟩), .agg ms.toArray, .pointer (some ⟨h,0,none⟩)] ?zL ?_;case zL=>
     refine⟨?zT,?zN,?zO,trivial⟩;all_goals intro u w' V bP
     all_goals simp only[z1,z2,z3,z4,ay,Act.put,z5,z6,z7,Nat.reduceAdd,Nat.zero_add]
     case zN=>
      refine aG ?_;exact az _ _ rfl ⟨g6,0,none⟩ rfl ms _ (bb.out _ V) Tryz.underlying28 rfl ad.out aM
     case' zO=>simp only[show u 0=_ from bP 0]
     all_goals
      refine aG ?_;go_simp;exact aM
    intro w' V;simp only[z1,z2,z3,z4,ay,Act.put,z5,z6,z7,z8,z9,jx,jy,Nat.reduceAdd,Nat.zero_add];have D:=af V;have aQ:=af (c.out.out.fr V (fun x=>x));clear V;refine ai rfl 28 (.tmp 5) _ rfl g5 ms.toArray rfl rfl _ _ aQ.out ac.out I.out J.out ?_;intro ae R r;have bI:=af R;have m:fJ w' (fun j=>j=g5):=fJ.of (fun j l=>⟨28,(show j=g5 from l)▸aQ.out.ty,by decide,by decide,by decide⟩);have aO:=c.out.mod.ar D.out;have aE:Hid (qx w (.returned (.tuple #[.pointer (some ⟨h,0,none⟩), .agg ms.toArray])) ae):=⟨h,b,ms,E,L,T,rfl,(c.out.uy.ar D.out).jZ r m (fun j l e=>by have aS:j=g5:=e;have:=c.out.new j l;have:=d.out;omega),aO.jZ r m (fun v z j l e=>by
      have aS:j=g5:=e;have o:=aO.lt v z j l;rw[aS]at o;exact absurd (o.one aQ.out.ty) (by decide)),a6.out,c.out.run,(fun j l=>by have:=c.out.new j l;have:=d.out;have:=H.out;omega),(c.out.fr.trans D.out).aw r (fun i aU e=>by have aS:i=g5:=e;have:=H.out;omega)⟩;clear R r aO m;go_wp2;exact bodyPost_ret (fB (fn:=Tryz.f14) (p:=5) (q:=4) (ty:=28) Tryz.results14 _ ae _ 28 ms.toArray (0,0) _ rfl bI.out Tryz.underlying28 rfl ac.out _ rfl) rfl aE.out
   ·obtain rfl:k=Z:=by have:=b2.out;omega
    have t0:decide ((k:Int)<(k:Int))=false:=ct (by omega);clear o X;go_upto_region 11 with fail;refine jS 3 [.pointer (some ⟨h,0,none⟩), .agg ms.toArray, .pointer (some ⟨h,0,none⟩)] ?zM ?_;case zM=>
     refine⟨?zU,?zP,?zQ,trivial⟩;all_goals intro u w' V bP
     all_goals simp only[z1,z2,z3,z4,ay,Act.put,z5,z6,z7,Nat.reduceAdd,Nat.zero_add]
     case zP=>
      refine aG ?_;exact az _ _ rfl ⟨g6,0,none⟩ rfl ms _ (bb.out _ V) Tryz.underlying28 rfl ad.out aM
     case' zQ=>simp only[show u 0=_ from bP 0]
     all_goals
      refine aG ?_;go_simp;exact aM
    intro w' V;simp only[z1,z2,z3,z4,ay,Act.put,z5,z6,z7,z8,z9,jx,jy,Nat.reduceAdd,Nat.zero_add];have D:=af V;have aQ:=af (c.out.out.fr V (fun x=>x));clear V;refine ai rfl 28 (.tmp 5) _ rfl g5 ms.toArray rfl rfl _ _ aQ.out ac.out I.out J.out ?_;intro ae R r;have bI:=af R;have m:fJ w' (fun j=>j=g5):=fJ.of (fun j l=>⟨28,(show j=g5 from l)▸aQ.out.ty,by decide,by decide,by decide⟩);have aO:=c.out.mod.ar D.out;have aE:Hid (qx w (.returned (.tuple #[.pointer (some ⟨h,0,none⟩), .agg ms.toArray])) ae):=⟨h,b,ms,E,L,T,rfl,(c.out.uy.ar D.out).jZ r m (fun j l e=>by have aS:j=g5:=e;have:=c.out.new j l;have:=d.out;omega),aO.jZ r m (fun v z j l e=>by
      have aS:j=g5:=e;have o:=aO.lt v z j l;rw[aS]at o;exact absurd (o.one aQ.out.ty) (by decide)),a6.out,c.out.run,(fun j l=>by have:=c.out.new j l;have:=d.out;have:=H.out;omega),(c.out.fr.trans D.out).aw r (fun i aU e=>by have aS:i=g5:=e;have:=H.out;omega)⟩;clear R r aO m;go_wp2;exact bodyPost_ret (fB (fn:=Tryz.f14) (p:=5) (q:=4) (ty:=28) Tryz.results14 _ ae _ 28 ms.toArray (0,0) _ rfl bI.out Tryz.underlying28 rfl ac.out _ rfl) rfl aE.out
end Go.Proofs.YtphjagkehiklkaaGreatDoor
