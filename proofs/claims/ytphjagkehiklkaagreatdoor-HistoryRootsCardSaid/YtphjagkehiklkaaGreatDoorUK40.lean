/- Texts. -/
import Derived.Test.YtphjagkehiklkaaGreatDoorUK34
import Derived.Test.YtphjagkehiklkaaGreatDoorUK39
set_option linter.unusedVariables false
set_option linter.unusedSimpArgs false
set_option maxRecDepth 100000
set_option maxHeartbeats 8000000
namespace Go.Proofs.YtphjagkehiklkaaGreatDoor
open Go.RowKit Go.Shelf
theorem Mod.jv{w w':World}{T:Nat→Prop}{cs:List Value}{b:Nat}{E:List Ent}{L:List ActV}(h:Mod w cs b E L)(a:Fr T w w')(hF:eG w T)(i:∀v∈cs,∀k,v.ownBlock=some k→¬T k):Mod w' cs b E L:=by
 obtain⟨A,n,c,rfl,d,e,f,g⟩:=h;exact⟨A,n,c,rfl,d,e,f.bV a hF,g.bV a hF (i _ (by simp))⟩
theorem EC(b:Nat):Tryz.prog.built 28 [(0, .pointer (some ⟨b,0,none⟩))]=some [Value.pointer (some ⟨b,0,none⟩), .slice none 0 0].toArray:=by kernel_rfl
def pt(w:World)(e:Ending)(w':World):Prop:=∃(h b:Nat)(ms:List Value)(E:List Ent)(L:List ActV)(T:Nat→Prop),e= .returned (.tuple #[.pointer (some ⟨h,0,none⟩), .agg ms.toArray])∧
 eZ w' h E L T∧Mod w' ms b E L∧ct 6 E∧gL L∧(∀k,T k→w.heap.size≤k)∧Fr af w w'
theorem zT(n:Nat)(xs:List CV)(A:Option Addr)(bu:Nat)(S:Nat→Prop)(ab:Nat)(bU:Option Addr)(co:Nat)(w:World)(ca:CL w S A n xs)(ci:n≤9223372036854775807)(ch:n≤bu)(ce:sB w bU ab)(bQ:dy w)(cf:bp w):
  Calls Tryz.prog 14 #[.slice A n bu, .slice bU ab co] w (pt w):=by
 have bY:Hid (∀w',Fr af w w'→Calls Tryz.prog 28 #[.slice A n bu] w' (Ee w')):=fun w' f=>zw n xs A bu S w' (ca.al f) ci ch (bQ.al f);have bt:=Lib.hid bQ;have bs:=Lib.hid cf;have cm:=Lib.hid ce;clear ca ci ch bQ cf ce;go_enter Tryz.func14,Tryz.ntmps14;go_wp2_with(refine ai rfl 28 rfl (.agg qU.toArray) Gf #[.pointer none, .slice none 0 0] rfl ?_);intro w1 n1;have bA:=Lib.hid n1.fr;have bW:=Lib.hid n1.az;clear n1;generalize bi:w.heap.size=g5 at*;have H:=Lib.hid bi;clear bi;go_wp2_with fail;refine(bY.out _ bA.out).mono ?_;rintro e w2⟨b,E,rfl,bw,cb,f2⟩;have bZ:=Lib.hid (bA.out.trans f2);have bx:=Lib.hid (bW.out.fr f2 (fun x=>x));have b7:=Lib.hid bw;have a7:=Lib.hid cb;have a5:=Lib.hid (EC b);clear f2 bw cb bA bW bY;go_wp2_with(refine dH rfl 28 _ rfl [Value.pointer (some ⟨b,0,none⟩), .slice none 0 0].toArray _ (by simp only[List.map_toArray,List.map_cons,List.map_nil];rfl) a5.out (aR.go ?zA));unfold aR;go_wp2_with(refine ai rfl 28 rfl (.agg qU.toArray) Gf #[.pointer none, .slice none 0 0] rfl ?_);intro bT bo;have aP:=Lib.hid bo;clear bo;generalize bj:w2.heap.size=g6 at*;have R:=Lib.hid bj;clear bj;have a3:Hid (ak bT g6 28 #[.pointer none, .slice none 0 0]):=by have h:=aP.out.az;rw[R.out]at h;exact h
 have b6:Hid ([Value.pointer (some ⟨b,0,none⟩), .slice none 0 0].toArray.all (·.oneCell')=true):=by simp[Hid,Value.oneCell']
 go_wp2_with(refine ah rfl 28 (.tmp 6) _ rfl g6 [Value.pointer (some ⟨b,0,none⟩), .slice none 0 0].toArray rfl rfl _ _ a3.out ia rfl b6.out ?_);intro M b3 f3;have br:Hid (ak M g6 28 [Value.pointer (some ⟨b,0,none⟩), .slice none 0 0].toArray):=b3;have f23:Fr af w2 M:=aP.out.fr.ao f3 (fun i aV e=>by have N:i=g6:=e;have:=R.out;omega);have a4:=Lib.hid (bZ.out.trans f23);have aS:=Lib.hid (b7.out.al f23);have cl:=Lib.hid (bx.out.fr f23 (fun x=>x));have d:Hid (g6<M.heap.size∧g5<g6∧w.heap.size≤M.heap.size):=⟨br.out.lt,by have:=bx.out.lt;have:=R.out;omega,a4.out.size⟩;clear b3 f3 f23 aP a3 b6 bZ bx b7 a5;have cq:M.cell? ⟨g6,0,none⟩=some (.pointer (some ⟨b,0,none⟩)):=br.out.cell 0;go_wp2_with fail;refine(uH E b M aS.out (bt.out.al a4.out) (bs.out.al a4.out) (a7.out.more (by decide))).mono ?_;rintro e ct⟨h,T,rfl,cc,f4,cg⟩;have b2:Hid (vM w M ct h b g5 g6 0 E [] T [Value.pointer (some ⟨b,0,none⟩), .slice none 0 0]):=⟨cc,⟨none,0,0,rfl,rfl,Nat.le_refl _,aS.out.al f4,jO.nil _⟩,br.out.fr f4 (fun x=>x),gL.nil,Nat.le_refl _,cg,(fun v z k zA=>by
  rw[List.mem_cons,List.mem_singleton]at z;rcases z with rfl|rfl;·cases zA
  ·cases zA),a4.out.trans f4,f4.size,cl.out.fr f4 (fun x=>x)⟩;clear cc f4 cg cq br aS;go_wp2;go_loopw[9](fun i wr=>∃(k:Nat)(L:List ActV)(T:Nat→Prop)(ms:List Value),k≤16∧k≤ab∧i= .int .i64 (k:Int)∧vM w M wr h b g5 g6 k E L T ms)(fun i _=>16-(intOf i).toNat);case atStart=>exact⟨0,[],T,_,Nat.zero_le _,Nat.zero_le _,rfl,b2.out⟩
 case round=>
  obtain⟨k,L,T,ms,zA,bk,rfl,cd⟩:=hrel;have c:=Lib.hid cd;have b1:Hid (k≤16∧k≤ab):=⟨zA,bk⟩;clear cd zA bk b2;by_cases Y:k<ab∧k<16
  ·have t0:decide ((k:Int)<(ab:Int))=true:=decide_eq_true (by omega);have t1:decide ((k:Int)<16)=true:=decide_eq_true (by omega);have t2:(k:Int)<(ab:Int):=by omega
   have t3:(0:Int)≤(k:Int):=by omega
   have t4:(k:Int)<16:=by omega
   have t:=Lib.hid Y;obtain⟨cn,bN,rfl,aW,V⟩:=(cm.out.al c.out.fr) k Y.1;have bb:=Lib.hid aW;have a6:=Lib.hid V;have IR:Hid ((Tryz.prog.info? 72).map (·.size)=some bN.length):=by rw[Hid,aW.len];exact Fb
   clear aW V Y;go_wp2_with(refine aw rfl 72 (.tmp 34) rfl (cn.add (k*6)) rfl bN _ ?zB Tryz.underlying72 rfl IR.out (aR.go ?zH));case zB=>exact a6.out
   unfold aR;go_wp2_with fail;refine(xA bN _ bb.out).mono ?_;rintro e cj⟨cs,a,rfl,K,bl,bR,f5⟩;have b0:=Lib.hid f5;have aZ:=Lib.hid K;have aX:=Lib.hid bl;have bG:Hid ((Tryz.prog.info? 46).map (·.size)=some cs.toArray.size):=by rw[Hid,List.size_toArray,K.len];exact bm
   have ax:Hid ((Tryz.prog.info? 46).map (·.size)=some cs.length):=by rw[Hid,K.len];exact bm
   have bE:Hid (6=cs.toArray.size):=by rw[Hid,List.size_toArray,K.len]
   have bK:=Lib.hid (ActV.one K);clear f5 K bl bR a6 bb IR t0 t1 t2 t3 t4;go_wp2_with(refine ai rfl 46 rfl dU jN #[.int .i64 0, .int .i64 0, .int .i64 0, .string ByteArray.empty, .slice none 0 0, .slice none 0 0] rfl ?_);intro bT bo;have aP:=Lib.hid bo;clear bo;generalize aA:cj.heap.size=g10 at*;have au:=Lib.hid aA;clear aA;have a3:Hid (ak bT g10 46 #[.int .i64 0, .int .i64 0, .int .i64 0, .string ByteArray.empty, .slice none 0 0, .slice none 0 0]):=by have h:=aP.out.az;rw[au.out]at h;exact h
   go_wp2_with(refine ah rfl 46 (.tmp 10) _ rfl g10 cs.toArray rfl rfl _ _ a3.out bG.out bE.out bK.out ?_);intro bS b9 f6;have aF:=Lib.hid b9;have f56:Fr af cj bS:=aP.out.fr.ao f6 (fun i aV e=>by have N:i=g10:=e;have:=au.out;omega);have D:=Lib.hid (b0.out.trans f56);have aE:=Lib.hid (aZ.out.al f56);clear b9 f6 f56 aP a3 b0 aZ;have b5:Hid (∀j x,ms[j]? =some x→bS.cell? ((⟨g6,0,none⟩:Addr).add j)=some x):=fun j x aa=>by rw[Addr.add_mid,Nat.zero_add,(c.out.box.fr D.out (fun x=>x)).cell j,List.getElem?_toArray];exact aa
   have ag:Hid ((Tryz.prog.info? 28).map (·.size)=some ms.length):=by rw[Hid,c.out.mod.len];exact ia
   have aq:Hid (∀j x,cs[j]? =some x→bS.cell? ((⟨g10,0,none⟩:Addr).add j)=some x):=fun j x aa=>by rw[Addr.add_mid,Nat.zero_add,aF.out.cell j,List.getElem?_toArray];exact aa
   go_wp2_with(refine aw rfl 28 (.tmp 6) rfl ⟨g6,0,none⟩ rfl ms _ ?zD Tryz.underlying28 rfl ag.out (aR.go ?zJ));case zD=>exact b5.out
   unfold aR;go_wp2_with(refine aw rfl 46 (.tmp 10) rfl ⟨g10,0,none⟩ rfl cs _ ?zC Tryz.underlying46 rfl ax.out (aR.go ?zI));case zC=>exact aq.out
   unfold aR;go_wp2_with fail;refine(xD ms cs b E L a _ (c.out.mod.al D.out) aE.out (bt.out.al (c.out.fr.trans D.out)) (a7.out.more (by decide)) c.out.run aX.out).mono ?_;rintro e ck⟨g,rfl,Z,f7,aD⟩;have bB:=Lib.hid (D.out.trans f7);have b4:=Lib.hid Z;have aJ:Hid (∀v∈g,∀j,v.ownBlock=some j→¬T j):=fun v z j l O=>by
    rcases aD v z j l with o|⟨u,hu,o⟩;·have:=c.out.td.lt j O;have:=D.out.size;omega
    ·exact c.out.rows u hu j o O
   have a0:=Lib.hid (aE.out.al f7);have am:=Lib.hid (aF.out.fr f7 (fun x=>x));have y:Hid ((Tryz.prog.info? 28).map (·.size)=some g.toArray.size):=by rw[Hid,List.size_toArray,Z.len];exact ia
   have I:Hid (2=g.toArray.size):=by rw[Hid,List.size_toArray,Z.len]
   have J:=Lib.hid Z.one;clear f7 Z aD aE aF D b5 aq;go_wp2_with(refine ai rfl 28 rfl (.agg qU.toArray) Gf #[.pointer none, .slice none 0 0] rfl ?_);intro cu nb;have bJ:=Lib.hid nb;clear nb;generalize aC:ck.heap.size=g12 at*;have Q:=Lib.hid aC;clear aC;have bX:Hid (ak cu g12 28 #[.pointer none, .slice none 0 0]):=by have h:=bJ.out.az;rw[Q.out]at h;exact h
   go_wp2_with(refine ah rfl 28 (.tmp 12) _ rfl g12 g.toArray rfl rfl _ _ bX.out y.out I.out J.out ?_);intro ac b8 f8;have ad:=Lib.hid b8;have f78:Fr af ck ac:=bJ.out.fr.ao f8 (fun i aV e=>by have N:i=g12:=e;have:=Q.out;omega);have F:=Lib.hid (bB.out.trans f78);have a1:=Lib.hid (a0.out.al f78);have bd:=Lib.hid (b4.out.al f78);have a2:=Lib.hid (am.out.fr f78 (fun x=>x));have a8:Hid (wr.heap.size≤g12):=by have:=bB.out.size;have:=Q.out;simp only[Hid];omega
   clear b8 f8 f78 bJ bX bB a0 b4 am;have bz:Hid (∀j x,cs[j]? =some x→ac.cell? ((⟨g10,0,none⟩:Addr).add j)=some x):=fun j x aa=>by rw[Addr.add_mid,Nat.zero_add,a2.out.cell j,List.getElem?_toArray];exact aa
   have cA:IntKind.i64.wrap ((k:Int)+1)=(k:Int)+1:=IntWalk.i64_in _ (by have:=t.out;omega);have ba:=Lib.hid (c.out.run.append aX.out (by have:=c.out.len;have:=t.out;omega));have av:Hid ((ee L a).2.length≤k+1):=by
    have:=c.out.len;rcases mY L a with⟨_,e⟩|⟨_,e,_⟩;·rw[Hid,e];omega
    ·rw[Hid,e,List.length_append,List.length_singleton];omega
   have aH:Hid (Calls Tryz.prog 32 #[.pointer (some ⟨h,0,none⟩), .agg cs.toArray] ac (xv ac h E L T a)):=by
    have bD:=c.out.fr.trans F.out;refine pq h E L T a cs ac (c.out.td.al F.out) a1.out (bt.out.al bD) (bs.out.al bD) aX.out.sz (fun b bw=>by have:=(c.out.run.small b bw).ez;omega) (by have:=c.out.run.len;omega) (fun _=>by have:=aX.out.len;omega) (fun k zA O=>?_) (fun cz w' s f cp=>?_);·have o:=c.out.new k O;have cw:=bs.out.yk;have cx:=bs.out.yl;have cy:=a4.out.size;rcases zA with rfl|rfl<;>omega
    ·have G:=kC L E 24 (a7.out.more (by decide)) c.out.run.ok c.out.run.small;exact kI _ a cs _ s w' (a1.out.al f) cp (bt.out.al (bD.trans f)) G aX.out.writes (by have:=aX.out.nw;have:=c.out.run.len;omega)
   have C:Hid ((ee L a).1≠0→(ee L a).2=L):=fun h=>by
    rcases mY L a with⟨_,e⟩|⟨e,_,_⟩;·exact e
    ·exact absurd e h
   by_cases aY:(ee L a).1=0
   ·rw[aY];have ap:Hid (Calls Tryz.prog 32 #[.pointer (some ⟨h,0,none⟩), .agg cs.toArray] ac (xv ac h E L T a)):=aH;clear C aH aY;generalize a9:(ee L a).2=aM at*;go_wp2_with(refine aw rfl 46 (.tmp 10) rfl ⟨g10,0,none⟩ rfl cs _ ?zG Tryz.underlying46 rfl ax.out (aR.go ?zK));case zG=>exact bz.out
    unfold aR;go_wp2_with fail;refine ap.out.mono ?_;rintro e bq⟨T',rfl,bg,f9,aU⟩;have ay:=(c.out.td.al F.out).bV;have bF:Hid (eZ bq h E aM T'):=by rw[Hid,←a9];exact bg
    have be:=Lib.hid (bd.out.jv f9 ay (fun v z j l=>aJ.out v z j l));have P:=Lib.hid (ad.out.fr f9 (fun O=>by have:=c.out.td.lt _ O;have:=a8.out;omega));have B:=Lib.hid ((c.out.box.fr F.out (fun x=>x)).fr f9 (fun O=>by have:=c.out.new _ O;have:=d.out;omega));have aG:=Lib.hid ((c.out.out.fr F.out (fun x=>x)).fr f9 (fun O=>by have:=c.out.new _ O;have:=d.out;omega));have bC:Hid (Fr af w bq):=(c.out.fr.trans F.out).ao f9 (fun i aV e=>by have:=c.out.new i e;have:=d.out;omega);have bf:Hid (∀j,T' j→M.heap.size≤j):=fun j l=>by
     rcases aU j l with o|o;·exact c.out.new j o
     ·have:=c.out.size;have:=F.out.size;omega
    have bL:Hid (∀v∈g,∀j,v.ownBlock=some j→¬T' j):=fun v z j l O=>by
     rcases aU j O with o|o;·exact aJ.out v z j l o
     ·have:=(bd.out.lt v z j l).lt;omega
    have bM:Hid (M.heap.size≤bq.heap.size):=by have:=c.out.size;have:=F.out.size;have:=f9.size;simp only[Hid];omega
    clear bg f9 aU ay ap bd ad;have aN:Hid (∀j x,g[j]? =some x→bq.cell? ((⟨g12,0,none⟩:Addr).add j)=some x):=fun j x aa=>by rw[Addr.add_mid,Nat.zero_add,P.out.cell j,List.getElem?_toArray];exact aa
    have aL:Hid ((Tryz.prog.info? 28).map (·.size)=some g.length):=by have:=y.out;rw[List.size_toArray]at this;exact this
    have aK:Hid (ms.toArray.size=g.toArray.size):=by rw[Hid,←I.out,List.size_toArray,c.out.mod.len]
    go_wp2_with(refine aw rfl 28 (.tmp 12) rfl ⟨g12,0,none⟩ rfl g _ ?zF Tryz.underlying28 rfl aL.out (aR.go ?zS));case zF=>exact aN.out
    unfold aR;go_wp2_with(refine ah rfl 28 (.tmp 6) _ rfl g6 g.toArray rfl rfl _ _ B.out y.out aK.out J.out ?_);intro aj U r;have m:eG bq (fun k=>k=g6):=eG.of (fun k zA=>⟨28,(show k=g6 from zA)▸B.out.ty,by decide,by decide,by decide⟩);have bH:Hid (vM w M aj h b g5 g6 (k+1) E aM T' g):=⟨bF.out.jv r m (fun j l e=>by have N:j=g6:=e;have:=bf.out j l;have:=d.out;omega),by
      have bO:=be.out;exact bO.jv r m (fun v z j l e=>by
       have N:j=g6:=e;have o:=be.out.lt v z j l;rw[N]at o;exact absurd (o.one B.out.ty) (by decide)),U,ba.out,av.out,bf.out,bL.out,bC.out.ao r (fun i aV e=>by have N:i=g6:=e;have:=d.out;have:=R.out;have:=H.out;omega),by have:=r.size;have:=bM.out;omega,aG.out.fr r (fun e=>by have N:g5=g6:=e;have:=d.out;omega)⟩;clear U r;go_wp2;go_roundw;case rel=>exact⟨k+1,aM,T',g,by have:=t.out;omega,by have:=t.out;omega,by go_num,bH.out⟩
    case measure=>simp[intOf];have:=t.out;omega
   ·have bn:=C.out aY;obtain⟨bv,bh⟩:∃bv,(ee L a).1=bv:=⟨_,rfl⟩;rw[bh]at aY⊢;have t5:decide (bv=0)=false:=decide_eq_false aY;have t6:(bv==0)=false:=beq_eq_false_iff_ne.2 aY;generalize a9:(ee L a).2=aM at*;have bF:Hid (eZ ac h E aM T):=by rw[Hid,bn];exact c.out.td.al F.out
    have be:=bd;have P:=ad;have B:=Lib.hid (c.out.box.fr F.out (fun x=>x));have aG:=Lib.hid (c.out.out.fr F.out (fun x=>x));have bC:=Lib.hid (c.out.fr.trans F.out);have bf:=Lib.hid c.out.new;have bL:=aJ;have bM:Hid (M.heap.size≤ac.heap.size):=by have:=c.out.size;have:=F.out.size;simp only[Hid];omega
    clear bh bn C aH bd ad;have aN:Hid (∀j x,g[j]? =some x→ac.cell? ((⟨g12,0,none⟩:Addr).add j)=some x):=fun j x aa=>by rw[Addr.add_mid,Nat.zero_add,P.out.cell j,List.getElem?_toArray];exact aa
    have aL:Hid ((Tryz.prog.info? 28).map (·.size)=some g.length):=by have:=y.out;rw[List.size_toArray]at this;exact this
    have aK:Hid (ms.toArray.size=g.toArray.size):=by rw[Hid,←I.out,List.size_toArray,c.out.mod.len]
    go_wp2_with(refine aw rfl 28 (.tmp 12) rfl ⟨g12,0,none⟩ rfl g _ ?zE Tryz.underlying28 rfl aL.out (aR.go ?zR));case zE=>exact aN.out
    unfold aR;go_wp2_with(refine ah rfl 28 (.tmp 6) _ rfl g6 g.toArray rfl rfl _ _ B.out y.out aK.out J.out ?_);intro aj U r;have m:eG ac (fun k=>k=g6):=eG.of (fun k zA=>⟨28,(show k=g6 from zA)▸B.out.ty,by decide,by decide,by decide⟩);have bH:Hid (vM w M aj h b g5 g6 (k+1) E aM T g):=⟨bF.out.jv r m (fun j l e=>by have N:j=g6:=e;have:=bf.out j l;have:=d.out;omega),by
      have bO:=be.out;exact bO.jv r m (fun v z j l e=>by
       have N:j=g6:=e;have o:=be.out.lt v z j l;rw[N]at o;exact absurd (o.one B.out.ty) (by decide)),U,ba.out,av.out,bf.out,bL.out,bC.out.ao r (fun i aV e=>by have N:i=g6:=e;have:=d.out;have:=R.out;have:=H.out;omega),by have:=r.size;have:=bM.out;omega,aG.out.fr r (fun e=>by have N:g5=g6:=e;have:=d.out;omega)⟩;clear U r;go_wp2;go_roundw;case rel=>exact⟨k+1,aM,T,g,by have:=t.out;omega,by have:=t.out;omega,by go_num,bH.out⟩
    case measure=>simp[intOf];have:=t.out;omega
  ·have cv:=c;have bc:Hid (∀W,Fr af wr W→∀j x,ms[j]? =some x→W.cell? ((⟨g6,0,none⟩:Addr).add j)=some x):=fun W f j x aa=>by rw[Addr.add_mid,Nat.zero_add,(c.out.box.fr f (fun x=>x)).cell j,List.getElem?_toArray];exact aa
   have ag:Hid ((Tryz.prog.info? 28).map (·.size)=some ms.length):=by rw[Hid,c.out.mod.len];exact ia
   have ae:Hid ((Tryz.prog.info? 28).map (·.size)=some ms.toArray.size):=by rw[Hid,List.size_toArray,c.out.mod.len];exact ia
   have I:Hid (2=ms.toArray.size):=by rw[Hid,List.size_toArray,c.out.mod.len]
   have J:=Lib.hid c.out.mod.one;by_cases o:k<ab
   ·obtain rfl:k=16:=by have:=b1.out;omega
    have t0:decide (((16:Nat):Int)<(ab:Int))=true:=decide_eq_true (by omega);have cr:decide ((16:Int)<(ab:Int))=true:=decide_eq_true (by omega);clear o Y;go_upto_region 11 with fail;refine iP 3 [.pointer (some ⟨h,0,none⟩), .agg ms.toArray, .pointer (some ⟨h,0,none⟩)] ?zL ?_;case zL=>
     refine⟨?zU,?zN,?zO,trivial⟩;all_goals intro u w' X bP
     all_goals simp only[z1,z2,z3,z4,an,Act.put,z5,z6,z7,Nat.reduceAdd,Nat.zero_add]
     case zN=>
      refine aB ?_;exact ar _ _ rfl ⟨g6,0,none⟩ rfl ms _ (bc.out _ X) Tryz.underlying28 rfl ag.out ⟨rfl,Fr.refl _ _⟩
     case' zO=>simp only[show u 0=_ from bP 0]
     all_goals
      refine aB ?_;go_simp;exact⟨rfl,Fr.refl _ _⟩
    intro w' X;simp only[z1,z2,z3,z4,an,Act.put,z5,z6,z7,z8,z9,jl,jm,Nat.reduceAdd,Nat.zero_add];have D:=Lib.hid X;have aQ:=Lib.hid (c.out.out.fr X (fun x=>x));clear X;refine ah rfl 28 (.tmp 5) _ rfl g5 ms.toArray rfl rfl _ _ aQ.out ae.out I.out J.out ?_;intro aj U r;have bI:=Lib.hid U;have m:eG w' (fun j=>j=g5):=eG.of (fun j l=>⟨28,(show j=g5 from l)▸aQ.out.ty,by decide,by decide,by decide⟩);have aO:=c.out.mod.al D.out;have aI:Hid (pt w (.returned (.tuple #[.pointer (some ⟨h,0,none⟩), .agg ms.toArray])) aj):=⟨h,b,ms,E,L,T,rfl,(c.out.td.al D.out).jv r m (fun j l e=>by have aT:j=g5:=e;have:=c.out.new j l;have:=d.out;omega),aO.jv r m (fun v z j l e=>by
      have aT:j=g5:=e;have o:=aO.lt v z j l;rw[aT]at o;exact absurd (o.one aQ.out.ty) (by decide)),a7.out,c.out.run,(fun j l=>by have:=c.out.new j l;have:=d.out;have:=H.out;omega),(c.out.fr.trans D.out).ao r (fun i aV e=>by have aT:i=g5:=e;have:=H.out;omega)⟩;clear U r aO m;go_wp2;exact bodyPost_ret (eA (fn:=Tryz.f14) (p:=5) (q:=4) (ty:=28) Tryz.results14 _ aj _ 28 ms.toArray (0,0) _ rfl bI.out Tryz.underlying28 rfl ae.out _ rfl) rfl aI.out
   ·obtain rfl:k=ab:=by have:=b1.out;omega
    have t0:decide ((k:Int)<(k:Int))=false:=decide_eq_false (by omega);clear o Y;go_upto_region 11 with fail;refine iP 3 [.pointer (some ⟨h,0,none⟩), .agg ms.toArray, .pointer (some ⟨h,0,none⟩)] ?zM ?_;case zM=>
     refine⟨?zV,?zP,?zQ,trivial⟩;all_goals intro u w' X bP
     all_goals simp only[z1,z2,z3,z4,an,Act.put,z5,z6,z7,Nat.reduceAdd,Nat.zero_add]
     case zP=>
      refine aB ?_;exact ar _ _ rfl ⟨g6,0,none⟩ rfl ms _ (bc.out _ X) Tryz.underlying28 rfl ag.out ⟨rfl,Fr.refl _ _⟩
     case' zQ=>simp only[show u 0=_ from bP 0]
     all_goals
      refine aB ?_;go_simp;exact⟨rfl,Fr.refl _ _⟩
    intro w' X;simp only[z1,z2,z3,z4,an,Act.put,z5,z6,z7,z8,z9,jl,jm,Nat.reduceAdd,Nat.zero_add];have D:=Lib.hid X;have aQ:=Lib.hid (c.out.out.fr X (fun x=>x));clear X;refine ah rfl 28 (.tmp 5) _ rfl g5 ms.toArray rfl rfl _ _ aQ.out ae.out I.out J.out ?_;intro aj U r;have bI:=Lib.hid U;have m:eG w' (fun j=>j=g5):=eG.of (fun j l=>⟨28,(show j=g5 from l)▸aQ.out.ty,by decide,by decide,by decide⟩);have aO:=c.out.mod.al D.out;have aI:Hid (pt w (.returned (.tuple #[.pointer (some ⟨h,0,none⟩), .agg ms.toArray])) aj):=⟨h,b,ms,E,L,T,rfl,(c.out.td.al D.out).jv r m (fun j l e=>by have aT:j=g5:=e;have:=c.out.new j l;have:=d.out;omega),aO.jv r m (fun v z j l e=>by
      have aT:j=g5:=e;have o:=aO.lt v z j l;rw[aT]at o;exact absurd (o.one aQ.out.ty) (by decide)),a7.out,c.out.run,(fun j l=>by have:=c.out.new j l;have:=d.out;have:=H.out;omega),(c.out.fr.trans D.out).ao r (fun i aV e=>by have aT:i=g5:=e;have:=H.out;omega)⟩;clear U r aO m;go_wp2;exact bodyPost_ret (eA (fn:=Tryz.f14) (p:=5) (q:=4) (ty:=28) Tryz.results14 _ aj _ 28 ms.toArray (0,0) _ rfl bI.out Tryz.underlying28 rfl ae.out _ rfl) rfl aI.out
end Go.Proofs.YtphjagkehiklkaaGreatDoor
