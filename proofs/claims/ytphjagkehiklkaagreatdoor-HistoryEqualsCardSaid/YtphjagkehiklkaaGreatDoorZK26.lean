/- Texts. -/
import Derived.Test.YtphjagkehiklkaaGreatDoorZK25
set_option linter.unusedVariables false
set_option linter.unusedSimpArgs false
set_option maxRecDepth 100000
set_option maxHeartbeats 8000000
namespace Go.Proofs.YtphjagkehiklkaaGreatDoor
open Go.RowKit Go.Shelf
def rO(w:World)(A:Option Addr)(n:Nat):Prop:=∀k,k<n→∃a b,A=some a∧rN w b∧∀j x,b[j]? =some x→w.cell? ((a.add (k*6)).add j)=some x
theorem rO.ao{w w':World}{A:Option Addr}{n:Nat}(h:rO w A n)(a:Fr ag w w'):rO w' A n:=fun k g=>by
 obtain⟨b,c,d,e,f⟩:=h k g;exact⟨b,c,d,e.ao a,fun j x i=>a.ak (f j x i) (fun x=>x)⟩
theorem rN.len{w:World}{cs:List Value}(h:rN w cs):cs.length=6:=by
 obtain⟨_,_,_,_,_,_,_,_,_,_,_,_,_,_,_,_,rfl,_⟩:=h;rfl
theorem Mod.kL{w w':World}{T:Nat→Prop}{cs:List Value}{b:Nat}{E:List Ent}{L:List ActV}(h:Mod w cs b E L)(a:Fr T w w')(hF:fM w T)(i:∀v∈cs,∀k,v.ownBlock=some k→¬T k):Mod w' cs b E L:=by
 obtain⟨A,n,c,rfl,d,e,f,g⟩:=h;exact⟨A,n,c,rfl,d,e,f.cN a hF,g.cN a hF (i _ (by simp))⟩
theorem Mod.lt{w:World}{cs:List Value}{b:Nat}{E:List Ent}{L:List ActV}(h:Mod w cs b E L):∀v∈cs,∀k,v.ownBlock=some k→Ty w k 46:=by
 obtain⟨A,n,c,rfl,g,i,j,e,f,l⟩:=h;intro v d k a;rw[List.mem_cons,List.mem_singleton]at d;rcases d with rfl|rfl;·cases a
 ·exact jw f a
theorem Ty.lt{w:World}{k:Nat}{t:TypeId}(h:Ty w k t):k<w.heap.size:=by
 obtain⟨cs,h⟩:=h;exact aq.lt (cs:=cs) (t:=t) h
theorem Mod.len{w:World}{cs:List Value}{b:Nat}{E:List Ent}{L:List ActV}(h:Mod w cs b E L):cs.length=2:=by
 obtain⟨A,n,c,rfl,_⟩:=h;rfl
theorem Mod.one{w:World}{cs:List Value}{b:Nat}{E:List Ent}{L:List ActV}(h:Mod w cs b E L):cs.toArray.all (·.oneCell')=true:=by
 obtain⟨A,n,c,rfl,_⟩:=h;simp[Value.oneCell']
theorem JU(b:Nat):Tryz.prog.built 28 [(0, .pointer (some ⟨b,0,none⟩))]=some [Value.pointer (some ⟨b,0,none⟩), .slice none 0 0].toArray:=by kernel_rfl
def uZ(w:World)(e:Ending)(w':World):Prop:=∃(h b:Nat)(ms:List Value)(E:List Ent)(L:List ActV)(T:Nat→Prop),e= .returned (.tuple #[.pointer (some ⟨h,0,none⟩), .agg ms.toArray])∧
 ez w' h E L T∧Mod w' ms b E L∧cE 6 E∧eH L∧(∀k,T k→w.heap.size≤k)∧Fr ag w w'
def sG(w:World)(e:Ending)(w':World):Prop:=∃(h b:Nat)(ms:List Value)(E:List Ent)(L:List ActV)(T:Nat→Prop),e= .returned (.tuple #[.pointer (some ⟨h,0,none⟩), .agg ms.toArray])∧
 ez w' h E L T∧Mod w' ms b E L∧cE 6 E∧eH L∧(∀k,T k→w.heap.size≤k)∧Fr ag w w'∧∀v∈ms,∀j,v.ownBlock=some j→¬T j
structure y9(w w3 wr:World)(h b g5 g6 k:Nat)(E:List Ent)(L:List ActV)(T:Nat→Prop)(ms:List Value):Prop where
 qF:ez wr h E L T
 mod:Mod wr ms b E L
 box:aq wr g6 28 ms.toArray
 run:eH L
 len:L.length≤k
 new:∀j,T j→w3.heap.size≤j
 rows:∀v∈ms,∀j,v.ownBlock=some j→¬T j
 fr:Fr ag w wr
 size:w3.heap.size≤wr.heap.size
 out:aq wr g5 28 #[.pointer none, .slice none 0 0]
theorem Bz(n:Nat)(xs:List CV)(A:Option Addr)(bt:Nat)(S:Nat→Prop)(Z:Nat)(bW:Option Addr)(cp:Nat)(w:World)(cb:CL w S A n xs)(cj:n≤9223372036854775807)(ci:n≤bt)(cf:rO w bW Z)(bR:eh w)(cg:bT w):
  Calls Tryz.prog 14 #[.slice A n bt, .slice bW Z cp] w (sG w):=by
 have bZ:Hid (∀w',Fr ag w w'→Calls Tryz.prog 28 #[.slice A n bt] w' (Jt w')):=fun w' f=>DY n xs A bt S w' (cb.ao f) cj ci (bR.ao f);have bs:=af bR;have br:=af cg;have cn:=af cf;clear cb cj ci bR cg cf;go_enter Tryz.func14,Tryz.ntmps14;go_wp2_with(refine an rfl 28 rfl (.agg rB.toArray) Js #[.pointer none, .slice none 0 0] rfl ?_);intro w1 n1;have bz:=af n1.fr;have bX:=af n1.aE;clear n1;generalize bj:w.heap.size=g5 at*;have H:=af bj;clear bj;go_wp2_with fail;refine(bZ.out _ bz.out).mono ?_;rintro e w2⟨b,E,rfl,bv,cc,f2⟩;have b0:=af (bz.out.trans f2);have bw:=af (bX.out.fr f2 (fun x=>x));have b9:=af bv;have a8:=af cc;have a6:=af (JU b);clear f2 bv cc bz bX bZ;go_wp2_with(refine dM rfl 28 _ rfl [Value.pointer (some ⟨b,0,none⟩), .slice none 0 0].toArray _ (by simp only[List.map_toArray,List.map_cons,List.map_nil];rfl) a6.out (aR.go ?zA));unfold aR;go_wp2_with(refine an rfl 28 rfl (.agg rB.toArray) Js #[.pointer none, .slice none 0 0] rfl ?_);intro bV bo;have aP:=af bo;clear bo;generalize bk:w2.heap.size=g6 at*;have Q:=af bk;clear bk;have a4:Hid (aq bV g6 28 #[.pointer none, .slice none 0 0]):=by have h:=aP.out.aE;rw[Q.out]at h;exact h
 have b7:Hid ([Value.pointer (some ⟨b,0,none⟩), .slice none 0 0].toArray.all (·.oneCell')=true):=by simp[Hid,Value.oneCell']
 go_wp2_with(refine ai rfl 28 (.tmp 6) _ rfl g6 [Value.pointer (some ⟨b,0,none⟩), .slice none 0 0].toArray rfl rfl _ _ a4.out iw rfl b7.out ?_);intro w3 b3 f3;have bq:Hid (aq w3 g6 28 [Value.pointer (some ⟨b,0,none⟩), .slice none 0 0].toArray):=b3;have f23:Fr ag w2 w3:=aP.out.fr.aw f3 (fun i aW e=>by have M:i=g6:=e;have:=Q.out;omega);have a5:=af (b0.out.trans f23);have aT:=af (b9.out.ao f23);have cm:=af (bw.out.fr f23 (fun x=>x));have d:Hid (g6<w3.heap.size∧g5<g6∧w.heap.size≤w3.heap.size):=⟨bq.out.lt,by have:=bw.out.lt;have:=Q.out;omega,a5.out.size⟩;clear b3 f3 f23 aP a4 b7 b0 bw b9 a6;have ct:w3.cell? ⟨g6,0,none⟩=some (.pointer (some ⟨b,0,none⟩)):=bq.out.cell 0;go_wp2_with fail;refine(yi E b w3 aT.out (bs.out.ao a5.out) (br.out.ao a5.out) (a8.out.more (by decide))).mono ?_;rintro e cv⟨h,T,rfl,cd,f4,ch⟩;have b4:Hid (y9 w w3 cv h b g5 g6 0 E [] T [Value.pointer (some ⟨b,0,none⟩), .slice none 0 0]):=⟨cd,⟨none,0,0,rfl,rfl,Nat.le_refl _,aT.out.ao f4,jZ.nil _⟩,bq.out.fr f4 (fun x=>x),eH.nil,Nat.le_refl _,ch,(fun v z k zA=>by
  rw[List.mem_cons,List.mem_singleton]at z;rcases z with rfl|rfl;·cases zA
  ·cases zA),a5.out.trans f4,f4.size,cm.out.fr f4 (fun x=>x)⟩;clear cd f4 ch ct bq aT;go_wp2;go_loopw[9](fun i wr=>∃(k:Nat)(L:List ActV)(T:Nat→Prop)(ms:List Value),k≤16∧k≤Z∧i= .int .i64 (k:Int)∧y9 w w3 wr h b g5 g6 k E L T ms)(fun i _=>16-(intOf i).toNat);case atStart=>exact⟨0,[],T,_,Nat.zero_le _,Nat.zero_le _,rfl,b4.out⟩
 case round=>
  obtain⟨k,L,T,ms,zA,bl,rfl,ce⟩:=hrel;have c:=af ce;have b2:Hid (k≤16∧k≤Z):=⟨zA,bl⟩;clear ce zA bl b4;by_cases X:k<Z∧k<16
  ·have t0:decide ((k:Int)<(Z:Int))=true:=de (by omega);have t1:decide ((k:Int)<16)=true:=de (by omega);have t2:(k:Int)<(Z:Int):=by omega
   have t3:(0:Int)≤(k:Int):=by omega
   have t4:(k:Int)<16:=by omega
   have t:=af X;obtain⟨co,bN,rfl,aX,U⟩:=(cn.out.ao c.out.fr) k X.1;have bc:=af aX;have a7:=af U;have IR:Hid ((Tryz.prog.info? 72).map (·.size)=some bN.length):=by rw[Hid,aX.len];exact BU
   clear aX U X;go_wp2_with(refine aC rfl 72 (.tmp 34) rfl (co.add (k*6)) rfl bN _ ?zB Tryz.underlying72 rfl IR.out (aR.go ?zH));case zB=>exact a7.out
   unfold aR;go_wp2_with fail;refine(tJ bN _ bc.out).mono ?_;rintro e ck⟨cs,a,rfl,K,bm,bS,f5⟩;have b1:=af f5;have a0:=af K;have aY:=af bm;have bF:Hid ((Tryz.prog.info? 46).map (·.size)=some cs.toArray.size):=by rw[Hid,List.size_toArray,K.len];exact bL
   have ap:Hid ((Tryz.prog.info? 46).map (·.size)=some cs.length):=by rw[Hid,K.len];exact bL
   have bD:Hid (6=cs.toArray.size):=by rw[Hid,List.size_toArray,K.len]
   have bJ:=af (ActV.one K);clear f5 K bm bS a7 bc IR t0 t1 t2 t3 t4;go_wp2_with(refine an rfl 46 rfl ep kC #[.int .i64 0, .int .i64 0, .int .i64 0, .string ByteArray.empty, .slice none 0 0, .slice none 0 0] rfl ?_);intro bV bo;have aP:=af bo;clear bo;generalize ax:ck.heap.size=g10 at*;have al:=af ax;clear ax;have a4:Hid (aq bV g10 46 #[.int .i64 0, .int .i64 0, .int .i64 0, .string ByteArray.empty, .slice none 0 0, .slice none 0 0]):=by have h:=aP.out.aE;rw[al.out]at h;exact h
   go_wp2_with(refine ai rfl 46 (.tmp 10) _ rfl g10 cs.toArray rfl rfl _ _ a4.out bF.out bD.out bJ.out ?_);intro bU ca f6;have aB:=af ca;have f56:Fr ag ck bU:=aP.out.fr.aw f6 (fun i aW e=>by have M:i=g10:=e;have:=al.out;omega);have D:=af (b1.out.trans f56);have aA:=af (a0.out.ao f56);clear ca f6 f56 aP a4 b1 a0;have b6:Hid (∀j x,ms[j]? =some x→bU.cell? ((⟨g6,0,none⟩:Addr).add j)=some x):=kX (c.out.box.fr D.out (fun x=>x));have ad:Hid ((Tryz.prog.info? 28).map (·.size)=some ms.length):=by rw[Hid,c.out.mod.len];exact iw
   have ak:Hid (∀j x,cs[j]? =some x→bU.cell? ((⟨g10,0,none⟩:Addr).add j)=some x):=kX aB.out;go_wp2_with(refine aC rfl 28 (.tmp 6) rfl ⟨g6,0,none⟩ rfl ms _ ?zD Tryz.underlying28 rfl ad.out (aR.go ?zJ));case zD=>exact b6.out
   unfold aR;go_wp2_with(refine aC rfl 46 (.tmp 10) rfl ⟨g10,0,none⟩ rfl cs _ ?zC Tryz.underlying46 rfl ap.out (aR.go ?zI));case zC=>exact ak.out
   unfold aR;go_wp2_with fail;refine(AR ms cs b E L a _ (c.out.mod.ao D.out) aA.out (bs.out.ao (c.out.fr.trans D.out)) (a8.out.more (by decide)) c.out.run aY.out).mono ?_;rintro e cl⟨g,rfl,Y,f7,az⟩;have bA:=af (D.out.trans f7);have b5:=af Y;have aI:Hid (∀v∈g,∀j,v.ownBlock=some j→¬T j):=fun v z j l N=>by
    rcases az v z j l with o|⟨u,hu,o⟩;·have:=c.out.qF.lt j N;have:=D.out.size;omega
    ·exact c.out.rows u hu j o N
   have a1:=af (aA.out.ao f7);have ah:=af (aB.out.fr f7 (fun x=>x));have y:Hid ((Tryz.prog.info? 28).map (·.size)=some g.toArray.size):=by rw[Hid,List.size_toArray,Y.len];exact iw
   have I:Hid (2=g.toArray.size):=by rw[Hid,List.size_toArray,Y.len]
   have J:=af Y.one;clear f7 Y az aA aB D b6 ak;go_wp2_with(refine an rfl 28 rfl (.agg rB.toArray) Js #[.pointer none, .slice none 0 0] rfl ?_);intro cw nb;have bI:=af nb;clear nb;generalize ay:cl.heap.size=g12 at*;have P:=af ay;clear ay;have bY:Hid (aq cw g12 28 #[.pointer none, .slice none 0 0]):=by have h:=bI.out.aE;rw[P.out]at h;exact h
   go_wp2_with(refine ai rfl 28 (.tmp 12) _ rfl g12 g.toArray rfl rfl _ _ bY.out y.out I.out J.out ?_);intro aa b8 f8;have ab:=af b8;have f78:Fr ag cl aa:=bI.out.fr.aw f8 (fun i aW e=>by have M:i=g12:=e;have:=P.out;omega);have F:=af (bA.out.trans f78);have a2:=af (a1.out.ao f78);have be:=af (b5.out.ao f78);have a3:=af (ah.out.fr f78 (fun x=>x));have a9:Hid (wr.heap.size≤g12):=by have:=bA.out.size;have:=P.out;simp only[Hid];omega
   clear b8 f8 f78 bI bY bA a1 b5 ah;have bx:Hid (∀j x,cs[j]? =some x→aa.cell? ((⟨g10,0,none⟩:Addr).add j)=some x):=kX a3.out;have cC:IntKind.i64.wrap ((k:Int)+1)=(k:Int)+1:=IntWalk.i64_in _ (by have:=t.out;omega);have bb:=af (c.out.run.append aY.out (by have:=c.out.len;have:=t.out;omega));have am:Hid ((eS L a).2.length≤k+1):=by
    have:=c.out.len;rcases mI L a with⟨_,e⟩|⟨_,e,_⟩;·rw[Hid,e];omega
    ·rw[Hid,e,aS,List.length_singleton];omega
   have aG:Hid (Calls Tryz.prog 32 #[.pointer (some ⟨h,0,none⟩), .agg cs.toArray] aa (AE aa h E L T a)):=by
    have bC:=c.out.fr.trans F.out;refine nY h E L T a cs aa (c.out.qF.ao F.out) a2.out (bs.out.ao bC) (br.out.ao bC) aY.out.sz (fun b bv=>by have:=(c.out.run.small b bv).fV;omega) (by have:=c.out.run.len;omega) (fun _=>by have:=aY.out.len;omega) (fun k zA N=>?_) (fun cB w' s f cq=>?_);·have o:=c.out.new k N;have cy:=br.out.EF;have cz:=br.out.EG;have cA:=a5.out.size;rcases zA with rfl|rfl<;>omega
    ·have G:=jG L E 24 (a8.out.more (by decide)) c.out.run.ok c.out.run.small;exact kJ _ a cs _ s w' (a2.out.ao f) cq (bs.out.ao (bC.trans f)) G aY.out.writes (by have:=aY.out.nw;have:=c.out.run.len;omega)
   have C:Hid ((eS L a).1≠0→(eS L a).2=L):=fun h=>by
    rcases mI L a with⟨_,e⟩|⟨e,_,_⟩;·exact e
    ·exact absurd e h
   by_cases aZ:(eS L a).1=0
   ·rw[aZ];have aj:Hid (Calls Tryz.prog 32 #[.pointer (some ⟨h,0,none⟩), .agg cs.toArray] aa (AE aa h E L T a)):=aG;clear C aG aZ;generalize ba:(eS L a).2=aL at*;go_wp2_with(refine aC rfl 46 (.tmp 10) rfl ⟨g10,0,none⟩ rfl cs _ ?zG Tryz.underlying46 rfl ap.out (aR.go ?zK));case zG=>exact bx.out
    unfold aR;go_wp2_with fail;refine aj.out.mono ?_;rintro e bp⟨T',rfl,bh,f9,aV⟩;have av:=(c.out.qF.ao F.out).cN;have bE:Hid (ez bp h E aL T'):=by rw[Hid,←ba];exact bh
    have bf:=af (be.out.kL f9 av (fun v z j l=>aI.out v z j l));have O:=af (ab.out.fr f9 (fun N=>by have:=c.out.qF.lt _ N;have:=a9.out;omega));have B:=af ((c.out.box.fr F.out (fun x=>x)).fr f9 (fun N=>by have:=c.out.new _ N;have:=d.out;omega));have aD:=af ((c.out.out.fr F.out (fun x=>x)).fr f9 (fun N=>by have:=c.out.new _ N;have:=d.out;omega));have bB:Hid (Fr ag w bp):=(c.out.fr.trans F.out).aw f9 (fun i aW e=>by have:=c.out.new i e;have:=d.out;omega);have bg:Hid (∀j,T' j→w3.heap.size≤j):=fun j l=>by
     rcases aV j l with o|o;·exact c.out.new j o
     ·have:=c.out.size;have:=F.out.size;omega
    have bK:Hid (∀v∈g,∀j,v.ownBlock=some j→¬T' j):=fun v z j l N=>by
     rcases aV j N with o|o;·exact aI.out v z j l o
     ·have:=(be.out.lt v z j l).lt;omega
    have bM:Hid (w3.heap.size≤bp.heap.size):=by have:=c.out.size;have:=F.out.size;have:=f9.size;simp only[Hid];omega
    clear bh f9 aV av aj be ab;have aN:Hid (∀j x,g[j]? =some x→bp.cell? ((⟨g12,0,none⟩:Addr).add j)=some x):=kX O.out;have aK:Hid ((Tryz.prog.info? 28).map (·.size)=some g.length):=by have:=y.out;rw[List.size_toArray]at this;exact this
    have aJ:Hid (ms.toArray.size=g.toArray.size):=by rw[Hid,←I.out,List.size_toArray,c.out.mod.len]
    go_wp2_with(refine aC rfl 28 (.tmp 12) rfl ⟨g12,0,none⟩ rfl g _ ?zF Tryz.underlying28 rfl aK.out (aR.go ?zS));case zF=>exact aN.out
    unfold aR;go_wp2_with(refine ai rfl 28 (.tmp 6) _ rfl g6 g.toArray rfl rfl _ _ B.out y.out aJ.out J.out ?_);intro ae R r;have m:fM bp (fun k=>k=g6):=fM.of (fun k zA=>⟨28,(show k=g6 from zA)▸B.out.ty,by decide,by decide,by decide⟩);have bG:Hid (y9 w w3 ae h b g5 g6 (k+1) E aL T' g):=⟨bE.out.kL r m (fun j l e=>by have M:j=g6:=e;have:=bg.out j l;have:=d.out;omega),by
      have bO:=bf.out;exact bO.kL r m (fun v z j l e=>by
       have M:j=g6:=e;have o:=bf.out.lt v z j l;rw[M]at o;exact absurd (o.one B.out.ty) (by decide)),R,bb.out,am.out,bg.out,bK.out,bB.out.aw r (fun i aW e=>by have M:i=g6:=e;have:=d.out;have:=Q.out;have:=H.out;omega),by have:=r.size;have:=bM.out;omega,aD.out.fr r (fun e=>by have M:g5=g6:=e;have:=d.out;omega)⟩;clear R r;go_wp2;go_roundw;case rel=>exact⟨k+1,aL,T',g,by have:=t.out;omega,by have:=t.out;omega,by go_num,bG.out⟩
    case measure=>simp[intOf];have:=t.out;omega
   ·have bn:=C.out aZ;obtain⟨bu,bi⟩:∃bu,(eS L a).1=bu:=⟨_,rfl⟩;rw[bi]at aZ⊢;have t5:decide (bu=0)=false:=decide_eq_false aZ;have t6:(bu==0)=false:=jt aZ;generalize ba:(eS L a).2=aL at*;have bE:Hid (ez aa h E aL T):=by rw[Hid,bn];exact c.out.qF.ao F.out
    have bf:=be;have O:=ab;have B:=af (c.out.box.fr F.out (fun x=>x));have aD:=af (c.out.out.fr F.out (fun x=>x));have bB:=af (c.out.fr.trans F.out);have bg:=af c.out.new;have bK:=aI;have bM:Hid (w3.heap.size≤aa.heap.size):=by have:=c.out.size;have:=F.out.size;simp only[Hid];omega
    clear bi bn C aG be ab;have aN:Hid (∀j x,g[j]? =some x→aa.cell? ((⟨g12,0,none⟩:Addr).add j)=some x):=kX O.out;have aK:Hid ((Tryz.prog.info? 28).map (·.size)=some g.length):=by have:=y.out;rw[List.size_toArray]at this;exact this
    have aJ:Hid (ms.toArray.size=g.toArray.size):=by rw[Hid,←I.out,List.size_toArray,c.out.mod.len]
    go_wp2_with(refine aC rfl 28 (.tmp 12) rfl ⟨g12,0,none⟩ rfl g _ ?zE Tryz.underlying28 rfl aK.out (aR.go ?zR));case zE=>exact aN.out
    unfold aR;go_wp2_with(refine ai rfl 28 (.tmp 6) _ rfl g6 g.toArray rfl rfl _ _ B.out y.out aJ.out J.out ?_);intro ae R r;have m:fM aa (fun k=>k=g6):=fM.of (fun k zA=>⟨28,(show k=g6 from zA)▸B.out.ty,by decide,by decide,by decide⟩);have bG:Hid (y9 w w3 ae h b g5 g6 (k+1) E aL T g):=⟨bE.out.kL r m (fun j l e=>by have M:j=g6:=e;have:=bg.out j l;have:=d.out;omega),by
      have bO:=bf.out;exact bO.kL r m (fun v z j l e=>by
       have M:j=g6:=e;have o:=bf.out.lt v z j l;rw[M]at o;exact absurd (o.one B.out.ty) (by decide)),R,bb.out,am.out,bg.out,bK.out,bB.out.aw r (fun i aW e=>by have M:i=g6:=e;have:=d.out;have:=Q.out;have:=H.out;omega),by have:=r.size;have:=bM.out;omega,aD.out.fr r (fun e=>by have M:g5=g6:=e;have:=d.out;omega)⟩;clear R r;go_wp2;go_roundw;case rel=>exact⟨k+1,aL,T,g,by have:=t.out;omega,by have:=t.out;omega,by go_num,bG.out⟩
    case measure=>simp[intOf];have:=t.out;omega
  ·have cx:=c;have bd:Hid (∀W,Fr ag wr W→∀j x,ms[j]? =some x→W.cell? ((⟨g6,0,none⟩:Addr).add j)=some x):=fun W f j x cr=>by rw[Addr.add_mid,Nat.zero_add,(c.out.box.fr f (fun x=>x)).cell j,bP];exact cr
   have ad:Hid ((Tryz.prog.info? 28).map (·.size)=some ms.length):=by rw[Hid,c.out.mod.len];exact iw
   have ac:Hid ((Tryz.prog.info? 28).map (·.size)=some ms.toArray.size):=by rw[Hid,List.size_toArray,c.out.mod.len];exact iw
   have I:Hid (2=ms.toArray.size):=by rw[Hid,List.size_toArray,c.out.mod.len]
   have J:=af c.out.mod.one;by_cases o:k<Z
   ·obtain rfl:k=16:=by have:=b2.out;omega
    have t0:decide (((16:Nat):Int)<(Z:Int))=true:=de (by omega);have cu:decide ((16:Int)<(Z:Int))=true:=de (by omega);clear o X;go_upto_region 11 with fail;refine jn 3 [.pointer (some ⟨h,0,none⟩), .agg ms.toArray, .pointer (some ⟨h,0,none⟩)] ?zL ?_;case zL=>
     refine⟨?zT,?zN,?zO,trivial⟩;all_goals intro u w' V bQ
     all_goals simp only[z1,z2,z3,z4,ar,Act.put,z5,z6,z7,Nat.reduceAdd,Nat.zero_add]
     case zN=>
      refine aF ?_;exact au _ _ rfl ⟨g6,0,none⟩ rfl ms _ (bd.out _ V) Tryz.underlying28 rfl ad.out aM
     case' zO=>simp only[show u 0=_ from bQ 0]
     all_goals
      refine aF ?_;go_simp;exact aM
    intro w' V;simp only[z1,z2,z3,z4,ar,Act.put,z5,z6,z7,z8,z9,jX,jY,Nat.reduceAdd,Nat.zero_add];have D:=af V;have aQ:=af (c.out.out.fr V (fun x=>x));clear V;refine ai rfl 28 (.tmp 5) _ rfl g5 ms.toArray rfl rfl _ _ aQ.out ac.out I.out J.out ?_;intro ae R r;have bH:=af R;have m:fM w' (fun j=>j=g5):=fM.of (fun j l=>⟨28,(show j=g5 from l)▸aQ.out.ty,by decide,by decide,by decide⟩);have aO:=c.out.mod.ao D.out;have aH:Hid (sG w (.returned (.tuple #[.pointer (some ⟨h,0,none⟩), .agg ms.toArray])) ae):=⟨h,b,ms,E,L,T,rfl,(c.out.qF.ao D.out).kL r m (fun j l e=>by have aU:j=g5:=e;have:=c.out.new j l;have:=d.out;omega),aO.kL r m (fun v z j l e=>by
      have aU:j=g5:=e;have o:=aO.lt v z j l;rw[aU]at o;exact absurd (o.one aQ.out.ty) (by decide)),a8.out,c.out.run,(fun j l=>by have:=c.out.new j l;have:=d.out;have:=H.out;omega),(c.out.fr.trans D.out).aw r (fun i aW e=>by have aU:i=g5:=e;have:=H.out;omega),c.out.rows⟩;clear R r aO m;go_wp2;exact bodyPost_ret (fZ (fn:=Tryz.f14) (p:=5) (q:=4) (ty:=28) Tryz.results14 _ ae _ 28 ms.toArray (0,0) _ rfl bH.out Tryz.underlying28 rfl ac.out _ rfl) rfl aH.out
   ·obtain rfl:k=Z:=by have:=b2.out;omega
    have t0:decide ((k:Int)<(k:Int))=false:=cD (by omega);clear o X;go_upto_region 11 with fail;refine jn 3 [.pointer (some ⟨h,0,none⟩), .agg ms.toArray, .pointer (some ⟨h,0,none⟩)] ?zM ?_;case zM=>
     refine⟨?zU,?zP,?zQ,trivial⟩;all_goals intro u w' V bQ
     all_goals simp only[z1,z2,z3,z4,ar,Act.put,z5,z6,z7,Nat.reduceAdd,Nat.zero_add]
     case zP=>
      refine aF ?_;exact au _ _ rfl ⟨g6,0,none⟩ rfl ms _ (bd.out _ V) Tryz.underlying28 rfl ad.out aM
     case' zQ=>simp only[show u 0=_ from bQ 0]
     all_goals
      refine aF ?_;go_simp;exact aM
    intro w' V;simp only[z1,z2,z3,z4,ar,Act.put,z5,z6,z7,z8,z9,jX,jY,Nat.reduceAdd,Nat.zero_add];have D:=af V;have aQ:=af (c.out.out.fr V (fun x=>x));clear V;refine ai rfl 28 (.tmp 5) _ rfl g5 ms.toArray rfl rfl _ _ aQ.out ac.out I.out J.out ?_;intro ae R r;have bH:=af R;have m:fM w' (fun j=>j=g5):=fM.of (fun j l=>⟨28,(show j=g5 from l)▸aQ.out.ty,by decide,by decide,by decide⟩);have aO:=c.out.mod.ao D.out;have aH:Hid (sG w (.returned (.tuple #[.pointer (some ⟨h,0,none⟩), .agg ms.toArray])) ae):=⟨h,b,ms,E,L,T,rfl,(c.out.qF.ao D.out).kL r m (fun j l e=>by have aU:j=g5:=e;have:=c.out.new j l;have:=d.out;omega),aO.kL r m (fun v z j l e=>by
      have aU:j=g5:=e;have o:=aO.lt v z j l;rw[aU]at o;exact absurd (o.one aQ.out.ty) (by decide)),a8.out,c.out.run,(fun j l=>by have:=c.out.new j l;have:=d.out;have:=H.out;omega),(c.out.fr.trans D.out).aw r (fun i aW e=>by have aU:i=g5:=e;have:=H.out;omega),c.out.rows⟩;clear R r aO m;go_wp2;exact bodyPost_ret (fZ (fn:=Tryz.f14) (p:=5) (q:=4) (ty:=28) Tryz.results14 _ ae _ 28 ms.toArray (0,0) _ rfl bH.out Tryz.underlying28 rfl ac.out _ rfl) rfl aH.out
theorem vY(n:Nat)(xs:List CV)(A:Option Addr)(c:Nat)(S:Nat→Prop)(d:Nat)(a:Option Addr)(f:Nat)(w:World)(o:CL w S A n xs)(t:n≤9223372036854775807)(s:n≤c)(p:rO w a d)(r:eh w)(q:bT w):
  Calls Tryz.prog 14 #[.slice A n c, .slice a d f] w (uZ w):=
 (Bz n xs A c S d a f w o t s p r q).mono fun _ _⟨h,b,ms,E,L,T,e,g,i,j,k,l,m,_⟩=>⟨h,b,ms,E,L,T,e,g,i,j,k,l,m⟩
theorem IQ(w:World):Calls Tryz.prog 44 #[.pointer none] w (aH w (.pointer none)):=by
 go_enter Tryz.func44,Tryz.ntmps44;go_wp2_with fail;refine(jK _).mono ?_;rintro e w'⟨rfl,rfl⟩;go_wp2;go_ret;exact aM
theorem Mp(w:World):Calls Tryz.prog 46 #[.pointer none] w (aH w (.int .i64 0)):=by
 go_enter Tryz.func46,Tryz.ntmps46;go_wp2_with fail;refine(jK _).mono ?_;rintro e w'⟨rfl,rfl⟩;go_wp2;go_ret;exact aM
theorem KE(w:World):Calls Tryz.prog 47 #[.pointer none] w (aH w (.pointer none)):=by
 go_enter Tryz.func47,Tryz.ntmps47;go_wp2_with fail;refine(jK _).mono ?_;rintro e w'⟨rfl,rfl⟩;go_wp2;go_ret;exact aM
theorem EO(w:World):Calls Tryz.prog 45 #[.pointer none] w (aH w (.string ⟨#[]⟩)):=by
 go_enter Tryz.func45,Tryz.ntmps45;go_wp2_with fail;refine(jK _).mono ?_;rintro e w'⟨rfl,rfl⟩;go_wp2;go_ret;exact aM
theorem Cf(w:World):Calls Tryz.prog 48 #[.pointer none] w (aH w (.slice none 0 0)):=by
 go_enter Tryz.func48,Tryz.ntmps48;go_wp2_with fail;refine(jK _).mono ?_;rintro e w'⟨rfl,rfl⟩;go_wp2;go_ret;exact aM
theorem zU(w:World):Calls Tryz.prog 42 #[.pointer none, .int .i64 0] w (aH w (.int .i64 1)):=by
 go_enter Tryz.func42,Tryz.ntmps42;go_wp2_with fail;refine(jK _).mono ?_;rintro e w'⟨rfl,rfl⟩;go_wp2;go_ret;exact aM
theorem EN(v:List Value)(w:World):Calls Tryz.prog 32 #[.pointer none, .agg v.toArray] w (aH w (.int .i64 1)):=by
 go_enter Tryz.func32,Tryz.ntmps32;go_wp2_with(refine aB rfl 46 (.tmp 1) rfl _ rfl ?_);intro w1 n1;have a:=af n1.fr;clear n1;go_wp2_with fail;refine(jK _).mono ?_;rintro e w'⟨rfl,rfl⟩;go_wp2;go_ret;exact⟨rfl,a.out⟩
theorem Mq(w:World):Calls Tryz.prog 29 #[.pointer none] w (aH w (.tuple #[.pointer none, .int .i64 1])):=by
 go_enter Tryz.func29,Tryz.ntmps29;go_wp2;go_ret2;exact aM
theorem IS(w:World):Calls Tryz.prog 43 #[.pointer none, .pointer none] w (aH w (.bool true)):=by
 go_enter Tryz.func43,Tryz.ntmps43;go_wp2;go_ret;exact aM
theorem Eo(h:Nat)(w:World):Calls Tryz.prog 43 #[.pointer (some ⟨h,0,none⟩), .pointer none] w (aH w (.bool false)):=by
 go_enter Tryz.func43,Tryz.ntmps43;go_wp2;go_ret;exact aM
theorem KJ(w:World):Calls Tryz.prog 16 #[.pointer none, .int .i64 0] w (aH w (.tuple #[.agg aD, .int .i64 1])):=by
 go_enter Tryz.func16,Tryz.ntmps16;go_wp2_with(refine an rfl 38 rfl aZ iR aD rfl ?_);intro w1 a;have j:=af a.fr;have h:=af a.aE;clear a;generalize b:w.heap.size=g4 at*;have c:Hid (w.heap.size≤g4):=by rw[Hid,b];exact Nat.le_refl _
 clear b;go_wp2_with fail;refine(jK _).mono ?_;rintro e w'⟨rfl,rfl⟩;go_wp2_with(first|(refine wpList_buildTo rfl 38 #[] rfl aD Lt.pz ?_)|(refine ai rfl 38 (.tmp 4) _ rfl g4 aD rfl rfl _ _ h.out Lt.q6 rfl Lt.qu ?_));intro g d f;have k:=af d;have l:Hid (Fr ag w g):=j.out.aw f (fun i n e=>by have m:i=g4:=e;have:=c.out;omega);clear d f;go_wp2;exact bodyPost_ret (dB (fn:=Tryz.f16) (p:=4) (q:=5) (ty:=38) Tryz.results16 _ g _ 38 aD (0,0) _ rfl k.out Tryz.underlying38 rfl Lt.q6 _ rfl) rfl ⟨rfl,l.out⟩
end Go.Proofs.YtphjagkehiklkaaGreatDoor
namespace Go.Proofs.YtphjagkehiklkaaGreatDoor
open Go.ChangeShapes Go.WideShapes Go.ChangeAt Go.RowKit Go.Deep
theorem yu:Tryz.prog.cellsOf 72=6:=by kernel_rfl
theorem JX:Tryz.prog.cellsOf 55=1:=by kernel_rfl
theorem yQ{H:Type}{enc:TypeId×Value→H}{w:World}{fuel:Nat}{v:Value}{x:DataW H×List MemPlace}
  (h:DataW.trod enc Tryz.prog w 0 (fun _=>true) true fuel 55 [v]=some x):
  ∃(A:Option Addr)(n c:Nat)(xs:List CV),v= .slice A n c∧CL w (Old w) A n xs∧n≤9223372036854775807∧n≤c:=by
 rcases open_slice Tryz.underlying55 h with⟨a,_⟩|⟨g,j,i,m,n,D,f,a,_⟩;·simp only[List.cons.injEq,and_true]at a;subst a;obtain⟨cs,b,_,d,e⟩:=xb h;exact⟨_,_,_,cs,rfl,b,by omega,d⟩
 ·simp only[List.cons.injEq,and_true]at a;subst a;obtain⟨cs,b,_,d,e⟩:=xb h;exact⟨_,_,_,cs,rfl,b,by omega,d⟩
theorem IU{H:Type}{enc:TypeId×Value→H}{w:World}{fuel:Nat}{l:List Value}{x:DataW H×List MemPlace}
  (h:DataW.trod enc Tryz.prog w 0 (fun _=>true) true fuel 72 l=some x):rN w l:=by
 obtain⟨s,t,_,rfl,b,c,a⟩:=DataW.trod_struct Tryz.underlying72 h;rw[yu]at b;match l,b with
 |[v,y,z,x3,A,B],_=>
  have g0:=a 0 _ rfl;have g1:=a 1 _ rfl;have g2:=a 2 _ rfl;have g3:=a 3 _ rfl;have g4:=a 4 _ rfl;have g5:=a 5 _ rfl;match s,c with
  |[C,D,E,y3,y4,F],_=>
   simp[sM,Bf,JX]at g0 g1 g2 g3 g4 g5;obtain⟨a0,f,rfl,b0⟩:=DataW.trod_int Tryz.underlying3 g0;obtain⟨n,g,rfl,b1⟩:=DataW.trod_int Tryz.underlying3 g1;obtain⟨a2,i,rfl,b2⟩:=DataW.trod_int Tryz.underlying3 g2;obtain⟨a3,j,rfl,b3⟩:=DataW.trod_int Tryz.underlying5 g3;obtain⟨k,n4,o,d,rfl,p,m4,o4⟩:=yQ g4;obtain⟨m,n5,c5,e,rfl,q,m5,r⟩:=yQ g5;simp only[List.cons.injEq,and_true]at f g i j;subst f g i j;have u:=bounds_u8 b3;exact⟨a0,n,a2,a3,k,n4,o,d,_,m,n5,c5,e,_,by omega,by omega,rfl,⟨p,m4,o4⟩,⟨q,m5,r⟩⟩
theorem EY{H:Type}{enc:TypeId×Value→H}{w:World}{fuel:Nat}{a:Option Addr}{len cap:Nat}{x:DataW H×List MemPlace}
  (h:DataW.trod enc Tryz.prog w 0 (fun _=>true) true fuel 22 [.slice a len cap]=some x):rO w a len:=by
 rcases open_slice Tryz.underlying22 h with⟨b,_⟩|⟨l,z,t,m,n,D,s,b,_,y,hm,d,_,f⟩;·simp only[List.cons.injEq,Value.slice.injEq,and_true]at b;obtain⟨rfl,rfl,rfl⟩:=b;intro k v;omega
 ·simp only[List.cons.injEq,Value.slice.injEq,and_true]at b;obtain⟨rfl,rfl,rfl⟩:=b;simp only[if_true]at d;rw[yu]at f;intro i q;obtain⟨cs',o,e⟩:=f i (by omega);have g:=IU e;obtain⟨_,p,c⟩:=World.cells?_some o;refine⟨l,cs',rfl,g,fun j u hu=>?_⟩;have r:j<6:=by
   have:=(List.getElem?_eq_some_iff.1 hu).1;rw[g.len]at this;exact this
  rw[c j r,←hu]
theorem xc{H:Type}{enc:TypeId×Value→H}{w:World}{fuel:Nat}{a:Option Addr}{len cap:Nat}{x:DataW H×List MemPlace}
  (h:DataW.trod enc Tryz.prog w 0 (fun _=>true) true fuel 22 [.slice a len cap]=some x):
  ∃e:Unit,rO w a len∧True∧len≤cap∧cap≤9223372036854775807:=by
 refine⟨(),EY h,trivial,?_⟩;rcases open_slice Tryz.underlying22 h with⟨b,_⟩|⟨f,i,g,m,n,D,d,b,_,c,hm,_⟩;·simp only[List.cons.injEq,Value.slice.injEq,and_true]at b;obtain⟨rfl,rfl,rfl⟩:=b;exact⟨Nat.le_refl _,Nat.zero_le _⟩
 ·simp only[List.cons.injEq,Value.slice.injEq,and_true]at b;obtain⟨rfl,rfl,rfl⟩:=b;exact⟨c,by unfold maxLen at hm;exact hm⟩
end Go.Proofs.YtphjagkehiklkaaGreatDoor
