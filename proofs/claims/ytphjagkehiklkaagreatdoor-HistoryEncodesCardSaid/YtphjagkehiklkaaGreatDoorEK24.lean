/- Texts. -/
import Derived.Test.YtphjagkehiklkaaGreatDoorEK23
set_option linter.unusedVariables false
set_option linter.unusedSimpArgs false
set_option maxRecDepth 100000
set_option maxHeartbeats 8000000
namespace Go.Proofs.YtphjagkehiklkaaGreatDoor
open Proofs.Tryz Go.RowKit Go.Shelf
def tI(w:World)(A:Option Addr)(n:Nat):Prop:=∀k,k<n->∃a b,A=some a/\rF w b/\∀j x,b[j]? =some x->w.cell? ((a.add (k*6)).add j)=some x
theorem tI.ao{w w':World}{A:Option Addr}{n:Nat}(h:tI w A n)(a:Fr Nothing w w'):tI w' A n:=λk g=>by
 obtain⟨b,c,d,e,f⟩:=h k g;exact⟨b,c,d,e.ao a,λj x i=>a.ak (f j x i) id⟩
theorem rF.len{w:World}{cs:List Value}(h:rF w cs):cs.length=6:=by
 obtain⟨_,_,_,_,_,_,_,_,_,_,_,_,_,_,_,_,rfl,_⟩:=h;rfl
theorem Mod.kj{w w':World}{T:Nat->Prop}{cs:List Value}{b:Nat}{E:List Ent}{L:List ActV}(h:Mod w cs b E L)(a:Fr T w w')(hF:fN w T)(hT:∀v∈cs,∀k,v.ownBlock=some k->¬T k):Mod w' cs b E L:=by
 obtain⟨A,n,c,rfl,d,e,f,g⟩:=h;exact⟨A,n,c,rfl,d,e,f.cJ a hF,g.cJ a hF (hT _ (by simp))⟩
theorem Mod.lt{w:World}{cs:List Value}{b:Nat}{E:List Ent}{L:List ActV}(h:Mod w cs b E L):∀v∈cs,∀k,v.ownBlock=some k->Ty w k 46:=by
 obtain⟨A,n,c,rfl,g,i,j,e,f,l⟩:=h;intro v d k a;rw[List.mem_cons,List.mem_singleton]at d;rcases d with rfl|rfl;·cases a
 ·exact jC f a
theorem Ty.lt{w:World}{k:Nat}{t:TypeId}(h:Ty w k t):k<w.heap.size:=by
 obtain⟨cs,h⟩:=h;exact aq.lt (cs:=cs) (t:=t) h
theorem Mod.len{w:World}{cs:List Value}{b:Nat}{E:List Ent}{L:List ActV}(h:Mod w cs b E L):cs.length=2:=by
 obtain⟨A,n,c,rfl,_⟩:=h;rfl
theorem Mod.one{w:World}{cs:List Value}{b:Nat}{E:List Ent}{L:List ActV}(h:Mod w cs b E L):cs.toArray.all (·.oneCell')=true:=by
 obtain⟨A,n,c,rfl,_⟩:=h;simp[Value.oneCell']
theorem Jy(b:Nat):prog.built 28 [(0, .pointer (some ⟨b,0,none⟩))]=some [Value.pointer (some ⟨b,0,none⟩), .slice none 0 0].toArray:=by kernel_rfl
def An(w:World)(e:Ending)(w':World):Prop:=∃(h b:Nat)(ms:List Value)(E:List Ent)(L:List ActV)(T:Nat->Prop),e= .returned (.tuple #[.pointer (some ⟨h,0,none⟩), .agg ms.toArray])/\
 dR w' h E L T/\Mod w' ms b E L/\cM 6 E/\ej L/\(∀k,T k->w.heap.size<=k)/\Fr Nothing w w'
def sw(w:World)(e:Ending)(w':World):Prop:=∃(h b:Nat)(ms:List Value)(E:List Ent)(L:List ActV)(T:Nat->Prop),e= .returned (.tuple #[.pointer (some ⟨h,0,none⟩), .agg ms.toArray])/\
 dR w' h E L T/\Mod w' ms b E L/\cM 6 E/\ej L/\(∀k,T k->w.heap.size<=k)/\Fr Nothing w w'/\∀v∈ms,∀j,v.ownBlock=some j->¬T j
structure yM(w w3 wr:World)(h b g5 g6 k:Nat)(E:List Ent)(L:List ActV)(T:Nat->Prop)(ms:List Value):Prop where
 pC:dR wr h E L T
 mod:Mod wr ms b E L
 box:aq wr g6 28 ms.toArray
 run:ej L
 len:L.length<=k
 new:∀j,T j->w3.heap.size<=j
 rows:∀v∈ms,∀j,v.ownBlock=some j->¬T j
 fr:Fr Nothing w wr
 size:w3.heap.size<=wr.heap.size
 out:aq wr g5 28 #[.pointer none, .slice none 0 0]
theorem Bh(n:Nat)(xs:List CV)(A:Option Addr)(bt:Nat)(S:Nat->Prop)(Z:Nat)(bW:Option Addr)(co:Nat)(w:World)(cb:CL w S A n xs)(ci:n<=9223372036854775807)(ch:n<=bt)(cf:tI w bW Z)(bR:dO w)(cg:bU w):
  Calls prog 14 #[.slice A n bt, .slice bW Z co] w (sw w):=by
 have bZ:Hid (∀w',Fr Nothing w w'->Calls prog 28 #[.slice A n bt] w' (Ja w')):=λw' f=>DH n xs A bt S w' (cb.ao f) ci ch (bR.ao f);have bs:=af bR;have br:=af cg;have cm:=af cf;clear cb ci ch bR cg cf;go_enter func14,ntmps14;go_wp2_with(refine an rfl 28 rfl (.agg tw.toArray) KW #[.pointer none, .slice none 0 0] rfl ?_);intro w1 n1;have bz:=af n1.fr;have bX:=af n1.aF;clear n1;generalize bj:w.heap.size=g5 at*;have H:=af bj;clear bj;go_wp2_with fail;refine(bZ.out _ bz.out).mono ?_;rintro e w2⟨b,E,rfl,bv,cc,f2⟩;have b0:=af (bz.out.trans f2);have bw:=af (bX.out.fr f2 id);have b9:=af bv;have a8:=af cc;have a6:=af (Jy b);clear f2 bv cc bz bX bZ;go_wp2_with(refine dU rfl 28 _ rfl [Value.pointer (some ⟨b,0,none⟩), .slice none 0 0].toArray _ (by simp only[List.map_toArray,List.map_cons,List.map_nil];rfl) a6.out (aX.go ?zA));unfold aX;go_wp2_with(refine an rfl 28 rfl (.agg tw.toArray) KW #[.pointer none, .slice none 0 0] rfl ?_);intro bV bo;have aO:=af bo;clear bo;generalize bk:w2.heap.size=g6 at*;have Q:=af bk;clear bk;have a4:Hid (aq bV g6 28 #[.pointer none, .slice none 0 0]):=by have h:=aO.out.aF;rw[Q.out]at h;exact h
 have b7:Hid ([Value.pointer (some ⟨b,0,none⟩), .slice none 0 0].toArray.all (·.oneCell')=true):=by simp[Hid,Value.oneCell']
 go_wp2_with(refine ai rfl 28 (.tmp 6) _ rfl g6 [Value.pointer (some ⟨b,0,none⟩), .slice none 0 0].toArray rfl rfl _ _ a4.out iY rfl b7.out ?_);intro w3 b3 f3;have bq:Hid (aq w3 g6 28 [Value.pointer (some ⟨b,0,none⟩), .slice none 0 0].toArray):=b3;have f23:Fr Nothing w2 w3:=aO.out.fr.aw f3 (λi aV e=>by have M:i=g6:=e;have:=Q.out;omega);have a5:=af (b0.out.trans f23);have aQ:=af (b9.out.ao f23);have cl:=af (bw.out.fr f23 id);have d:Hid (g6<w3.heap.size/\g5<g6/\w.heap.size<=w3.heap.size):=⟨bq.out.lt,by have:=bw.out.lt;have:=Q.out;omega,a5.out.size⟩;clear b3 f3 f23 aO a4 b7 b0 bw b9 a6;have cr:w3.cell? ⟨g6,0,none⟩=some (.pointer (some ⟨b,0,none⟩)):=bq.out.cell 0;go_wp2_with fail;refine(xL E b w3 aQ.out (bs.out.ao a5.out) (br.out.ao a5.out) (a8.out.more (by decide))).mono ?_;rintro e cv⟨h,T,rfl,cd,f4,hT⟩;have b4:Hid (yM w w3 cv h b g5 g6 0 E [] T [Value.pointer (some ⟨b,0,none⟩), .slice none 0 0]):=⟨cd,⟨none,0,0,rfl,rfl,Nat.le_refl _,aQ.out.ao f4,ki.nil _⟩,bq.out.fr f4 id,ej.nil,Nat.le_refl _,hT,(λv z k zA=>by
  rw[List.mem_cons,List.mem_singleton]at z;rcases z with rfl|rfl;·cases zA
  ·cases zA),a5.out.trans f4,f4.size,cl.out.fr f4 id⟩;clear cd f4 hT cr bq aQ;go_wp2;go_loopw[9](λi wr=>∃(k:Nat)(L:List ActV)(T:Nat->Prop)(ms:List Value),k<=16/\k<=Z/\i= .int .i64 (k:Int)/\yM w w3 wr h b g5 g6 k E L T ms)(λi _=>16-(intOf i).toNat);case atStart=>exact⟨0,[],T,_,Nat.zero_le _,Nat.zero_le _,rfl,b4.out⟩
 case round=>
  obtain⟨k,L,T,ms,zA,bl,rfl,ce⟩:=hrel;have c:=af ce;have b2:Hid (k<=16/\k<=Z):=⟨zA,bl⟩;clear ce zA bl b4;by_cases X:k<Z/\k<16
  ·have t0:decide ((k:Int)<(Z:Int))=true:=cX (by omega);have t1:decide ((k:Int)<16)=true:=cX (by omega);have t2:(k:Int)<(Z:Int):=by omega
   have t3:(0:Int)<=(k:Int):=by omega
   have t4:(k:Int)<16:=by omega
   have t:=af X;obtain⟨cn,bM,rfl,aW,U⟩:=(cm.out.ao c.out.fr) k X.1;have bc:=af aW;have a7:=af U;have IR:Hid ((prog.info? 72).map (·.size)=some bM.length):=by rw[Hid,aW.len];exact JY
   clear aW U X;go_wp2_with(refine aB rfl 72 (.tmp 34) rfl (cn.add (k*6)) rfl bM _ ?zB underlying72 rfl IR.out (aX.go ?zH));case zB=>exact a7.out
   unfold aX;go_wp2_with fail;refine(Au bM _ bc.out).mono ?_;rintro e cj⟨cs,a,rfl,K,bm,bS,f5⟩;have b1:=af f5;have a0:=af K;have aY:=af bm;have bF:Hid ((prog.info? 46).map (·.size)=some cs.toArray.size):=by rw[Hid,List.size_toArray,K.len];exact bQ
   have ap:Hid ((prog.info? 46).map (·.size)=some cs.length):=by rw[Hid,K.len];exact bQ
   have bD:Hid (6=cs.toArray.size):=by rw[Hid,List.size_toArray,K.len]
   have bJ:=af (ActV.one K);clear f5 K bm bS a7 bc IR t0 t1 t2 t3 t4;go_wp2_with(refine an rfl 46 rfl eF kh #[.int .i64 0, .int .i64 0, .int .i64 0, .string ByteArray.empty, .slice none 0 0, .slice none 0 0] rfl ?_);intro bV bo;have aO:=af bo;clear bo;generalize ax:cj.heap.size=g10 at*;have al:=af ax;clear ax;have a4:Hid (aq bV g10 46 #[.int .i64 0, .int .i64 0, .int .i64 0, .string ByteArray.empty, .slice none 0 0, .slice none 0 0]):=by have h:=aO.out.aF;rw[al.out]at h;exact h
   go_wp2_with(refine ai rfl 46 (.tmp 10) _ rfl g10 cs.toArray rfl rfl _ _ a4.out bF.out bD.out bJ.out ?_);intro bT ca f6;have aC:=af ca;have f56:Fr Nothing cj bT:=aO.out.fr.aw f6 (λi aV e=>by have M:i=g10:=e;have:=al.out;omega);have D:=af (b1.out.trans f56);have aA:=af (a0.out.ao f56);clear ca f6 f56 aO a4 b1 a0;have b6:Hid (∀j x,ms[j]? =some x->bT.cell? ((⟨g6,0,none⟩:Addr).add j)=some x):=ly (c.out.box.fr D.out id);have ad:Hid ((prog.info? 28).map (·.size)=some ms.length):=by rw[Hid,c.out.mod.len];exact iY
   have ak:Hid (∀j x,cs[j]? =some x->bT.cell? ((⟨g10,0,none⟩:Addr).add j)=some x):=ly aC.out;go_wp2_with(refine aB rfl 28 (.tmp 6) rfl ⟨g6,0,none⟩ rfl ms _ ?zD underlying28 rfl ad.out (aX.go ?zJ));case zD=>exact b6.out
   unfold aX;go_wp2_with(refine aB rfl 46 (.tmp 10) rfl ⟨g10,0,none⟩ rfl cs _ ?zC underlying46 rfl ap.out (aX.go ?zI));case zC=>exact ak.out
   unfold aX;go_wp2_with fail;refine(AB ms cs b E L a _ (c.out.mod.ao D.out) aA.out (bs.out.ao (c.out.fr.trans D.out)) (a8.out.more (by decide)) c.out.run aY.out).mono ?_;rintro e ck⟨g,rfl,Y,f7,az⟩;have bA:=af (D.out.trans f7);have b5:=af Y;have aH:Hid (∀v∈g,∀j,v.ownBlock=some j->¬T j):=λv z j l N=>by
    rcases az v z j l with o|⟨u,hu,o⟩;·have:=c.out.pC.lt j N;have:=D.out.size;omega
    ·exact c.out.rows u hu j o N
   have a1:=af (aA.out.ao f7);have ag:=af (aC.out.fr f7 id);have y:Hid ((prog.info? 28).map (·.size)=some g.toArray.size):=by rw[Hid,List.size_toArray,Y.len];exact iY
   have I:Hid (2=g.toArray.size):=by rw[Hid,List.size_toArray,Y.len]
   have J:=af Y.one;clear f7 Y az aA aC D b6 ak;go_wp2_with(refine an rfl 28 rfl (.agg tw.toArray) KW #[.pointer none, .slice none 0 0] rfl ?_);intro cw nb;have bI:=af nb;clear nb;generalize ay:ck.heap.size=g12 at*;have P:=af ay;clear ay;have bY:Hid (aq cw g12 28 #[.pointer none, .slice none 0 0]):=by have h:=bI.out.aF;rw[P.out]at h;exact h
   go_wp2_with(refine ai rfl 28 (.tmp 12) _ rfl g12 g.toArray rfl rfl _ _ bY.out y.out I.out J.out ?_);intro aa b8 f8;have ab:=af b8;have f78:Fr Nothing ck aa:=bI.out.fr.aw f8 (λi aV e=>by have M:i=g12:=e;have:=P.out;omega);have F:=af (bA.out.trans f78);have a2:=af (a1.out.ao f78);have be:=af (b5.out.ao f78);have a3:=af (ag.out.fr f78 id);have a9:Hid (wr.heap.size<=g12):=by have:=bA.out.size;have:=P.out;simp only[Hid];omega
   clear b8 f8 f78 bI bY bA a1 b5 ag;have bx:Hid (∀j x,cs[j]? =some x->aa.cell? ((⟨g10,0,none⟩:Addr).add j)=some x):=ly a3.out;have cC:IntKind.i64.wrap ((k:Int)+1)=(k:Int)+1:=IntWalk.i64_in _ (by have:=t.out;omega);have bb:=af (c.out.run.append aY.out (by have:=c.out.len;have:=t.out;omega));have am:Hid ((dP L a).2.length<=k+1):=by
    have:=c.out.len;rcases kY L a with⟨_,e⟩|⟨_,e,_⟩;·rw[Hid,e];omega
    ·rw[Hid,e,aT,List.length_singleton];omega
   have aE:Hid (Calls prog 32 #[.pointer (some ⟨h,0,none⟩), .agg cs.toArray] aa (Al aa h E L T a)):=by
    have bC:=c.out.fr.trans F.out;refine nY h E L T a cs aa (c.out.pC.ao F.out) a2.out (bs.out.ao bC) (br.out.ao bC) aY.out.sz (λb bv=>by have:=(c.out.run.small b bv).fD;omega) (by have:=c.out.run.len;omega) (λ_=>by have:=aY.out.len;omega) (λk zA N=>?_) (λcB w' s f cp=>?_);·have o:=c.out.new k N;have cy:=br.out.ED;have cz:=br.out.EE;have cA:=a5.out.size;rcases zA with rfl|rfl<;>omega
    ·have G:=kI L E 24 (a8.out.more (by decide)) c.out.run.ok c.out.run.small;exact mL _ a cs _ s w' (a2.out.ao f) cp (bs.out.ao (bC.trans f)) G aY.out.writes (by have:=aY.out.nw;have:=c.out.run.len;omega)
   have C:Hid ((dP L a).1≠0->(dP L a).2=L):=λh=>by
    rcases kY L a with⟨_,e⟩|⟨e,_,_⟩;·exact e
    ·exact absurd e h
   by_cases aZ:(dP L a).1=0
   ·rw[aZ];have aj:Hid (Calls prog 32 #[.pointer (some ⟨h,0,none⟩), .agg cs.toArray] aa (Al aa h E L T a)):=aE;clear C aE aZ;generalize ba:(dP L a).2=aL at*;go_wp2_with(refine aB rfl 46 (.tmp 10) rfl ⟨g10,0,none⟩ rfl cs _ ?zG underlying46 rfl ap.out (aX.go ?zK));case zG=>exact bx.out
    unfold aX;go_wp2_with fail;refine aj.out.mono ?_;rintro e bp⟨T',rfl,bh,f9,aU⟩;have av:=(c.out.pC.ao F.out).cJ;have bE:Hid (dR bp h E aL T'):=by rw[Hid,<-ba];exact bh
    have bf:=af (be.out.kj f9 av (λv z j l=>aH.out v z j l));have O:=af (ab.out.fr f9 (λN=>by have:=c.out.pC.lt _ N;have:=a9.out;omega));have B:=af ((c.out.box.fr F.out id).fr f9 (λN=>by have:=c.out.new _ N;have:=d.out;omega));have aD:=af ((c.out.out.fr F.out id).fr f9 (λN=>by have:=c.out.new _ N;have:=d.out;omega));have bB:Hid (Fr Nothing w bp):=(c.out.fr.trans F.out).aw f9 (λi aV e=>by have:=c.out.new i e;have:=d.out;omega);have bg:Hid (∀j,T' j->w3.heap.size<=j):=λj l=>by
     rcases aU j l with o|o;·exact c.out.new j o
     ·have:=c.out.size;have:=F.out.size;omega
    have bK:Hid (∀v∈g,∀j,v.ownBlock=some j->¬T' j):=λv z j l N=>by
     rcases aU j N with o|o;·exact aH.out v z j l o
     ·have:=(be.out.lt v z j l).lt;omega
    have bL:Hid (w3.heap.size<=bp.heap.size):=by have:=c.out.size;have:=F.out.size;have:=f9.size;simp only[Hid];omega
    clear bh f9 aU av aj be ab;have aM:Hid (∀j x,g[j]? =some x->bp.cell? ((⟨g12,0,none⟩:Addr).add j)=some x):=ly O.out;have aK:Hid ((prog.info? 28).map (·.size)=some g.length):=by have:=y.out;rw[List.size_toArray]at this;exact this
    have aJ:Hid (ms.toArray.size=g.toArray.size):=by rw[Hid,<-I.out,List.size_toArray,c.out.mod.len]
    go_wp2_with(refine aB rfl 28 (.tmp 12) rfl ⟨g12,0,none⟩ rfl g _ ?zF underlying28 rfl aK.out (aX.go ?zS));case zF=>exact aM.out
    unfold aX;go_wp2_with(refine ai rfl 28 (.tmp 6) _ rfl g6 g.toArray rfl rfl _ _ B.out y.out aJ.out J.out ?_);intro ae R r;have m:fN bp (λk=>k=g6):=fN.of (λk zA=>⟨28,(show k=g6 from zA)▸B.out.ty,by decide,by decide,by decide⟩);have bG:Hid (yM w w3 ae h b g5 g6 (k+1) E aL T' g):=⟨bE.out.kj r m (λj l e=>by have M:j=g6:=e;have:=bg.out j l;have:=d.out;omega),by
      have bN:=bf.out;exact bN.kj r m (λv z j l e=>by
       have M:j=g6:=e;have o:=bf.out.lt v z j l;rw[M]at o;exact absurd (o.one B.out.ty) (by decide)),R,bb.out,am.out,bg.out,bK.out,bB.out.aw r (λi aV e=>by have M:i=g6:=e;have:=d.out;have:=Q.out;have:=H.out;omega),by have:=r.size;have:=bL.out;omega,aD.out.fr r (λe=>by have M:g5=g6:=e;have:=d.out;omega)⟩;clear R r;go_wp2;go_roundw;case rel=>exact⟨k+1,aL,T',g,by have:=t.out;omega,by have:=t.out;omega,by go_num,bG.out⟩
    case measure=>simp[intOf];have:=t.out;omega
   ·have bn:=C.out aZ;obtain⟨bu,bi⟩:∃bu,(dP L a).1=bu:=⟨_,rfl⟩;rw[bi]at aZ⊢;have t5:decide (bu=0)=false:=decide_eq_false aZ;have t6:(bu==0)=false:=jr aZ;generalize ba:(dP L a).2=aL at*;have bE:Hid (dR aa h E aL T):=by rw[Hid,bn];exact c.out.pC.ao F.out
    have bf:=be;have O:=ab;have B:=af (c.out.box.fr F.out id);have aD:=af (c.out.out.fr F.out id);have bB:=af (c.out.fr.trans F.out);have bg:=af c.out.new;have bK:=aH;have bL:Hid (w3.heap.size<=aa.heap.size):=by have:=c.out.size;have:=F.out.size;simp only[Hid];omega
    clear bi bn C aE be ab;have aM:Hid (∀j x,g[j]? =some x->aa.cell? ((⟨g12,0,none⟩:Addr).add j)=some x):=ly O.out;have aK:Hid ((prog.info? 28).map (·.size)=some g.length):=by have:=y.out;rw[List.size_toArray]at this;exact this
    have aJ:Hid (ms.toArray.size=g.toArray.size):=by rw[Hid,<-I.out,List.size_toArray,c.out.mod.len]
    go_wp2_with(refine aB rfl 28 (.tmp 12) rfl ⟨g12,0,none⟩ rfl g _ ?zE underlying28 rfl aK.out (aX.go ?zR));case zE=>exact aM.out
    unfold aX;go_wp2_with(refine ai rfl 28 (.tmp 6) _ rfl g6 g.toArray rfl rfl _ _ B.out y.out aJ.out J.out ?_);intro ae R r;have m:fN aa (λk=>k=g6):=fN.of (λk zA=>⟨28,(show k=g6 from zA)▸B.out.ty,by decide,by decide,by decide⟩);have bG:Hid (yM w w3 ae h b g5 g6 (k+1) E aL T g):=⟨bE.out.kj r m (λj l e=>by have M:j=g6:=e;have:=bg.out j l;have:=d.out;omega),by
      have bN:=bf.out;exact bN.kj r m (λv z j l e=>by
       have M:j=g6:=e;have o:=bf.out.lt v z j l;rw[M]at o;exact absurd (o.one B.out.ty) (by decide)),R,bb.out,am.out,bg.out,bK.out,bB.out.aw r (λi aV e=>by have M:i=g6:=e;have:=d.out;have:=Q.out;have:=H.out;omega),by have:=r.size;have:=bL.out;omega,aD.out.fr r (λe=>by have M:g5=g6:=e;have:=d.out;omega)⟩;clear R r;go_wp2;go_roundw;case rel=>exact⟨k+1,aL,T,g,by have:=t.out;omega,by have:=t.out;omega,by go_num,bG.out⟩
    case measure=>simp[intOf];have:=t.out;omega
  ·have cx:=c;have bd:Hid (∀W,Fr Nothing wr W->∀j x,ms[j]? =some x->W.cell? ((⟨g6,0,none⟩:Addr).add j)=some x):=λW f j x cq=>by rw[Addr.add_mid,Nat.zero_add,(c.out.box.fr f id).cell j,bP];exact cq
   have ad:Hid ((prog.info? 28).map (·.size)=some ms.length):=by rw[Hid,c.out.mod.len];exact iY
   have ac:Hid ((prog.info? 28).map (·.size)=some ms.toArray.size):=by rw[Hid,List.size_toArray,c.out.mod.len];exact iY
   have I:Hid (2=ms.toArray.size):=by rw[Hid,List.size_toArray,c.out.mod.len]
   have J:=af c.out.mod.one;by_cases o:k<Z
   ·obtain rfl:k=16:=by have:=b2.out;omega
    have t0:decide (((16:Nat):Int)<(Z:Int))=true:=cX (by omega);have cu:decide ((16:Int)<(Z:Int))=true:=cX (by omega);clear o X;go_upto_region 11 with fail;refine iH 3 [.pointer (some ⟨h,0,none⟩), .agg ms.toArray, .pointer (some ⟨h,0,none⟩)] ?zL ?_;case zL=>
     refine⟨?zT,?zN,?zO,trivial⟩;all_goals intro u w' V bO
     all_goals simp only[z1,z2,z3,z4,ar,Act.put,z5,z6,z7,Nat.reduceAdd,Nat.zero_add]
     case zN=>
      refine aI ?_;exact au _ _ rfl ⟨g6,0,none⟩ rfl ms _ (bd.out _ V) underlying28 rfl ad.out aR
     case' zO=>simp only[ah (bO 0)]
     all_goals
      refine aI ?_;go_simp;exact aR
    intro w' V;simp only[z1,z2,z3,z4,ar,Act.put,z5,z6,z7,z8,z9,jS,jT,Nat.reduceAdd,Nat.zero_add];have D:=af V;have aP:=af (c.out.out.fr V id);clear V;refine ai rfl 28 (.tmp 5) _ rfl g5 ms.toArray rfl rfl _ _ aP.out ac.out I.out J.out ?_;intro ae R r;have bH:=af R;have m:fN w' (λj=>j=g5):=fN.of (λj l=>⟨28,(show j=g5 from l)▸aP.out.ty,by decide,by decide,by decide⟩);have aN:=c.out.mod.ao D.out;have aG:Hid (sw w (.returned (.tuple #[.pointer (some ⟨h,0,none⟩), .agg ms.toArray])) ae):=⟨h,b,ms,E,L,T,rfl,(c.out.pC.ao D.out).kj r m (λj l e=>by have aS:j=g5:=e;have:=c.out.new j l;have:=d.out;omega),aN.kj r m (λv z j l e=>by
      have aS:j=g5:=e;have o:=aN.lt v z j l;rw[aS]at o;exact absurd (o.one aP.out.ty) (by decide)),a8.out,c.out.run,(λj l=>by have:=c.out.new j l;have:=d.out;have:=H.out;omega),(c.out.fr.trans D.out).aw r (λi aV e=>by have aS:i=g5:=e;have:=H.out;omega),c.out.rows⟩;clear R r aN m;go_wp2;exact bodyPost_ret (fP (fn:=Tryz.f14) (p:=5) (q:=4) (ty:=28) results14 _ ae _ 28 ms.toArray (0,0) _ rfl bH.out underlying28 rfl ac.out _ rfl) rfl aG.out
   ·obtain rfl:k=Z:=by have:=b2.out;omega
    have t0:decide ((k:Int)<(k:Int))=false:=ct (by omega);clear o X;go_upto_region 11 with fail;refine iH 3 [.pointer (some ⟨h,0,none⟩), .agg ms.toArray, .pointer (some ⟨h,0,none⟩)] ?zM ?_;case zM=>
     refine⟨?zU,?zP,?zQ,trivial⟩;all_goals intro u w' V bO
     all_goals simp only[z1,z2,z3,z4,ar,Act.put,z5,z6,z7,Nat.reduceAdd,Nat.zero_add]
     case zP=>
      refine aI ?_;exact au _ _ rfl ⟨g6,0,none⟩ rfl ms _ (bd.out _ V) underlying28 rfl ad.out aR
     case' zQ=>simp only[ah (bO 0)]
     all_goals
      refine aI ?_;go_simp;exact aR
    intro w' V;simp only[z1,z2,z3,z4,ar,Act.put,z5,z6,z7,z8,z9,jS,jT,Nat.reduceAdd,Nat.zero_add];have D:=af V;have aP:=af (c.out.out.fr V id);clear V;refine ai rfl 28 (.tmp 5) _ rfl g5 ms.toArray rfl rfl _ _ aP.out ac.out I.out J.out ?_;intro ae R r;have bH:=af R;have m:fN w' (λj=>j=g5):=fN.of (λj l=>⟨28,(show j=g5 from l)▸aP.out.ty,by decide,by decide,by decide⟩);have aN:=c.out.mod.ao D.out;have aG:Hid (sw w (.returned (.tuple #[.pointer (some ⟨h,0,none⟩), .agg ms.toArray])) ae):=⟨h,b,ms,E,L,T,rfl,(c.out.pC.ao D.out).kj r m (λj l e=>by have aS:j=g5:=e;have:=c.out.new j l;have:=d.out;omega),aN.kj r m (λv z j l e=>by
      have aS:j=g5:=e;have o:=aN.lt v z j l;rw[aS]at o;exact absurd (o.one aP.out.ty) (by decide)),a8.out,c.out.run,(λj l=>by have:=c.out.new j l;have:=d.out;have:=H.out;omega),(c.out.fr.trans D.out).aw r (λi aV e=>by have aS:i=g5:=e;have:=H.out;omega),c.out.rows⟩;clear R r aN m;go_wp2;exact bodyPost_ret (fP (fn:=Tryz.f14) (p:=5) (q:=4) (ty:=28) results14 _ ae _ 28 ms.toArray (0,0) _ rfl bH.out underlying28 rfl ac.out _ rfl) rfl aG.out
theorem Es(n:Nat)(xs:List CV)(A:Option Addr)(c:Nat)(S:Nat->Prop)(d:Nat)(a:Option Addr)(f:Nat)(w:World)(o:CL w S A n xs)(t:n<=9223372036854775807)(s:n<=c)(p:tI w a d)(r:dO w)(q:bU w):
  Calls prog 14 #[.slice A n c, .slice a d f] w (An w):=
 (Bh n xs A c S d a f w o t s p r q).mono λ_ _⟨h,b,ms,E,L,T,e,g,i,j,k,l,m,_⟩=>⟨h,b,ms,E,L,T,e,g,i,j,k,l,m⟩
theorem Kb{E:List Ent}{L:List ActV}{k:Nat}{a:ActV}(h:L[k]? =some a):(dD E L).getD (k+1) []=eD (bY a):=by
 simp[dD,h]
theorem Mk(E:List Ent)(L:List ActV)(c:ej L){k m:Nat}{a:ActV}(j:k<m)(hm:m<=L.length)(h:L[k]? =some a):
  sg (Lt.gN (dD E (L.take m))) (k:Int) (m:Int) (bY a) (Lt.df (dD E (L.take m)) (k+1))=0:=by
 have l:(dD E (L.take m)).length=m+1:=by rw[me,List.length_take,Nat.min_eq_left hm]
 have i:=c.len;have e:=List.mem_of_getElem? h;have d:(L.take m)[k]? =some a:=by rw[List.getElem?_take,if_pos j];exact h
 have b:=Lt.EX (m+1) (dD E (L.take m)) (k+1) l (by omega) (by omega);rw[Kb d]at b;have f:(((k+1:Nat)):Int)=(k:Int)+1:=by omega
 have g:(((m+1:Nat)):Int)=(m:Int)+1:=by omega
 rw[f,g]at b;unfold sg;rw[if_neg (by omega),if_neg (by rw[(c.small a e).dec (c.ok a e)];simp),if_pos];unfold wK;rw[b.2,b.1,show Lt.gN (dD E (L.take m))=Lt.cY (dD E (L.take m))from if_neg (by simp[dD])];simp
theorem vy:fR clockA=true:=by kernel_rfl
theorem iC:fX clockA:=⟨by decide,by simp[clockA],by
 intro c a;simp only[clockA,List.mem_singleton]at a;subst a;exact⟨by decide,by decide,by decide⟩,by decide,by decide⟩
theorem tP:dP [] clockA=(0,[clockA]):=by
 unfold dP;rw[if_neg (by rw[vy];decide)];rfl
theorem ld:ej [clockA]:=by
 have:=ej.nil.append iC (by decide);rw[tP]at this;exact this
theorem AR:My (fB oo (eY [clockA] []))= .tuple #[.string ⟨#[53]⟩, .bool true]:=by kernel_rfl
theorem AS:sg (Lt.gN (dD [] [clockA])) 0 1 (bY clockA) (Lt.df (dD [] [clockA]) 1)=0:=Mk [] [clockA] ld (k:=0) (m:=1) (a:=clockA) (by decide) (by decide) rfl
theorem Ew(w:World)(b6:dO w)(b5:bU w):Calls prog 13 #[] w (Aq w):=by
 have al:=af b6;have J:=af b5;clear b6 b5;have bv:Hid (∀w' b,Fr Nothing w w'->dQ w' b []->Calls prog 29 #[.pointer (some ⟨b,0,none⟩)] w' (yO w' [])):=λw' b f h=>xL [] b w' h (al.out.ao f) (J.out.ao f) (cM.nil.more (by decide));have X:Hid (∀w' h T cs,Fr Nothing w w'->dR w' h [] [] T->cL w' cs clockA->(∀k,T k->w.heap.size<=k)->Calls prog 32 #[.pointer (some ⟨h,0,none⟩), .agg cs.toArray] w' (λe l=>∃T',e= .returned (.int .i64 0)/\dR l h [] [clockA] T'/\Fr Nothing w l/\∀k,T' k->w.heap.size<=k)):=λw' h T cs f n b4 hT=>by
  refine(nY h [] [] T clockA cs w' n b4 (al.out.ao f) (J.out.ao f) iC.sz (λb ce=>by cases ce) (by decide) (λ_=>by have:=iC.len;omega) (λk O ch=>?_) (λcr w2 s f2 aP=>?_)).mono ?_;·have M:=hT k ch;have bc:=J.out.ED;have cq:=J.out.EE;rcases O with rfl|rfl<;>omega
  ·exact mL _ clockA cs 0 s w2 (b4.ao f2) aP (al.out.ao (f.trans f2)) cM.nil iC.writes (by decide)
  ·rintro e w2⟨T',rfl,ax,f2,bf⟩;rw[tP]at ax⊢;exact⟨T',rfl,ax,f.aw f2 (λi bh e=>by have:=hT i e;omega),λk O=>by
    rcases bf k O with M|M;·exact hT k M
    ·have:=f.size;omega⟩
 have bz:Hid (∀w' h T,dR w' h [] [clockA] T->Calls prog 38 #[.pointer (some ⟨h,0,none⟩), .int .i64 1] w' (Dj w' [] [clockA])):=λw' h T n=>rA h [] [clockA] T w' n;obtain⟨C,E⟩:∃C,Lt.gN (dD [] [clockA])=C:=⟨_,rfl⟩;have y:C.length=32:=by rw[<-E];exact Lt.nF 2 _ rfl (by decide) (qV _ _)
 have bx:Hid (∀w' h T,Fr Nothing w w'->dR w' h [] [clockA] T->Calls prog 16 #[.pointer (some ⟨h,0,none⟩), .int .i64 1] w' (aM w' (.tuple #[.agg (C.map bK).toArray, .int .i64 0]))):=λw' h T f n=>by
  have q:=Dk h [] [clockA] T 1 w' n (J.out.ao f) (by decide);have e:yP [] [clockA] 1= .tuple #[.agg (C.map bK).toArray, .int .i64 0]:=by rw[<-E];rfl
  rw[e]at q;exact q
 obtain⟨p,D⟩:∃p,Lt.df (dD [] [clockA]) 1=p:=⟨_,rfl⟩;obtain⟨I,L⟩:∃I:ByteArray,⟨(bY clockA).toArray⟩=I:=⟨_,rfl⟩;have B:Hid (aQ I=bY clockA/\I.size<=16777216):=by
  rw[Hid,<-L];exact⟨KQ _,by have:=iC.len;simp only[ByteArray.size,List.size_toArray];omega⟩
 have ak:Hid (p.length<=1/\∀d∈p,d.length=32):=by
  rw[Hid,<-D];exact⟨Lt.lS 1 _ _ (by decide) (by decide),Lt.Cd 2 _ _ rfl (by decide) (qV _ _)⟩
 have bw:Hid (∀w' h T,Fr Nothing w w'->dR w' h [] [clockA] T->Calls prog 15 #[.pointer (some ⟨h,0,none⟩), .int .i64 0, .int .i64 1] w' (λe l=>∃A c,e= .returned (.tuple #[.agg [Value.int .i64 0, .int .i64 1, .string I, .slice A p.length c].toArray, .int .i64 0])/\Lt.gK l (λ_=>True) A p.length p/\Fr Nothing w' l)):=λw' h T f n=>by
  refine(Ao h [] [clockA] T 0 1 w' n (al.out.ao f) (J.out.ao f) (by decide) ld.ok (λa bg=>(ld.small a bg).sz)).mono ?_;rintro e w2(⟨ay,_⟩|⟨k,m,a,v,O,hm,cf,cg,be,rfl,bd⟩);·exact absurd ⟨by decide,by decide,by decide,by decide⟩ ay
  ·obtain rfl:k=0:=by omega
   obtain rfl:m=1:=by omega
   obtain rfl:clockA=a:=by simpa using be
   have cc:Lt.df (dD [] ([clockA].take 1)) (0+1)=p:=D;rw[cc]at bd;obtain⟨A,c,rfl,H,M,bc,_⟩:=Lt.gK.BJ bd rfl ak.out.2;rw[L];exact⟨A,c,rfl,⟨H.rd.any,H.len,H.each⟩,bd.ao⟩
 have CV:Hid (∀w' A c,Fr Nothing w w'->Lt.gK w' (λ_=>True) A p.length p->Calls prog 17 #[.agg (C.map bK).toArray, .agg [Value.int .i64 0, .int .i64 1, .string I, .slice A p.length c].toArray] w' (λe l=>∃cs,e= .returned (.tuple #[.agg cs.toArray, .int .i64 0])/\cL l cs clockA/\Fr Nothing w' l)):=λw' A c f H=>by
  refine(yQ C y 0 1 I p p.length A c _ w' H (by have:=ak.out.1;omega) (al.out.ao f) (J.out.ao f) B.out.2).mono ?_;rintro e w2⟨cs,a,cp,rfl,bg,f2,aC,cd,_⟩;rw[B.out.1,<-E,<-D,AS]at aC;subst aC;have:=cd rfl;rw[B.out.1,iC.dec vy]at this;obtain rfl:=Option.some.inj this;exact⟨cs,rfl,bg,f2⟩
 have ca:Hid (∀w' cs ds,cL w' cs clockA->cL w' ds clockA->Calls prog 19 #[.agg cs.toArray, .agg ds.toArray] w' (aM w' (.bool true))):=λw' cs ds M bc=>by
  have q:=oX clockA clockA cs ds w' M bc (by decide) (by decide);rw[(vO clockA clockA).2 rfl]at q;exact q
 have bu:Hid (∀w' s,dQ w' s (eY [clockA] [])->Calls prog 53 #[.pointer (some ⟨s,0,none⟩), .agg lN] w' (aM w' (.tuple #[.string ⟨#[53]⟩, .bool true]))):=λw' s h=>by
  have G:=(kI [clockA] [] 0 cM.nil ld.ok ld.small).jZ (by decide);have q:=Jg (eY [clockA] []) oo s w' h G ⟨by decide,by decide⟩;rw[AR]at q;exact q
 have CL:Hid (∀w' h T,dR w' h [] [clockA] T->Calls prog 46 #[.pointer (some ⟨h,0,none⟩)] w' (bJ w' (.int .i64 1))):=λw' h T n=>xK h [] [clockA] T w' n;have aL:Hid (Lt.dL (C.map bK).toArray):=Lt.dL.of y;generalize C.map bK=am at*;clear E D L y B;go_enter func13,ntmps13;go_wp2_with fail;refine(o3 _).mono ?_;rintro e w1⟨ci,rfl,aJ,f1⟩;have aN:=af f1;have bR:Hid (dQ w1 ci []):=⟨_,aJ,rfl⟩;clear aJ f1;go_wp2_with fail;refine(bv.out _ _ aN.out bR.out).mono ?_;rintro e w2⟨h,T,rfl,n,f2,hT⟩;have bB:=af (aN.out.trans f2);have bG:=af n;have b0:Hid (∀k,T k->w.heap.size<=k):=λk O=>by have:=hT k O;have:=aN.out.size;omega
 clear n f2 hT bv bR aN;go_wp2_with fail;refine(vz _).mono ?_;rintro e w3⟨cs,rfl,az,f3,_⟩;have bC:=af (bB.out.trans f3);have bH:=af (bG.out.ao f3);have bo:=af az;clear az f3 bG bB;go_wp2_with fail;refine(X.out _ _ _ _ bC.out bH.out bo.out b0.out).mono ?_;rintro e bj⟨T',rfl,n,f4,hT⟩;have aU:=af f4;have aO:=af n;clear n f4 hT X bH bC bo b0;go_wp2_with fail;refine(bz.out _ _ _ aO.out).mono ?_;rintro e bk⟨s,rfl,rfl,aP⟩;have bS:=af aP;clear aP bz;go_wp2_with fail;refine(bx.out _ _ _ aU.out aO.out).mono ?_;rintro e bk⟨rfl,f5⟩;have bD:=af (aU.out.trans f5);have bI:=af (aO.out.ao f5);have bT:=af (bS.out.ao f5);clear f5 bx aO bS aU;go_wp2_with(refine an rfl 38 rfl bp jn aH rfl ?_);intro bn aK;have K:=af aK;clear aK;generalize aD:bk.heap.size=g5 at*;have ae:=af aD;clear aD;have W:Hid (aq bn g5 38 aH):=by have h:=K.out.aF;rw[ae.out]at h;exact h
 go_wp2_with(refine ai rfl 38 (.tmp 5) _ rfl g5 am.toArray rfl rfl _ _ W.out aL.out.info aL.out.zero aL.out.one ?_);intro cl b1 f6;have br:=af b1;have f56:Fr Nothing bk cl:=K.out.fr.aw f6 (λi bh e=>by have b2:i=g5:=e;have:=ae.out;omega);have aV:=af (bD.out.trans f56);have aZ:=af (bI.out.ao f56);have bV:=af (bT.out.ao f56);clear b1 f6 f56 K W bD bI bT;go_wp2_with fail;refine(bw.out _ _ _ aV.out aZ.out).mono ?_;rintro e bl⟨A,c,rfl,H,f7⟩;have aW:=af (aV.out.trans f7);have bL:=af (aZ.out.ao f7);have bW:=af (bV.out.ao f7);have bs:=af (br.out.fr f7 id);have bA:=af H;clear f7 H bw aV aZ bV br;obtain⟨z,o⟩:∃z,[Value.int .i64 0, .int .i64 1, .string I, .slice A p.length c]=z:=⟨_,rfl⟩;have a7:Hid (z.toArray.all (·.oneCell')=true):=by rw[Hid,<-o];simp[Value.oneCell']
 have a2:Hid ((prog.info? 33).map (·.size)=some z.toArray.size):=by rw[Hid,<-o];exact kT
 have a3:Hid ((prog.info? 33).map (·.size)=some z.length):=by rw[Hid,<-o];exact kT
 have a9:Hid (dV.toArray.size=z.toArray.size):=by rw[Hid,<-o];rfl
 have Y:Hid (∀w',Fr Nothing bl w'->Calls prog 17 #[.agg am.toArray, .agg z.toArray] w' (λe l=>∃cs,e= .returned (.tuple #[.agg cs.toArray, .int .i64 0])/\cL l cs clockA/\Fr Nothing w' l)):=λw' f=>by rw[<-o];exact CV.out w' A c (aW.out.trans f) (bA.out.ao f)
 rw[o];clear o CV bA;go_wp2_with(refine an rfl 33 rfl (.agg dV.toArray) MD dV.toArray rfl ?_);intro bn aK;have K:=af aK;clear aK;generalize aE:bl.heap.size=g7 at*;have ag:=af aE;clear aE;have W:Hid (aq bn g7 33 dV.toArray):=by have h:=K.out.aF;rw[ag.out]at h;exact h
 go_wp2_with(refine ai rfl 33 (.tmp 7) _ rfl g7 z.toArray rfl rfl _ _ W.out a2.out a9.out a7.out ?_);intro bm b8 f8;have V:=af b8;have f78:Fr Nothing bl bm:=K.out.fr.aw f8 (λi bh e=>by have b2:i=g7:=e;have:=ag.out;omega);have bE:=af (aW.out.trans f78);have bM:=af (bL.out.ao f78);have bX:=af (bW.out.ao f78);have U:=af (bs.out.fr f78 id);have Z:=af (Y.out _ f78);have bP:Hid (∀j x,am[j]? =some x->bm.cell? ((⟨g5,0,none⟩:Addr).add j)=some x):=ly U.out;have bO:Hid (∀j x,z[j]? =some x->bm.cell? ((⟨g7,0,none⟩:Addr).add j)=some x):=ly V.out;have a4:Hid ((prog.info? 38).map (·.size)=some am.length):=by have q:=aL.out.info;rw[List.size_toArray]at q;exact q
 clear b8 f8 f78 K W aW bL bW bs Y;go_wp2_with(refine aB rfl 38 (.tmp 5) rfl ⟨g5,0,none⟩ rfl am _ ?zT underlying38 rfl a4.out (aX.go ?zV));case zT=>exact bP.out
 unfold aX;go_wp2_with(refine aB rfl 33 (.tmp 7) rfl ⟨g7,0,none⟩ rfl z _ ?zS underlying33 rfl a3.out (aX.go ?zU));case zS=>exact bO.out
 unfold aX;go_wp2_with fail;refine Z.out.mono ?_;rintro e b7⟨ds,rfl,r,f9⟩;have bF:=af (bE.out.trans f9);have bN:=af (bM.out.ao f9);have bZ:=af (bX.out.ao f9);have bq:=af r;have a1:Hid ((prog.info? 46).map (·.size)=some ds.toArray.size):=by rw[Hid,List.size_toArray,r.len];exact bQ
 have a0:Hid ((prog.info? 46).map (·.size)=some ds.length):=by rw[Hid,r.len];exact bQ
 have a8:Hid (6=ds.toArray.size):=by rw[Hid,List.size_toArray,r.len]
 have a6:=af (ActV.one r);clear r f9 Z bE bM bX U V bP bO;go_wp2_with(refine an rfl 46 rfl eF kh #[.int .i64 0, .int .i64 0, .int .i64 0, .string ByteArray.empty, .slice none 0 0, .slice none 0 0] rfl ?_);intro cm nb;have a5:=af nb;clear nb;generalize aG:b7.heap.size=g9 at*;have aj:=af aG;clear aG;have bt:Hid (aq cm g9 46 #[.int .i64 0, .int .i64 0, .int .i64 0, .string ByteArray.empty, .slice none 0 0, .slice none 0 0]):=by have h:=a5.out.aF;rw[aj.out]at h;exact h
 go_wp2_with(refine ai rfl 46 (.tmp 9) _ rfl g9 ds.toArray rfl rfl _ _ bt.out a1.out a8.out a6.out ?_);intro bi iR f10;have R:=af iR;have t:Fr Nothing b7 bi:=a5.out.fr.aw f10 (λi bh e=>by have b2:i=g9:=e;have:=aj.out;omega);have aa:=af (bF.out.trans t);have ac:=af (bN.out.ao t);have ap:=af (bZ.out.ao t);have P:=af (bq.out.ao t);clear iR f10 t a5 bt bF bN bZ bq;go_wp2_with fail;refine(rD _).mono ?_;rintro e cj⟨rfl,f11⟩;have av:=af (ap.out.ao f11);have ab:=af (aa.out.trans f11);have ad:=af (ac.out.ao f11);have Q:=af (P.out.ao f11);have S:=af (R.out.fr f11 id);have F:=af (bu.out _ _ av.out);generalize lN=b9 at*;clear f11 ap aa ac P R av bu;go_wp2_with fail;refine F.out.mono ?_;rintro e ck⟨rfl,f12⟩;have aT:=af (ab.out.trans f12);have aY:=af (ad.out.ao f12);have aR:=af (Q.out.ao f12);have aS:=af (S.out.fr f12 id);clear f12 ab ad Q S F;go_upto_region 11 with fail;refine Ae 28 [iS (.int .i64 0),iS (.bool true),iS (.bool true),iS (.int .i64 0),iS (.bool true),iS (.bool true),iS (.bool true),iS (.int .i64 0),iS (.bool true),iS (.bool true),iS (.bool true),iS (.agg ds.toArray),⟨λco cn=>∃es:List Value,co= .agg es.toArray/\cL cn es clockA,λ_ _ _ f⟨es,e,h⟩=>⟨es,e,h.ao f⟩⟩,iS (.bool true),iS (.bool true),iS (.bool true),iS (.bool true),iS (.bool true),iS (.bool true),iS (.string ⟨#[53]⟩),iS (.bool true),iS (.bool true),iS (.bool true),iS (.pointer (some ⟨h,0,none⟩)),iS (.int .i64 1),iS (.bool true),iS (.bool true),iS (.bool true)] ?zW ?_;case zW=>
  refine⟨?yG,?zX,?zY,?zZ,?yA,?yB,?yC,?yD,?yE,?yF,?zA,?zB,?zC,?zD,?zE,?zF,?zG,?zH,?zI,?zJ,?zK,?zL,?zM,?zN,?zO,?zP,?zQ,?zR,trivial⟩;all_goals intro u w' N g
  all_goals simp only[z1,z2,z3,z4,ar,Act.put,z5,z6,z7,Nat.reduceAdd,Nat.zero_add]
  case zX=>
   simp only[ah (g 0)];refine aI ?_;go_simp;exact⟨_,rfl,aA,rfl⟩
  case' zY=>simp only[ah (g 1)]
  case' zZ=>simp only[ah (g 2)]
  case yA=>
   simp only[ah (g 3),ah (g 2)];refine aI ?_;go_simp;exact⟨_,rfl,aA,rfl⟩
  case' yB=>simp only[ah (g 2),ah (g 4)]
  case' yC=>simp only[ah (g 5)]
  case' yD=>simp only[ah (g 6)]
  case yE=>
   simp only[ah (g 7),ah (g 6)];refine aI ?_;go_simp;exact⟨_,rfl,aA,rfl⟩
  case' yF=>simp only[ah (g 6),ah (g 8)]
  case' zA=>simp only[ah (g 9)]
  case zB=>
   simp only[ah (g 10)];refine aI ?_;exact au _ _ rfl ⟨g9,0,none⟩ rfl ds _ (ly (aS.out.fr N id)) underlying46 rfl a0.out ⟨_,rfl,aA,rfl⟩
  case zC=>
   simp only[ah (g 10)];refine aI ?_;go_simp;refine(vz _).mono ?_;rintro e bj⟨es,rfl,he,f4,_⟩;exact⟨_,rfl,f4,⟨es,rfl,he⟩⟩
  case zD=>
   obtain⟨b3,ba,bb⟩:=g 12;simp only[ah (g 11),ba,ah (g 10)];refine aI ?_;go_simp;refine(ca.out _ _ _ (aR.out.ao N) bb).mono ?_;rintro e bj⟨rfl,f4⟩;exact⟨_,rfl,f4,rfl⟩
  case' zE=>simp only[ah (g 10),ah (g 13)]
  case' zF=>simp only[ah (g 14)]
  case' zG=>simp only[ah (g 15)]
  case' zH=>simp only[ah (g 15),ah (g 16)]
  case' zI=>simp only[ah (g 17)]
  case' zJ=>simp only[ah (g 18)]
  case zK=>
   simp only[ah (g 19),ah (g 18)];refine aI ?_;go_simp;exact⟨_,rfl,aA,rfl⟩
  case' zL=>simp only[ah (g 18),ah (g 20)]
  case' zM=>simp only[ah (g 21)]
  case' zN=>simp only[ah (g 22)]
  case zO=>
   simp only[ah (g 23),ah (g 22)];refine aI ?_;go_simp;refine(CL.out _ _ _ (aY.out.ao N)).mono ?_;rintro e bj⟨rfl,rfl⟩;exact⟨_,rfl,aA,rfl⟩
  case zP=>
   simp only[ah (g 24),ah (g 22)];refine aI ?_;go_simp;exact⟨_,rfl,aA,rfl⟩
  case' zQ=>simp only[ah (g 22),ah (g 25)]
  case' zR=>simp only[ah (g 26)]
  all_goals
   refine aI ?_;go_simp;exact⟨_,rfl,aA,rfl⟩
 intro u w' N g;simp only[z1,z2,z3,z4,ar,Act.put,z5,z6,z7,z8,z9,Nat.reduceAdd,Nat.zero_add,ah (g 27 (by omega))];clear g;have cb:=af (aT.out.trans N);clear N;go_wp2;go_ret;exact⟨rfl,cb.out⟩
theorem rj:∀(L:List ActV),(∀a∈L,fX a)->(L.flatMap (λa=>aN (bY a))).length<=6400*L.length
 |[],_=>by simp
 |a::L,h=>by
  have c:=(h a (by simp)).len;have d:=rj L (λx b=>h x (by simp[b]));have e:=aY (bY a).length;rw[List.flatMap_cons,aT,aN,aT,List.length_cons];omega
theorem xJ.of{E:List Ent}{L:List ActV}(c:cM 6 E)(b:ej L):xJ E L:=by
 have e:=c.rQ;have f:=c.len;have g:=b.len;have h:=rj L b.small;have i:=aY (cq E).length;have j:=aY L.length;refine⟨c.small (by decide),by omega,λa d=>⟨b.ok a d,(b.small a d).sz,by have:=(b.small a d).len;omega⟩,by omega,?_⟩;rw[iX,gR,List.take_length,aN,aT,aT,aT];omega
theorem xg{P:Program}{ops:Array Oper}{rest:List Oper}{l:Oper}{a:Act}{w:World}{Q:Exit->Act->World->Prop}(ty:TypeId)(x:Operand)(i:l.op= .load ty x)(b:Addr)(k:a.eval x= .pointer (some b))(cs:List Value)(d:TypeDesc)
  (hw:Region.wanted l (yielded ops a.tmps)=true)(hu:P.underlying ty=some d)(f:d.isRow=true)(g:(P.info? ty).map (·.size)=some cs.length)(e:∀j v,cs[j]? =some v->w.cell? (b.add j)=some v)
  (h:wpList P ops Q rest (a.put l.dst (.agg cs.toArray)) w):wpList P ops Q (l::rest) a w:=
 BigFrame.wpList_want hw λ_ c=>au ty x i b k cs d e hu f g (c _ _ h)
structure Nx(b wr:World)(c:Nat)(E:List Ent)(L M:List ActV)(T:Nat->Prop)(j:Nat):Prop where
 pC:dR wr c E M T
 new:∀x,T x->b.heap.size<=x
 fr:Fr Nothing b wr
 pre:∃X,M=L++X
 ok:∀a∈M,fR a=true
 small:∀a∈M,fX a
 len:M.length<=16+j
abbrev xG(M:List ActV):List UInt8:=M.flatMap (λa=>aN (bY a))
def sE(L:List ActV)(t:List UInt8):Int×List ActV:=((jo t).map (dP L)).getD (3,[])
theorem sG{L:List ActV}{t:List UInt8}{a:ActV}(h:jo t=some a):sE L t=dP L a:=by
 unfold sE;rw[h];rfl
theorem sF{L:List ActV}{t:List UInt8}(h:jo t=none):sE L t=(3,[]):=by
 unfold sE;rw[h];rfl
def ft:Nat->dc->List ActV->Int×List ActV
 |0,st,L=>(dK st,L)
 |n+1,st,L=>
  if(dH st).2.2.2≠0 then((dH st).2.2.2,[])else
  if(sE L (dH st).1).1≠0 then((sE L (dH st).1).1,[])else ft n (dH st).2 (sE L (dH st).1).2
theorem tQ{n:Nat}{st:dc}{L:List ActV}(h:(dH st).2.2.2≠0):ft (n+1) st L=((dH st).2.2.2,[]):=by rw[ft,if_pos h]
theorem tR{n:Nat}{st:dc}{L:List ActV}(h:(dH st).2.2.2=0)(a:(sE L (dH st).1).1≠0):ft (n+1) st L=((sE L (dH st).1).1,[]):=by rw[ft,if_neg (by simp[h]),if_pos a]
theorem pj{n:Nat}{st:dc}{L:List ActV}(h:(dH st).2.2.2=0)(a:(sE L (dH st).1).1=0):ft (n+1) st L=ft n (dH st).2 (sE L (dH st).1).2:=by rw[ft,if_neg (by simp[h]),if_neg (by simp[a])]
def hT(l:List UInt8):List UInt8×dc:=dH (l,0,0)
def hN(l:List UInt8):Int×dc:=aE 0 (aO 65536) (hT l).2
def jN(l:List UInt8):Int×List Ent×List ActV:=
 if(hT l).2.2.2≠0 then((hT l).2.2.2,[],[])else
 if(iW (hT l).1).1≠0 then((iW (hT l).1).1,[],[])else
 if(hN l).2.2.2≠0 then((hN l).2.2.2,[],[])else
 ((ft (hN l).1.toNat (hN l).2 []).1,(iW (hT l).1).2,(ft (hN l).1.toNat (hN l).2 []).2)
theorem Kf{n:aG}(h:da n=true):n.owner.size<=(bZ n).length/\n.text.size<=(bZ n).length:=by
 obtain⟨_,u,hu,b⟩:=pJ h;have p:=pK b;have e:bZ n=mB u n:=by rw[bZ,hu]
 rw[e,mB];have c:=aL n.owner;have a2:=aL n.text;have b1:n.owner.size<=(if u.owner then aN (aQ n.owner)else[]).length:=by
  cases a:u.owner;·rw[p.o0 a];exact Nat.zero_le _
  ·rw[if_pos rfl,aN,aT];omega
 have b2:n.text.size<=(if u.text then aN (aQ n.text)else[]).length:=by
  cases a:u.text;·rw[p.t0 a];exact Nat.zero_le _
  ·rw[if_pos rfl,aN,aT];omega
 simp only[aT];omega
theorem rX{α:Type}(f:α->List UInt8):∀(l:List α)(x:α),x∈l->(f x).length<=(l.flatMap f).length
 |y::l,x,h=>by
  rw[List.flatMap_cons,aT];rcases List.mem_cons.1 h with rfl|h;·omega
  ·have:=rX f l x h;omega
theorem Lo{c:CV}(h:jw c=true):c.nm.owner.size<=(kx c).length/\c.nm.text.size<=(kx c).length/\c.value.size<=65536:=by
 simp only[jw,Bool.and_eq_true,decide_eq_true_eq]at h;have a:=Kf h.1.1;have b:(bZ c.nm).length<=(kx c).length:=by
  rw[kx,aT,aN,aT];omega
 exact⟨by omega,by omega,h.1.2⟩
structure FP(a:ActV)(n:Nat):Prop where
 ok:fR a=true
 sz:Dy a
 len:(bY a).length=n
 writes:∀c∈a.writes,xk c
 nw:2*a.writes.length<=n
theorem xZ{l:List UInt8}{a:ActV}(h:jo l=some a)(o:l.length<=110000):FP a l.length:=by
 obtain⟨f,e⟩:=x8 h;have he:=congrArg List.length e;rw[bY,pE,aN,ep,ep]at he;simp only[aT]at he;have k:=rM a.reads;have m:=rM a.writes;have n:=aL a.key.fD;obtain⟨_,i,hw⟩:=wC f;have F:∀(M:List CV),gz M=true->(M.flatMap kx).length<=110000->∀c∈M,xk c:=λM g hm c b=>by
  have j:=Lo (j7 g c b);have p:=rX kx M c b;exact⟨by omega,by omega,j.2.2⟩
 have fr:=F a.reads i (by omega);have d:=F a.writes hw (by omega);exact⟨f,⟨by omega,λc b=>⟨(fr c b).owner,(fr c b).text⟩,λc b=>⟨(d c b).owner,(d c b).text⟩,by omega,by omega⟩,by rw[e],d,by omega⟩
theorem vG:∀(n:Nat)(st:dc)(L:List ActV),(ft n st L).1=0->st.1.length<=110000->∃M,(ft n st L).2=L++M/\M.length=n/\st.2.2=0/\st.1=xG M/\∀a∈M,∃k,k<=110000/\FP a k
 |0,st,L,h,_=>by
  obtain⟨c,e⟩:=lO h;exact⟨[],by simp[ft],rfl,c,e,λa l=>by cases l⟩
 |n+1,st,L,h,t=>by
  by_cases d:(dH st).2.2.2=0;case neg=>rw[tQ d]at h;exact absurd h d
  obtain⟨i,s⟩:=eV 16777216 st (show(dH st).2.2.2=0 from d);have j:st.1=aN (dH st).1++(dH st).2.1:=s;have m:=nT st;by_cases c:(sE L (dH st).1).1=0;case neg=>rw[tR d c]at h;exact absurd h c
  rw[pj d c]at h⊢;cases f:jo (dH st).1 with
  |none=>rw[sF f]at c;cases c
  |some a=>
   rw[sG f]at h c⊢;obtain⟨M,o,p,_,q,r⟩:=vG n _ _ h (by omega);rcases kY L a with⟨e,_⟩|⟨_,e,_⟩;·exact absurd c e
   refine⟨a::M,by rw[o,e,List.append_assoc];rfl,by rw[List.length_cons,p],i,?_,λb g=>?_⟩;·rw[j,q,<-(x8 f).2];rfl
   ·rcases List.mem_cons.1 g with rfl|g;·exact⟨_,by omega,xZ f (by omega)⟩
    ·exact r b g
theorem BG(st:dc):(aE 0 (aO 65536) st).1<=65536:=by
 unfold aE;split;·show(0:Int)<=65536;decide
 ·split;·show(0:Int)<=65536;decide
  next h=>
   simp only[aO]at h⊢;split at h;·omega
   next a=>
    have b:(pn st.1 9).2.2=0:=by omega
    have:¬(65536:Int)<((pn st.1 9).1:Int):=λe=>a ⟨b,e⟩;omega
theorem Ma(st:dc):0<=(aE 0 (aO 65536) st).1:=by
 unfold aE;split;·exact Int.le_refl _
 ·split;·exact Int.le_refl _
  ·simp only[aO];omega
theorem Ho{l:List UInt8}(B:l.length<=110000)(h:(jN l).1=0):iX (jN l).2.1 (jN l).2.2=l/\xJ (jN l).2.1 (jN l).2.2:=by
 unfold jN at h⊢;have u:=nT (l,0,0);by_cases c:(hT l).2.2.2≠0;·rw[if_pos c]at h;exact absurd h c
 rw[if_neg c]at h⊢;by_cases d:(iW (hT l).1).1≠0;·rw[if_pos d]at h;exact absurd h d
 rw[if_neg d]at h⊢;by_cases e:(hN l).2.2.2≠0;·rw[if_pos e]at h;exact absurd h e
 rw[if_neg e]at h⊢;simp only at h⊢;have v:(hT l).1.length<=l.length/\(hT l).2.1.length<=l.length:=u;obtain⟨_,A⟩:=eV 16777216 (l,0,0) (show(hT l).2.2.2=0 by omega);have n:l=aN (hT l).1++(hT l).2.1:=A;obtain⟨i,last,q⟩:=yd (l:=(hT l).1) (by omega) (by omega);have s:=ig 65536 (hT l).2;obtain⟨_,s1⟩:=ib 65536 (hT l).2 (show(hN l).2.2.2=0 by omega);have o:(hT l).2.1=enc (hN l).1.toNat++(hN l).2.1:=s1;have t:(hN l).2.1.length<=(hT l).2.1.length:=s;obtain⟨M,w,x,_,y,z⟩:=vG _ _ _ h (by omega);rw[w,List.nil_append];have f:=BG (hT l).2;have m:(hN l).1<=65536:=f;have j:iX (iW (hT l).1).2 M=l:=by
  rw[iX,gR,List.take_length,i,x,List.append_assoc];have g:(hN l).2.1=M.flatMap (λa=>aN (bY a)):=y;rw[<-g,<-o,<-n]
 refine⟨j,q.small,by rw[i];omega,λa p=>?_,by omega,by rw[j];omega⟩;obtain⟨k,r,b⟩:=z a p;exact⟨b.ok,b.sz,by rw[b.len];omega⟩
theorem vF:∀(M:List ActV)(p:Nat)(L:List ActV),ej (L++M)->ft M.length (xG M,p,0) L=(0,L++M)
 |[],p,L,_=>by simp[ft,dK]
 |a::M,p,L,h=>by
  have d:a∈L++a::M:=by simp
  have g:=h.small a d;have hlen:=g.len;have i:aE [] (cg 16777216) (aN (bY a)++xG M,p,0)=(bY a,(xG M,p+(aN (bY a)).length,0)):=ij (bY a) 16777216 (by omega) (by omega) _ _;have e:dH (xG (a::M),p,0)=(bY a,(xG M,p+(aN (bY a)).length,0)):=by
   rw[dH,xG,List.flatMap_cons];exact i
  have b:dP L a=(0,L++[a]):=by
   have c:=Jr h (k:=L.length) (a:=a) (by simp);rw[List.take_left,List.take_add_one,List.take_left]at c;rw[c];simp
  have f:sE L (bY a)=(0,L++[a]):=by rw[sG (g.dec (h.ok a d)),b]
  have j:=vF M (p+(aN (bY a)).length) (L++[a]) (by rw[List.append_assoc];exact h);rw[List.length_cons,pj (by rw[e]) (by rw[e];simp only;rw[f]),e];simp only;rw[f,j,List.append_assoc];rfl
theorem Hn{E:List Ent}{L:List ActV}(a:cM 6 E)(d:ej L):jN (iX E L)=(0,E,L):=by
 have i:=a.rQ;have j:=a.len;have k:=d.len;have c:hT (iX E L)=(cq E,(enc L.length++xG L,(aN (cq E)).length,0)):=by
  have h:=ij (cq E) 16777216 (by omega) (by omega) (enc L.length++xG L) 0;rw[Nat.zero_add]at h;rw[hT,dH,iX,gR,List.take_length,List.append_assoc];exact h
 have e:iW (cq E)=(0,E):=Hp a.sort (by omega) a.ok (λx b=>by have:=a.owner x b;omega) a.text (λx b=>by have:=a.value x b;omega);have f:hN (iX E L)=((L.length:Int),(xG L,(aN (cq E)).length+(enc L.length).length,0)):=by
  rw[hN,c];exact jk L.length 65536 (by omega) (by omega) _ _
 have g:=vF L ((aN (cq E)).length+(enc L.length).length) [] d;unfold jN;rw[f,c];simp only[ne_eq,not_true_eq_false,if_false,e,Int.toNat_natCast];rw[g];simp
theorem Ri.Na{b W W':World}{g B:Nat}{S T:Nat->Prop}{st:dc}(h:Ri b W g S st)(f:Fr T W W')(hT:∀k,T k->B<=k)(l:g<B)(d:∀k,S k->k<B)(j:b.heap.size<=B):Ri b W' g S st:=
 ⟨h.fr.aw f (λi a e=>by have:=hT i e;omega),h.rr.kl f (λe=>by have:=hT g e;omega) (λk c e=>by have:=hT k e;have:=d k c;omega),h.new,λi a=>⟨(h.sn i a).1,Nat.lt_of_lt_of_le (h.sn i a).2 f.size⟩⟩
theorem dR.read{l W W':World}{g B h:Nat}{S T:Nat->Prop}{st:dc}{E:List Ent}{L:List ActV}(b:dR W h E L T)(r:Ri l W g S st)(f:Fr (eH g) W W')(hT:∀k,T k->B<=k)(o:g<B):dR W' h E L T:=by
 obtain⟨A,n,c,a⟩:=r.rr.aF;exact b.kj f (λi d=>by
  obtain rfl:i=g:=d;exact⟨λx=>absurd (x.one a.ty) (by decide),λx=>absurd (x.one a.ty) (by decide),λx=>absurd (x.one a.ty) (by decide)⟩) (λk j e=>by have m:k=g:=e;have:=hT k j;omega)
theorem uh:∀(xs:List CV)(L:List Ent)(m:Nat),js m L->(∀c∈xs,xk c)->(∀c∈xs,da c.nm=true)->js (m+xs.length) (jq xs L)
 |[],_,_,h,_,_=>h
 |c::xs,L,m,h,e,b=>(uh xs (jH c L) (m+1) (h.next (e c (by simp)) (b c (by simp))) (λd a=>e d (by simp[a])) (λd a=>b d (by simp[a]))).more (by simp only[List.length_cons];omega)
theorem jU.gg{L:List Ent}{last:aG}{st:dc}(h:jU L last st):js L.length L:=⟨h.sort,Nat.le_refl _,h.ok,λx a=>by have:=h.owner x a;omega,λx a=>by have:=h.text x a;omega,λx a=>by have:=h.value x a;omega⟩
theorem yj:∀L:List Ent,2*L.length<=(L.flatMap jy).length
 |[]=>by simp
 |x::L=>by
  have a:=yj L;have b:=kN (bZ x.1);have c:=kN (aQ x.2);rw[List.flatMap_cons,aT,jy,aT,List.length_cons];omega
structure Je(w wr:World)(B h g:Nat)(S:Nat->Prop)(E:List Ent)(L:List ActV)(T:Nat->Prop)(st:dc)(m:Nat):Prop where
 pC:dR wr h E L T
 rd:Ri w wr g S st
 ND:B<=wr.heap.size
 new:∀k,T k->B<=k
 iJ:∀a∈L,∃n,n<=110000/\FP a n
 gd:js m (eY L E)
 jF:2*m+st.1.length<=110000
def yN(w:World)(a:Int×List Ent×List ActV)(e:Ending)(w':World):Prop:=
 ∃p,e= .returned (.tuple #[.pointer p, .int .i64 a.1])/\Fr Nothing w w'/\((a.1≠0/\p=none)\/(a.1=0/\∃h T,p=some ⟨h,0,none⟩/\dR w' h a.2.1 a.2.2 T/\∀k,T k->w.heap.size<=k))
theorem Lq{l:List UInt8}(h:(hT l).2.2.2≠0):jN l=((hT l).2.2.2,[],[]):=by unfold jN;rw[if_pos h]
theorem Lr{l:List UInt8}(a:(hT l).2.2.2=0)(h:(iW (hT l).1).1≠0):jN l=((iW (hT l).1).1,[],[]):=by unfold jN;rw[if_neg (by simp[a]),if_pos h]
theorem Ls{l:List UInt8}(a:(hT l).2.2.2=0)(b:(iW (hT l).1).1=0)(h:(hN l).2.2.2≠0):jN l=((hN l).2.2.2,[],[]):=by unfold jN;rw[if_neg (by simp[a]),if_neg (by simp[b]),if_pos h]
theorem Lu{l:List UInt8}(a:(hT l).2.2.2=0)(b:(iW (hT l).1).1=0)(c:(hN l).2.2.2=0):jN l=((ft (hN l).1.toNat (hN l).2 []).1,(iW (hT l).1).2,(ft (hN l).1.toNat (hN l).2 []).2):=by unfold jN;rw[if_neg (by simp[a]),if_neg (by simp[b]),if_neg (by simp[c])]
theorem lk{x:Int}(h:¬x=0):(x !=0)=true:=by rw[bne_iff_ne];exact h
theorem kG{x:Int}(h:x=0):(x !=0)=false:=by rw[h];rfl
theorem ru(s:ByteArray)(w:World)(b8:dO w)(b7:bU w)(bI:s.size<=110000):Calls prog 50 #[.string s] w (yN w (jN (aQ s))):=by
 obtain⟨l,bk⟩:∃l,aQ s=l:=⟨_,rfl⟩;have P:Hid (l.length<=110000/\s.size<=110000):=by have:=aL s;rw[bk]at this;simp only[Hid];omega
 have aW:Hid (aQ s=l):=bk;rw[bk];have aZ:=af b8;have bd:=af b7;have ax:=af (nT (l,0,0));obtain⟨R,bG⟩:∃R,jN l=R:=⟨_,rfl⟩;have bc:=af bG;have o:Hid (∀(x:Int)w',R.1=x->x≠0->Fr Nothing w w'->yN w R (.returned (.tuple #[.pointer none, .int .i64 x])) w'):=λx w' d v f=>⟨none,by rw[d],f, .inl ⟨by rw[d];exact v,rfl⟩⟩;have av:Hid (∀h E L T w',R=(0,E,L)->dR w' h E L T->(∀k,T k->w.heap.size<=k)->Fr Nothing w w'->yN w R (.returned (.tuple #[.pointer (some ⟨h,0,none⟩), .int .i64 0])) w'):=λh E L T w' d v b3 f=>⟨_,by rw[d],f, .inr ⟨by rw[d],h,T,rfl,by rw[d];exact v,b3⟩⟩;rw[bG];generalize yN w R=PP at*;clear b8 b7 bI bk bG;go_enter func50,ntmps50;obtain⟨cl,w2,ai,a4,a7⟩:=mQ w s;have bb:=af a4;have bx:=af a7;clear a4 a7;generalize w.heap.size=gc at ai bx;go_wp2_with fail;refine(jV _ _ cl l _ _ (by have h:=bx.out;rw[aW.out]at h;exact h) (by have:=P.out;omega)).mono ?_;rintro e w3⟨g,S,rfl,a8,f3,bH,ay⟩;have aA:Hid (Ri w w3 g S (l,0,0)):=⟨bb.out.trans f3,a8,by have:=bb.out.size;omega,λk O=>⟨by have:=(ay k O).1;have:=bb.out.size;omega,(ay k O).2⟩⟩;clear a8 f3 bH ay ai bx bb;go_wp2_with fail;refine(aA.out.text 16777216).mono ?_;rintro e aF⟨rfl,cd,_⟩;have ae:Hid (Ri w aF g S (hT l).2):=cd;have V:Hid ((aE [] (cg 16777216) (l,0,0)).1=(hT l).1):=rfl;rw[V.out];obtain⟨t1,al⟩:∃t,(hT l).1=t:=⟨_,rfl⟩;obtain⟨s1,aj⟩:∃t,(hT l).2=t:=⟨_,rfl⟩;have A:Hid (t1.length<=l.length/\s1.1.length<=l.length):=by rw[Hid,<-al,<-aj];exact ax.out
 have M:=af al;have F:=af aj;rw[aj]at ae;obtain⟨Y,G⟩:∃Y:ByteArray,⟨t1.toArray⟩=Y:=⟨_,rfl⟩;have W:Hid (aQ Y=t1/\Y.size=t1.length):=by rw[Hid,<-G];exact⟨rfl,rfl⟩
 rw[al,G];clear cd aA V al aj G;go_wp2_with fail;refine(j8 g S s1.1 s1.2.1 s1.2.2 aF ae.out.rr).mono ?_;rintro e ba⟨rfl,f5⟩;generalize(if s1.2.2=0 then(0:Int)else(s1.2.1:Int))=pl at*;have aC:=af (ae.out.later f5);clear f5 ae;by_cases u:s1.2.2=0;case neg=>
  have t0:=lk u;have r:=af (o.out s1.2.2 ba (by rw[<-bc.out,Lq (by rw[F.out];exact u),F.out]) u aC.out.fr);clear u;go_wp2;first|exact r.out|(go_ret2;exact r.out)
 have t0:=kG u;have aG:Hid ((hT l).2.2.2=0):=by rw[Hid,F.out];exact u
 have am:Hid (t1.length+s1.1.length<=l.length):=by
  obtain⟨_,q⟩:=eV 16777216 (l,0,0) (show(hT l).2.2.2=0 from aG.out);have bK:l=aN (hT l).1++(hT l).2.1:=q;have:=congrArg List.length bK;rw[M.out,F.out,aT,aN,aT]at this;simp only[Hid];omega
 obtain⟨ck,bl,ai,a5,a9⟩:=mQ ba Y;have Z:=af (aC.out.later a5);have bN:=af a9;clear a5 a9 aC u;generalize ba.heap.size=gd at*;go_wp2_with fail;refine(GR _ _ ck t1 _ _ (by have h:=bN.out;rw[W.out.1]at h;exact h) (by have:=A.out;have:=P.out;omega) (aZ.out.ao Z.out.fr)).mono ?_;rintro e ap⟨p,rfl,f7,c⟩;have X:=af (Z.out.later f7);clear f7 Z bN ai t0;obtain⟨D,bD⟩:∃D,iW t1=D:=⟨_,rfl⟩;have ar:=af bD;rw[bD]at c⊢;clear bD;by_cases d:D.1=0;case neg=>
  have t0:=lk d;have cr:p=none:=by
   rcases c with⟨h,_⟩|⟨_,h⟩;·exact absurd h d
   ·exact h
  subst cr;have r:=af (o.out D.1 ap (by rw[<-bc.out,Lr aG.out (by rw[M.out,ar.out];exact d),M.out,ar.out]) d X.out.fr);clear d c;go_wp2;first|exact r.out|(go_ret2;exact r.out)
 obtain⟨b,rfl,bi⟩:∃s,p=some ⟨s,0,none⟩/\dQ ap s D.2:=by
  rcases c with⟨_,h⟩|⟨h,_⟩;·exact h
  ·exact absurd d h
 have t0:=kG d;have bo:Hid ((iW (hT l).1).1=0):=by rw[Hid,M.out,ar.out];exact d
 have EQ:Hid ((iW (hT l).1).2=D.2):=by rw[Hid,M.out,ar.out]
 have hinv:=yd (l:=t1) (by have:=A.out;have:=P.out;omega) (by rw[ar.out];exact d);rw[ar.out]at hinv;obtain⟨an,last,O⟩:=hinv;have aM:=af O;have au:=af an;have HB:=af bi;clear c d an O bi;generalize D.2=E at*;have ac:Hid ((cq E).length<=1099511627776/\1<=(cq E).length/\2*E.length<=(cq E).length):=by
  have d:=yj E;have v:1<=(enc E.length).length:=pv 9 _;have b3:=A.out;have cw:=P.out;have co:=congrArg List.length au.out;have cx:(cq E).length=(enc E.length).length+(E.flatMap jy).length:=by rw[cq,aT]
  simp only[Hid];omega
 go_wp2_with fail;refine(xM E b ap HB.out (aZ.out.ao X.out.fr) (bd.out.ao X.out.fr) aM.out.small ⟨ac.out.1,ac.out.2.1⟩).mono ?_;rintro e cv⟨h,T,rfl,b5,f8,az⟩;obtain⟨B,bh⟩:∃B,ap.heap.size=B:=⟨_,rfl⟩;have H:Hid (g<B/\(∀k,S k->k<B)/\w.heap.size<=B):=by
  rw[Hid,<-bh];exact⟨X.out.rr.lt,λk O=>(X.out.sn k O).2,X.out.fr.size⟩
 rw[bh]at az;have bz:=af (X.out.later f8);have bX:=af b5;have bw:=af az;have aI:Hid (B<=cv.heap.size):=by rw[Hid,<-bh];exact f8.size
 clear b5 f8 az bh HB X t0;go_wp2_with fail;refine(bz.out.number 65536).mono ?_;rintro e bL⟨rfl,ce,f9⟩;have bY:=af (bX.out.read bz.out f9 bw.out H.out.1);have bf:Hid (Ri w bL g S (hN l).2):=by rw[Hid,hN,F.out];exact ce
 have J:Hid ((aE 0 (aO 65536) s1).1=(hN l).1/\0<=(hN l).1/\(hN l).1<=65536/\(hN l).2.1.length<=s1.1.length):=by
  have e:hN l=aE 0 (aO 65536) s1:=by rw[hN,F.out]
  rw[Hid,e];exact⟨rfl,Ma s1,BG s1,ig 65536 s1⟩
 rw[J.out.1];obtain⟨N,ag⟩:∃N:Nat,(hN l).1=(N:Int):=⟨(hN l).1.toNat,by have:=J.out;omega⟩;obtain⟨s2,ak⟩:∃t,(hN l).2=t:=⟨_,rfl⟩;have aR:=af ag;have U:=af ak;rw[ag,ak]at J;rw[ak]at bf;rw[ag];have aJ:Hid (B<=bL.heap.size):=Nat.le_trans aI.out f9.size;clear ce f9 bz bX ag ak aI;go_wp2_with fail;refine(j8 g S s2.1 s2.2.1 s2.2.2 bL bf.out.rr).mono ?_;rintro e bM⟨rfl,bg⟩;generalize(if s2.2.2=0 then(0:Int)else(s2.2.1:Int))=pl at*;have bA:=af (bf.out.later bg);have bZ:=af (bY.out.ao bg);have br:Hid (B<=bM.heap.size):=Nat.le_trans aJ.out bg.size;clear bg bf bY aJ;by_cases v:s2.2.2=0;case neg=>
  have t0:=lk v;have r:=af (o.out s2.2.2 bM (by rw[<-bc.out,Ls aG.out bo.out (by rw[U.out];exact v),U.out]) v bA.out.fr);clear v;go_wp2;first|exact r.out|(go_ret2;exact r.out)
 have t0:=kG v;have K:Hid (R=((ft N s2 []).1,E,(ft N s2 []).2)):=by rw[Hid,<-bc.out,Lu aG.out bo.out (by rw[U.out];exact v),aR.out,U.out,EQ.out,Int.toNat_natCast]
 obtain⟨Q,bF⟩:∃Q,ft N s2 []=Q:=⟨_,rfl⟩;rw[bF]at K;have b0:Hid (Je w bM B h g S E [] T s2 E.length):=⟨bZ.out,bA.out,br.out,bw.out,λ_ cp=>by(cases cp),aM.out.gg,by have:=ac.out;have:=J.out;have:=A.out;have:=P.out;have co:=congrArg List.length au.out;have:=am.out;omega⟩;have aU:Hid (ft (N-0) s2 []=Q):=bF;have aS:Hid (N<=65536):=by have:=J.out;simp only[Hid];omega
 have a0:Hid (w.heap.size<=B/\1<w.heap.size/\2<w.heap.size):=⟨H.out.2.2,bd.out.ED,bd.out.EE⟩;clear bF v bZ bA bw aM ac J A au am ax W aG bo EQ F M ar U aR aW;go_wp2;clear t0;go_loopw[62](λi wr=>∃(k:Nat)(L:List ActV)(T:Nat->Prop)(st:dc)(m:Nat),k<=N/\L.length=k/\i= .int .i64 (k:Int)/\ft (N-k) st L=Q/\Je w wr B h g S E L T st m)(λi _=>N-(intOf i).toNat);case atStart=>exact⟨0,[],T,s2,E.length,Nat.zero_le _,rfl,rfl,aU.out,b0.out⟩
 case round=>
  obtain⟨k,L,T,st,m,O,a2,rfl,cb,b6⟩:=hrel;have aM:=af O;have aP:=af a2;have ad:=af cb;have y:=af b6;clear O a2 cb b6 b0 aU;by_cases a6:k<N
  ·have t0:decide ((k:Int)<(N:Int))=true:=cX (by omega);have aw:=af a6;obtain⟨n,b9⟩:∃n,N-k=n+1:=⟨N-k-1,by omega⟩;have HNK:Hid (ft (n+1) st L=Q/\N-(k+1)=n):=⟨by rw[<-b9];exact ad.out,by omega⟩;have cA:IntKind.i64.wrap ((k:Int)+1)=(k:Int)+1:=IntWalk.i64_in _ (by have:=aS.out;omega);clear a6 b9 ad;go_wp2_with fail;refine(y.out.rd.text 16777216).mono ?_;rintro e w3⟨rfl,cc,f3⟩;have bS:=af (y.out.pC.read y.out.rd f3 y.out.new H.out.1);have aA:Hid (Ri w w3 g S (dH st).2):=cc;have V:Hid ((aE [] (cg 16777216) st).1=(dH st).1):=rfl;rw[V.out];have ax:=af (nT st);have bq:=af (λC=>tQ (n:=n) (st:=st) (L:=L) C);have aH:=af (λC bJ=>tR (n:=n) (st:=st) (L:=L) C bJ);have bt:=af (λC bJ=>pj (n:=n) (st:=st) (L:=L) C bJ);have aY:Hid ((dH st).2.2.2=0->(dH st).1.length+(dH st).2.1.length<=st.1.length):=λC=>by
    obtain⟨_,q⟩:=eV 16777216 st C;have bK:st.1=aN (dH st).1++(dH st).2.1:=q;have:=congrArg List.length bK;rw[aT,aN,aT]at this;omega
   generalize(dH st).2=st2 at*;generalize(dH st).1=t1 at*;obtain⟨Y,G⟩:∃Y:ByteArray,⟨t1.toArray⟩=Y:=⟨_,rfl⟩;have W:Hid (aQ Y=t1/\Y.size=t1.length):=by rw[Hid,<-G];exact⟨rfl,rfl⟩
   rw[G];have bO:Hid (B<=w3.heap.size):=Nat.le_trans y.out.ND f3.size;clear cc f3 V G;go_wp2_with fail;refine(j8 g S st2.1 st2.2.1 st2.2.2 w3 aA.out.rr).mono ?_;rintro e aF⟨rfl,f4⟩;generalize(if st2.2.2=0 then(0:Int)else(st2.2.1:Int))=pl at*;have ae:=af (aA.out.later f4);have bT:=af (bS.out.ao f4);have bQ:Hid (B<=aF.heap.size):=Nat.le_trans bO.out f4.size;clear f4 aA bS bO;by_cases u:st2.2.2=0;case neg=>
    have aD:=lk u;have r:=af (o.out st2.2.2 aF (by rw[K.out,<-HNK.out.1,bq.out u]<;>rfl) u ae.out.fr);clear u;go_wp2;first|exact r.out|(go_ret2;exact r.out)
   have aD:=kG u;have I:Hid (t1.length+st2.1.length<=st.1.length):=aY.out u;have bv:Hid (st2.2.2=0):=u;clear u aY;go_wp2_with fail;refine(xI Y aF (aZ.out.ao ae.out.fr) (by have:=W.out.2;have:=I.out;have:=y.out.jF;omega)).mono ?_;rintro e ba⟨cs,a,bC,rfl,ah,f5,c⟩;rw[W.out.1]at c;have aC:=af (ae.out.later f5);have bV:=af (bT.out.ao f5);have AC:=af ah;have be:=sR ah.len;have b1:=af (ActV.one ah);have aq:=af c;have bR:Hid (B<=ba.heap.size):=Nat.le_trans bQ.out f5.size;clear ah f5 c ae bT aD bQ;go_wp2_with(refine rk rfl rfl 46 17 rfl rfl _ rfl eF kh ca.toArray rfl cs.toArray (λ_=>rfl) (λ_=>rfl) be.out.2.1 be.out.2.2 b1.out ?_);intro bl g17 _ _ b2 f6;have bn:=af b2;have Z:=af (aC.out.later f6);have bW:=af (bV.out.ao f6);have bm:=af (AC.out.ao f6);have bp:Hid (B<=bl.heap.size):=Nat.le_trans bR.out f6.size;clear b2 f6 aC bV AC b1 bR;by_cases d:bC=0;case neg=>
    have aD:=lk d;have bj:bC=3/\jo t1=none:=by
     rcases aq.out with⟨h,_⟩|⟨h,cn,_⟩;·exact absurd h d
     ·exact⟨h,cn⟩
    have r:=af (o.out bC bl (by rw[K.out,<-HNK.out.1,aH.out bv.out (by rw[sF bj.2];decide),sF bj.2,bj.1]<;>rfl) d Z.out.fr);clear d bj;go_wp2;first|exact r.out|(go_ret2;exact r.out)
   have aD:=kG d;have aK:Hid (jo t1=some a):=by
    rcases aq.out with⟨_,h⟩|⟨h,_⟩;·exact h
    ·rw[h]at d;cases d
   have z:Hid (FP a t1.length):=xZ aK.out (by have:=I.out;have:=y.out.jF;omega);have ab:=af (sG (L:=L) aK.out);have aa:=af y.out.jF;clear d aq;go_wp2_with(refine aB rfl 46 (.tmp 17) rfl ⟨g17,0,none⟩ rfl cs _ ?zA underlying46 rfl be.out.1 (aX.go ?zB));case zA=>first|exactλj x C=>by rw[Addr.add_mid,Nat.zero_add,bn.out.cell j,bP];exact C|exactλj x C=>by rw[bn.out.cell j,bP];exact C
   unfold aX;go_wp2_with fail;refine(nY h E L T a cs bl bW.out bm.out (aZ.out.ao Z.out.fr) (bd.out.ao Z.out.fr) z.out.sz (λb bi=>by obtain⟨j,cy,cm⟩:=y.out.iJ b bi;have:=cm.sz.fD;omega) (by have:=aP.out;have:=aw.out;have:=aS.out;omega) (λ_=>by have:=z.out.len;have:=I.out;have:=aa.out;omega) (λx C cu=>?_) (λcz w' s f bI=>?_)).mono ?_;·have d:=y.out.new x cu;have v:=a0.out;rcases C with rfl|rfl<;>omega
   ·exact tD _ a cs m s w' (bm.out.ao f) bI (aZ.out.ao (Z.out.fr.trans f)) y.out.gd z.out.writes (by have:=z.out.nw;have:=I.out;have:=aa.out;omega)
   rintro e ap⟨bB,rfl,a1,f7,a3⟩;have X:=af (Z.out.Na f7 y.out.new H.out.1 H.out.2.1 H.out.2.2);have ch:=af a1;have cj:Hid (∀x,bB x->B<=x):=λx C=>by
    rcases a3 x C with d|d;·exact y.out.new x d
    ·have:=bp.out;omega
   have cf:Hid (B<=ap.heap.size):=Nat.le_trans bp.out f7.size;clear bp a1 f7 a3 Z bW bm bn be;by_cases v:(dP L a).1=0;case neg=>
    have t2:=lk v;have r:=af (o.out (dP L a).1 ap (by rw[K.out,<-HNK.out.1,aH.out bv.out (by rw[ab.out];exact v),ab.out]<;>rfl) v X.out.fr);generalize(dP L a).1=q at*;clear v;go_wp2;first|exact r.out|(go_ret2;exact r.out)
   have t2:=kG v;have bE:(dP L a).2=L++[a]:=by
    rcases kY L a with⟨h,_⟩|⟨_,h,_⟩;·exact absurd v h
    ·exact h
   have ci:Hid (Je w ap B h g S E (L++[a]) bB st2 (m+a.writes.length)):=by
    have b4:=ch.out;rw[bE]at b4;refine⟨b4,X.out,cf.out,cj.out,λx C=>?_,?_,?_⟩
    ·rcases List.mem_append.1 C with d|d;·exact y.out.iJ x d
     ·rw[List.mem_singleton.1 d];exact⟨_,by have:=I.out;have:=aa.out;omega,z.out⟩
    ·rw[re];exact uh a.writes _ m y.out.gd z.out.writes (oD z.out.ok)
    ·have:=z.out.nw;have:=I.out;have:=aa.out;omega
   have bu:Hid (ft (N-(k+1)) st2 (L++[a])=Q):=by
    rw[Hid,HNK.out.2,<-HNK.out.1,bt.out bv.out (by rw[ab.out];exact v),ab.out,bE]
   have bs:Hid ((L++[a]).length=k+1):=by rw[Hid,aT,aP.out];rfl
   generalize(dP L a).1=q at*;clear v bE;go_wp2;go_roundw;case rel=>exact⟨k+1,_,bB,st2,_,by have:=aw.out;omega,bs.out,by go_num,bu.out,ci.out⟩
   case measure=>simp[intOf];have:=aw.out;omega
  ·obtain rfl:k=N:=by have:=aM.out;omega
   have t0:decide ((k:Int)<(k:Int))=false:=ct (by omega);have aV:Hid (Q=(dK st,L)):=by
    have h:=ad.out;rw[Nat.sub_self]at h;rw[Hid,<-h];rfl
   clear ad;go_wp2_with fail;refine y.out.rd.close.mono ?_;rintro e w3⟨rfl,rfl⟩;by_cases u:dK st=0;case neg=>
    have aD:=lk u;have r:=af (o.out (dK st) wr (by rw[K.out,aV.out]<;>rfl) u y.out.rd.fr);generalize dK st=q at*;clear u;go_wp2;first|exact r.out|(go_ret2;exact r.out)
   have aD:=kG u;have r:=af (av.out h E L T wr (by rw[K.out,aV.out,u]) y.out.pC (λk O=>by have:=y.out.new k O;have:=a0.out;omega) y.out.rd.fr);generalize dK st=q at*;clear u;go_wp2;first|exact r.out|(go_ret2;exact r.out)
end Go.Proofs.YtphjagkehiklkaaGreatDoor
namespace Go.Proofs.YtphjagkehiklkaaGreatDoor
open Proofs.Tryz Go.ChangeShapes Go.WideShapes Go.ChangeAt Go.RowKit Go.Deep
theorem xW:prog.cellsOf 72=6:=by kernel_rfl
theorem JA:prog.cellsOf 55=1:=by kernel_rfl
theorem yz{H:Type}{enc:TypeId×Value->H}{w:World}{fuel:Nat}{v:Value}{x:DataW H×List MemPlace}
  (h:DataW.trod enc prog w 0 (λ_=>true) true fuel 55 [v]=some x):
  ∃(A:Option Addr)(n c:Nat)(xs:List CV),v= .slice A n c/\CL w (Old w) A n xs/\n<=9223372036854775807/\n<=c:=by
 rcases open_slice underlying55 h with⟨a,_⟩|⟨g,j,i,m,n,D,f,a,_⟩;·simp only[List.cons.injEq,and_true]at a;subst a;obtain⟨cs,b,_,d,e⟩:=wD h;exact⟨_,_,_,cs,rfl,b,by omega,d⟩
 ·simp only[List.cons.injEq,and_true]at a;subst a;obtain⟨cs,b,_,d,e⟩:=wD h;exact⟨_,_,_,cs,rfl,b,by omega,d⟩
theorem Iy{H:Type}{enc:TypeId×Value->H}{w:World}{fuel:Nat}{l:List Value}{x:DataW H×List MemPlace}
  (h:DataW.trod enc prog w 0 (λ_=>true) true fuel 72 l=some x):rF w l:=by
 obtain⟨s,t,_,rfl,b,c,a⟩:=DataW.trod_struct underlying72 h;rw[xW]at b;match l,b with
 |[v,y,z,x3,A,B],_=>
  have g0:=a 0 _ rfl;have g1:=a 1 _ rfl;have g2:=a 2 _ rfl;have g3:=a 3 _ rfl;have g4:=a 4 _ rfl;have g5:=a 5 _ rfl;match s,c with
  |[C,D,E,y3,y4,F],_=>
   simp[sI,AQ,JA]at g0 g1 g2 g3 g4 g5;obtain⟨a0,f,rfl,b0⟩:=DataW.trod_int underlying3 g0;obtain⟨n,g,rfl,b1⟩:=DataW.trod_int underlying3 g1;obtain⟨a2,i,rfl,b2⟩:=DataW.trod_int underlying3 g2;obtain⟨a3,j,rfl,b3⟩:=DataW.trod_int underlying5 g3;obtain⟨k,n4,o,d,rfl,p,m4,o4⟩:=yz g4;obtain⟨m,n5,c5,e,rfl,q,m5,r⟩:=yz g5;simp only[List.cons.injEq,and_true]at f g i j;subst f g i j;have u:=bounds_u8 b3;exact⟨a0,n,a2,a3,k,n4,o,d,_,m,n5,c5,e,_,by omega,by omega,rfl,⟨p,m4,o4⟩,⟨q,m5,r⟩⟩
theorem ER{H:Type}{enc:TypeId×Value->H}{w:World}{fuel:Nat}{a:Option Addr}{len cap:Nat}{x:DataW H×List MemPlace}
  (h:DataW.trod enc prog w 0 (λ_=>true) true fuel 22 [.slice a len cap]=some x):tI w a len:=by
 rcases open_slice underlying22 h with⟨b,_⟩|⟨l,z,t,m,n,D,s,b,_,y,hm,d,_,f⟩;·simp only[List.cons.injEq,Value.slice.injEq,and_true]at b;obtain⟨rfl,rfl,rfl⟩:=b;intro k v;omega
 ·simp only[List.cons.injEq,Value.slice.injEq,and_true]at b;obtain⟨rfl,rfl,rfl⟩:=b;simp only[if_true]at d;rw[xW]at f;intro i q;obtain⟨cs',o,e⟩:=f i (by omega);have g:=Iy e;obtain⟨_,p,c⟩:=World.cells?_some o;refine⟨l,cs',rfl,g,λj u hu=>?_⟩;have r:j<6:=by
   have:=(List.getElem?_eq_some_iff.1 hu).1;rw[g.len]at this;exact this
  rw[c j r,<-hu]
theorem EO{H:Type}{enc:TypeId×Value->H}{w:World}{fuel:Nat}{a:Option Addr}{len cap:Nat}{x:DataW H×List MemPlace}
  (h:DataW.trod enc prog w 0 (λ_=>true) true fuel 22 [.slice a len cap]=some x):
  ∃e:Unit,tI w a len/\True/\len<=cap/\cap<=9223372036854775807:=by
 refine⟨(),ER h,trivial,?_⟩;rcases open_slice underlying22 h with⟨b,_⟩|⟨f,i,g,m,n,D,d,b,_,c,hm,_⟩;·simp only[List.cons.injEq,Value.slice.injEq,and_true]at b;obtain⟨rfl,rfl,rfl⟩:=b;exact⟨Nat.le_refl _,Nat.zero_le _⟩
 ·simp only[List.cons.injEq,Value.slice.injEq,and_true]at b;obtain⟨rfl,rfl,rfl⟩:=b;exact⟨c,by unfold maxLen at hm;exact hm⟩
end Go.Proofs.YtphjagkehiklkaaGreatDoor
