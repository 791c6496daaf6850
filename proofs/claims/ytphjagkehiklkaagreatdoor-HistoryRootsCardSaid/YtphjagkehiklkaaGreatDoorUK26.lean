/- Texts. -/
import Derived.Test.YtphjagkehiklkaaGreatDoorUK25
set_option linter.unusedVariables false
set_option linter.unusedSimpArgs false
set_option maxRecDepth 100000
set_option maxHeartbeats 8000000
namespace Go.Proofs.YtphjagkehiklkaaGreatDoor.Lt
open Go.RowKit
theorem eF.ts{w w':World}{v:Value}{n:Nat}{ds:List (List UInt8)}(h:bF 38 32 w (.slice none 0 0) w' v n (ds.flatMap aq))(i:ds.length=n)(he:∀d∈ds,d.length=32):
  ∃A c,v= .slice A n c∧eF w' (lY v) A n ds∧n≤c∧c≤9223372036854775807∧Fr af w w':=by
 obtain⟨A,c,rfl,f⟩:=tC h.own;refine⟨A,c,rfl,⟨Rd.gj h.own,i,he⟩,f,?_,h.al⟩;rcases h.own.2 with⟨b,_⟩|⟨g,cap,cur,b,_,_,_,a,_⟩;·injection b with _ _ e;omega
 ·injection b with _ _ e;unfold maxLen at a;omega
theorem ji{P:Program}{op:Oper}{a:Act}{w:World}{K:Act→World→Prop}{Q:Exit→Act→World→Prop}(i:BinOp)(t:TypeId)(x y:Operand)(ty:TypeId)(d:op.op= .binOp i t x y ty)
  (xs b:Array Value)(f:a.eval x= .agg xs)(g:a.eval y= .agg b)(c:P.eqGuardType P.depth t=false)
  (v:Value)(e:(binOp i t (.agg xs) (.agg b)).run P w= .ok v w)(h:K (a.put op.dst v) w):op.wp P a w K Q:=by
 have he:=run_eqGuard_agg (P:=P) (w:=w) i t x y xs b c;unfold Oper.wp execOp;simp only[d,f,g,Sem.run_bind,he,e,Result.andThen_ok];exact h
theorem jr(n:Nat)(ds:List (List UInt8))(b:ds.length=n)(e:n≤1048576)(he:∀d∈ds,d.length=32):(eX ds).length=32:=by
 unfold eX;split;·exact nj
 ·rename_i h;have c:1≤n:=by
   rcases Nat.eq_zero_or_pos n with a|a;·exact absurd (List.eq_nil_of_length_eq_zero (b.trans a)) h
   ·exact a
  exact eY n ds b c (by omega) he
end Go.Proofs.YtphjagkehiklkaaGreatDoor.Lt
namespace Go.Proofs.YtphjagkehiklkaaGreatDoor.Lt
open Go.RowKit Go.ChangeShapes Go.WideShapes Go.Deep
theorem xM:Tryz.prog.cellsOf 141=8:=by kernel_rfl
theorem uO:Tryz.prog.cellsOf 242=64:=by kernel_rfl
theorem sH:Tryz.prog.cellsOf 140=1:=by kernel_rfl
theorem oW:Tryz.prog.globalNamed "replevin/sha256.initial"=some 1:=by kernel_rfl
theorem rM:(Tryz.prog.globals[1]?).map (·.type)=some 141:=by kernel_rfl
theorem mm:Tryz.prog.globalNamed "replevin/sha256.constants"=some 2:=by kernel_rfl
theorem oL:(Tryz.prog.globals[2]?).map (·.type)=some 242:=by kernel_rfl
def wT:List Int:=[1779033703,3144134277,1013904242,2773480762,1359893119,2600822924,528734635,1541459225]
def IM:List Int:=rz.map (fun n:Nat=>(n:Int))
end Go.Proofs.YtphjagkehiklkaaGreatDoor.Lt
namespace Go.Proofs.YtphjagkehiklkaaGreatDoor.Lt
open Go.RowKit
theorem j6{P:Program}{l:Oper}{a:Act}{w:World}{K:Act→World→Prop}{Q:Exit→Act→World→Prop}(ty:TypeId)(x y:Operand)(f:l.op= .store ty x y)
  (g:Nat)(cells:Array Value)(i:a.eval x= .pointer (some ⟨g,0,none⟩))(j:a.eval y= .agg cells)
  (t:TypeId)(b:Array Value)(c:ak w g t b)(e:(P.info? ty).map (·.size)=some cells.size)
  (hold:b.size=cells.size)(d:cells.all (·.oneCell')=true)
  (h:∀w',ak w' g t cells→Fr (fun k=>k=g) w w'→K (a.put l.dst undef) w'):l.wp P a w K Q:=
 wp_store_row ty x y f g cells i j t b c e hold d (h _ (gd c) ((Fr.refl (fun k=>k=g) w).setRow (fun _=>rfl) cells))
structure qW(w a:World)(ty:TypeId)(b:Array Value)(X Y:Array Value)(g5 g10 g11:Nat):Prop where
 fr:Fr af w a
 b5:ak a g5 ty b
 gB:ak a g10 ty X
 lK:ak a g11 ty Y
 lo:w.heap.size≤g5
 l1:g5<g10
 l2:g10<g11
theorem qW.of{w w1 w2 e:World}{ty:TypeId}{d:Array Value}(c:dd w w1 ty d)(a:dd w1 w2 ty ay)(b:dd w2 e ty ay):qW w e ty d ay ay w.heap.size w1.heap.size w2.heap.size:=
 ⟨c.fr.trans (a.fr.trans b.fr),(c.az.fr a.fr (fun x=>x)).fr b.fr (fun x=>x),a.az.fr b.fr (fun x=>x),b.az,Nat.le_refl _,by rw[c.size];omega,by rw[a.size];omega⟩
end Go.Proofs.YtphjagkehiklkaaGreatDoor.Lt
namespace Go.Proofs.YtphjagkehiklkaaGreatDoor
open Go.RowKit Go.Shelf
def q8(w:World)(cs:List Value):Prop:=∃(t c n l:Int)(a:Option Addr)(nr d:Nat)(xs:List CV)(f:Nat→Prop)(b:Option Addr)(nw e:Nat)(h:List CV)(g:Nat→Prop),0≤l∧l<256∧
 cs=[Value.int .i64 t, .int .i64 c, .int .i64 n, .int .u8 l, .slice a nr d, .slice b nw e]∧(CL w f a nr xs∧nr≤9223372036854775807∧nr≤d)∧(CL w g b nw h∧nw≤9223372036854775807∧nw≤e)
theorem q8.al{w w':World}{cs:List Value}(h:q8 w cs)(a:Fr af w w'):q8 w' cs:=by
 obtain⟨t,c,n,l,b,nr,g,xs,e,d,nw,i,v,f,j,k,m,⟨o,p,q⟩,r,s,u⟩:=h;exact⟨t,c,n,l,b,nr,g,xs,e,d,nw,i,v,f,j,k,m,⟨o.al a,p,q⟩,r.al a,s,u⟩
end Go.Proofs.YtphjagkehiklkaaGreatDoor
namespace Go.Proofs.YtphjagkehiklkaaGreatDoor
open Go.RowKit Go.Shelf
structure Eu(a:ActV):Prop where
 ez:a.key.ez.size≤1048576
 reads:∀c∈a.reads,fL c
 writes:∀c∈a.writes,fL c
 nr:a.reads.length≤60000
 nw:a.writes.length≤60000
def jA(a:ActV):Value:=if eW a then .tuple #[.string ⟨(bY a).toArray⟩, .int .i64 0]else .tuple #[.string ByteArray.empty, .int .i64 3]
def gS(xs:List CV)(j:Nat):List UInt8:=enc xs.length++(xs.take j).flatMap lz
theorem zG(xs:List CV):gS xs 0=enc xs.length:=by simp[gS]
theorem Cx(xs:List CV):gS xs xs.length=dp xs:=by simp[gS,dp]
theorem zF{xs:List CV}{j:Nat}{c:CV}(h:xs[j]? =some c):gS xs (j+1)=gS xs j++(aY (bT c.nm)++(gZ c.aV++aY (aC c.value))):=by
 rw[gS,gS,List.take_add_one,h,Option.toList_some,List.flatMap_append,List.flatMap_cons,List.flatMap_nil,List.append_nil,lz,List.append_assoc]
theorem EI(xs:List CV)(j:Nat):(gS xs j).length≤(dp xs).length:=by
 have e:dp xs=gS xs j++(xs.drop j).flatMap lz:=by
  rw[gS,dp,List.append_assoc,←List.flatMap_append,List.take_append_drop]
 rw[e,List.length_append];omega
theorem wD:∀(xs:List CV),(∀c∈xs,fL c)→(∀c∈xs,iA c=true)→(xs.flatMap lz).length≤xs.length*4000000
 |[],_,_=>by simp
 |c::xs,h,e=>by
  have f:=wD xs (fun d a=>h d (by simp[a])) (fun d a=>e d (by simp[a]));have b:=h c (by simp);have a2:=e c (by simp);simp only[iA,Bool.and_eq_true,decide_eq_true_eq]at a2;have a3:=b.owner;have a4:=b.text;have b1:=ej c.nm;have b2:=aO (bT c.nm).length;have b3:=aO (aC c.value).length;have b4:=aG c.value;simp only[List.flatMap_cons,lz,aY,gZ,List.length_append,List.length_cons,List.length_nil]at f⊢;omega
def mO(a:ActV)(k:Nat):List UInt8:=if k=0 then oG a.key else if k=1 then oG a.key++dp a.reads else bY a
theorem Cm(a:ActV):mO a 2=bY a:=rfl
theorem Ew(a:ActV)(k:Nat):(mO a k).length≤(bY a).length:=by
 unfold mO;split;·simp only[bY,List.length_append];omega
 ·split;·simp only[bY,List.length_append];omega
  ·exact Nat.le_refl _
theorem Ex{a:ActV}(h:Eu a)(b:eW a=true):(bY a).length≤1000000000000:=by
 simp only[eW,Bool.and_eq_true]at b;have k:=wD a.reads h.reads (jB b.1.2);have l:=wD a.writes h.writes (jB b.2);have m:=h.nr;have n:=h.nw;have o:=h.ez;have c:=aO a.key.tick.toNat;have d:=aO a.key.cls.toNat;have e:=aO a.key.num.toNat;have f:=aO (aC a.key.ez).length;have g:=aG a.key.ez;have i:=aO a.reads.length;have j:=aO a.writes.length;simp only[bY,oG,dp,aY,List.length_append];omega
theorem ye(A B:Option Addr)(n m c d:Nat)(w:World):(Instr.index 116 (.agg #[.slice A n c, .slice B m d]) (.int .i64 ((0:Nat):Int))).run Tryz.prog w= .ok (.slice A n c) w:=by kernel_rfl
theorem yf(A B:Option Addr)(n m c d:Nat)(w:World):(Instr.index 116 (.agg #[.slice A n c, .slice B m d]) (.int .i64 ((1:Nat):Int))).run Tryz.prog w= .ok (.slice B m d) w:=by kernel_rfl
theorem nT(a:ActV)(cs:List Value)(w:World)(aJ:dy w)(a8:ck w cs a)(p:Eu a):
    Calls Tryz.prog 18 #[.agg cs.toArray] w (aH w (jA a)):=by
  have bl:=Lib.hid aJ;have C:=Lib.hid p;have ar:=Lib.hid a8;obtain⟨bK,bM,rfl,ac,O⟩:=a8;obtain⟨q,bv,s,rfl,rfl,_,U⟩:=ac.cl;obtain⟨r,bw,t,rfl,rfl,_,V⟩:=O.cl;have aB:=Lib.hid U;have aD:=Lib.hid V;have G:Hid (∀w',Fr af w w'→Calls Tryz.prog 60 #[.agg (a.key.cells++[Value.slice q a.reads.length s, .slice r a.writes.length t]).toArray] w' (aH w' (.bool (eW a)))):=fun w' f=>
    mP a _ w' (aJ.al f) (ar.out.al f) (by have:=p.ez;omega) (fun c v=>(p.reads c v).fit) (fun c v=>(p.writes c v).fit) (by have:=p.nr;omega) (by have:=p.nw;omega);have d:Hid (eW a=true→(bY a).length≤1000000000000):=Ex p;have L:Hid (a.reads.length≤60000∧a.writes.length≤60000):=⟨p.nr,p.nw⟩;clear ac O U V aJ p;go_enter Tryz.func18,Tryz.ntmps18;go_wp2_with(refine au rfl 46 (.tmp 0) rfl _ rfl ?_);intro w1 n1;have ap:=Lib.hid n1.fr;have ae:=Lib.hid n1.az;clear n1;generalize w.heap.size=g at*;have an:Hid (∀w',ak w' g 46 (a.key.cells++[Value.slice q a.reads.length s, .slice r a.writes.length t]).toArray→∀j x,a.key.cells[j]? =some x→w'.cell? ((⟨g,0,none⟩:Addr).add j)=some x):=fun w' bt j x D=>by
    rw[Addr.add_mid,Nat.zero_add,bt.cell j,List.getElem?_toArray,List.getElem?_append_left (List.getElem?_eq_some_iff.1 D).1];exact D
  have F:Hid (∀j x,(a.key.cells++[Value.slice q a.reads.length s, .slice r a.writes.length t])[j]? =some x→w1.cell? ((⟨g,0,none⟩:Addr).add j)=some x):=fun j x D=>by
    rw[Addr.add_mid,Nat.zero_add,ae.out.cell j,List.getElem?_toArray];exact D
  go_wp2_with(refine aw rfl 46 (.tmp 1) rfl ⟨g,0,none⟩ rfl (a.key.cells++[Value.slice q a.reads.length s, .slice r a.writes.length t]) _ ?zC Tryz.underlying46 rfl bm (aR.go ?zH));case zC=>exact F.out
  unfold aR;go_wp2_with fail;refine(G.out _ ap.out).mono ?_;rintro e w2⟨rfl,f2⟩;have aq:=Lib.hid (ap.out.trans f2);have aO:=Lib.hid (ae.out.fr f2 (fun x=>x));clear f2 G ap ae F;cases b:eW a
  · have ay:Hid (jA a= .tuple #[.string ByteArray.empty, .int .i64 3]):=by rw[Hid,jA,b];rfl
    clear b d;go_wp2;go_ret2;rw[ay.out];exact⟨rfl,aq.out⟩
  have ay:Hid (jA a= .tuple #[.string ⟨(bY a).toArray⟩, .int .i64 0]):=by rw[Hid,jA,b];rfl
  have bk:=Lib.hid b;have K:Hid ((bY a).length≤1000000000000):=d.out b;have B:Hid (de a.key=true∧fh a.reads=true∧fh a.writes=true):=by
    have h:=b;simp only[eW,Bool.and_eq_true]at h;exact⟨h.1.1,h.1.2,h.2⟩
  clear b d;go_wp2_with fail;refine(Wi.start aq.out).mono ?_;rintro e bx⟨rfl,W,f3⟩;have aU:=Lib.hid W;have ag:=Lib.hid (aO.out.fr f3 (fun x=>x));generalize w2.heap.size=o at*;clear W f3 aq aO;go_wp2_with(refine aw rfl 43 (.tmp 15) rfl ⟨g,0,none⟩ rfl a.key.cells _ ?zE Tryz.underlying43 rfl eM (aR.go ?zI));case zE=>exact an.out _ ag.out
  unfold aR;go_wp2_with fail;refine(uf w bx o [] a.key aU.out (by simp) B.out.1 (by have:=C.out.ez;omega)).mono ?_;rintro e aN⟨rfl,X,ba⟩;have aW:Hid (Wi w aN o (mO a 0)):=X;have aj:=Lib.hid (ba _ _ _ ag.out (by decide) (by decide));clear X ba aU ag;have bp:aN.cell? {block:=g,off:=4}=some (.slice q a.reads.length s):=aj.out.cell 4;have c5:aN.cell? {block:=g,off:=5}=some (.slice r a.writes.length t):=aj.out.cell 5;go_wp2;clear bp c5;go_loopw[24](fun i wr=>∃k:Nat,k≤2∧i= .int .i64 (k:Int)∧Wi w wr o (mO a k))(fun i _=>2-(intOf i).toNat);case atStart=>exact⟨0,by omega,rfl,aW.out⟩
  case round=>
    obtain⟨k,bI,rfl,hw⟩:=hrel;have ab:=Lib.hid hw;clear hw aW aj;by_cases bu:k<2
    · have t0:decide ((k:Int)<2)=true:=decide_eq_true (by omega);obtain⟨A,n,c,xs,y,R,aL,aM,T,u⟩:∃A n c xs,Hid (∀w,(Instr.index 116 (.agg #[.slice q a.reads.length s, .slice r a.writes.length t]) (.int .i64 (k:Int))).run Tryz.prog w= .ok (.slice A n c) w)∧Hid (CL w (fun _=>True) A n xs)∧Hid (fh xs=true)∧Hid (∀c∈xs,fL c)∧Hid (n≤60000)∧Hid (mO a (k+1)=mO a k++dp xs):=by
        by_cases br:k=0;· subst br;exact⟨q,_,s,a.reads,ye q r _ _ s t,aB.out,B.out.2.1,C.out.reads,L.out.1,rfl⟩
        · obtain rfl:k=1:=by omega
          exact⟨r,_,t,a.writes,yf q r _ _ s t,aD.out,B.out.2.2,C.out.writes,L.out.2,by simp[Hid,mO,bY]⟩
      have H:Hid (∀j,(mO a k++gS xs j).length≤1000000000000):=fun j=>by
        have ac:=EI xs j;have O:=Ew a (k+1);have bE:=K.out;rw[u.out,List.length_append]at O;rw[List.length_append];omega
      have av:Hid ((mO a k).length≤1000000000000):=by have:=H.out 0;simp only[List.length_append]at this;simp only[Hid];omega
      have Q:Hid (xs.length=n):=R.out.len;have aI:=y.out;generalize P:mO a k=acc at*;have bj:=Lib.hid P;clear P y;go_wp2_with fail;refine(ab.out.number n (by have:=av.out;omega) (by have:=T.out;omega)).mono ?_;rintro e bz⟨rfl,a4,_⟩;have aZ:Hid (Wi w bz o (acc++gS xs 0)):=by rw[Hid,zG,Q.out];exact a4
      clear a4 aI ab;go_wp2;go_loopw[33](fun i wr=>∃j:Nat,j≤n∧i= .int .i64 (j:Int)∧Wi w wr o (acc++gS xs j))(fun i _=>n-(intOf i).toNat);case atStart=>exact⟨0,by omega,rfl,aZ.out⟩
      case round=>
        obtain⟨j,bH,rfl,Y⟩:=hrel;have N:=Lib.hid Y;clear Y aZ;by_cases aK:j<n
        · have a9:(j:Int)<(n:Int):=by omega
          have bs:(0:Int)≤(j:Int):=by omega
          have t1:decide ((j:Int)<(n:Int))=true:=decide_eq_true a9;obtain⟨bC,ch,rfl,v,m⟩:=(R.out.al N.out.fr).at_ aK;have I:=Lib.hid m;have bh:=Lib.hid ch.one;have Z:Hid (fL ch):=aM.out ch (List.mem_of_getElem? v);have bn:Hid (iA ch=true):=jB aL.out ch (List.mem_of_getElem? v);have l:Hid (acc++gS xs (j+1)=((acc++gS xs j)++aY (bT ch.nm))++gZ ch.aV++aY (aC ch.value)):=by
            rw[Hid,zF v];simp only[List.append_assoc]
          have ax:=Lib.hid (H.out (j+1));clear m v;go_wp2_with(refine aw rfl 119 (.tmp 35) rfl _ rfl ch.cells _ ?zD Tryz.underlying119 rfl iD (aR.go ?hold));case zD=>exact I.out
          unfold aR;go_wp2_with(refine ai rfl 119 rfl cE BU #[.int .i64 0, .string ByteArray.empty, .int .i64 0, .int .i64 0, .string ByteArray.empty, .string ByteArray.empty, .bool false] rfl ?_);intro bB be;have aE:=Lib.hid be;clear be;generalize S:wr.heap.size=g8 at*;have J:=Lib.hid S;clear S;have aQ:Hid (ak bB g8 119 #[.int .i64 0, .string ByteArray.empty, .int .i64 0, .int .i64 0, .string ByteArray.empty, .string ByteArray.empty, .bool false]):=by have h:=aE.out.az;rw[J.out]at h;exact h
          go_wp2_with(refine ah rfl 119 (.tmp 8) _ rfl g8 ch.cells.toArray rfl rfl _ _ aQ.out iD rfl bh.out ?_);intro ad bb a3;have E:Hid (ak ad g8 119 ch.cells.toArray):=bb;have aT:Hid (Fr af wr ad):=aE.out.fr.ao a3 (fun i bG e=>by have bD:i=g8:=e;have:=J.out;omega);have aF:=Lib.hid (N.out.later aT.out);clear bb a3 aE aQ I N aT;have aS:Hid (∀j x,ch.nm.cells[j]? =some x→ad.cell? ((⟨g8,0,none⟩:Addr).add j)=some x):=fun j x D=>by
            rw[Addr.add_mid,Nat.zero_add,E.out.cell j,List.getElem?_toArray,CV.cells,List.getElem?_append_left (List.getElem?_eq_some_iff.1 D).1];exact D
          go_wp2_with(refine aw rfl 106 (.tmp 38) rfl ⟨g8,0,none⟩ rfl ch.nm.cells _ ?zA Tryz.underlying106 rfl aX (aR.go ?zB));case zA=>exact aS.out
          unfold aR;have M:Hid (cU ch.nm=true∧ch.value.size≤65536):=by
            have h:=bn.out;simp only[iA,Bool.and_eq_true,decide_eq_true_eq]at h;exact h.1
          have aA:Hid ((bT ch.nm).length≤16777216):=by
            have ac:=Z.out.owner;have O:=Z.out.text;have bF:=ej ch.nm;simp only[Hid];omega
          go_wp2_with fail;refine(uI ch.nm ad (bl.out.al aF.out.fr) (by have:=Z.out.owner;omega) (by have:=Z.out.text;omega) M.out.1).mono ?_;rintro e bL⟨rfl,f6⟩;have a0:=Lib.hid (aF.out.later f6);have aP:=Lib.hid (E.out.fr f6 (fun x=>x));clear f6 aF E aS;have z:Hid ((acc++gS xs j).length≤1099511627776∧(acc++gS xs j++aY (bT ch.nm)).length≤1099511627776∧(acc++gS xs j++aY (bT ch.nm)++gZ ch.aV).length≤1099511627776):=by
            have h:=ax.out;rw[l.out]at h;simp only[List.length_append]at h;simp only[Hid,List.length_append];omega
          go_wp2_with fail
          refine(a0.out.text ⟨(bT ch.nm).toArray⟩ z.out.1 (by have h:=aA.out;have e:(⟨(bT ch.nm).toArray⟩:ByteArray).size=(bT ch.nm).length:=by rw[←aG];rfl
                                                              omega)).mono ?_;rintro e bf⟨rfl,a5,bc⟩;have a1:Hid (Wi w bf o (acc++gS xs j++aY (bT ch.nm))):=a5;have am:=Lib.hid (bc _ _ _ aP.out (by decide) (by decide));clear a5 bc a0 aP;have bq:bf.cell? {block:=g8,off:=6}=some (.bool ch.aV):=am.out.cell 6;go_wp2_with fail;refine(a1.out.flag ch.aV z.out.2.1).mono ?_;rintro e bA⟨rfl,a6,bd⟩;have a2:=Lib.hid a6;have E:=Lib.hid (bd _ _ _ am.out (by decide) (by decide));clear a6 bd a1 am bq;have c5:bA.cell? {block:=g8,off:=5}=some (.string ch.value):=E.out.cell 5;go_wp2_with fail;refine(a2.out.text ch.value z.out.2.2 (by have:=M.out.2;omega)).mono ?_;rintro e bg⟨rfl,a7,_⟩;have bo:Hid (Wi w bg o (acc++gS xs (j+1))):=by rw[Hid,l.out];exact a7
          clear a7 a2 E c5;have bJ:n≤60000:=T.out;go_wp2;go_roundw;case rel=>exact⟨j+1,by omega,by go_num,bo.out⟩
          case measure=>simp[intOf];omega
        · obtain rfl:j=n:=by omega
          have a9:¬(j:Int)<(j:Int):=by omega
          have aa:Hid (Wi w wr o (mO a (k+1))):=by
            have h:=N.out;rw[←Q.out,Cx]at h;rw[Hid,u.out];exact h
          clear N;go_wp2;go_roundw;case rel=>exact⟨k+1,by omega,by go_num,aa.out⟩
          case measure=>simp[intOf];omega
    · obtain rfl:k=2:=by omega
      have aa:Hid (Wi w wr o (bY a)):=by rw[←Cm];exact ab.out
      clear ab;go_wp2_with fail;refine(xq w wr o (bY a) aa.out (by have:=K.out;omega)).mono ?_;rintro e bg⟨rfl,f9⟩;have bi:=Lib.hid (aa.out.fr.trans f9);clear f9;go_wp2;go_ret2;rw[ay.out];exact⟨rfl,bi.out⟩
end Go.Proofs.YtphjagkehiklkaaGreatDoor
namespace Go.Proofs.YtphjagkehiklkaaGreatDoor.Lt
open Go.RowKit
theorem iO{P:Program}{op:Oper}{a:Act}{w:World}{K:Act→World→Prop}{Q:Exit→Act→World→Prop}(t:TypeId)(c:op.op= .alloc t)(z:Value)(d:∀w,(zeroValue t).run P w= .ok z w)(cells:Array Value)(b:z.cells=cells)
  (h:∀w',dd w w' t cells→K (a.put op.dst (.pointer (some ⟨w.heap.size,0,none⟩))) w'):op.wp P a w K Q:=by
 subst b;unfold Oper.wp execOp;simp only[c,Instr.alloc,Sem.run_bind,d,newVar,newRow,run_newObj_alloc,Sem.run_pure,Result.andThen_ok];exact h _ (dd.alloc w t z.cells)
theorem qW.jQ{w d f:World}{ty:TypeId}{c X Y:Array Value}{g5 g10 g11 g:Nat}(h:qW w d ty c X Y g5 g10 g11)(a:Fr (fun k=>k=g) d f)(j:g11<g):qW w f ty c X Y g5 g10 g11:=by
 have:=h.l1;have:=h.l2;have:=h.lo;exact⟨h.fr.ao a (fun i l e=>by have b:i=g:=e;omega),h.b5.fr a (fun e=>by have b:g5=g:=e;omega),h.gB.fr a (fun e=>by have b:g10=g:=e;omega),h.lK.fr a (fun e=>by have b:g11=g:=e;omega),h.lo,h.l1,h.l2⟩
theorem qW.later{w c d:World}{ty:TypeId}{b X Y:Array Value}{g5 g10 g11:Nat}(h:qW w c ty b X Y g5 g10 g11)(a:Fr af c d):qW w d ty b X Y g5 g10 g11:=
 ⟨h.fr.trans a,h.b5.fr a (fun x=>x),h.gB.fr a (fun x=>x),h.lK.fr a (fun x=>x),h.lo,h.l1,h.l2⟩
end Go.Proofs.YtphjagkehiklkaaGreatDoor.Lt
namespace Go.Proofs.YtphjagkehiklkaaGreatDoor.Lt
open Go.RowKit
def ft:List UInt8:=List.replicate 32 0
theorem jt:ft.length=32:=rfl
theorem qg:(aq ft).toArray=ay:=by kernel_rfl
theorem iM{P:Program}{ops:Array Oper}{rest:List Oper}{e:Oper}{a:Act}{w:World}{Q:Exit→Act→World→Prop}(c:e.guard=none)(t:TypeId)(d:e.op= .build t #[])(cells:Array Value)
  (b:P.built t []=some cells)(h:wpList P ops Q rest (a.put e.dst (.agg cells)) w):wpList P ops Q (e::rest) a w:=
 wpList_buildTo c t #[] d cells (by simpa using b) h
theorem eo(n lo a:Int)(w:World):Calls Tryz.prog 89 #[.int .i64 n, .int .i64 lo, .int .i64 a] w (bj w (.bool (decide (lo≤n∧n≤a)))):=by
 by_cases b:lo≤n
 ·have t1:decide (lo≤n)=true:=decide_eq_true b;by_cases c:n≤a;·have t2:decide (n≤a)=true:=decide_eq_true c;rw[decide_eq_true ⟨b,c⟩];go_enter Tryz.func89,Tryz.ntmps89;go_wp2;go_ret;exact⟨rfl,rfl⟩
  ·have t2:decide (n≤a)=false:=decide_eq_false c;rw[decide_eq_false (fun h=>c h.2)];go_enter Tryz.func89,Tryz.ntmps89;go_wp2;go_ret;exact⟨rfl,rfl⟩
 ·have t1:decide (lo≤n)=false:=decide_eq_false b;rw[decide_eq_false (fun h=>b h.1)];go_enter Tryz.func89,Tryz.ntmps89;go_wp2;go_ret;exact⟨rfl,rfl⟩
end Go.Proofs.YtphjagkehiklkaaGreatDoor.Lt
namespace Go.Proofs.YtphjagkehiklkaaGreatDoor.Lt
open Go.RowKit Go.ChangeShapes Go.WideShapes Go.Deep
structure rV where
 leaf:List UInt8
 index:Int
 n:Int
 A:Option Addr
 len:Nat
 cap:Nat
 path:List (List UInt8)
def rV.val(c:rV):Value:= .agg (aq c.leaf++[Value.int .i64 c.index,Value.int .i64 c.n,Value.slice c.A c.len c.cap]).toArray
structure rV.kX(c:rV)(w:World):Prop where
 leaf:c.leaf.length=32
 index:-9223372036854775808≤c.index∧c.index≤9223372036854775807
 n:-9223372036854775808≤c.n∧c.n≤9223372036854775807
 path:eF w (Old w) c.A c.len c.path
 le:c.len≤c.cap
 cap:c.cap≤9223372036854775807
end Go.Proofs.YtphjagkehiklkaaGreatDoor.Lt
namespace Go.Proofs.YtphjagkehiklkaaGreatDoor.Lt
open Go.RowKit
theorem rO{P:Program}{op:Oper}{a:Act}{w:World}{K:Act→World→Prop}{Q:Exit→Act→World→Prop}(t:TypeId)(parts:Array (Nat×Operand))(c:op.op= .build t parts)(cells:Array Value)
  (b:P.built t (parts.map fun(i,x)=>(i,a.eval x)).toList=some cells)(h:K (a.put op.dst (.agg cells)) w):op.wp P a w K Q:=
 wp_build t parts c (by rw[b];rfl) (by rw[b];exact h)
end Go.Proofs.YtphjagkehiklkaaGreatDoor.Lt
namespace Go.Proofs.YtphjagkehiklkaaGreatDoor.Lt
open Go.RowKit
def iR(n:Nat)(ds:List (List UInt8))(v:Value)(w:World):Prop:=∃A c,v= .slice A n c∧n≤c∧c≤9223372036854775807∧∃S,eF w S A n ds
theorem iR.of{w w':World}{v:Value}{n:Nat}{ds:List (List UInt8)}(h:bF 38 32 w (.slice none 0 0) w' v n (ds.flatMap aq))(f:ds.length=n)(he:∀d∈ds,d.length=32):iR n ds v w':=by
 obtain⟨A,c,rfl,e,a,b,_⟩:=eF.ts h f he;exact⟨A,c,rfl,a,b,_,e⟩
theorem iR.ag{w:World}{n:Nat}{ds:List (List UInt8)}:∀v w' a,Fr af w w'→Fr af w' a→iR n ds v w'→iR n ds v a:=fun _ _ _ _ f⟨A,c,h,b,d,S,e⟩=>⟨A,c,h,b,d,S,e.al f⟩
end Go.Proofs.YtphjagkehiklkaaGreatDoor.Lt
namespace Go.Proofs.YtphjagkehiklkaaGreatDoor
open Go.RowKit Go.Shelf
theorem fX.sz{a:ActV}(h:fX a):Eu a:=⟨by have:=h.ez;omega,fun c b=>(h.reads c b).cv,fun c b=>(h.writes c b).cv,by have:=h.nr;omega,by have:=h.nw;omega⟩
end Go.Proofs.YtphjagkehiklkaaGreatDoor
