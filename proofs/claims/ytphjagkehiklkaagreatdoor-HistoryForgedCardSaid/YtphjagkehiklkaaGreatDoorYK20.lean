/- Texts. -/
import Derived.Test.YtphjagkehiklkaaGreatDoorYK19
set_option linter.unusedVariables false
set_option linter.unusedSimpArgs false
set_option maxRecDepth 100000
set_option maxHeartbeats 8000000
namespace Go.Proofs.YtphjagkehiklkaaGreatDoor
open Go.RowKit Go.Shelf
section
variable{w w1 w2:World}{h b s g:Nat}{va vk:Value}{K:List Nat}{A:Option Addr}{c:Nat}{mb:Option Nat}{E:List Ent}{La Lk Ll Lg:List ActV}
theorem oH{w:World}{k:Nat}{t:TypeId}{cs:Array Value}(a:ao w k t cs)(b:t≠177)(c:t≠174)(d:t≠119):fK w (fun i=>i=k):=fun i e=>by
 obtain rfl:i=k:=e;exact⟨fun x=>b (a.ty.one x),fun x=>c (a.ty.one x),fun x=>d (a.ty.one x)⟩
theorem uM{w:World}{base n:Nat}{e:TypeId}{size:Nat}{v:Value}{xs:List Value}(f:w.ownsRow base e size v n xs)(a:e≠177)(b:e≠174)(c:e≠119):fK w (fun i=>v.ownBlock=some i):=fun i d=>by
 have t:=ja f d;exact⟨fun x=>a (t.one x),fun x=>b (t.one x),fun x=>c (t.one x)⟩
theorem dW.Jd(d:dW w h b s g va vk K A c mb E La Lk Ll Lg)(f:Fr (Lt.TB g A (Lg.length+1) c mb) w w1){l:Option Addr}{m:Nat}{j:Option Nat}{a:List ActV}(n:Lt.eL w1 g l (a.length+1) m j (dq E a) (Lt.bC (a.length+1))):
  dW w1 h b s g va vk K l m j E La Lk Ll a:=by
 have ap:=d.apart;have cC:fK w (Lt.TB g A (Lg.length+1) c mb):=fun k e=>d.cC k (.inr (.inr (.inr e)));exact⟨d.aF.fr f ap.1.2.2,d.base.cC f cC,d.lZ.cC f cC (fun k e=>(ap.2.1 k e).2),aQ d.kept f (fun k e=>ap.2.2 k e),d.mD,fun i k e=>(d.rV i k e).cC f cC,d.last.cC f cC,n⟩
theorem dW.I8(j:dW w h b s g va vk K A c mb E La Lk Ll Lg)(f1:Fr (fun k=>va.ownBlock=some k) w w1){l:Value}{m:List ActV}(u:kx w1 l m)(r:∀k,l.ownBlock=some k→va.ownBlock=some k∨w.heap.size≤k)(f2:Fr (fun k=>k=h) w1 w2)
  (q:ao w2 h 111 #[.pointer (some ⟨b,0,none⟩),l,vk, .pointer (some ⟨s,0,none⟩), .pointer (some ⟨g,0,none⟩)]):dW w2 h b s g l vk K A c mb E m Lk Ll Lg:=by
 have ap:=j.apart;obtain⟨cs,o,_⟩:=j.lZ;have d:fK w (fun i=>va.ownBlock=some i):=uM o (by decide) (by decide) (by decide);have n:=j.aF.fr f1 ap.1.1;have a:fK w1 (fun i=>i=h):=oH n (by decide) (by decide) (by decide);have t:=j.aF.lt;refine⟨q,(j.base.cC f1 d).cC f2 a,u.cC f2 a (fun k f e=>?_),aQ (aQ j.kept f1 (fun k f e=>(ap.2.1 k e).1 f)) f2 (fun k f e=>?_),j.mD,fun i k f=>((j.rV i k f).cC f1 d).cC f2 a,(j.last.cC f1 d).cC f2 a,
  jW (jW j.log f1 (fun k f e=>(ap.2.1 k e).2 f)) f2 (fun k f e=>?_)⟩
 ·obtain rfl:k=h:=e;rcases r k f with p|p;·exact ap.1.1 p
  ·omega
 ·obtain rfl:k=h:=e;exact ap.1.2.1 f
 ·obtain rfl:k=h:=e;exact ap.1.2.2 f
theorem dW.Jc(d:dW w h b s g va vk K A c mb E La Lk Ll Lg)(f2:Fr (fun k=>k=h) w w2){l:Nat}{j:List ActV}(n:fD w l (fS j E))
  (m:ao w2 h 111 #[.pointer (some ⟨b,0,none⟩),va,vk, .pointer (some ⟨l,0,none⟩), .pointer (some ⟨g,0,none⟩)]):dW w2 h b l g va vk K A c mb E La Lk j Lg:=by
 have ap:=d.apart;have a:fK w (fun i=>i=h):=oH d.aF (by decide) (by decide) (by decide);refine⟨m,d.base.cC f2 a,d.lZ.cC f2 a (fun k f e=>?_),aQ d.kept f2 (fun k f e=>?_),d.mD,fun i k f=>(d.rV i k f).cC f2 a,n.cC f2 a,jW d.log f2 (fun k f e=>?_)⟩;·obtain rfl:k=h:=e;exact ap.1.1 f
 ·obtain rfl:k=h:=e;exact ap.1.2.1 f
 ·obtain rfl:k=h:=e;exact ap.1.2.2 f
theorem dW.Jb(l:dW w h b s g va vk K A c mb E La Lk Ll Lg)(f1:Fr (fun k=>vk.ownBlock=some k) w w1){j:Value}{n:List Nat}{m:List ActV}(x:w1.ownsRow 0 25 1 j n.length (n.map fun k=>Value.pointer (some ⟨k,0,none⟩)))(t:∀k,j.ownBlock=some k→vk.ownBlock=some k∨w.heap.size≤k)
  (v:n.length=m.length/16)(p:∀i k,n[i]? =some k→fD w k (fS (m.take (16*(i+1))) E))(f2:Fr (fun k=>k=h) w1 w2)
  (r:ao w2 h 111 #[.pointer (some ⟨b,0,none⟩),va,j, .pointer (some ⟨s,0,none⟩), .pointer (some ⟨g,0,none⟩)]):dW w2 h b s g va j n A c mb E La m Ll Lg:=by
 have ap:=l.apart;have a:fK w (fun i=>vk.ownBlock=some i):=uM l.kept (by decide) (by decide) (by decide);have o:=l.aF.fr f1 ap.1.2.1;have d:fK w1 (fun i=>i=h):=oH o (by decide) (by decide) (by decide);have u:=l.aF.lt;refine⟨r,(l.base.cC f1 a).cC f2 d,(l.lZ.cC f1 a (fun k f e=>(ap.2.1 k f).1 e)).cC f2 d (fun k f e=>?_),aQ x f2 (fun k f e=>?_),v,fun i k f=>((p i k f).cC f1 a).cC f2 d,(l.last.cC f1 a).cC f2 d,
  jW (jW l.log f1 (fun k f e=>ap.2.2 k e f)) f2 (fun k f e=>?_)⟩;·obtain rfl:k=h:=e;exact ap.1.1 f
 ·obtain rfl:k=h:=e;rcases t k f with q|q;·exact ap.1.2.1 q
  ·omega
 ·obtain rfl:k=h:=e;exact ap.1.2.2 f
end
def ze(w:World)(h:Nat)(E:List Ent)(L:List ActV)(T:Nat→Prop)(a:ActV)(e:Ending)(w':World):Prop:=∃T',e= .returned (.int .i64 (eI L a).1)∧fY w' h E (eI L a).2 T'∧Fr T w w'∧∀k,T' k→T k∨w.heap.size≤k
theorem xL:(Tryz.prog.info? 46).map (fun i=>(i.zero,i.size,i.bytes))=some (some fH,6,88):=by kernel_rfl
theorem Hf:(Tryz.prog.info? 25).map (fun i=>(i.zero,i.size,i.bytes))=some (some (.pointer none),1,8):=by kernel_rfl
theorem Gf:(Tryz.prog.info? 26).map (·.size)=some 1:=by kernel_rfl
theorem Gh:(Tryz.prog.info? 108).map (·.size)=some 1:=by kernel_rfl
theorem ID:(Tryz.prog.info? 25).map (·.size)=some 1:=by kernel_rfl
theorem xb{L:List ActV}{a:ActV}(h:gA a=false):eI L a=(3,L):=by unfold eI;rw[if_pos h]
theorem zm{L:List ActV}{a:ActV}(h:gA a=true)(B:Bool)(q:Nat)(d:ActV)(i:0<L.length→q=L.length-1∧L[q]? =some d)(e:B=(decide (0<L.length)&&decide (eV a.key d.key≤0))):eI L a=if B=true then(32,L)else(0,L++[a]):=by
 unfold eI;rw[if_neg (by rw[h];decide)];by_cases b:0<L.length
 ·obtain⟨g,f⟩:=i b;rw[g]at f;rw[List.getLast?_eq_getElem?,f];simp only;have j:=lx.lg a.key d.key;subst e;by_cases c:eV a.key d.key≤0;·rw[decide_eq_true b,decide_eq_true c];rw[if_pos c];rfl
  ·rw[decide_eq_true b,decide_eq_false c];rw[if_neg c];rfl
 ·obtain rfl:L=[]:=List.eq_nil_of_length_eq_zero (by omega);rw[decide_eq_false b,Bool.false_and]at e;subst e;rfl
theorem qB(h:Nat)(E:List Ent)(L:List ActV)(T:Nat→Prop)(a:ActV)(cs:List Value)(w:World)(eb:fY w h E L T)(cw:cT w cs a)(dV:eG w)(df:bH w)(bS:Hu a)(cG:∀b∈L,b.key.fF.size≤1099511627776)(cO:L.length<65536)(cE:gA a=true→(db a).length<4294960000)
  (bz:∀k,k=1∨k=2→¬T k)
  (cx:gA a=true→∀w' s,Fr ag w w'→fD w' s (fS L E)→Calls Tryz.prog 86 #[.agg cs.toArray, .pointer (some ⟨s,0,none⟩)] w' (mL w' (fS L E) a.writes)):
  Calls Tryz.prog 32 #[.pointer (some ⟨h,0,none⟩), .agg cs.toArray] w (ze w h E L T a):=by
 obtain⟨b,s,g,va,vk,K,A,c,mb,bb,rfl⟩:=eb;obtain⟨ak,V,bF⟩:=bb.lZ;obtain⟨y,n1,C,rfl,H1,_⟩:=aW V;obtain⟨I,N,J,rfl,et,_⟩:=aW bb.kept;have bm:=af bb;have cY:=af cw;have cZ:=af bF;have c2:=af V;have b8:=af cx;have cA:=cw.len;have c1:=af cA;have d3:=af bz;have ci:Hid (a.reads.length≤60000∧a.writes.length≤60000):=⟨bS.nr,bS.nw⟩;have ae:Hid (∀k,HB h (.slice y n1 C) (.slice I N J) g A (L.length+1) c mb k→k<w.heap.size):=fY.lt ⟨b,s,g,_,_,K,A,c,mb,bb,rfl⟩;have d0:Hid (∀w',Fr ag w w'→Calls Tryz.prog 55 #[.pointer (some ⟨h,0,none⟩)] w' (bG w' (.bool false))):=fun w' f=>mU w' h b ((bb.aF.fr f (fun x=>x)).cell 0);have dx:Hid (∀w',Fr ag w w'→Calls Tryz.prog 18 #[.agg cs.toArray] w' (aK w' (kD a))):=fun w' f=>rG a cs w' (dV.aq f) (cw.aq f) bS;have dZ:Hid (∀w',Fr ag w w'→Calls Tryz.prog 87 #[.agg cs.toArray] w' (qw w' a)):=fun w' f=>sM a cs w' (cw.aq f) (by have:=bS.nr;omega) (by have:=bS.nw;omega);have Z:Hid (L.length<65536∧n1=L.length):=⟨cO,H1.out⟩;have b0:Hid (∀w',Fr ag w w'→gA a=true→Calls Tryz.prog 59 #[.string ⟨(db a).toArray⟩] w' (aK w' (aP (bQ (db a))))):=fun w' f cB=>by
  have e:aJ ⟨(db a).toArray⟩=db a:=sq _;have h:=uR ⟨(db a).toArray⟩ w' (df.aq f) (by
   have H:=cE cB;have bw:=aL ⟨(db a).toArray⟩;rw[e]at bw;omega);rw[e]at h;exact h
 have b1:Hid (∀w',Fr ag w w'→Calls Tryz.prog 84 #[.pointer (some ⟨g,0,none⟩),aP (bQ (db a))] w' (Lt.mK w' g A (L.length+1) c mb (dq E L) (bQ (db a)))):=fun w' f=>
  Lt.sB g A (L.length+1) c mb (dq E L) (bQ (db a)) w' (bb.aq f).log (ew _) (by omega) (df.aq f) (fun k p ef=>bz k p (.inr (.inr (.inr ef))));obtain⟨q,cP⟩:∃q:Nat,L.length-1=q:=⟨_,rfl⟩;obtain⟨aD,d,ai⟩:∃(aD:Addr)(d:ActV),Hid (0<L.length→y=some aD∧L[q]? =some d∧∀j x,d.key.cells[j]? =some x→w.cell? ((aD.add (q*6)).add j)=some x):=by
  by_cases d6:0<L.length;·obtain⟨eu,d4,bV,ei,ej,ek⟩:=eo.at_ (k:=q) bF (by omega);obtain⟨aD,dd,_,bE⟩:=(Rd.gO (H1.out▸V)).2 (by omega);refine⟨aD,d4,fun _=>⟨dd,ei,fun j x ap=>?_⟩⟩;rw[gD];refine bE _ x (ek j x ?_);obtain⟨el,es,rfl,_⟩:=ej;rw[List.getElem?_append_left (List.getElem?_eq_some_iff.1 ap).1];exact ap
  ·exact⟨⟨0,0,none⟩,a,fun h=>absurd h d6⟩
 have dH:Hid (0<L.length→(n1:Int)-1=(q:Int)):=fun h=>by have:=H1.out;omega
 have bp:Hid (0<L.length→q<n1):=fun h=>by have:=H1.out;omega
 have dy:Hid (0<L.length→∀w',Calls Tryz.prog 85 #[.agg a.key.cells.toArray, .agg d.key.cells.toArray] w' (aK w' (.int .i64 (eV a.key d.key)))):=fun h w'=>nY _ _ w' (by have:=bS.fF;omega) (cG d (List.mem_of_getElem? (ai.out h).2.1));have b6:Hid (gA a=true→∀B:Bool,B=(decide (0<L.length)&&decide (eV a.key d.key≤0))→eI L a=if B=true then(32,L)else(0,L++[a])):=fun cB B cL=>zm cB B q d (fun h=>⟨cP.symm,(ai.out h).2.1⟩) cL;have S:Hid (∀w' c8,eI L a=(c8,L)→Fr ag w w'→ze w h E L (HB h (.slice y n1 C) (.slice I N J) g A (L.length+1) c mb) a (.returned (.int .i64 c8)) w'):=fun w' c8 e f=>⟨_,by rw[e],by rw[e];exact⟨b,s,g,_,_,K,A,c,mb,bb.aq f,rfl⟩,f.bI,fun k p=> .inl p⟩;clear cw dV df bS cG cO bz cx bF V cP cA cE bb;go_enter Tryz.func32,Tryz.ntmps32;go_wp2_with(refine ay rfl 46 (.tmp 1) rfl cs.toArray rfl ?_);intro w1 bW;have b2:=af bW.fr;have cI:=af bW.aF;clear bW;have c0:Hid (w.heap.size≤w.heap.size):=Nat.le_refl _;generalize cy:w.heap.size=ab at cI⊢;have cb:Hid (w.heap.size≤ab):=by rw[Hid,cy];exact Nat.le_refl _
 clear cy c0;go_wp2_with fail;refine(d0.out _ b2.out).mono ?_;rintro e w'⟨rfl,rfl⟩;have bt:=(bm.out.aF.fr b2.out (fun x=>x)).cell 1;simp only[bD,List.getElem?_cons_succ,List.getElem?_cons_zero]at bt;have t1:decide ((65536:Int)≤(n1:Int))=false:=cN (by have:=Z.out;omega);have em:¬(65536:Int)≤(n1:Int):=by have:=Z.out;omega
 have c3:Hid ((Tryz.prog.info? 46).map (·.size)=some cs.length):=by rw[Hid,c1.out];exact bT
 have aN:Hid (∀W,ao W ab 46 cs.toArray→∀j x,cs[j]? =some x→W.cell? ((⟨ab,0,none⟩:Addr).add j)=some x):=fun W dg j x ap=>by
  rw[Addr.add_mid,Nat.zero_add,dg.cell j,bD];exact ap
 go_wp2_with(refine aB rfl 46 (.tmp 3) rfl ⟨ab,0,none⟩ rfl cs _ ?zP Tryz.underlying46 rfl c3.out (bh.go ?zQ));case zP=>exact aN.out _ cI.out
 unfold bh;go_wp2_with fail;refine(dx.out _ b2.out).mono ?_;rintro e w2⟨rfl,f2⟩;have bX:=af (b2.out.trans f2);have cW:=af (cI.out.fr f2 (fun x=>x));clear f2 dx b2 cI bt;cases ac:gA a
 ·have ca:Hid (kD a= .tuple #[.string ByteArray.empty, .int .i64 3]):=by rw[Hid,kD,ac];rfl
  have bq:=af (S.out w2 3 (xb ac) bX.out);rw[ca.out];clear ac ca;go_wp2;go_ret;exact bq.out
 have ca:Hid (kD a= .tuple #[.string ⟨(db a).toArray⟩, .int .i64 0]):=by rw[Hid,kD,ac];rfl
 have aR:=af ac;rw[ca.out];clear ac ca;have bt:=(bm.out.aF.fr bX.out (fun x=>x)).cell 1;simp only[bD,List.getElem?_cons_succ,List.getElem?_cons_zero]at bt;have c5:Hid (∀W,Fr ag w W→W.cell? {block:=h,off:=1}=some (.slice y n1 C)∧W.cell? {block:=h,off:=3}=some (.pointer (some ⟨s,0,none⟩))∧W.cell? {block:=h,off:=4}=some (.pointer (some ⟨g,0,none⟩))):=fun W f=>⟨(bm.out.aF.fr f (fun x=>x)).cell 1,(bm.out.aF.fr f (fun x=>x)).cell 3,(bm.out.aF.fr f (fun x=>x)).cell 4⟩;have cS:Hid (∀W,ao W ab 46 cs.toArray→∀j x,a.key.cells[j]? =some x→W.cell? ((⟨ab,0,none⟩:Addr).add j)=some x):=fun W dg j x ap=>by
  obtain⟨el,es,e,_⟩:=cY.out;refine aN.out W dg j x ?_;rw[e,List.getElem?_append_left (List.getElem?_eq_some_iff.1 ap).1];exact ap
 obtain⟨P,dS⟩:∃z:Bool,decide (0<L.length)=z:=⟨_,rfl⟩;obtain⟨Q,dT⟩:∃z:Bool,decide (eV a.key d.key≤0)=z:=⟨_,rfl⟩;have be:=af dS;have EQ:=af dT;have ck:Hid (decide (0<n1)=P):=by
  rw[Hid,←be.out];exact decide_eq_decide.2 (by have:=Z.out;omega)
 have cR:Hid (∀W,Fr ag w W→Calls Tryz.prog 86 #[.agg cs.toArray, .pointer (some ⟨s,0,none⟩)] W (fun e W'=>∃R,e= .returned (.tuple #[.pointer (some ⟨R,0,none⟩), .int .i64 0])∧fD W' R (fS (L++[a]) E)∧Fr ag W W')):=fun W f=>by
  refine(b8.out aR.out W s f (bm.out.aq f).last).mono ?_;rintro e eq⟨ey,ev,rfl,f5,bB⟩;rcases bB with⟨_,rfl,R,rfl,d8⟩|⟨⟨x,ap,cB⟩,_⟩;·exact⟨R,rfl,by rw[vC];exact d8,f5⟩
  ·have H:=aR.out;simp only[gA,Bool.and_eq_true]at H;have bw:=ki H.2 x ap;simp only[jt,cB,Bool.false_and]at bw;cases bw
 have br:Hid (0<L.length→y=some aD):=fun p=>(ai.out p).1;clear dS dT;obtain⟨B,cL⟩:∃z:Bool,(bif P then Q else false)=z:=⟨_,rfl⟩;have HB:=af cL;clear cL;go_upto_region 9 with fail;refine iU 17 [.int .i64 (n1:Int), .bool P, .bool P,bif P then .pointer (some ⟨ab,0,none⟩)else undef,bif P then .agg a.key.cells.toArray else undef,bif P then .pointer (some ⟨h,0,none⟩)else undef,bif P then .pointer (some ⟨h,0,none⟩)else undef,bif P then .pointer (some ⟨h,1,none⟩)else undef,bif P then .slice y n1 C else undef,bif P then .int .i64 (n1:Int)else undef,bif P then .int .i64 (q:Int)else undef,bif P then .pointer (some (aD.add (q*6)))else undef,bif P then .pointer (some (aD.add (q*6)))else undef,bif P then .agg d.key.cells.toArray else undef,bif P then .int .i64 (eV a.key d.key)else undef,bif P then .bool Q else undef, .bool B] ?zR ?_;case zR=>
  refine⟨?yS,?zU,?zV,?zW,?zX,?zY,?zZ,?yA,?yB,?yC,?zH,?zI,?zJ,?zK,?zL,?zM,?zN,trivial⟩;all_goals intro u w' r o
  all_goals simp only[z1,z2,z3,z4,au,Act.put,z5,z6,z7,Nat.reduceAdd,Nat.zero_add]
  case zU=>
   simp only[show u 0=_ from o 0];refine aC ?_;have t:=ck.out;go_simp;exact aG
  case' zV=>simp only[show u 1=_ from o 1]
  case' zW=>
   simp only[show u 2=_ from o 2];cases P;case false=>exact bR
  case zX=>
   simp only[show u 3=_ from o 3,show u 2=_ from o 2];cases P;case false=>exact bR
   refine aC ?_;exact az _ _ rfl ⟨ab,0,none⟩ rfl a.key.cells _ (cS.out _ (cW.out.fr r (fun x=>x))) Tryz.underlying43 rfl fO aG
  case' zY=>
   simp only[show u 2=_ from o 2];cases P;case false=>exact bR
  case' zZ=>
   simp only[show u 5=_ from o 5,show u 2=_ from o 2];cases P;case false=>exact bR
  case' yA=>
   simp only[show u 6=_ from o 6,show u 2=_ from o 2];cases P;case false=>exact bR
  case yB=>
   simp only[show u 7=_ from o 7,show u 2=_ from o 2];cases P;case false=>exact bR
   refine aC ?_;have q:=(c5.out _ (bX.out.trans r)).1;go_simp;exact aG
  case' yC=>
   simp only[show u 2=_ from o 2];cases P;case false=>exact bR
  case zH=>
   simp only[show u 9=_ from o 9,show u 2=_ from o 2];cases P;case false=>exact bR
   refine aC ?_;have p:=of_decide_eq_true be.out;have cJ:(n1:Int)-1=(q:Int):=dH.out p;have bv:IntKind.i64.wrap (q:Int)=(q:Int):=IntWalk.i64_in _ (by have:=Z.out;have:=bp.out p;omega);go_simp;exact aG
  case zI=>
   simp only[show u 8=_ from o 8,show u 10=_ from o 10,show u 2=_ from o 2];cases P;case false=>exact bR
   refine aC ?_;have p:=of_decide_eq_true be.out;have cJ:y=some aD:=br.out p;have bv:(q:Int)<(n1:Int):=by have:=bp.out p;omega
   have cK:(0:Int)≤(q:Int):=by omega
   clear br;subst cJ;go_simp;exact aG
  case' zJ=>
   simp only[show u 11=_ from o 11,show u 2=_ from o 2];cases P;case false=>exact bR
  case zK=>
   simp only[show u 12=_ from o 12,show u 2=_ from o 2];cases P;case false=>exact bR
   refine aC ?_;have p:=of_decide_eq_true be.out;exact az _ _ rfl (aD.add (q*6)) rfl d.key.cells _ (fun eh v eg=>(bX.out.trans r).an ((ai.out p).2.2 eh v eg) (fun x=>x)) Tryz.underlying43 rfl fO aG
  case zL=>
   simp only[show u 4=_ from o 4,show u 13=_ from o 13,show u 2=_ from o 2];cases P;case false=>exact bR
   refine aC ?_;have p:=of_decide_eq_true be.out;go_simp;refine(dy.out p _).mono ?_;rintro e dv⟨rfl,f4⟩;exact⟨rfl,f4⟩
  case zM=>
   simp only[show u 14=_ from o 14,show u 2=_ from o 2];cases P;case false=>exact bR
   refine aC ?_;have t:=EQ.out;go_simp;exact aG
  case zN=>
   simp only[show u 2=_ from o 2,show u 15=_ from o 15];cases P<;>exact aC (by go_simp;exact⟨by rw[←HB.out];rfl,aA⟩)
  all_goals
   try simp only[cond]
   refine aC ?_;go_simp;exact aG
 intro w' r;simp only[z1,z2,z3,z4,au,Act.put,z5,z6,z7,z8,z9,iO,iP,Nat.reduceAdd,Nat.zero_add];have b3:=af (bX.out.trans r);have cX:=af (cW.out.fr r (fun x=>x));clear r bX cW bt;have aO:Hid (eI L a=if B=true then(32,L)else(0,L++[a])):=b6.out aR.out B (by
  rw[be.out,EQ.out,←HB.out];cases P<;>rfl);clear HB be EQ ck dy ai b6 br dH bp;cases a1:B;case true=>
  have bq:=af (S.out w' 32 (by rw[aO.out,a1];rfl) b3.out);clear a1 aO;go_wp2;go_ret;exact bq.out
 have bj:Hid (eI L a=(0,L++[a])):=by rw[Hid,aO.out,a1];rfl
 clear a1 aO S;generalize w'=eB at*;go_upto_region 11 with fail;refine vR 11 [iS (.agg cs.toArray),iS (.pointer (some ⟨h,0,none⟩)),iS (.pointer (some ⟨h,0,none⟩)),iS (.pointer (some ⟨h,3,none⟩)),iS (.pointer (some ⟨s,0,none⟩)),⟨fun v X=>∃i:Nat,v= .tuple #[.pointer (some ⟨i,0,none⟩), .int .i64 0]∧fD X i (fS (L++[a]) E),fun _ _ _ f h=>(by obtain⟨i,e,h⟩:=h;exact⟨i,e,h.aq f⟩)⟩,⟨fun v X=>∃i:Nat,v= .tuple #[.pointer (some ⟨i,0,none⟩), .int .i64 0]∧fD X i (fS (L++[a]) E),fun _ _ _ f h=>(by obtain⟨i,e,h⟩:=h;exact⟨i,e,h.aq f⟩)⟩,⟨fun v X=>∃i:Nat,v= .pointer (some ⟨i,0,none⟩)∧fD X i (fS (L++[a]) E),fun _ _ _ f h=>(by obtain⟨i,e,h⟩:=h;exact⟨i,e,h.aq f⟩)⟩,iS (.int .i64 0),⟨fun v X=>∃i:Nat,v= .pointer (some ⟨i,0,none⟩)∧fD X i (fS (L++[a]) E),fun _ _ _ f h=>(by obtain⟨i,e,h⟩:=h;exact⟨i,e,h.aq f⟩)⟩,iS (.int .i64 0)] ?zS ?_;case zS=>
  refine⟨?yD,?yT,?yE,?yF,?yG,?yH,?yI,?yJ,?yK,?yL,?zO,trivial⟩;all_goals intro u w' r o
  all_goals simp only[z1,z2,z3,z4,au,Act.put,z5,z6,z7,Nat.reduceAdd,Nat.zero_add]
  case yD=>
   refine aC ?_;exact az _ _ rfl ⟨ab,0,none⟩ rfl cs _ (aN.out _ (cX.out.fr r (fun x=>x))) Tryz.underlying46 rfl c3.out ⟨_,rfl,aA,rfl⟩
  case' yE=>simp only[show u 1=_ from o 1]
  case' yF=>simp only[show u 2=_ from o 2]
  case yG=>
   simp only[show u 3=_ from o 3];refine aC ?_;have q:=(c5.out _ (b3.out.trans r)).2.1;go_simp;exact⟨_,rfl,aA,rfl⟩
  case yH=>
   simp only[show u 0=_ from o 0,show u 4=_ from o 4];refine aC ?_;go_simp;refine(cR.out _ (b3.out.trans r)).mono ?_;rintro e dv⟨i,rfl,cM,f4⟩;exact⟨_,rfl,f4,⟨i,rfl,cM⟩⟩
  case yI=>
   obtain⟨i5,cJ,d9⟩:=o 5;simp only[cJ];refine aC ?_;go_simp;exact⟨_,rfl,aA,⟨i5,rfl,d9⟩⟩
  case yJ=>
   obtain⟨i6,bv,ct⟩:=o 6;simp only[bv];refine aC ?_;go_simp;exact⟨_,rfl,aA,⟨i6,rfl,ct⟩⟩
  case yK=>
   obtain⟨i6,bv,ct⟩:=o 6;simp only[bv];refine aC ?_;go_simp;exact⟨_,rfl,aA,rfl⟩
  case yL=>
   obtain⟨i7,cK,cu⟩:=o 7;simp only[cK];refine aC ?_;go_simp;exact⟨_,rfl,aA,⟨i7,rfl,cu⟩⟩
  case' zO=>simp only[show u 8=_ from o 8]
  all_goals
   refine aC ?_;go_simp;exact⟨_,rfl,aA,rfl⟩
 intro u w' r o;have ea:=o 9 (by omega);simp only[z1,z2,z3,z4,au,Act.put,z5,z6,z7,z8,z9,Nat.reduceAdd,Nat.zero_add,show u 10=_ from o 10 (by omega)];clear o;obtain⟨R,dR,cD⟩:=ea;simp only[dR];have b4:=af (b3.out.trans r);have dA:=af (cX.out.fr r (fun x=>x));have dJ:=af cD;clear r cD dR b3 cX b8;have dF:Hid (Fr ag w w'):=b4.out;generalize w'=eq at*;have d2:Hid (∀W,Fr ag w W→cT W cs a):=fun W f=>cY.out.aq f;obtain⟨cq,bA⟩:∃cq,(bQ (db a)).map aT=cq:=⟨_,rfl⟩;have a7:Hid (∀w',Fr ag w w'→Calls Tryz.prog 59 #[.string ⟨(db a).toArray⟩] w' (aK w' (.agg cq.toArray))):=fun w' f=>by rw[←bA];exact b0.out w' f aR.out
 have a8:Hid (∀w',Fr ag w w'→Calls Tryz.prog 84 #[.pointer (some ⟨g,0,none⟩), .agg cq.toArray] w' (Lt.mK w' g A (L.length+1) c mb (dq E L) (bQ (db a)))):=fun w' f=>by rw[←bA];exact b1.out w' f
 clear bA b0 b1;generalize(⟨(db a).toArray⟩:ByteArray)=en at*;go_upto_region 14 with fail;refine iU 6 [.pointer (some ⟨h,0,none⟩), .pointer (some ⟨h,0,none⟩), .pointer (some ⟨h,4,none⟩), .pointer (some ⟨g,0,none⟩), .string en, .agg cq.toArray] ?zT ?_;case zT=>
  refine⟨?yU,?yM,?yN,?yO,?yV,?yP,trivial⟩;all_goals intro u w' r o
  all_goals simp only[z1,z2,z3,z4,au,Act.put,z5,z6,z7,Nat.reduceAdd,Nat.zero_add]
  case' yM=>simp only[show u 0=_ from o 0]
  case' yN=>simp only[show u 1=_ from o 1]
  case yO=>
   simp only[show u 2=_ from o 2];refine aC ?_;have q:=(c5.out _ (b4.out.trans r)).2.2;go_simp;exact aG
  case yP=>
   simp only[show u 4=_ from o 4];refine aC ?_;go_simp;refine(a7.out _ (b4.out.trans r)).mono ?_;rintro e dv⟨rfl,f4⟩;exact⟨rfl,f4⟩
  all_goals
   refine aC ?_;go_simp;exact aG
 intro w' r;simp only[z1,z2,z3,z4,au,Act.put,z5,z6,z7,z8,z9,iO,iP,Nat.reduceAdd,Nat.zero_add];have bg:=af (b4.out.trans r);have dB:=af (dA.out.fr r (fun x=>x));have dK:=af (dJ.out.aq r);clear r b4 dA dJ;generalize w'=er at*;go_wp2_with fail;refine(a8.out _ bg.out).mono ?_;rintro e av⟨rfl,ax,aE,F,dU,M,am⟩;have bn:=af (bm.out.aq bg.out);have cn:Lt.eL av g ax ((L++[a]).length+1) aE F (dq E (L++[a])) (Lt.bC ((L++[a]).length+1)):=by
  rw[Cz,aY];exact dU
 have bo:Hid (dW av h b s g (.slice y n1 C) (.slice I N J) K ax aE F E L L L (L++[a])):=bn.out.Jd M cn;have U:fK er (Lt.TB g A (L.length+1) c mb):=fun k p=>bn.out.cC k (.inr (.inr (.inr p)));have cl:Hid (∀k,Lt.TB g A (L.length+1) c mb k→k<w.heap.size):=fun k p=>ae.out k (.inr (.inr (.inr p)));have cg:Hid (∀k,Lt.TB g ax ((L++[a]).length+1) aE F k→Lt.TB g A (L.length+1) c mb k∨w.heap.size≤k):=fun k p=>by
  rw[aY]at p;exact(am k p).imp id (fun h=>Nat.le_trans bg.out.size h)
 have cV:Hid (Fr (HB h (.slice y n1 C) (.slice I N J) g A (L.length+1) c mb) w av):=bg.out.bI.trans (M.mono (fun i _ p=> .inr (.inr (.inr p))));have dC:=af (dB.out.fr M (fun e=>by have:=cl.out ab e;have:=cb.out;omega));have dN:=af (dK.out.cC M U);have b5:=af ((cY.out.aq bg.out).cC M U);have a9:=af ((cZ.out.cC bg.out (fK.nothing w)).cC M U);have bs:=bn.out.apart;have aV:Hid (av.ownsRow 0 46 6 (.slice y n1 C) L.length ak.flatten):=aQ (aQ c2.out bg.out (fun _ _ x=>x)) M (fun k p=>(bs.2.1 k p).2);have bk:=af bo.out.aF;have co:Hid (¬(Value.slice y n1 C).ownBlock=some h):=bs.1.1;have c4:Hid (¬(Value.slice y n1 C).ownBlock=some ab):=fun e=>by have:=ae.out ab (.inr (.inl e));have:=cb.out;omega
 have aU:Hid (∀k,(Value.slice y n1 C).ownBlock=some k→k<av.heap.size):=fun k p=>mn aV.out p;have bl:Hid (fK av (fun k=>(Value.slice y n1 C).ownBlock=some k)):=uM aV.out (by decide) (by decide) (by decide);have bZ:Hid (∀W,Fr (fun k=>(Value.slice y n1 C).ownBlock=some k) av W→Calls Tryz.prog 87 #[.agg cs.toArray] W (qw W a)):=fun W f=>sM a cs W (b5.out.cC f bl.out) (by have:=ci.out;omega) (by have:=ci.out;omega);obtain⟨i0,cz,cF,a4,dp⟩:=info_parts xL;have c9:Hid (¬1*i0.size>2^24):=by simp only[Hid];rw[a4];omega
 have da:Hid (¬1*i0.size=0):=by simp only[Hid];rw[a4];omega
 have dc:Hid (∀ds:List Value,ds.length=6→Instr.fill (fun i=>some (i*i0.size,i0.size)) ((Array.range (1*i0.size)).map (fH.cells[· %fH.cells.size]!)) [(0, .agg ds.toArray)]=some ds.toArray):=fun ds dh=>by rw[a4];exact Lt.px _ _ 6 (by simpa using dh) (by simp[fH,Value.cells])
 clear dU M am cn U bs a8 a7 dB dK dZ;go_upto_region 17 with fail;refine wU 9 (fun k=>(Value.slice y n1 C).ownBlock=some k) [Is (.pointer (some ⟨h,0,none⟩)),Is (.pointer (some ⟨h,0,none⟩)),Is (.pointer (some ⟨h,0,none⟩)),Is (.pointer (some ⟨h,1,none⟩)),Is (.slice y n1 C),Is (.agg cs.toArray),fun x X=>∃ds:List Value,x= .agg ds.toArray∧cT X ds a∧jJ av.heap.size ds,fun x X=>∃(i:Nat)(ds:List Value),x= .slice (some ⟨i,0,none⟩) 1 1∧ao X i 46 ds.toArray∧av.heap.size≤i∧cT X ds a∧jJ av.heap.size ds,fun x X=>∃ds:List Value,cT X ds a∧X.ownsRow 0 46 6 x (L.length+1) (ak.flatten++ds)∧∀k,x.ownBlock=some k→(Value.slice y n1 C).ownBlock=some k∨av.heap.size≤k] [(8,fun _=>True)] (fun X=>X.ownsRow 0 46 6 (.slice y n1 C) L.length ak.flatten) (fun _ _=>false) (by kernel_rfl) (by kernel_rfl) (by kernel_rfl) (by kernel_rfl) (fun i=>i==8) (by rfl) ⟨Is.ah _,Is.ah _,Is.ah _,Is.ah _,Is.ah _,Is.ah _,fun _ _ _ _ r⟨ds,h,k,n⟩=>⟨ds,h,k.x9 n (show Fr (fun k=>(Value.slice y n1 C).ownBlock=some k) _ _ from r) aU.out,n⟩,fun _ _ _ _ r⟨i,ds,h,b,l,k,n⟩=>⟨i,ds,h,b.fr (show Fr (fun k=>(Value.slice y n1 C).ownBlock=some k) _ _ from r) (fun t=>by have:=aU.out i t;omega),l,k.x9 n (show Fr (fun k=>(Value.slice y n1 C).ownBlock=some k) _ _ from r) aU.out,n⟩,fun _ _ _ _ r⟨ds,H,bw,d7⟩=>⟨ds,H.aq (show Fr ag _ _ from r),aQ bw (show Fr ag _ _ from r) (fun _ _ x=>x),d7⟩,trivial⟩ ⟨fun _ _ _ _ _=>trivial,trivial⟩ (fun _ _ _ h de=>aQ de h (fun _ _ x=>x)) (aQ aV.out (Fr.refl ag _).drew (fun _ _ x=>x)) ?_ ?_
 ·refine⟨?yQ,?yR,?zA,?zB,?zC,?zD,?zE,?zF,?zG,trivial⟩;all_goals intro u w' d r o bV aH aI
  all_goals simp only[bJ,bK,bL,bM,au,Act.put,bN,bO,bP,Nat.reduceAdd,Nat.zero_add]
  case' zA=>simp only[show u 1=_ from o 1]
  case' zB=>simp only[show u 2=_ from o 2]
  case zC=>
   simp only[show u 3=_ from o 3];clear o bV aH aI;refine aj ?_;have q:=(bk.out.fr r co.out).cell 1;simp only[bD,List.getElem?_cons_succ,List.getElem?_cons_zero]at q;go_simp;exact⟨_,rfl,al⟩
  case zD=>
   clear o bV aH aI;refine aj ?_;exact az _ _ rfl ⟨ab,0,none⟩ rfl cs _ (aN.out _ (dC.out.fr r c4.out)) Tryz.underlying46 rfl c3.out ⟨_,rfl,al⟩
  case zE=>
   simp only[show u 5=_ from o 5];clear o bV aH aI;refine aj ?_;go_simp;refine(bZ.out _ r).mono ?_;rintro e dv⟨ds,rfl,dh,f4,cO⟩;exact⟨_,rfl,f4,⟨ds,rfl,dh,cO.mono r.size⟩,trivial⟩
  case zF=>
   obtain⟨aZ,bv,ct,n6⟩:=o 6;simp only[bv];clear o bV aH aI;refine aj ?_;have di:aZ.length=6:=ct.len;refine wp_buildSlice 26 46 1 #[(0, .tmp 76)] rfl aZ.toArray i0 fH Tryz.underlying26 cz cF c9.out da.out ?_ ?_;·simp only[List.map_toArray,List.map_cons,List.map_nil];exact dc.out aZ di
   ·exact⟨_,rfl,aA.alloc _,⟨w'.heap.size,aZ,rfl,ao.new _ _ _,r.size,ct.aq (aA.alloc _),n6⟩,trivial⟩
  case zG=>
   obtain⟨i7,bu,cK,b7,ex,cu,n7⟩:=o 7;simp only[show u 4=_ from o 4,cK];clear o;refine aj ?_;have de:w'.ownsRow 0 46 6 (.slice y n1 C) L.length ak.flatten:=by rw[dn,if_neg (by rw[aH 8 (by kernel_rfl)];exact Bool.false_ne_true)]at aI;exact aI
   clear bV aH aI;have ec:bu.length=6:=cu.len;refine tP _ (.tmp 74) (.tmp 77) 26 rfl 46 i0 fH 6 88 Tryz.underlying26 cz cF a4 dp rfl (by decide) _ _ _ rfl de (fun _=>True) (some ⟨i7,0,none⟩) 1 1 bu rfl ⟨by omega,fun _=>⟨_,rfl,trivial,fun j x ap=>by rw[Addr.add_mid,Nat.zero_add,b7.cell,bD];exact ap⟩⟩ (fun u hu=>by have h:=ActV.one cu;rw[Array.all_eq_true_iff_forall_mem]at h;exact h u (by simpa using hu)) (by have:=Z.out;omega) (by decide) ?_;intro eA eC a3;exact⟨_,rfl,a3.fr,⟨bu,cu.x9 n7 a3.fr aU.out,a3.own,fun k p=>(a3.ez k p).imp id (fun h=>Nat.le_trans r.size h)⟩,trivial⟩
  all_goals
   clear o bV aH aI;refine aj ?_;go_simp;exact⟨_,rfl,al⟩
 intro u w' r o aI;obtain⟨c6,cv,a0,bx⟩:=o 8 (by omega);have aH:u 0=_:=o 0 (by omega);obtain⟨Y,O,aa,c7,dD,_⟩:=aW a0;rw[c7]at a0 bx;simp only[bJ,bK,bL,bM,au,Act.put,bN,bO,bP,dL,dM,Nat.reduceAdd,Nat.zero_add,aH,c7];have bY:Hid (kx w' (.slice Y O aa) (L++[a])):=⟨ak++[c6],by rw[List.flatten_append,List.flatten_cons,List.flatten_nil,List.append_nil,aY];exact a0,(a9.out.cC r bl.out).snoc cv⟩;have ad:=af r;have bi:=af bx;have dO:=af (dN.out.cC r bl.out);have bd:=af (bk.out.fr r co.out);have ch:Hid (O=L.length+1):=dD.out;clear r o aI aH c7 cv a0 bx dN a9 b5 bZ aV bk dC dD;go_wp2_with(refine aS rfl 26 (.tmp 80) (.tmp 78) rfl h 1 (.slice Y O aa) rfl rfl rfl Gf _ _ #[.pointer (some ⟨b,0,none⟩), .slice Y O aa, .slice I N J, .pointer (some ⟨s,0,none⟩), .pointer (some ⟨g,0,none⟩)] bd.out (show 1<5 by decide) rfl ?_);intro dY b9 f9;have cj:Hid (dW dY h b s g (.slice Y O aa) (.slice I N J) K ax aE F E (L++[a]) L L (L++[a])):=bo.out.I8 ad.out bY.out bi.out f9 b9;have dP:=af (dO.out.cC f9 (oH bd.out (by decide) (by decide) (by decide)));have cf:Hid (∀k,(Value.slice Y O aa).ownBlock=some k→(Value.slice y n1 C).ownBlock=some k∨w.heap.size≤k):=fun k p=>(bi.out k p).imp id (fun h=>Nat.le_trans cV.out.size h);have dz:Hid (Fr (HB h (.slice y n1 C) (.slice I N J) g A (L.length+1) c mb) w dY):=(cV.out.trans (ad.out.mono (fun i _ p=> .inr (.inl p)))).trans (f9.mono (fun i _ p=> .inl p));have dw:=af b9;clear b9 f9 bo ad bY bi dO bd cV;go_wp2_with(refine aS rfl 25 (.tmp 84) (.tmp 82) rfl h 3 (.pointer (some ⟨R,0,none⟩)) rfl rfl rfl ID _ _ #[.pointer (some ⟨b,0,none⟩), .slice Y O aa, .slice I N J, .pointer (some ⟨R,0,none⟩), .pointer (some ⟨g,0,none⟩)] dw.out (show 3<5 by decide) rfl ?_);intro ar gR f10;have D:Hid (dW ar h b R g (.slice Y O aa) (.slice I N J) K ax aE F E (L++[a]) L (L++[a]) (L++[a])):=cj.out.Jc f10 dP.out gR;have bf:Hid (Fr (HB h (.slice y n1 C) (.slice I N J) g A (L.length+1) c mb) w ar):=dz.out.trans (f10.mono (fun i _ p=> .inl p));have bc:=af gR;clear gR f10 cj dz dw dP;have bt:ar.cell? {block:=h,off:=1}=some (.slice Y O aa):=bc.out.cell 1;have cm:Hid (∀(a6:Value)(dI:List Nat)w',dW w' h b R g (.slice Y O aa) a6 dI ax aE F E (L++[a]) (L++[a]) (L++[a]) (L++[a])→Fr (HB h (.slice y n1 C) (.slice I N J) g A (L.length+1) c mb) w w'→(∀k,a6.ownBlock=some k→(Value.slice I N J).ownBlock=some k∨w.heap.size≤k)→ze w h E L (HB h (.slice y n1 C) (.slice I N J) g A (L.length+1) c mb) a (.returned (.int .i64 0)) w'):=fun a6 dI w' cP r p=>by
  refine⟨HB h (.slice Y O aa) a6 g ax ((L++[a]).length+1) aE F,by rw[bj.out],by rw[bj.out];exact⟨b,R,g,_,_,_,ax,aE,F,cP,rfl⟩,r,fun k dl=>?_⟩;rcases dl with H|H|H|H;·exact .inl (.inl H)
  ·exact(cf.out k H).imp (fun h=> .inr (.inl h)) id
  ·exact(p k H).imp (fun h=> .inr (.inr (.inl h))) id
  ·exact(cg.out k H).imp (fun h=> .inr (.inr (.inr h))) id
 clear bj cf cg ae cl;by_cases hm:(L.length+1)%16=0;case neg=>
  have dQ:(O:Int).tmod 16=(((L.length+1)%16:Nat):Int):=by rw[Int.tmod_eq_emod_of_nonneg (by omega),ch.out];omega
  have a2:((((L.length+1)%16:Nat):Int)==0)=false:=by rw[beq_eq_false_iff_ne];omega
  have ba:Hid (K.length=(L++[a]).length/16):=by
   rw[Hid,D.out.mD,aY,List.length_singleton];omega
  generalize dm:(L.length+1)%16=m at dQ a2;have bq:Hid (dW ar h b R g (.slice Y O aa) (.slice I N J) K ax aE F E (L++[a]) (L++[a]) (L++[a]) (L++[a])):=by
   have q:=D.out;refine⟨q.aF,q.base,q.lZ,q.kept,ba.out,fun i k p=>?_,q.last,q.log⟩;have cM:=(List.getElem?_eq_some_iff.1 p).1;have dX:=q.mD;have H:=q.rV i k p;rw[List.take_append_of_le_length (by omega)];exact H
  clear hm dm ba;go_wp2;go_ret;exact cm.out _ _ _ bq.out bf.out (fun k p=> .inl p)
 case pos=>
  have dQ:(O:Int).tmod 16=0:=by rw[Int.tmod_eq_emod_of_nonneg (by omega),ch.out];omega
  have dG:=af hm;have d5:ar.cell? {block:=h,off:=2}=some (.slice I N J):=bc.out.cell 2;obtain⟨dr,dk,dt,bU,du⟩:=info_parts Hf;have ed:Hid (¬1*dr.size>2^24):=by simp only[Hid];rw[bU];omega
  have ee:Hid (¬1*dr.size=0):=by simp only[Hid];rw[bU];omega
  have cp:=af D.out.kept;have cc:Hid (K.length≤65536):=by have:=D.out.mD;have:=Z.out;simp only[Hid];omega
  clear hm;go_wp2_with(refine dE _ rfl _ _ 108 rfl 25 dr (.pointer none) 1 8 Tryz.underlying108 dk dt bU du rfl (by decide) _ _ _ rfl cp.out 1 #[.pointer (some ⟨R,0,none⟩)] _ rfl rfl rfl (fun u hu=>by simp at hu;subst hu;rfl) (by have:=cc.out;omega) (by decide) ?_);intro v11 ep a3;obtain⟨aM,a5,aX,rfl,d1,_⟩:=aW a3.own;have G:=af a3;have cQ:=af (bc.out.fr a3.fr (D.out.apart.1.2.1));clear a3 bt d5;go_wp2_with(refine aS rfl 108 (.tmp 101) (.tmp 99) rfl h 2 (.slice aM a5 aX) rfl rfl rfl Gh _ _ #[.pointer (some ⟨b,0,none⟩), .slice Y O aa, .slice aM a5 aX, .pointer (some ⟨R,0,none⟩), .pointer (some ⟨g,0,none⟩)] cQ.out (show 2<5 by decide) rfl ?_);intro cH cr f12;have cd:(K++[R]).length=(L++[a]).length/16:=by
   have H:=D.out.mD;have bw:=dG.out;rw[aY,aY,List.length_singleton,List.length_singleton,H];omega
  have bq:Hid (dW cH h b R g (.slice Y O aa) (.slice aM a5 aX) (K++[R]) ax aE F E (L++[a]) (L++[a]) (L++[a]) (L++[a])):=by
   have q:=D.out;refine q.Jb G.out.fr (by rw[List.map_append,aY];exact G.out.own) G.out.ez cd (fun i k p=>?_) f12 cr;by_cases cM:i<K.length;·rw[List.getElem?_append_left cM]at p;have H:=q.rV i k p;have dX:=q.mD;rw[List.take_append_of_le_length (by omega)];exact H
   ·have dj:i=K.length:=by
     have:=(List.getElem?_eq_some_iff.1 p).1;rw[aY,List.length_singleton]at this;omega
    rw[dj,List.getElem?_append_right (Nat.le_refl _),Nat.sub_self]at p;cases p;have dX:=q.mD;have hm:=dG.out;rw[List.take_of_length_le (by rw[aY,List.length_singleton];omega)];exact q.last
  have cU:Hid (Fr (HB h (.slice y n1 C) (.slice I N J) g A (L.length+1) c mb) w cH):=(bf.out.aw G.out.fr (fun i _ p=> .inr (.inr (.inl p)))).trans (f12.mono (fun i _ p=> .inl p));have ce:Hid (∀k,(Value.slice aM a5 aX).ownBlock=some k→(Value.slice I N J).ownBlock=some k∨w.heap.size≤k):=fun k p=>(G.out.ez k p).imp id (fun h=>Nat.le_trans bf.out.size h);clear cr f12 cd G;go_wp2;go_ret;exact cm.out _ _ _ bq.out cU.out ce.out
end Go.Proofs.YtphjagkehiklkaaGreatDoor
namespace Go.Proofs.YtphjagkehiklkaaGreatDoor
open Go.RowKit Go.Shelf
theorem fG{P:Program}{fn:Func}{p q:Tmp}{ty:TypeId}(h:fn.results=#[.tmp q, .cell p ty])(tmps:Array Value)(w:World)(g:Nat)(t:TypeId)(cs:Array Value)(fr:Nat×Nat)(d:TypeDesc)
  (i:tmps.getD p undef= .pointer (some ⟨g,0,none⟩))(e:w.heap[g]? =some (.cells cs t fr))
  (hu:P.underlying ty=some d)(c:(match d with| .struct _| .array _ _=>true|_=>false)=true)(f:(P.info? ty).map (·.size)=some cs.size)(v:Value)(j:tmps.getD q undef=v):
  (results fn tmps).run P w= .ok (.tuple #[v, .agg cs]) w:=by
 have a:tmps[p]?.getD undef= .pointer (some ⟨g,0,none⟩):=by simpa using i
 have b:tmps[q]?.getD undef=v:=by simpa using j
 simp[results,h,a,b,asAddr,run_loadVar_row w g t ty cs fr d e hu c f]
def sA:List Value:=[.pointer none, .slice none 0 0]
theorem Jn(w:World):(zeroValue 28).run Tryz.prog w= .ok (.agg sA.toArray) w:=by kernel_rfl
theorem jf:(Tryz.prog.info? 28).map (·.size)=some 2:=by kernel_rfl
theorem JA(b:Nat)(A:Option Addr)(n c:Nat):Tryz.prog.built 28 [(0, .pointer (some ⟨b,0,none⟩)),(1, .slice A n c)]=some [Value.pointer (some ⟨b,0,none⟩), .slice A n c].toArray:=by kernel_rfl
theorem gJ.sz{a:ActV}(h:gJ a):Hu a:=⟨by have:=h.fF;omega,fun c b=>(h.reads c b).cv,fun c b=>(h.writes c b).cv,by have:=h.nr;omega,by have:=h.nw;omega⟩
def Ec(w:World)(ms:List Value)(b:Nat)(E:List Ent)(L:List ActV)(a:ActV)(e:Ending)(w':World):Prop:=∃c:List Value,e= .returned (.tuple #[.int .i64 (eI L a).1, .agg c.toArray])∧Mod w' c b E (eI L a).2∧Fr ag w w'∧∀v∈c,∀k,v.ownBlock=some k→w.heap.size≤k∨∃u∈ms,u.ownBlock=some k
theorem zn(ms cs:List Value)(b:Nat)(E:List Ent)(L:List ActV)(a:ActV)(w:World)(be:Mod w ms b E L)(aL:cT w cs a)(bs:eG w)(aM:cY 24 E)(g:gg L)(aP:gJ a):
  Calls Tryz.prog 31 #[.agg ms.toArray, .agg cs.toArray] w (Ec w ms b E L a):=by
 obtain⟨A,n,c,rfl,ar,cl,b0,r,S,aO⟩:=id be;obtain⟨i0,ad,aR,T,bl⟩:=info_parts xL;have bU:Hid (¬1*i0.size>2^24):=by simp only[Hid];rw[T];omega
 have bV:Hid (¬1*i0.size=0):=by simp only[Hid];rw[T];omega
 have bW:Hid (∀ds:List Value,ds.length=6→Instr.fill (fun i=>some (i*i0.size,i0.size)) ((Array.range (1*i0.size)).map (fH.cells[· %fH.cells.size]!)) [(0, .agg ds.toArray)]=some ds.toArray):=fun ds cH=>by rw[T];exact Lt.px _ _ 6 (by simpa using cH) (by simp[fH,Value.cells])
 obtain⟨q,b3⟩:∃q,L.length-1=q:=⟨_,rfl⟩;obtain⟨Y,d,O⟩:∃(Y:Addr)(d:ActV),Hid (0<L.length→A=some Y∧L[q]? =some d∧∀j x,d.key.cells[j]? =some x→w.cell? ((Y.add (q*6)).add j)=some x):=by
  by_cases h:0<L.length;·obtain⟨Y,cQ,cB,cD,bM,bN,ch,ap⟩:=tH S aO ar (k:=q) (by omega);refine⟨Y,cB,fun _=>⟨cD,bM,fun j x C=>ap j x ?_⟩⟩;obtain⟨cN,cO,rfl,_,_⟩:=bN;rw[List.getElem?_append_left (List.getElem?_eq_some_iff.1 C).1];exact C
  ·exact⟨⟨0,0,none⟩,a,fun cE=>absurd cE h⟩
 have al:Hid (n=L.length∧n≤16∧n≤c):=by have:=g.len;exact⟨ar,by omega,cl⟩
 have bn:Hid (0<L.length→(n:Int)-1=(q:Int)∧q<n):=fun h=>by have:=al.out;exact⟨by omega,by omega⟩
 have bz:Hid (0<L.length→∀w',Calls Tryz.prog 85 #[.agg d.key.cells.toArray, .agg a.key.cells.toArray] w' (aK w' (.int .i64 (eV d.key a.key)))):=fun h w'=>nY _ _ w' (by have:=(g.small d (List.mem_of_getElem? (O.out h).2.1)).fF;omega) (by have:=aP.fF;omega);have aD:Hid (gA a=true→∀B:Bool,B=(decide (0<L.length)&&decide (0≤eV d.key a.key))→eI L a=if B=true then(32,L)else(0,L++[a])):=fun b2 B br=>zm b2 B q d (fun h=>⟨b3.symm,(O.out h).2.1⟩) (by
  rw[br];have:=lx.lg d.key a.key;congr 1;exact decide_eq_decide.2 (by omega));have b8:Hid (∀w',Fr ag w w'→Calls Tryz.prog 18 #[.agg cs.toArray] w' (aK w' (kD a))):=fun w' f=>rG a cs w' (bs.aq f) (aL.aq f) aP.sz;have bm:Hid (∀w',Fr ag w w'→Calls Tryz.prog 41 #[.agg [Value.pointer (some ⟨b,0,none⟩), .slice A n c].toArray, .int .i64 (n:Int)] w' (Ht w' (fS L E))):=fun w' f=>by
  have h:=DH _ b E L n w' (be.aq f) (bs.aq f) aM g (by omega);rw[ar,List.take_length]at h;rw[ar];exact h
 have bx:Hid (gA a=true→∀w' s,Fr ag w w'→fD w' s (fS L E)→Calls Tryz.prog 86 #[.agg cs.toArray, .pointer (some ⟨s,0,none⟩)] w' (fun e b4=>∃p,e= .returned (.tuple #[.pointer p, .int .i64 0])∧Fr ag w' b4)):=fun b2 w' s f h=>by
  have G:=lR L E 24 aM g.ok g.small;refine(lX _ a cs _ s w' (aL.aq f) h (bs.aq f) G aP.writes (by have:=aP.nw;have:=g.len;omega)).mono ?_;rintro e w2⟨p,k,rfl,f2,aN⟩;rcases aN with⟨_,rfl,_⟩|⟨⟨x,C,bk⟩,_⟩;·exact⟨_,rfl,f2⟩
  ·rw[qh b2 x C]at bk;cases bk
 have cP:=af be;have cd:=af aL;have HB:=af b0;have bE:=af aO;have cz:=af S;have aJ:Hid ((Tryz.prog.info? 46).map (·.size)=some cs.length):=by rw[Hid,aL.len];exact bT
 have bC:=af (ActV.one aL);have a3:=af aL.len;have y:Hid (∀w' bS,eI L a=(bS,L)→Fr ag w w'→Ec w [Value.pointer (some ⟨b,0,none⟩), .slice A n c] b E L a (.returned (.tuple #[.int .i64 bS, .agg [Value.pointer (some ⟨b,0,none⟩), .slice A n c].toArray])) w'):=fun w' bS e f=>⟨_,by rw[e],by rw[e];exact be.aq f,f,fun v aZ k o=> .inr ⟨v,aZ,o⟩⟩;have M:Hid (∀w' a0 aS aV,eI L a=(0,L++[a])→Fr ag w w'→aS=L.length+1→aS≤aV→kx w' (.slice a0 aS aV) (L++[a])→(∀k,(Value.slice a0 aS aV).ownBlock=some k→w.heap.size≤k)→Ec w [Value.pointer (some ⟨b,0,none⟩), .slice A n c] b E L a (.returned (.tuple #[.int .i64 0, .agg [Value.pointer (some ⟨b,0,none⟩), .slice a0 aS aV].toArray])) w'):=fun w' a0 aS aV e f bX bc bd bY=>⟨_,by rw[e],by rw[e];exact⟨a0,aS,aV,rfl,by rw[aY];exact bX,bc,b0.aq f,bd⟩,f,fun v aZ k o=>by
  rw[List.mem_cons,List.mem_singleton]at aZ;rcases aZ with rfl|rfl;·cases o
  ·exact .inl (bY k o)⟩;generalize Ec w [Value.pointer (some ⟨b,0,none⟩), .slice A n c] b E L a=PP at*;clear be aL bs aM g aP b0 S aO ar cl b3;go_enter Tryz.func31,Tryz.ntmps31;go_wp2_with(refine ay rfl 28 (.tmp 0) rfl _ rfl ?_);intro w1 n1;have ca:=af n1.fr;have b5:=af n1.aF;clear n1;generalize bf:w.heap.size=g2 at*;have bH:=af bf;clear bf;go_wp2_with(refine ay rfl 46 (.tmp 1) rfl cs.toArray rfl ?_);intro w2 cr;have bp:=af cr;clear cr;generalize bg:w1.heap.size=g3 at*;have bI:=af bg;clear bg;have b7:Hid (ao w2 g3 46 cs.toArray):=by have h:=bp.out.aF;rw[bI.out]at h;exact h
 have b6:=af (b5.out.fr bp.out.fr (fun x=>x));have bA:=af (ca.out.trans bp.out.fr);clear bp b5 ca;go_wp2_with(refine ak rfl 28 rfl (.agg sA.toArray) Jn #[.pointer none, .slice none 0 0] rfl ?_);intro bt n3;have a9:=af n3;clear n3;generalize bi:w2.heap.size=g5 at*;have a6:=af bi;clear bi;have bq:Hid (ao bt g5 28 #[.pointer none, .slice none 0 0]):=by have h:=a9.out.aF;rw[a6.out]at h;exact h
 have M2:=af (b6.out.fr a9.out.fr (fun x=>x));have cv:=af (b7.out.fr a9.out.fr (fun x=>x));have aj:=af (bA.out.trans a9.out.fr);have aH:Hid (w.heap.size≤g5):=by have:=bA.out.size;have:=a6.out;simp only[Hid];omega
 clear a9 b6 b7 bA;have bJ:Hid (∀W,Fr ag bt W→∀j x,[Value.pointer (some ⟨b,0,none⟩), .slice A n c][j]? =some x→W.cell? ((⟨g2,0,none⟩:Addr).add j)=some x):=fun W f j x C=>by rw[←bD]at C;rw[Addr.add_mid,Nat.zero_add,(M2.out.fr f (fun x=>x)).cell j];exact C
 have bo:Hid (∀W,Fr ag bt W→∀j x,cs[j]? =some x→W.cell? ((⟨g3,0,none⟩:Addr).add j)=some x):=fun W f j x C=>by rw[Addr.add_mid,Nat.zero_add,(cv.out.fr f (fun x=>x)).cell j,bD];exact C
 have cx:Hid (∀W,Fr ag bt W→∀j x,a.key.cells[j]? =some x→W.cell? ((⟨g3,0,none⟩:Addr).add j)=some x):=fun W f j x C=>bo.out W f j x (by
  obtain⟨cN,cO,e,_,_⟩:=cd.out;rw[e,List.getElem?_append_left (List.getElem?_eq_some_iff.1 C).1];exact C);have cf:Hid ([Value.pointer (some ⟨b,0,none⟩), .slice A n c].toArray.all (·.oneCell')=true):=by simp[Hid,Value.oneCell']
 go_wp2_with(refine aB rfl 46 (.tmp 3) rfl ⟨g3,0,none⟩ rfl cs _ ?zG Tryz.underlying46 rfl aJ.out (bh.go ?zH));case zG=>exact bo.out _ aA
 unfold bh;go_wp2_with fail;refine(b8.out _ aj.out).mono ?_;rintro e bu⟨rfl,f4⟩;have ax:=af f4;clear f4 b8;by_cases D:gA a=true
 ·have a5:Hid (kD a= .tuple #[.string ⟨(db a).toArray⟩, .int .i64 0]):=by rw[Hid,kD,D];rfl
  rw[a5.out];have av:=af (bx.out D);have I:=af (aD.out D);generalize(⟨(db a).toArray⟩:ByteArray)=cV at*;clear a5 D bx aD;obtain⟨P,bP⟩:∃z:Bool,decide (0<L.length)=z:=⟨_,rfl⟩;have aU:=af bP;have a7:Hid (decide (0<n)=P):=by rw[Hid,←aU.out];exact decide_eq_decide.2 (by have:=al.out;omega)
  obtain⟨Q,bQ⟩:∃z:Bool,decide (0≤eV d.key a.key)=z:=⟨_,rfl⟩;have EQ:=af bQ;rw[bP,bQ]at I;clear bP bQ;have aI:Hid (0<L.length→A=some Y):=fun h=>(O.out h).1;have cM:bu.cell? ⟨g2,1,none⟩=some (.slice A n c):=(M2.out.fr ax.out (fun x=>x)).cell 1;obtain⟨B,br⟩:∃z:Bool,(bif P then Q else false)=z:=⟨_,rfl⟩;have aE:=af br;clear br;go_upto_region 5 with fail;refine iU 15 [.int .i64 (n:Int), .bool P, .bool P,bif P then .pointer (some ⟨g2,1,none⟩)else undef,bif P then .slice A n c else undef,bif P then .int .i64 (n:Int)else undef,bif P then .int .i64 (q:Int)else undef,bif P then .pointer (some (Y.add (q*6)))else undef,bif P then .pointer (some (Y.add (q*6)))else undef,bif P then .agg d.key.cells.toArray else undef,bif P then .pointer (some ⟨g3,0,none⟩)else undef,bif P then .agg a.key.cells.toArray else undef,bif P then .int .i64 (eV d.key a.key)else undef,bif P then .bool Q else undef, .bool B] ?zI ?_;case zI=>
   refine⟨?yQ,?zN,?zO,?zP,?zQ,?zR,?zS,?zT,?zU,?zV,?zA,?zB,?zC,?zD,?zE,trivial⟩;all_goals intro u w' m g
   all_goals simp only[z1,z2,z3,z4,au,Act.put,z5,z6,z7,Nat.reduceAdd,Nat.zero_add]
   case zN=>
    simp only[show u 0=_ from g 0];refine aC ?_;have t1:=a7.out;go_simp;exact aG
   case' zO=>simp only[show u 1=_ from g 1]
   case' zP=>
    simp only[show u 2=_ from g 2];cases P;case false=>exact bR
   case zQ=>
    simp only[show u 3=_ from g 3,show u 2=_ from g 2];cases P;case false=>exact bR
    refine aC ?_;have cS:_=some _:=(M2.out.fr (ax.out.trans m) (fun x=>x)).cell 1;go_simp;exact aG
   case' zR=>
    simp only[show u 2=_ from g 2];cases P;case false=>exact bR
   case zS=>
    simp only[show u 5=_ from g 5,show u 2=_ from g 2];cases P;case false=>exact bR
    refine aC ?_;have o:=of_decide_eq_true aU.out;have ap:(n:Int)-1=(q:Int):=(bn.out o).1;have bO:IntKind.i64.wrap (q:Int)=(q:Int):=IntWalk.i64_in _ (by have:=al.out;have:=bn.out o;omega);go_simp;exact aG
   case zT=>
    simp only[show u 4=_ from g 4,show u 6=_ from g 6,show u 2=_ from g 2];cases P;case false=>exact bR
    refine aC ?_;have o:=of_decide_eq_true aU.out;have ap:A=some Y:=aI.out o;have bO:(q:Int)<(n:Int):=by have:=bn.out o;omega
    have ci:(0:Int)≤(q:Int):=by omega
    clear aI;subst ap;go_simp;exact aG
   case' zU=>
    simp only[show u 7=_ from g 7,show u 2=_ from g 2];cases P;case false=>exact bR
   case zV=>
    simp only[show u 8=_ from g 8,show u 2=_ from g 2];cases P;case false=>exact bR
    refine aC ?_;have o:=of_decide_eq_true aU.out;exact az _ _ rfl (Y.add (q*6)) rfl d.key.cells _ (fun cn v aZ=>(aj.out.trans (ax.out.trans m)).an ((O.out o).2.2 cn v aZ) (fun x=>x)) Tryz.underlying43 rfl fO aG
   case' zA=>
    simp only[show u 2=_ from g 2];cases P;case false=>exact bR
   case zB=>
    simp only[show u 10=_ from g 10,show u 2=_ from g 2];cases P;case false=>exact bR
    refine aC ?_;exact az _ _ rfl ⟨g3,0,none⟩ rfl a.key.cells _ (cx.out _ (ax.out.trans m)) Tryz.underlying43 rfl fO aG
   case zC=>
    simp only[show u 9=_ from g 9,show u 11=_ from g 11,show u 2=_ from g 2];cases P;case false=>exact bR
    refine aC ?_;have o:=of_decide_eq_true aU.out;go_simp;refine(bz.out o _).mono ?_;rintro e bu⟨rfl,f4⟩;exact⟨rfl,f4⟩
   case zD=>
    simp only[show u 12=_ from g 12,show u 2=_ from g 2];cases P;case false=>exact bR
    refine aC ?_;have t:=EQ.out;go_simp;exact aG
   case zE=>
    simp only[show u 2=_ from g 2,show u 13=_ from g 13];cases P<;>exact aC (by go_simp;exact⟨by rw[←aE.out];rfl,aA⟩)
   all_goals
    try simp only[cond]
    refine aC ?_;go_simp;exact aG
  intro w' m;simp only[z1,z2,z3,z4,au,Act.put,z5,z6,z7,z8,z9,iO,iP,Nat.reduceAdd,Nat.zero_add];have H:=af (ax.out.trans m);clear m ax cM bz EQ;generalize w'=cu at*;have a4:Hid (B=(P&&Q)):=by have:=aE.out;rw[Hid,←this];cases P<;>rfl
  have K:=af (I.out B a4.out);clear I a4 aE aI aU a7 O bn;cases B
  ·have J:Hid (eI L a=(0,L++[a])):=K.out;go_upto_region 7 with fail;refine vR 10 [iS (.agg cs.toArray),iS (.agg [Value.pointer (some ⟨b,0,none⟩), .slice A n c].toArray),iS (.int .i64 (n:Int)),⟨fun v X=>∃s:Nat,v= .pointer (some ⟨s,0,none⟩)∧fD X s (fS L E),fun _ _ _ f⟨s,e,h⟩=>⟨s,e,h.aq f⟩⟩,⟨fun v _=>∃p:Option Addr,v= .tuple #[.pointer p, .int .i64 0],fun _ _ _ _ h=>h⟩,⟨fun v _=>∃p:Option Addr,v= .tuple #[.pointer p, .int .i64 0],fun _ _ _ _ h=>h⟩,⟨fun v _=>∃p:Option Addr,v= .pointer p,fun _ _ _ _ h=>h⟩,iS (.int .i64 0),⟨fun v _=>∃p:Option Addr,v= .pointer p,fun _ _ _ _ h=>h⟩,iS (.int .i64 0)] ?zL ?_;case zL=>
    refine⟨?zZ,?yA,?yT,?yB,?yC,?yD,?yE,?yF,?yG,?yH,trivial⟩;all_goals intro u w' m g
    all_goals simp only[z1,z2,z3,z4,au,Act.put,z5,z6,z7,Nat.reduceAdd,Nat.zero_add]
    case zZ=>
     refine aC ?_;exact az _ _ rfl ⟨g3,0,none⟩ rfl cs _ (bo.out _ (H.out.trans m)) Tryz.underlying46 rfl aJ.out ⟨_,rfl,aA,rfl⟩
    case yA=>
     refine aC ?_;exact az _ _ rfl ⟨g2,0,none⟩ rfl [Value.pointer (some ⟨b,0,none⟩), .slice A n c] _ (bJ.out _ (H.out.trans m)) Tryz.underlying28 rfl jf ⟨_,rfl,aA,rfl⟩
    case yB=>
     simp only[show u 1=_ from g 1,show u 2=_ from g 2];refine aC ?_;go_simp;refine(bm.out _ (aj.out.trans (H.out.trans m))).mono ?_;rintro e bu⟨s,rfl,aP,f4⟩;exact⟨_,rfl,f4,⟨s,rfl,aP⟩⟩
    case yC=>
     obtain⟨cU,bN,bd⟩:=g 3;simp only[show u 0=_ from g 0,bN];refine aC ?_;go_simp;refine(av.out _ _ (aj.out.trans (H.out.trans m)) bd).mono ?_;rintro e bu⟨p,rfl,f4⟩;exact⟨_,rfl,f4,⟨p,rfl⟩⟩
    case yD=>
     obtain⟨cK,ch⟩:=g 4;simp only[ch];refine aC ?_;go_simp;exact⟨_,rfl,aA,⟨cK,rfl⟩⟩
    case yE=>
     obtain⟨ct,ap⟩:=g 5;simp only[ap];refine aC ?_;go_simp;exact⟨_,rfl,aA,⟨ct,rfl⟩⟩
    case yF=>
     obtain⟨ct,ap⟩:=g 5;simp only[ap];refine aC ?_;go_simp;exact⟨_,rfl,aA,rfl⟩
    case yG=>
     obtain⟨cL,bO⟩:=g 6;simp only[bO];refine aC ?_;go_simp;exact⟨_,rfl,aA,⟨cL,rfl⟩⟩
    case yH=>
     simp only[show u 7=_ from g 7];refine aC ?_;go_simp;exact⟨_,rfl,aA,rfl⟩
    all_goals
     refine aC ?_;go_simp;exact⟨_,rfl,aA,rfl⟩
   intro u w' m g;obtain⟨cR,bb⟩:=g 8 (by omega);simp only[z1,z2,z3,z4,au,Act.put,z5,z6,z7,z8,z9,Nat.reduceAdd,Nat.zero_add,show u 9=_ from g 9 (by omega)];clear g;simp only[bb];clear bb;have F:=af (H.out.trans m);clear m bm av H y;generalize w'=bv at*;have ac:=af (aj.out.trans F.out);have bw:Hid (∀W,Fr ag w W→eo W r L):=fun W f=>bE.out.cC f (fK.nothing _);have ba:Hid (∀W,Fr ag w W→Rd W (fun _=>True) 6 A n r.flatten):=fun W f=>by
    have h:W.ownsRow 0 46 6 (.slice A n c) L.length r.flatten:=aQ cz.out f (fun _ _ x=>x);rw[←al.out.1]at h;exact(Rd.gO h).any
   go_upto_region 10 with fail;refine DW 11 ag (fun i=>i==8) (fun i j=>(i==8&&(j==2||j==5||j==7))) [iS (.pointer (some ⟨g2,0,none⟩)),iS (.pointer (some ⟨b,0,none⟩)),⟨fun V ah=>∃i:Nat,V= .slice (some ⟨i,0,none⟩) 0 0∧ah.ownsRow 0 46 6 (.slice (some ⟨i,0,none⟩) 0 0) 0 []∧bv.heap.size≤i,fun _ _ _ f⟨i,e,h,l⟩=>⟨i,e,aQ h f (fun _ _ x=>x),l⟩⟩,iS (.pointer (some ⟨g2,1,none⟩)),iS (.slice A n c),⟨fun V ah=>ah.ownsRow 0 46 6 V n r.flatten∧∀k,V.ownBlock=some k→bv.heap.size≤k,fun _ _ _ f h=>⟨aQ h.1 f (fun _ _ x=>x),h.2⟩⟩,iS (.agg cs.toArray),⟨fun V ah=>∃i:Nat,V= .slice (some ⟨i,0,none⟩) 1 1∧ao ah i 46 cs.toArray,fun _ _ _ f⟨i,e,h⟩=>⟨i,e,h.fr f (fun x=>x)⟩⟩,⟨fun V ah=>ah.ownsRow 0 46 6 V (L.length+1) (r.flatten++cs)∧∀k,V.ownBlock=some k→bv.heap.size≤k,fun _ _ _ f h=>⟨aQ h.1 f (fun _ _ x=>x),h.2⟩⟩,⟨fun V ah=>∃(ab:Option Addr)(U Z:Nat),V= .agg [Value.pointer (some ⟨b,0,none⟩), .slice ab U Z].toArray∧U=L.length+1∧U≤Z∧ah.ownsRow 0 46 6 (.slice ab U Z) (L.length+1) (r.flatten++cs)∧∀k,(Value.slice ab U Z).ownBlock=some k→bv.heap.size≤k,fun _ _ _ f⟨ab,U,Z,e,bX,bc,bd,bY⟩=>⟨ab,U,Z,e,bX,bc,aQ bd f (fun _ _ x=>x),bY⟩⟩,iS (.int .i64 0)] ?zM ?_;case zM=>
    refine⟨?yU,?yI,?yJ,?yV,?yK,?yL,?yM,?yN,?yO,?yP,?zF,trivial⟩;all_goals intro u w' m g b3
    all_goals simp only[z1,z2,z3,z4,au,Act.put,z5,z6,z7,Nat.reduceAdd,Nat.zero_add]
    case yI=>
     simp only[show u 0=_ from g 0];refine aC ?_;have q:_=some _:=(M2.out.fr (F.out.trans m) (fun x=>x)).cell 0;go_simp;exact⟨_,rfl,aA,rfl⟩
    case yJ=>
     refine aC ?_;refine nV 26 46 rfl i0 Tryz.underlying26 ad ?_;intro cu ar;exact⟨_,rfl,ar.fr,⟨w'.heap.size,rfl,ar.IS,m.size⟩⟩
    case yK=>
     simp only[show u 3=_ from g 3];refine aC ?_;have q:_=some _:=(M2.out.fr (F.out.trans m) (fun x=>x)).cell 1;go_simp;exact⟨_,rfl,aA,rfl⟩
    case yL=>
     obtain⟨i2,bM,bc,l2⟩:=g 2;simp only[bM,show u 4=_ from g 4];refine aC ?_;refine Bb (.tmp 53) (.tmp 55) 26 rfl 46 i0 fH 6 88 Tryz.underlying26 ad aR T bl rfl (by decide) i2 rfl bc (fun _=>True) A n c r.flatten rfl (ba.out _ (ac.out.trans m)) (by have:=al.out;omega) (by have:=al.out;omega) ?_;intro v5 cu cJ b1 cI;exact⟨_,rfl,b1,cJ,fun k o=>(cI k o).elim (fun e=>by omega) (fun e=>Nat.le_trans m.size e)⟩
    case yM=>
     refine aC ?_;exact az _ _ rfl ⟨g3,0,none⟩ rfl cs _ (bo.out _ (F.out.trans m)) Tryz.underlying46 rfl aJ.out ⟨_,rfl,aA,rfl⟩
    case yN=>
     simp only[show u 6=_ from g 6];refine aC ?_;refine wp_buildSlice 26 46 1 #[(0, .tmp 57)] rfl cs.toArray i0 fH Tryz.underlying26 ad aR bU.out bV.out ?_ ?_;·simp only[List.map_toArray,List.map_cons,List.map_nil];exact bW.out cs a3.out
     ·exact⟨_,rfl,aA.alloc _,⟨w'.heap.size,rfl,ao.new _ _ _⟩⟩
    case yO=>
     obtain⟨cF,co⟩:=g 5;obtain⟨i7,ci,cG⟩:=g 7;simp only[ci];refine aC ?_;refine tP _ (.tmp 56) (.tmp 58) 26 rfl 46 i0 fH 6 88 Tryz.underlying26 ad aR T bl rfl (by decide) _ _ _ rfl cF (fun _=>True) (some ⟨i7,0,none⟩) 1 1 cs rfl ⟨by have:=a3.out;omega,fun _=>⟨_,rfl,trivial,fun cn x C=>by rw[Addr.add_mid,Nat.zero_add,cG.cell,bD];exact C⟩⟩ (fun u hu=>by have h:=bC.out;rw[Array.all_eq_true_iff_forall_mem]at h;exact h u (by simpa using hu)) (by have:=al.out;omega) (by decide) ?_;intro cW cX aM;refine⟨_,rfl,⟨m.aw aM.fr (fun k o e=>by have:=co k e;omega),?_⟩,?_,fun k o=>(aM.ez k o).elim (co k) (fun h=>Nat.le_trans m.size h)⟩;·exact⟨fun _ h=>h,fun _ h=>h,mT,fun _ h=>h,fun _ h=>h,mT,fun _ h=>h,mT,mT,mT,mT,trivial⟩
     ·rw[←al.out.1];exact aM.own
    case yP=>
     obtain⟨bZ,cp⟩:=g 8;obtain⟨ab,U,Z,bb,cw,bB⟩:=aW bZ;rw[bb]at bZ cp;simp only[show u 1=_ from g 1,bb];refine aC ?_;exact jY 28 _ rfl [Value.pointer (some ⟨b,0,none⟩), .slice ab U Z].toArray _ (by simp only[List.map_toArray,List.map_cons,List.map_nil];rfl) (JA b ab U Z) ⟨_,rfl,aA,⟨ab,U,Z,rfl,cw.out,bB.out,bZ,cp⟩⟩
    case zF=>
     refine aC ?_;go_simp;exact⟨_,rfl,aA,rfl⟩
    all_goals
     refine aC ?_;go_simp;exact⟨_,rfl,aA,rfl⟩
   intro u w' m g;obtain⟨a1,aT,aX,cj,cc,a2,ck,cq⟩:=g 9 (by omega);simp only[z1,z2,z3,z4,au,Act.put,z5,z6,z7,z8,z9,Nat.reduceAdd,Nat.zero_add,show u 10=_ from g 10 (by omega)];clear g;simp only[cj];have bj:=af m;have cb:=af (F.out.trans m);have cg:=af (bq.out.fr cb.out (fun x=>x));have cA:=af ck;have ce:=af cq;have cy:Hid ([Value.pointer (some ⟨b,0,none⟩), .slice a1 aT aX].toArray.all (·.oneCell')=true):=by simp[Hid,Value.oneCell']
   have b9:Hid (aT=L.length+1∧aT≤aX):=⟨cc,a2⟩;clear m ck cq cj cc a2 ba;refine ai rfl 28 (.tmp 5) _ rfl g5 [Value.pointer (some ⟨b,0,none⟩), .slice a1 aT aX].toArray rfl rfl _ _ cg.out jf rfl cy.out ?_;intro ae am aa;have a8:=af am;have bG:Hid (fK w' (fun k=>k=g5)):=fK.of (fun k o=>⟨28,(show k=g5 from o)▸cg.out.ty,by decide,by decide,by decide⟩);have bF:Hid (kx ae (.slice a1 aT aX) (L++[a])):=by
    refine⟨r++[cs],?_,?_⟩
    ·rw[aY,List.length_singleton,List.flatten_append,List.flatten_singleton];exact aQ cA.out aa (fun k o e=>by
      have bL:k=g5:=e;have:=ce.out k o;have:=(bq.out.fr F.out (fun x=>x)).lt;omega)
    ·exact((bw.out _ (ac.out.trans (by exact bj.out))).snoc (cd.out.aq (ac.out.trans bj.out))).cC aa bG.out
   have N:=af (M.out ae a1 aT aX J.out ((aj.out.trans cb.out).aw aa (fun i cm e=>by have bL:i=g5:=e;have:=aH.out;omega)) b9.out.1 b9.out.2 bF.out (fun k o=>by have:=ce.out k o;have:=ac.out.size;have:=bH.out;omega));clear am aa;go_wp2;exact bodyPost_ret (fG (fn:=Tryz.f31) (p:=5) (q:=4) (ty:=28) Tryz.results31 _ ae _ 28 [Value.pointer (some ⟨b,0,none⟩), .slice a1 aT aX].toArray (0,0) _ rfl a8.out Tryz.underlying28 rfl jf _ rfl) rfl N.out
  ·have J:Hid (eI L a=(32,L)):=K.out;clear K M av bm;go_upto_region 6 with fail;refine iU 2 [.agg [Value.pointer (some ⟨b,0,none⟩), .slice A n c].toArray, .int .i64 32] ?zJ ?_;case zJ=>
    refine⟨?zW,?yR,trivial⟩;all_goals intro u w' m g
    all_goals simp only[z1,z2,z3,z4,au,Act.put,z5,z6,z7,Nat.reduceAdd,Nat.zero_add]
    case zW=>
     refine aC ?_;exact az _ _ rfl ⟨g2,0,none⟩ rfl [Value.pointer (some ⟨b,0,none⟩), .slice A n c] _ (bJ.out _ (H.out.trans m)) Tryz.underlying28 rfl jf aG
    all_goals
     refine aC ?_;go_simp;exact aG
   intro w' m;simp only[z1,z2,z3,z4,au,Act.put,z5,z6,z7,z8,z9,iO,iP,Nat.reduceAdd,Nat.zero_add];have F:=af (H.out.trans m);have bK:=af (bq.out.fr F.out (fun x=>x));clear m;refine ai rfl 28 (.tmp 5) _ rfl g5 [Value.pointer (some ⟨b,0,none⟩), .slice A n c].toArray rfl rfl _ _ bK.out jf rfl cf.out ?_;intro ae am aa;have a8:=af am;have N:=af (y.out ae 32 J.out ((aj.out.trans F.out).aw aa (fun i cm e=>by have bL:i=g5:=e;have:=aH.out;omega)));clear am aa;go_wp2;exact bodyPost_ret (fG (fn:=Tryz.f31) (p:=5) (q:=4) (ty:=28) Tryz.results31 _ ae _ 28 [Value.pointer (some ⟨b,0,none⟩), .slice A n c].toArray (0,0) _ rfl a8.out Tryz.underlying28 rfl jf _ rfl) rfl N.out
 ·have R:gA a=false:=by simpa using D
  have a5:Hid (kD a= .tuple #[.string ByteArray.empty, .int .i64 3]):=by rw[Hid,kD,R];rfl
  have J:=af (xb (L:=L) R);rw[a5.out];clear D R a5 M bx bm aD bz;go_upto_region 3 with fail;have H:=ax;refine iU 3 [.int .i64 3, .agg [Value.pointer (some ⟨b,0,none⟩), .slice A n c].toArray, .int .i64 3] ?zK ?_;case zK=>
   refine⟨?yS,?zX,?zY,trivial⟩;all_goals intro u w' m g
   all_goals simp only[z1,z2,z3,z4,au,Act.put,z5,z6,z7,Nat.reduceAdd,Nat.zero_add]
   case zX=>
    refine aC ?_;exact az _ _ rfl ⟨g2,0,none⟩ rfl [Value.pointer (some ⟨b,0,none⟩), .slice A n c] _ (bJ.out _ (H.out.trans m)) Tryz.underlying28 rfl jf aG
   case' zY=>simp only[show u 0=_ from g 0]
   all_goals
    refine aC ?_;go_simp;exact aG
  intro w' m;simp only[z1,z2,z3,z4,au,Act.put,z5,z6,z7,z8,z9,iO,iP,Nat.reduceAdd,Nat.zero_add];have F:=af (H.out.trans m);have bK:=af (bq.out.fr F.out (fun x=>x));clear m;refine ai rfl 28 (.tmp 5) _ rfl g5 [Value.pointer (some ⟨b,0,none⟩), .slice A n c].toArray rfl rfl _ _ bK.out jf rfl cf.out ?_;intro ae am aa;have a8:=af am;have N:=af (y.out ae 3 J.out ((aj.out.trans F.out).aw aa (fun i cm e=>by have bL:i=g5:=e;have:=aH.out;omega)));clear am aa;go_wp2;exact bodyPost_ret (fG (fn:=Tryz.f31) (p:=5) (q:=4) (ty:=28) Tryz.results31 _ ae _ 28 [Value.pointer (some ⟨b,0,none⟩), .slice A n c].toArray (0,0) _ rfl a8.out Tryz.underlying28 rfl jf _ rfl) rfl N.out
end Go.Proofs.YtphjagkehiklkaaGreatDoor
namespace Go.Proofs.YtphjagkehiklkaaGreatDoor.Lt
open Go.RowKit
abbrev DP:=List UInt8×List UInt8
def dX(A B:List DP):Nat→Option (DP×DP)
 |0=>none
 |k+1=>if A.getD k ([],[])=B.getD k ([],[])then dX A B k else some (A.getD k ([],[]),B.getD k ([],[]))
theorem qY(A B:List DP)(a b:DP):∀k,k≤A.length→k≤B.length→dX (A++[a]) (B++[b]) k=dX A B k
 |0,_,_=>rfl
 |k+1,e,f=>by
  have c:(A++[a]).getD k ([],[])=A.getD k ([],[]):=by rw[List.getD_eq_getElem?_getD,List.getD_eq_getElem?_getD,List.getElem?_append_left (by omega)]
  have d:(B++[b]).getD k ([],[])=B.getD k ([],[]):=by rw[List.getD_eq_getElem?_getD,List.getD_eq_getElem?_getD,List.getElem?_append_left (by omega)]
  unfold dX;rw[c,d,qY A B a b k (by omega) (by omega)]
theorem yj(A B:List DP)(a b:DP)(n:Nat)(e:A.length=n)(f:B.length=n):dX (A++[a]) (B++[b]) (n+1)=if a=b then dX A B n else some (a,b):=by
 have c:(A++[a]).getD n ([],[])=a:=by rw[List.getD_eq_getElem?_getD,List.getElem?_append_right (by omega),e,Nat.sub_self];rfl
 have d:(B++[b]).getD n ([],[])=b:=by rw[List.getD_eq_getElem?_getD,List.getElem?_append_right (by omega),f,Nat.sub_self];rfl
 rw[dX,c,d,qY A B a b n (by omega) (by omega)]
def KJ(l c:List UInt8)(p d:List (List UInt8)):Option (DP×DP)→Prop
 |some (a,b)=>a≠b∧cF a.1 a.2=cF b.1 b.2
 |none=>l=c∧p=d
theorem jr(l e:List UInt8)(t:l.length=32)(m:e.length=32)(p c:List (List UInt8))(he:∀d∈p,d.length=32)(j:∀d∈c,d.length=32):∀(k:Nat)(pre:List Bool),pre.length=k→k≤p.length→k≤c.length→
  (cg l pre p).1=(cg e pre c).1→KJ l e (p.take k) (c.take k) (dX (cg l pre p).2 (cg e pre c).2 k)
 |0,pre,h,_,_,g=>by
  obtain rfl:=List.eq_nil_of_length_eq_zero h;exact⟨g,by simp⟩
 |k+1,pre,h,B,w,g=>by
  rcases List.eq_nil_or_concat pre with rfl|⟨a,b,rfl⟩;·simp at h
  ·rw[List.concat_eq_append]at h g⊢;rw[aY,List.length_singleton]at h;have o:a.length<p.length:=by omega
   have n:a.length<c.length:=by omega
   obtain⟨d,r⟩:∃d,p[a.length]? =some d:=⟨_,List.getElem?_eq_getElem o⟩;obtain⟨d',i⟩:∃d,c[a.length]? =some d:=⟨_,List.getElem?_eq_getElem n⟩;have f:a.length=k:=by omega
   rw[jn l a p b d r,jn e a c b d' i]at g⊢;have z:=jA l t p he a.length a rfl (by omega);have A:=jA e m c j a.length a rfl (by omega);unfold mI at g⊢;simp only at g⊢;rw[yj _ _ _ _ k (by rw[z.count,f]) (by rw[A.count,f])];have y:((if b=true then(cg l a p).1 else d,if b=true then d else(cg l a p).1):DP)=(if b=true then(cg e a c).1 else d',if b=true then d' else(cg e a c).1)→(cg l a p).1=(cg e a c).1∧d=d':=by
    intro heq;cases b;·simp only[Bool.false_eq_true,if_false,Prod.mk.injEq]at heq;exact⟨heq.2,heq.1⟩
    ·simp only[if_true,Prod.mk.injEq]at heq;exact heq
   by_cases heq:((if b=true then(cg l a p).1 else d,if b=true then d else(cg l a p).1):DP)=(if b=true then(cg e a c).1 else d',if b=true then d' else(cg e a c).1)
   ·rw[if_pos heq];have s:=y heq;have q:=jr l e t m p c he j k a f (by omega) (by omega) s.1;revert q;cases dX (cg l a p).2 (cg e a c).2 k with
    |some x=>exact fun q=>q
    |none=>
     rintro⟨u,v⟩;refine⟨u,?_⟩;rw[List.take_add_one,List.take_add_one,v,←f,r,i,s.2]
   ·rw[if_neg heq];exact⟨heq,g⟩
theorem Cs{a b c d:List UInt8}(i:a.length=32)(j:b.length=32)(k:c.length=32)(l:d.length=32)(h:dc 1 [a,b]=dc 1 [c,d]):a=c∧b=d:=by
 unfold dc at h;simp only[List.length_cons,List.length_nil,List.flatMap_cons,List.flatMap_nil,List.append_nil,i,j,k,l,List.cons.injEq,true_and]at h;have g:a++(de 32++b)=c++(de 32++d):=by
  have f:de 32++(a++(de 32++b))=de 32++(c++(de 32++d)):=by simpa[List.append_assoc]using h
  exact List.append_cancel_left f
 have e:=List.append_inj g (by omega);exact⟨e.1,List.append_cancel_left e.2⟩
theorem pN(a b:List UInt8):2≤(dc 1 [a,b]).length:=by simp[dc]
def je(c d:Int)(e rb:List UInt8)(A B:List DP):List UInt8×List UInt8×Bool:=
 if c=0∧d=0∧e=rb then
  (match dX A B A.length with
  |some (a,b)=>(dc 1 [a.1,a.2],dc 1 [b.1,b.2],true)
  |none=>([],[],false))
 else([],[],false)
theorem sO(A B:List DP):∀(k:Nat)(x:DP×DP),k≤A.length→k≤B.length→dX A B k=some x→x.1∈A∧x.2∈B
 |0,_,_,_,h=>by cases h
 |k+1,x,a,b,h=>by
  rw[dX]at h;split at h;·exact sO A B k x (by omega) (by omega) h
  ·obtain rfl:=Option.some.inj h;refine⟨?_,?_⟩;·show A.getD k ([],[])∈A;rw[List.getD_eq_getElem?_getD,List.getElem?_eq_getElem (by omega)];exact List.getElem_mem _
   ·show B.getD k ([],[])∈B;rw[List.getD_eq_getElem?_getD,List.getElem?_eq_getElem (by omega)];exact List.getElem_mem _
theorem Fs(l m:List UInt8)(E:l.length=32)(q:m.length=32)(p g:List (List UInt8))(he:∀d∈p,d.length=32)(o:∀d∈g,d.length=32)(v:p.length=g.length)(index n:Int)
  (V i:List UInt8×List DP×Int)(e:V=bj l index n p)(c:i=bj m index n g)(r:List UInt8×List UInt8×Bool)(f:r=je V.2.2 i.2.2 V.1 i.1 V.2.1 i.2.1):
  V.2.2=i.2.2∧(V.2.2≠0→r=([],[],false))∧(V.1≠i.1→r=([],[],false))∧(l=m∧p=g→r=([],[],false))∧
   (V.2.2=0→V.1=i.1→¬(l=m∧p=g)→r.2.2=true∧r.1≠r.2.1∧dt r.1=dt r.2.1∧r.1.length≤1000∧r.2.1.length≤1000):=by
 unfold bj at e c;rw[←v]at c;by_cases B:1≤n∧n≤1048576∧0≤index∧index<n
 ·rw[if_pos B]at e c;by_cases C:p.length=(bw index.toNat n.toNat).length
  ·rw[if_pos C]at e c;subst e c;simp only at f⊢;refine⟨by trivial,fun h=>absurd rfl h,fun h=>?_,fun h=>?_,fun _ D I=>?_⟩;·rw[f,je,if_neg (fun H=>h H.2.2)]
   ·obtain⟨rfl,rfl⟩:=h;have J:∀(A:List DP)k,dX A A k=none:=fun A k=>by
     induction k with
     |zero=>rfl
     |succ k K=>rw[dX,if_pos rfl,K]
    rw[f,je,if_pos ⟨rfl,rfl,rfl⟩,J]
   ·have y:=jA l E p he _ (bw index.toNat n.toNat) rfl (by omega);have F:=jA m q g o _ (bw index.toNat n.toNat) rfl (by omega);have s:=jr l m E q p g he o _ (bw index.toNat n.toNat) rfl (by omega) (by omega) D;rw[je,if_pos ⟨rfl,rfl,D⟩,y.count]at f;cases w:dX (cg l (bw index.toNat n.toNat) p).2 (cg m (bw index.toNat n.toNat) g).2 (bw index.toNat n.toNat).length with
    |none=>
     rw[w]at s;obtain⟨G,z⟩:=s;rw[List.take_of_length_le (by omega),List.take_of_length_le (by omega)]at z;exact absurd ⟨G,z⟩ I
    |some x=>
     obtain⟨a,b⟩:=x;rw[w]at s f;obtain⟨m1,m2⟩:=sO _ _ _ _ (by rw[y.count];exact Nat.le_refl _) (by rw[F.count];exact Nat.le_refl _) w;have t:=y.each a m1;have u:=F.each b m2;subst f;refine⟨rfl,fun h=>?_,s.2,?_,?_⟩;·have:=Cs t.1 t.2 u.1 u.2 h;exact s.1 (Prod.ext this.1 this.2)
     ·simp[dc,t.1,t.2,de]
     ·simp[dc,u.1,u.2,de]
  ·rw[if_neg C]at e c;subst e c;have j:r=([],[],false):=by rw[f,je,if_neg (fun h=>by simp at h)]
   exact⟨rfl,fun _=>j,fun _=>j,fun _=>j,fun h=>by simp at h⟩
 ·rw[if_neg B]at e c;subst e c;have j:r=([],[],false):=by rw[f,je,if_neg (fun h=>by simp at h)]
  exact⟨rfl,fun _=>j,fun _=>j,fun _=>j,fun h=>by simp at h⟩
end Go.Proofs.YtphjagkehiklkaaGreatDoor.Lt
