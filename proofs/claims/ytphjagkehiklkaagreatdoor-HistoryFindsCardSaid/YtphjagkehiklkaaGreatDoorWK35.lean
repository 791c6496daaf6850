/- Texts. -/
import Derived.Test.YtphjagkehiklkaaGreatDoorWK33
set_option linter.unusedVariables false
set_option linter.unusedSimpArgs false
set_option maxRecDepth 100000
set_option maxHeartbeats 8000000
namespace Go.Proofs.YtphjagkehiklkaaGreatDoor
open Go.RowKit Go.Shelf
section
variable{w w1 w2:World}{h b s g:Nat}{va vk:Value}{K:List Nat}{A:Option Addr}{c:Nat}{mb:Option Nat}{E:List Ent}{La Lk Ll Lg:List ActV}
theorem oJ{w:World}{k:Nat}{t:TypeId}{cs:Array Value}(a:aq w k t cs)(b:t≠177)(c:t≠174)(d:t≠119):fJ w (fun i=>i=k):=fun i e=>by
 obtain rfl:i=k:=e;exact⟨fun x=>b (a.ty.one x),fun x=>c (a.ty.one x),fun x=>d (a.ty.one x)⟩
theorem uq{w:World}{base n:Nat}{e:TypeId}{size:Nat}{v:Value}{xs:List Value}(f:w.ownsRow base e size v n xs)(a:e≠177)(b:e≠174)(c:e≠119):fJ w (fun i=>v.ownBlock=some i):=fun i d=>by
 have t:=iZ f d;exact⟨fun x=>a (t.one x),fun x=>b (t.one x),fun x=>c (t.one x)⟩
theorem dQ.Ik(d:dQ w h b s g va vk K A c mb E La Lk Ll Lg)(f:Fr (Lt.TB g A (Lg.length+1) c mb) w w1){l:Option Addr}{m:Nat}{j:Option Nat}{a:List ActV}(n:Lt.ec w1 g l (a.length+1) m j (cj E a) (Lt.bF (a.length+1))):
  dQ w1 h b s g va vk K l m j E La Lk Ll a:=by
 have ap:=d.apart;have cN:fJ w (Lt.TB g A (Lg.length+1) c mb):=fun k e=>d.cN k (.inr (.inr (.inr e)));exact⟨d.aH.fr f ap.1.2.2,d.base.cN f cN,d.kW.cN f cN (fun k e=>(ap.2.1 k e).2),aQ d.kept f (fun k e=>ap.2.2 k e),d.mA,fun i k e=>(d.rJ i k e).cN f cN,d.last.cN f cN,n⟩
theorem dQ.Ih(j:dQ w h b s g va vk K A c mb E La Lk Ll Lg)(f1:Fr (fun k=>va.ownBlock=some k) w w1){l:Value}{m:List ActV}(u:ko w1 l m)(r:∀k,l.ownBlock=some k→va.ownBlock=some k∨w.heap.size≤k)(f2:Fr (fun k=>k=h) w1 w2)
  (q:aq w2 h 111 #[.pointer (some ⟨b,0,none⟩),l,vk, .pointer (some ⟨s,0,none⟩), .pointer (some ⟨g,0,none⟩)]):dQ w2 h b s g l vk K A c mb E m Lk Ll Lg:=by
 have ap:=j.apart;obtain⟨cs,o,_⟩:=j.kW;have d:fJ w (fun i=>va.ownBlock=some i):=uq o (by decide) (by decide) (by decide);have n:=j.aH.fr f1 ap.1.1;have a:fJ w1 (fun i=>i=h):=oJ n (by decide) (by decide) (by decide);have t:=j.aH.lt;refine⟨q,(j.base.cN f1 d).cN f2 a,u.cN f2 a (fun k f e=>?_),aQ (aQ j.kept f1 (fun k f e=>(ap.2.1 k e).1 f)) f2 (fun k f e=>?_),j.mA,fun i k f=>((j.rJ i k f).cN f1 d).cN f2 a,(j.last.cN f1 d).cN f2 a,
  jQ (jQ j.log f1 (fun k f e=>(ap.2.1 k e).2 f)) f2 (fun k f e=>?_)⟩
 ·obtain rfl:k=h:=e;rcases r k f with p|p;·exact ap.1.1 p
  ·omega
 ·obtain rfl:k=h:=e;exact ap.1.2.1 f
 ·obtain rfl:k=h:=e;exact ap.1.2.2 f
theorem dQ.Ij(d:dQ w h b s g va vk K A c mb E La Lk Ll Lg)(f2:Fr (fun k=>k=h) w w2){l:Nat}{j:List ActV}(n:ft w l (fT j E))
  (m:aq w2 h 111 #[.pointer (some ⟨b,0,none⟩),va,vk, .pointer (some ⟨l,0,none⟩), .pointer (some ⟨g,0,none⟩)]):dQ w2 h b l g va vk K A c mb E La Lk j Lg:=by
 have ap:=d.apart;have a:fJ w (fun i=>i=h):=oJ d.aH (by decide) (by decide) (by decide);refine⟨m,d.base.cN f2 a,d.kW.cN f2 a (fun k f e=>?_),aQ d.kept f2 (fun k f e=>?_),d.mA,fun i k f=>(d.rJ i k f).cN f2 a,n.cN f2 a,jQ d.log f2 (fun k f e=>?_)⟩;·obtain rfl:k=h:=e;exact ap.1.1 f
 ·obtain rfl:k=h:=e;exact ap.1.2.1 f
 ·obtain rfl:k=h:=e;exact ap.1.2.2 f
theorem dQ.Ii(l:dQ w h b s g va vk K A c mb E La Lk Ll Lg)(f1:Fr (fun k=>vk.ownBlock=some k) w w1){j:Value}{n:List Nat}{m:List ActV}(x:w1.ownsRow 0 25 1 j n.length (n.map fun k=>Value.pointer (some ⟨k,0,none⟩)))(t:∀k,j.ownBlock=some k→vk.ownBlock=some k∨w.heap.size≤k)
  (v:n.length=m.length/16)(p:∀i k,n[i]? =some k→ft w k (fT (m.take (16*(i+1))) E))(f2:Fr (fun k=>k=h) w1 w2)
  (r:aq w2 h 111 #[.pointer (some ⟨b,0,none⟩),va,j, .pointer (some ⟨s,0,none⟩), .pointer (some ⟨g,0,none⟩)]):dQ w2 h b s g va j n A c mb E La m Ll Lg:=by
 have ap:=l.apart;have a:fJ w (fun i=>vk.ownBlock=some i):=uq l.kept (by decide) (by decide) (by decide);have o:=l.aH.fr f1 ap.1.2.1;have d:fJ w1 (fun i=>i=h):=oJ o (by decide) (by decide) (by decide);have u:=l.aH.lt;refine⟨r,(l.base.cN f1 a).cN f2 d,(l.kW.cN f1 a (fun k f e=>(ap.2.1 k f).1 e)).cN f2 d (fun k f e=>?_),aQ x f2 (fun k f e=>?_),v,fun i k f=>((p i k f).cN f1 a).cN f2 d,(l.last.cN f1 a).cN f2 d,
  jQ (jQ l.log f1 (fun k f e=>ap.2.2 k e f)) f2 (fun k f e=>?_)⟩;·obtain rfl:k=h:=e;exact ap.1.1 f
 ·obtain rfl:k=h:=e;rcases t k f with q|q;·exact ap.1.2.1 q
  ·omega
 ·obtain rfl:k=h:=e;exact ap.1.2.2 f
end
def yD(w:World)(h:Nat)(E:List Ent)(L:List ActV)(T:Nat→Prop)(a:ActV)(e:Ending)(w':World):Prop:=∃T',e= .returned (.int .i64 (eY L a).1)∧fK w' h E (eY L a).2 T'∧Fr T w w'∧∀k,T' k→T k∨w.heap.size≤k
theorem xi:(Tryz.prog.info? 46).map (fun i=>(i.zero,i.size,i.bytes))=some (some fH,6,88):=by kernel_rfl
theorem Gd:(Tryz.prog.info? 25).map (fun i=>(i.zero,i.size,i.bytes))=some (some (.pointer none),1,8):=by kernel_rfl
theorem ET:(Tryz.prog.info? 26).map (·.size)=some 1:=by kernel_rfl
theorem EV:(Tryz.prog.info? 108).map (·.size)=some 1:=by kernel_rfl
theorem Hi:(Tryz.prog.info? 25).map (·.size)=some 1:=by kernel_rfl
theorem wu{L:List ActV}{a:ActV}(h:gm a=false):eY L a=(3,L):=by unfold eY;rw[if_pos h]
theorem yM{L:List ActV}{a:ActV}(h:gm a=true)(B:Bool)(q:Nat)(d:ActV)(i:0<L.length→q=L.length-1∧L[q]? =some d)(e:B=(decide (0<L.length)&&decide (gD a.key d.key≤0))):eY L a=if B=true then(32,L)else(0,L++[a]):=by
 unfold eY;rw[if_neg (by rw[h];decide)];by_cases b:0<L.length
 ·obtain⟨g,f⟩:=i b;rw[g]at f;rw[List.getLast?_eq_getElem?,f];simp only;have j:=tY.lS a.key d.key;subst e;by_cases c:gD a.key d.key≤0;·rw[decide_eq_true b,decide_eq_true c];rw[if_pos c];rfl
  ·rw[decide_eq_true b,decide_eq_false c];rw[if_neg c];rfl
 ·obtain rfl:L=[]:=List.eq_nil_of_length_eq_zero (by omega);rw[decide_eq_false b,Bool.false_and]at e;subst e;rfl
theorem qw(h:Nat)(E:List Ent)(L:List ActV)(T:Nat→Prop)(a:ActV)(cs:List Value)(w:World)(eb:fK w h E L T)(cy:df w cs a)(dW:eE w)(dg:bB w)(bQ:Gv a)(cH:∀b∈L,b.key.fA.size≤1099511627776)(cP:L.length<65536)(cF:gm a=true→(dk a).length<4294960000)
  (bA:∀k,k=1∨k=2→¬T k)
  (cz:gm a=true→∀w' s,Fr ag w w'→ft w' s (fT L E)→Calls Tryz.prog 86 #[.agg cs.toArray, .pointer (some ⟨s,0,none⟩)] w' (mF w' (fT L E) a.writes)):
  Calls Tryz.prog 32 #[.pointer (some ⟨h,0,none⟩), .agg cs.toArray] w (yD w h E L T a):=by
 obtain⟨b,s,g,va,vk,K,A,c,mb,bb,rfl⟩:=eb;obtain⟨ak,V,bO⟩:=bb.kW;obtain⟨y,n1,C,rfl,H1,_⟩:=aU V;obtain⟨I,N,J,rfl,eu,_⟩:=aU bb.kept;have bn:=af bb;have cY:=af cy;have cZ:=af bO;have c2:=af V;have b8:=af cz;have cC:=cy.len;have c1:=af cC;have d3:=af bA;have ci:Hid (a.reads.length≤60000∧a.writes.length≤60000):=⟨bQ.nr,bQ.nw⟩;have ae:Hid (∀k,HB h (.slice y n1 C) (.slice I N J) g A (L.length+1) c mb k→k<w.heap.size):=fK.lt ⟨b,s,g,_,_,K,A,c,mb,bb,rfl⟩;have d0:Hid (∀w',Fr ag w w'→Calls Tryz.prog 55 #[.pointer (some ⟨h,0,none⟩)] w' (aY w' (.bool false))):=fun w' f=>kQ w' h b ((bb.aH.fr f (fun x=>x)).cell 0);have dx:Hid (∀w',Fr ag w w'→Calls Tryz.prog 18 #[.agg cs.toArray] w' (aJ w' (kr a))):=fun w' f=>rp a cs w' (dW.ar f) (cy.ar f) bQ;have dZ:Hid (∀w',Fr ag w w'→Calls Tryz.prog 87 #[.agg cs.toArray] w' (qu w' a)):=fun w' f=>sw a cs w' (cy.ar f) (by have:=bQ.nr;omega) (by have:=bQ.nw;omega);have Z:Hid (L.length<65536∧n1=L.length):=⟨cP,H1.out⟩;have b0:Hid (∀w',Fr ag w w'→gm a=true→Calls Tryz.prog 59 #[.string ⟨(dk a).toArray⟩] w' (aJ w' (aE (dV (dk a))))):=fun w' f cD=>by
  have e:aR ⟨(dk a).toArray⟩=dk a:=rY _;have h:=uz ⟨(dk a).toArray⟩ w' (dg.ar f) (by
   have H:=cF cD;have bx:=aO ⟨(dk a).toArray⟩;rw[e]at bx;omega);rw[e]at h;exact h
 have b1:Hid (∀w',Fr ag w w'→Calls Tryz.prog 84 #[.pointer (some ⟨g,0,none⟩),aE (dV (dk a))] w' (Lt.mE w' g A (L.length+1) c mb (cj E L) (dV (dk a)))):=fun w' f=>
  Lt.se g A (L.length+1) c mb (cj E L) (dV (dk a)) w' (bb.ar f).log (jL _) (by omega) (dg.ar f) (fun k p eg=>bA k p (.inr (.inr (.inr eg))));obtain⟨q,cQ⟩:∃q:Nat,L.length-1=q:=⟨_,rfl⟩;obtain⟨ax,d,ai⟩:∃(ax:Addr)(d:ActV),Hid (0<L.length→y=some ax∧L[q]? =some d∧∀j x,d.key.cells[j]? =some x→w.cell? ((ax.add (q*6)).add j)=some x):=by
  by_cases d6:0<L.length;·obtain⟨ev,d4,bT,ej,ek,el⟩:=eB.at_ (k:=q) bO (by omega);obtain⟨ax,dd,_,bG⟩:=(Rd.ib (H1.out▸V)).2 (by omega);refine⟨ax,d4,fun _=>⟨dd,ej,fun j x ao=>?_⟩⟩;rw[iq];refine bG _ x (el j x ?_);obtain⟨en,et,rfl,_⟩:=ek;rw[List.getElem?_append_left (List.getElem?_eq_some_iff.1 ao).1];exact ao
  ·exact⟨⟨0,0,none⟩,a,fun h=>absurd h d6⟩
 have dI:Hid (0<L.length→(n1:Int)-1=(q:Int)):=fun h=>by have:=H1.out;omega
 have bq:Hid (0<L.length→q<n1):=fun h=>by have:=H1.out;omega
 have dy:Hid (0<L.length→∀w',Calls Tryz.prog 85 #[.agg a.key.cells.toArray, .agg d.key.cells.toArray] w' (aJ w' (.int .i64 (gD a.key d.key)))):=fun h w'=>od _ _ w' (by have:=bQ.fA;omega) (cH d (List.mem_of_getElem? (ai.out h).2.1));have b6:Hid (gm a=true→∀B:Bool,B=(decide (0<L.length)&&decide (gD a.key d.key≤0))→eY L a=if B=true then(32,L)else(0,L++[a])):=fun cD B cM=>yM cD B q d (fun h=>⟨cQ.symm,(ai.out h).2.1⟩) cM;have S:Hid (∀w' c8,eY L a=(c8,L)→Fr ag w w'→yD w h E L (HB h (.slice y n1 C) (.slice I N J) g A (L.length+1) c mb) a (.returned (.int .i64 c8)) w'):=fun w' c8 e f=>⟨_,by rw[e],by rw[e];exact⟨b,s,g,_,_,K,A,c,mb,bb.ar f,rfl⟩,f.bP,fun k p=> .inl p⟩;clear cy dW dg bQ cH cP bA cz bO V cQ cC cF bb;go_enter Tryz.func32,Tryz.ntmps32;go_wp2_with(refine aA rfl 46 (.tmp 1) rfl cs.toArray rfl ?_);intro w1 bU;have b2:=af bU.fr;have cJ:=af bU.aH;clear bU;have c0:Hid (w.heap.size≤w.heap.size):=Nat.le_refl _;generalize cA:w.heap.size=ab at cJ⊢;have cb:Hid (w.heap.size≤ab):=by rw[Hid,cA];exact Nat.le_refl _
 clear cA c0;go_wp2_with fail;refine(d0.out _ b2.out).mono ?_;rintro e w'⟨rfl,rfl⟩;have bu:=(bn.out.aH.fr b2.out (fun x=>x)).cell 1;simp only[bR,List.getElem?_cons_succ,List.getElem?_cons_zero]at bu;have t1:decide ((65536:Int)≤(n1:Int))=false:=ct (by have:=Z.out;omega);have eo:¬(65536:Int)≤(n1:Int):=by have:=Z.out;omega
 have c3:Hid ((Tryz.prog.info? 46).map (·.size)=some cs.length):=by rw[Hid,c1.out];exact bZ
 have aL:Hid (∀W,aq W ab 46 cs.toArray→∀j x,cs[j]? =some x→W.cell? ((⟨ab,0,none⟩:Addr).add j)=some x):=fun W dh j x ao=>by
  rw[Addr.add_mid,Nat.zero_add,dh.cell j,bR];exact ao
 go_wp2_with(refine aF rfl 46 (.tmp 3) rfl ⟨ab,0,none⟩ rfl cs _ ?zP Tryz.underlying46 rfl c3.out (bj.go ?zQ));case zP=>exact aL.out _ cJ.out
 unfold bj;go_wp2_with fail;refine(dx.out _ b2.out).mono ?_;rintro e w2⟨rfl,f2⟩;have bV:=af (b2.out.trans f2);have cW:=af (cJ.out.fr f2 (fun x=>x));clear f2 dx b2 cJ bu;cases ac:gm a
 ·have ca:Hid (kr a= .tuple #[.string ByteArray.empty, .int .i64 3]):=by rw[Hid,kr,ac];rfl
  have br:=af (S.out w2 3 (wu ac) bV.out);rw[ca.out];clear ac ca;go_wp2;go_ret;exact br.out
 have ca:Hid (kr a= .tuple #[.string ⟨(dk a).toArray⟩, .int .i64 0]):=by rw[Hid,kr,ac];rfl
 have aP:=af ac;rw[ca.out];clear ac ca;have bu:=(bn.out.aH.fr bV.out (fun x=>x)).cell 1;simp only[bR,List.getElem?_cons_succ,List.getElem?_cons_zero]at bu;have c5:Hid (∀W,Fr ag w W→W.cell? {block:=h,off:=1}=some (.slice y n1 C)∧W.cell? {block:=h,off:=3}=some (.pointer (some ⟨s,0,none⟩))∧W.cell? {block:=h,off:=4}=some (.pointer (some ⟨g,0,none⟩))):=fun W f=>⟨(bn.out.aH.fr f (fun x=>x)).cell 1,(bn.out.aH.fr f (fun x=>x)).cell 3,(bn.out.aH.fr f (fun x=>x)).cell 4⟩;have cT:Hid (∀W,aq W ab 46 cs.toArray→∀j x,a.key.cells[j]? =some x→W.cell? ((⟨ab,0,none⟩:Addr).add j)=some x):=fun W dh j x ao=>by
  obtain⟨en,et,e,_⟩:=cY.out;refine aL.out W dh j x ?_;rw[e,List.getElem?_append_left (List.getElem?_eq_some_iff.1 ao).1];exact ao
 obtain⟨P,dS⟩:∃z:Bool,decide (0<L.length)=z:=⟨_,rfl⟩;obtain⟨Q,dT⟩:∃z:Bool,decide (gD a.key d.key≤0)=z:=⟨_,rfl⟩;have be:=af dS;have EQ:=af dT;have cl:Hid (decide (0<n1)=P):=by
  rw[Hid,←be.out];exact decide_eq_decide.2 (by have:=Z.out;omega)
 have cS:Hid (∀W,Fr ag w W→Calls Tryz.prog 86 #[.agg cs.toArray, .pointer (some ⟨s,0,none⟩)] W (fun e W'=>∃R,e= .returned (.tuple #[.pointer (some ⟨R,0,none⟩), .int .i64 0])∧ft W' R (fT (L++[a]) E)∧Fr ag W W')):=fun W f=>by
  refine(b8.out aP.out W s f (bn.out.ar f).last).mono ?_;rintro e er⟨ez,ex,rfl,f5,bD⟩;rcases bD with⟨_,rfl,R,rfl,d8⟩|⟨⟨x,ao,cD⟩,_⟩;·exact⟨R,rfl,by rw[uT];exact d8,f5⟩
  ·have H:=aP.out;simp only[gm,Bool.and_eq_true]at H;have bx:=j9 H.2 x ao;simp only[jn,cD,Bool.false_and]at bx;cases bx
 have bs:Hid (0<L.length→y=some ax):=fun p=>(ai.out p).1;clear dS dT;obtain⟨B,cM⟩:∃z:Bool,(bif P then Q else false)=z:=⟨_,rfl⟩;have HB:=af cM;clear cM;go_upto_region 9 with fail;refine jS 17 [.int .i64 (n1:Int), .bool P, .bool P,bif P then .pointer (some ⟨ab,0,none⟩)else undef,bif P then .agg a.key.cells.toArray else undef,bif P then .pointer (some ⟨h,0,none⟩)else undef,bif P then .pointer (some ⟨h,0,none⟩)else undef,bif P then .pointer (some ⟨h,1,none⟩)else undef,bif P then .slice y n1 C else undef,bif P then .int .i64 (n1:Int)else undef,bif P then .int .i64 (q:Int)else undef,bif P then .pointer (some (ax.add (q*6)))else undef,bif P then .pointer (some (ax.add (q*6)))else undef,bif P then .agg d.key.cells.toArray else undef,bif P then .int .i64 (gD a.key d.key)else undef,bif P then .bool Q else undef, .bool B] ?zR ?_;case zR=>
  refine⟨?yU,?zU,?zV,?zW,?zX,?zY,?zZ,?yA,?yB,?yC,?zH,?zI,?zJ,?zK,?zL,?zM,?zN,trivial⟩;all_goals intro u w' r o
  all_goals simp only[z1,z2,z3,z4,ay,Act.put,z5,z6,z7,Nat.reduceAdd,Nat.zero_add]
  case zU=>
   simp only[show u 0=_ from o 0];refine aG ?_;have t:=cl.out;go_simp;exact aM
  case' zV=>simp only[show u 1=_ from o 1]
  case' zW=>
   simp only[show u 2=_ from o 2];cases P;case false=>exact bE
  case zX=>
   simp only[show u 3=_ from o 3,show u 2=_ from o 2];cases P;case false=>exact bE
   refine aG ?_;exact az _ _ rfl ⟨ab,0,none⟩ rfl a.key.cells _ (cT.out _ (cW.out.fr r (fun x=>x))) Tryz.underlying43 rfl fP aM
  case' zY=>
   simp only[show u 2=_ from o 2];cases P;case false=>exact bE
  case' zZ=>
   simp only[show u 5=_ from o 5,show u 2=_ from o 2];cases P;case false=>exact bE
  case' yA=>
   simp only[show u 6=_ from o 6,show u 2=_ from o 2];cases P;case false=>exact bE
  case yB=>
   simp only[show u 7=_ from o 7,show u 2=_ from o 2];cases P;case false=>exact bE
   refine aG ?_;have q:=(c5.out _ (bV.out.trans r)).1;go_simp;exact aM
  case' yC=>
   simp only[show u 2=_ from o 2];cases P;case false=>exact bE
  case zH=>
   simp only[show u 9=_ from o 9,show u 2=_ from o 2];cases P;case false=>exact bE
   refine aG ?_;have p:=of_decide_eq_true be.out;have cK:(n1:Int)-1=(q:Int):=dI.out p;have bw:IntKind.i64.wrap (q:Int)=(q:Int):=IntWalk.i64_in _ (by have:=Z.out;have:=bq.out p;omega);go_simp;exact aM
  case zI=>
   simp only[show u 8=_ from o 8,show u 10=_ from o 10,show u 2=_ from o 2];cases P;case false=>exact bE
   refine aG ?_;have p:=of_decide_eq_true be.out;have cK:y=some ax:=bs.out p;have bw:(q:Int)<(n1:Int):=by have:=bq.out p;omega
   have cL:(0:Int)≤(q:Int):=by omega
   clear bs;subst cK;go_simp;exact aM
  case' zJ=>
   simp only[show u 11=_ from o 11,show u 2=_ from o 2];cases P;case false=>exact bE
  case zK=>
   simp only[show u 12=_ from o 12,show u 2=_ from o 2];cases P;case false=>exact bE
   refine aG ?_;have p:=of_decide_eq_true be.out;exact az _ _ rfl (ax.add (q*6)) rfl d.key.cells _ (fun ei v eh=>(bV.out.trans r).an ((ai.out p).2.2 ei v eh) (fun x=>x)) Tryz.underlying43 rfl fP aM
  case zL=>
   simp only[show u 4=_ from o 4,show u 13=_ from o 13,show u 2=_ from o 2];cases P;case false=>exact bE
   refine aG ?_;have p:=of_decide_eq_true be.out;go_simp;refine(dy.out p _).mono ?_;rintro e dv⟨rfl,f4⟩;exact⟨rfl,f4⟩
  case zM=>
   simp only[show u 14=_ from o 14,show u 2=_ from o 2];cases P;case false=>exact bE
   refine aG ?_;have t:=EQ.out;go_simp;exact aM
  case zN=>
   simp only[show u 2=_ from o 2,show u 15=_ from o 15];cases P<;>exact aG (by go_simp;exact⟨by rw[←HB.out];rfl,aD⟩)
  all_goals
   try simp only[cond]
   refine aG ?_;go_simp;exact aM
 intro w' r;simp only[z1,z2,z3,z4,ay,Act.put,z5,z6,z7,z8,z9,jx,jy,Nat.reduceAdd,Nat.zero_add];have b3:=af (bV.out.trans r);have cX:=af (cW.out.fr r (fun x=>x));clear r bV cW bu;have aN:Hid (eY L a=if B=true then(32,L)else(0,L++[a])):=b6.out aP.out B (by
  rw[be.out,EQ.out,←HB.out];cases P<;>rfl);clear HB be EQ cl dy ai b6 bs dI bq;cases a1:B;case true=>
  have br:=af (S.out w' 32 (by rw[aN.out,a1];rfl) b3.out);clear a1 aN;go_wp2;go_ret;exact br.out
 have bk:Hid (eY L a=(0,L++[a])):=by rw[Hid,aN.out,a1];rfl
 clear a1 aN S;generalize w'=w3 at*;go_upto_region 11 with fail;refine yw 11 [iS (.agg cs.toArray),iS (.pointer (some ⟨h,0,none⟩)),iS (.pointer (some ⟨h,0,none⟩)),iS (.pointer (some ⟨h,3,none⟩)),iS (.pointer (some ⟨s,0,none⟩)),⟨fun v X=>∃i:Nat,v= .tuple #[.pointer (some ⟨i,0,none⟩), .int .i64 0]∧ft X i (fT (L++[a]) E),fun _ _ _ f h=>(by obtain⟨i,e,h⟩:=h;exact⟨i,e,h.ar f⟩)⟩,⟨fun v X=>∃i:Nat,v= .tuple #[.pointer (some ⟨i,0,none⟩), .int .i64 0]∧ft X i (fT (L++[a]) E),fun _ _ _ f h=>(by obtain⟨i,e,h⟩:=h;exact⟨i,e,h.ar f⟩)⟩,⟨fun v X=>∃i:Nat,v= .pointer (some ⟨i,0,none⟩)∧ft X i (fT (L++[a]) E),fun _ _ _ f h=>(by obtain⟨i,e,h⟩:=h;exact⟨i,e,h.ar f⟩)⟩,iS (.int .i64 0),⟨fun v X=>∃i:Nat,v= .pointer (some ⟨i,0,none⟩)∧ft X i (fT (L++[a]) E),fun _ _ _ f h=>(by obtain⟨i,e,h⟩:=h;exact⟨i,e,h.ar f⟩)⟩,iS (.int .i64 0)] ?zS ?_;case zS=>
  refine⟨?yE,?yV,?yF,?yG,?yH,?yI,?yJ,?yK,?yL,?yN,?zO,trivial⟩;all_goals intro u w' r o
  all_goals simp only[z1,z2,z3,z4,ay,Act.put,z5,z6,z7,Nat.reduceAdd,Nat.zero_add]
  case yE=>
   refine aG ?_;exact az _ _ rfl ⟨ab,0,none⟩ rfl cs _ (aL.out _ (cX.out.fr r (fun x=>x))) Tryz.underlying46 rfl c3.out ⟨_,rfl,aD,rfl⟩
  case' yF=>simp only[show u 1=_ from o 1]
  case' yG=>simp only[show u 2=_ from o 2]
  case yH=>
   simp only[show u 3=_ from o 3];refine aG ?_;have q:=(c5.out _ (b3.out.trans r)).2.1;go_simp;exact⟨_,rfl,aD,rfl⟩
  case yI=>
   simp only[show u 0=_ from o 0,show u 4=_ from o 4];refine aG ?_;go_simp;refine(cS.out _ (b3.out.trans r)).mono ?_;rintro e dv⟨i,rfl,cO,f4⟩;exact⟨_,rfl,f4,⟨i,rfl,cO⟩⟩
  case yJ=>
   obtain⟨i5,cK,d9⟩:=o 5;simp only[cK];refine aG ?_;go_simp;exact⟨_,rfl,aD,⟨i5,rfl,d9⟩⟩
  case yK=>
   obtain⟨i6,bw,cv⟩:=o 6;simp only[bw];refine aG ?_;go_simp;exact⟨_,rfl,aD,⟨i6,rfl,cv⟩⟩
  case yL=>
   obtain⟨i6,bw,cv⟩:=o 6;simp only[bw];refine aG ?_;go_simp;exact⟨_,rfl,aD,rfl⟩
  case yN=>
   obtain⟨i7,cL,cw⟩:=o 7;simp only[cL];refine aG ?_;go_simp;exact⟨_,rfl,aD,⟨i7,rfl,cw⟩⟩
  case' zO=>simp only[show u 8=_ from o 8]
  all_goals
   refine aG ?_;go_simp;exact⟨_,rfl,aD,rfl⟩
 intro u w' r o;have ea:=o 9 (by omega);simp only[z1,z2,z3,z4,ay,Act.put,z5,z6,z7,z8,z9,Nat.reduceAdd,Nat.zero_add,show u 10=_ from o 10 (by omega)];clear o;obtain⟨R,dR,cE⟩:=ea;simp only[dR];have b4:=af (b3.out.trans r);have dA:=af (cX.out.fr r (fun x=>x));have dK:=af cE;clear r cE dR b3 cX b8;have dG:Hid (Fr ag w w'):=b4.out;generalize w'=er at*;have d2:Hid (∀W,Fr ag w W→df W cs a):=fun W f=>cY.out.ar f;obtain⟨cr,bC⟩:∃cr,(dV (dk a)).map aS=cr:=⟨_,rfl⟩;have a7:Hid (∀w',Fr ag w w'→Calls Tryz.prog 59 #[.string ⟨(dk a).toArray⟩] w' (aJ w' (.agg cr.toArray))):=fun w' f=>by rw[←bC];exact b0.out w' f aP.out
 have a8:Hid (∀w',Fr ag w w'→Calls Tryz.prog 84 #[.pointer (some ⟨g,0,none⟩), .agg cr.toArray] w' (Lt.mE w' g A (L.length+1) c mb (cj E L) (dV (dk a)))):=fun w' f=>by rw[←bC];exact b1.out w' f
 clear bC b0 b1;generalize(⟨(dk a).toArray⟩:ByteArray)=ep at*;go_upto_region 14 with fail;refine jS 6 [.pointer (some ⟨h,0,none⟩), .pointer (some ⟨h,0,none⟩), .pointer (some ⟨h,4,none⟩), .pointer (some ⟨g,0,none⟩), .string ep, .agg cr.toArray] ?zT ?_;case zT=>
  refine⟨?yW,?yO,?yP,?yQ,?yX,?yR,trivial⟩;all_goals intro u w' r o
  all_goals simp only[z1,z2,z3,z4,ay,Act.put,z5,z6,z7,Nat.reduceAdd,Nat.zero_add]
  case' yO=>simp only[show u 0=_ from o 0]
  case' yP=>simp only[show u 1=_ from o 1]
  case yQ=>
   simp only[show u 2=_ from o 2];refine aG ?_;have q:=(c5.out _ (b4.out.trans r)).2.2;go_simp;exact aM
  case yR=>
   simp only[show u 4=_ from o 4];refine aG ?_;go_simp;refine(a7.out _ (b4.out.trans r)).mono ?_;rintro e dv⟨rfl,f4⟩;exact⟨rfl,f4⟩
  all_goals
   refine aG ?_;go_simp;exact aM
 intro w' r;simp only[z1,z2,z3,z4,ay,Act.put,z5,z6,z7,z8,z9,jx,jy,Nat.reduceAdd,Nat.zero_add];have bg:=af (b4.out.trans r);have dB:=af (dA.out.fr r (fun x=>x));have dL:=af (dK.out.ar r);clear r b4 dA dK;generalize w'=es at*;go_wp2_with fail;refine(a8.out _ bg.out).mono ?_;rintro e au⟨rfl,av,aB,F,dU,M,am⟩;have bo:=af (bn.out.ar bg.out);have co:Lt.ec au g av ((L++[a]).length+1) aB F (cj E (L++[a])) (Lt.bF ((L++[a]).length+1)):=by
  rw[BM,bh];exact dU
 have bp:Hid (dQ au h b s g (.slice y n1 C) (.slice I N J) K av aB F E L L L (L++[a])):=bo.out.Ik M co;have U:fJ es (Lt.TB g A (L.length+1) c mb):=fun k p=>bo.out.cN k (.inr (.inr (.inr p)));have cm:Hid (∀k,Lt.TB g A (L.length+1) c mb k→k<w.heap.size):=fun k p=>ae.out k (.inr (.inr (.inr p)));have cg:Hid (∀k,Lt.TB g av ((L++[a]).length+1) aB F k→Lt.TB g A (L.length+1) c mb k∨w.heap.size≤k):=fun k p=>by
  rw[bh]at p;exact(am k p).imp id (fun h=>Nat.le_trans bg.out.size h)
 have cV:Hid (Fr (HB h (.slice y n1 C) (.slice I N J) g A (L.length+1) c mb) w au):=bg.out.bP.trans (M.mono (fun i _ p=> .inr (.inr (.inr p))));have dC:=af (dB.out.fr M (fun e=>by have:=cm.out ab e;have:=cb.out;omega));have dM:=af (dL.out.cN M U);have b5:=af ((cY.out.ar bg.out).cN M U);have a9:=af ((cZ.out.cN bg.out (fJ.nothing w)).cN M U);have bt:=bo.out.apart;have aW:Hid (au.ownsRow 0 46 6 (.slice y n1 C) L.length ak.flatten):=aQ (aQ c2.out bg.out (fun _ _ x=>x)) M (fun k p=>(bt.2.1 k p).2);have bl:=af bp.out.aH;have cp:Hid (¬(Value.slice y n1 C).ownBlock=some h):=bt.1.1;have c4:Hid (¬(Value.slice y n1 C).ownBlock=some ab):=fun e=>by have:=ae.out ab (.inr (.inl e));have:=cb.out;omega
 have aV:Hid (∀k,(Value.slice y n1 C).ownBlock=some k→k<au.heap.size):=fun k p=>mh aW.out p;have bm:Hid (fJ au (fun k=>(Value.slice y n1 C).ownBlock=some k)):=uq aW.out (by decide) (by decide) (by decide);have bY:Hid (∀W,Fr (fun k=>(Value.slice y n1 C).ownBlock=some k) au W→Calls Tryz.prog 87 #[.agg cs.toArray] W (qu W a)):=fun W f=>sw a cs W (b5.out.cN f bm.out) (by have:=ci.out;omega) (by have:=ci.out;omega);obtain⟨i0,cB,cG,a4,dq⟩:=info_parts xi;have c9:Hid (¬1*i0.size>2^24):=by simp only[Hid];rw[a4];omega
 have db:Hid (¬1*i0.size=0):=by simp only[Hid];rw[a4];omega
 have dc:Hid (∀ds:List Value,ds.length=6→Instr.fill (fun i=>some (i*i0.size,i0.size)) ((Array.range (1*i0.size)).map (fH.cells[· %fH.cells.size]!)) [(0, .agg ds.toArray)]=some ds.toArray):=fun ds di=>by rw[a4];exact Lt.pt _ _ 6 (by simpa using di) (by simp[fH,Value.cells])
 clear dU M am co U bt a8 a7 dB dL dZ;go_upto_region 17 with fail;refine vX 9 (fun k=>(Value.slice y n1 C).ownBlock=some k) [Is (.pointer (some ⟨h,0,none⟩)),Is (.pointer (some ⟨h,0,none⟩)),Is (.pointer (some ⟨h,0,none⟩)),Is (.pointer (some ⟨h,1,none⟩)),Is (.slice y n1 C),Is (.agg cs.toArray),fun x X=>∃ds:List Value,x= .agg ds.toArray∧df X ds a∧ke au.heap.size ds,fun x X=>∃(i:Nat)(ds:List Value),x= .slice (some ⟨i,0,none⟩) 1 1∧aq X i 46 ds.toArray∧au.heap.size≤i∧df X ds a∧ke au.heap.size ds,fun x X=>∃ds:List Value,df X ds a∧X.ownsRow 0 46 6 x (L.length+1) (ak.flatten++ds)∧∀k,x.ownBlock=some k→(Value.slice y n1 C).ownBlock=some k∨au.heap.size≤k] [(8,fun _=>True)] (fun X=>X.ownsRow 0 46 6 (.slice y n1 C) L.length ak.flatten) (fun _ _=>false) (by kernel_rfl) (by kernel_rfl) (by kernel_rfl) (by kernel_rfl) (fun i=>i==8) (by rfl) ⟨Is.ah _,Is.ah _,Is.ah _,Is.ah _,Is.ah _,Is.ah _,fun _ _ _ _ r⟨ds,h,k,n⟩=>⟨ds,h,k.xA n (show Fr (fun k=>(Value.slice y n1 C).ownBlock=some k) _ _ from r) aV.out,n⟩,fun _ _ _ _ r⟨i,ds,h,b,l,k,n⟩=>⟨i,ds,h,b.fr (show Fr (fun k=>(Value.slice y n1 C).ownBlock=some k) _ _ from r) (fun t=>by have:=aV.out i t;omega),l,k.xA n (show Fr (fun k=>(Value.slice y n1 C).ownBlock=some k) _ _ from r) aV.out,n⟩,fun _ _ _ _ r⟨ds,H,bx,d7⟩=>⟨ds,H.ar (show Fr ag _ _ from r),aQ bx (show Fr ag _ _ from r) (fun _ _ x=>x),d7⟩,trivial⟩ ⟨fun _ _ _ _ _=>trivial,trivial⟩ (fun _ _ _ h de=>aQ de h (fun _ _ x=>x)) (aQ aW.out (Fr.refl ag _).drew (fun _ _ x=>x)) ?_ ?_
 ·refine⟨?yS,?yT,?zA,?zB,?zC,?zD,?zE,?zF,?zG,trivial⟩;all_goals intro u w' d r o bT aC aI
  all_goals simp only[bH,bI,bJ,bK,ay,Act.put,bL,bM,bN,Nat.reduceAdd,Nat.zero_add]
  case' zA=>simp only[show u 1=_ from o 1]
  case' zB=>simp only[show u 2=_ from o 2]
  case zC=>
   simp only[show u 3=_ from o 3];clear o bT aC aI;refine aj ?_;have q:=(bl.out.fr r cp.out).cell 1;simp only[bR,List.getElem?_cons_succ,List.getElem?_cons_zero]at q;go_simp;exact⟨_,rfl,al⟩
  case zD=>
   clear o bT aC aI;refine aj ?_;exact az _ _ rfl ⟨ab,0,none⟩ rfl cs _ (aL.out _ (dC.out.fr r c4.out)) Tryz.underlying46 rfl c3.out ⟨_,rfl,al⟩
  case zE=>
   simp only[show u 5=_ from o 5];clear o bT aC aI;refine aj ?_;go_simp;refine(bY.out _ r).mono ?_;rintro e dv⟨ds,rfl,di,f4,cP⟩;exact⟨_,rfl,f4,⟨ds,rfl,di,cP.mono r.size⟩,trivial⟩
  case zF=>
   obtain⟨aZ,bw,cv,n6⟩:=o 6;simp only[bw];clear o bT aC aI;refine aj ?_;have dj:aZ.length=6:=cv.len;refine wp_buildSlice 26 46 1 #[(0, .tmp 76)] rfl aZ.toArray i0 fH Tryz.underlying26 cB cG c9.out db.out ?_ ?_;·simp only[List.map_toArray,List.map_cons,List.map_nil];exact dc.out aZ dj
   ·exact⟨_,rfl,aD.alloc _,⟨w'.heap.size,aZ,rfl,aq.new _ _ _,r.size,cv.ar (aD.alloc _),n6⟩,trivial⟩
  case zG=>
   obtain⟨i7,bv,cL,b7,ey,cw,em⟩:=o 7;simp only[show u 4=_ from o 4,cL];clear o;refine aj ?_;have de:w'.ownsRow 0 46 6 (.slice y n1 C) L.length ak.flatten:=by rw[bX,if_neg (by rw[aC 8 (by kernel_rfl)];exact Bool.false_ne_true)]at aI;exact aI
   clear bT aC aI;have ed:bv.length=6:=cw.len;refine ti _ (.tmp 74) (.tmp 77) 26 rfl 46 i0 fH 6 88 Tryz.underlying26 cB cG a4 dq rfl (by decide) _ _ _ rfl de (fun _=>True) (some ⟨i7,0,none⟩) 1 1 bv rfl ⟨by omega,fun _=>⟨_,rfl,trivial,fun j x ao=>by rw[Addr.add_mid,Nat.zero_add,b7.cell,bR];exact ao⟩⟩ (fun u hu=>by have h:=ActV.one cw;rw[Array.all_eq_true_iff_forall_mem]at h;exact h u (by simpa using hu)) (by have:=Z.out;omega) (by decide) ?_;intro eA eC a3;exact⟨_,rfl,a3.fr,⟨bv,cw.xA em a3.fr aV.out,a3.own,fun k p=>(a3.ew k p).imp id (fun h=>Nat.le_trans r.size h)⟩,trivial⟩
  all_goals
   clear o bT aC aI;refine aj ?_;go_simp;exact⟨_,rfl,al⟩
 intro u w' r o aI;obtain⟨c6,cx,a0,bz⟩:=o 8 (by omega);have aC:u 0=_:=o 0 (by omega);obtain⟨Y,O,aa,c7,dF,_⟩:=aU a0;rw[c7]at a0 bz;simp only[bH,bI,bJ,bK,ay,Act.put,bL,bM,bN,dD,dE,Nat.reduceAdd,Nat.zero_add,aC,c7];have bW:Hid (ko w' (.slice Y O aa) (L++[a])):=⟨ak++[c6],by rw[List.flatten_append,List.flatten_cons,List.flatten_nil,List.append_nil,bh];exact a0,(a9.out.cN r bm.out).snoc cx⟩;have ad:=af r;have bi:=af bz;have dN:=af (dM.out.cN r bm.out);have bd:=af (bl.out.fr r cp.out);have ch:Hid (O=L.length+1):=dF.out;clear r o aI aC c7 cx a0 bz dM a9 b5 bY aW bl dC dF;go_wp2_with(refine aT rfl 26 (.tmp 80) (.tmp 78) rfl h 1 (.slice Y O aa) rfl rfl rfl ET _ _ #[.pointer (some ⟨b,0,none⟩), .slice Y O aa, .slice I N J, .pointer (some ⟨s,0,none⟩), .pointer (some ⟨g,0,none⟩)] bd.out (show 1<5 by decide) rfl ?_);intro dY b9 f9;have ck:Hid (dQ dY h b s g (.slice Y O aa) (.slice I N J) K av aB F E (L++[a]) L L (L++[a])):=bp.out.Ih ad.out bW.out bi.out f9 b9;have dO:=af (dN.out.cN f9 (oJ bd.out (by decide) (by decide) (by decide)));have cf:Hid (∀k,(Value.slice Y O aa).ownBlock=some k→(Value.slice y n1 C).ownBlock=some k∨w.heap.size≤k):=fun k p=>(bi.out k p).imp id (fun h=>Nat.le_trans cV.out.size h);have dz:Hid (Fr (HB h (.slice y n1 C) (.slice I N J) g A (L.length+1) c mb) w dY):=(cV.out.trans (ad.out.mono (fun i _ p=> .inr (.inl p)))).trans (f9.mono (fun i _ p=> .inl p));have dw:=af b9;clear b9 f9 bp ad bW bi dN bd cV;go_wp2_with(refine aT rfl 25 (.tmp 84) (.tmp 82) rfl h 3 (.pointer (some ⟨R,0,none⟩)) rfl rfl rfl Hi _ _ #[.pointer (some ⟨b,0,none⟩), .slice Y O aa, .slice I N J, .pointer (some ⟨R,0,none⟩), .pointer (some ⟨g,0,none⟩)] dw.out (show 3<5 by decide) rfl ?_);intro ap fj f10;have D:Hid (dQ ap h b R g (.slice Y O aa) (.slice I N J) K av aB F E (L++[a]) L (L++[a]) (L++[a])):=ck.out.Ij f10 dO.out fj;have bf:Hid (Fr (HB h (.slice y n1 C) (.slice I N J) g A (L.length+1) c mb) w ap):=dz.out.trans (f10.mono (fun i _ p=> .inl p));have bc:=af fj;clear fj f10 ck dz dw dO;have bu:ap.cell? {block:=h,off:=1}=some (.slice Y O aa):=bc.out.cell 1;have cn:Hid (∀(a6:Value)(dJ:List Nat)w',dQ w' h b R g (.slice Y O aa) a6 dJ av aB F E (L++[a]) (L++[a]) (L++[a]) (L++[a])→Fr (HB h (.slice y n1 C) (.slice I N J) g A (L.length+1) c mb) w w'→(∀k,a6.ownBlock=some k→(Value.slice I N J).ownBlock=some k∨w.heap.size≤k)→yD w h E L (HB h (.slice y n1 C) (.slice I N J) g A (L.length+1) c mb) a (.returned (.int .i64 0)) w'):=fun a6 dJ w' cQ r p=>by
  refine⟨HB h (.slice Y O aa) a6 g av ((L++[a]).length+1) aB F,by rw[bk.out],by rw[bk.out];exact⟨b,R,g,_,_,_,av,aB,F,cQ,rfl⟩,r,fun k dn=>?_⟩;rcases dn with H|H|H|H;·exact .inl (.inl H)
  ·exact(cf.out k H).imp (fun h=> .inr (.inl h)) id
  ·exact(p k H).imp (fun h=> .inr (.inr (.inl h))) id
  ·exact(cg.out k H).imp (fun h=> .inr (.inr (.inr h))) id
 clear bk cf cg ae cm;by_cases hm:(L.length+1)%16=0;case neg=>
  have dP:(O:Int).tmod 16=(((L.length+1)%16:Nat):Int):=by rw[Int.tmod_eq_emod_of_nonneg (by omega),ch.out];omega
  have a2:((((L.length+1)%16:Nat):Int)==0)=false:=by rw[beq_eq_false_iff_ne];omega
  have ba:Hid (K.length=(L++[a]).length/16):=by
   rw[Hid,D.out.mA,bh,List.length_singleton];omega
  generalize dp:(L.length+1)%16=m at dP a2;have br:Hid (dQ ap h b R g (.slice Y O aa) (.slice I N J) K av aB F E (L++[a]) (L++[a]) (L++[a]) (L++[a])):=by
   have q:=D.out;refine⟨q.aH,q.base,q.kW,q.kept,ba.out,fun i k p=>?_,q.last,q.log⟩;have cO:=(List.getElem?_eq_some_iff.1 p).1;have dX:=q.mA;have H:=q.rJ i k p;rw[List.take_append_of_le_length (by omega)];exact H
  clear hm dp ba;go_wp2;go_ret;exact cn.out _ _ _ br.out bf.out (fun k p=> .inl p)
 case pos=>
  have dP:(O:Int).tmod 16=0:=by rw[Int.tmod_eq_emod_of_nonneg (by omega),ch.out];omega
  have dH:=af hm;have d5:ap.cell? {block:=h,off:=2}=some (.slice I N J):=bc.out.cell 2;obtain⟨dr,dm,dt,bS,du⟩:=info_parts Gd;have ee:Hid (¬1*dr.size>2^24):=by simp only[Hid];rw[bS];omega
  have ef:Hid (¬1*dr.size=0):=by simp only[Hid];rw[bS];omega
  have cq:=af D.out.kept;have cc:Hid (K.length≤65536):=by have:=D.out.mA;have:=Z.out;simp only[Hid];omega
  clear hm;go_wp2_with(refine da _ rfl _ _ 108 rfl 25 dr (.pointer none) 1 8 Tryz.underlying108 dm dt bS du rfl (by decide) _ _ _ rfl cq.out 1 #[.pointer (some ⟨R,0,none⟩)] _ rfl rfl rfl (fun u hu=>by simp at hu;subst hu;rfl) (by have:=cc.out;omega) (by decide) ?_);intro v11 eq a3;obtain⟨aK,a5,aX,rfl,d1,_⟩:=aU a3.own;have G:=af a3;have cR:=af (bc.out.fr a3.fr (D.out.apart.1.2.1));clear a3 bu d5;go_wp2_with(refine aT rfl 108 (.tmp 101) (.tmp 99) rfl h 2 (.slice aK a5 aX) rfl rfl rfl EV _ _ #[.pointer (some ⟨b,0,none⟩), .slice Y O aa, .slice aK a5 aX, .pointer (some ⟨R,0,none⟩), .pointer (some ⟨g,0,none⟩)] cR.out (show 2<5 by decide) rfl ?_);intro cI cu f12;have cd:(K++[R]).length=(L++[a]).length/16:=by
   have H:=D.out.mA;have bx:=dH.out;rw[bh,bh,List.length_singleton,List.length_singleton,H];omega
  have br:Hid (dQ cI h b R g (.slice Y O aa) (.slice aK a5 aX) (K++[R]) av aB F E (L++[a]) (L++[a]) (L++[a]) (L++[a])):=by
   have q:=D.out;refine q.Ii G.out.fr (by rw[List.map_append,bh];exact G.out.own) G.out.ew cd (fun i k p=>?_) f12 cu;by_cases cO:i<K.length;·rw[List.getElem?_append_left cO]at p;have H:=q.rJ i k p;have dX:=q.mA;rw[List.take_append_of_le_length (by omega)];exact H
   ·have dl:i=K.length:=by
     have:=(List.getElem?_eq_some_iff.1 p).1;rw[bh,List.length_singleton]at this;omega
    rw[dl,List.getElem?_append_right (Nat.le_refl _),Nat.sub_self]at p;cases p;have dX:=q.mA;have hm:=dH.out;rw[List.take_of_length_le (by rw[bh,List.length_singleton];omega)];exact q.last
  have cU:Hid (Fr (HB h (.slice y n1 C) (.slice I N J) g A (L.length+1) c mb) w cI):=(bf.out.aw G.out.fr (fun i _ p=> .inr (.inr (.inl p)))).trans (f12.mono (fun i _ p=> .inl p));have ce:Hid (∀k,(Value.slice aK a5 aX).ownBlock=some k→(Value.slice I N J).ownBlock=some k∨w.heap.size≤k):=fun k p=>(G.out.ew k p).imp id (fun h=>Nat.le_trans bf.out.size h);clear cu f12 cd G;go_wp2;go_ret;exact cn.out _ _ _ br.out cU.out ce.out
end Go.Proofs.YtphjagkehiklkaaGreatDoor
namespace Go.Proofs.YtphjagkehiklkaaGreatDoor
open Go.RowKit Go.Shelf
theorem sB:∀(L:List Ent),(∀x∈L,(oF x).length≤500)→(L.flatMap oF).length≤500*L.length
 |[],_=>by simp
 |x::L,h=>by
  have b:=h x (by simp);have c:=sB L (fun y a=>h y (by simp[a]));simp only[List.flatMap_cons,bh,List.length_cons];omega
theorem cW.Kn{k:Nat}{L:List Ent}(h:cW k L):∀x∈L,(oF x).length≤500:=fun x a=>by
 have b:=h.owner x a;have c:=h.text x a;have d:=h.value x a;have e:=fi x.1;have f:=aW (cL x.1).length;have g:=aW (aR x.2).length;have i:=aO x.2;simp only[oF,bO,bh];omega
theorem cW.GS{k:Nat}{L:List Ent}(h:cW k L):(fw L).length≤10+500*L.length∧1≤(fw L).length:=by
 have a:=sB L h.Kn;have b:=aW L.length;have c:=qN 9 L.length;simp only[fw,bh];refine⟨by omega,?_⟩;show 1≤(dp 9 L.length).length+_;omega
theorem Iq(l:List UInt8):aR ⟨l.toArray⟩=l:=rfl
def Dg(w:World)(l:List UInt8)(e:Ending)(w':World):Prop:=aJ w (aE (eF l)) e w'
theorem Ji(l:List UInt8):eH ⟨l.toArray⟩=l:=rfl
theorem Eg(L:List Ent)(s:Nat)(w:World)(E:ft w s L)(G:eE w)(F:bB w)(m:cW 24 L):
  Calls Tryz.prog 75 #[.pointer (some ⟨s,0,none⟩)] w (Dg w (fw L)):=by
 have y:Hid (∀w',Fr ag w w'→Calls Tryz.prog 102 #[.pointer (some ⟨s,0,none⟩)] w' (qv w' (fw L))):=fun w' f=>Eh L s w' (E.ar f) (G.ar f) (m.small (by omega));have Q:=m.GS;have q:=m.len;obtain⟨x,j⟩:∃x:ByteArray,x=⟨(fw L).toArray⟩:=⟨_,rfl⟩;have r:x.size=(fw L).length:=by rw[j];simp[ByteArray.size]
 have z:Hid (∀w',Fr ag w w'→Calls Tryz.prog 27 #[.string x] w' (aJ w' (aE (eF (fw L))))):=fun w' f=>by
  have h:=yG x w' (F.ar f) (by omega) (by omega);rw[j,Ji]at h;rw[j];exact h
 unfold Dg;have b:=gJ (fw L);have M:=af j;generalize fw L=l at*;unfold aE at*;generalize eF l=c at*;have o:Hid ((c.map aS).toArray.size=32∧(c.map aS).toArray.all (·.oneCell')=true):=⟨by simp[b],kZ c⟩;have C:Hid ((Tryz.prog.info? 37).map (·.size)=some (c.map aS).toArray.size):=by
  rw[o.out.1];exact Dy
 generalize(c.map aS).toArray=D at*;clear E G F m Q q j r b;go_enter Tryz.func75,Tryz.ntmps75;go_wp2_with(refine ak rfl 37 rfl aI JB aB rfl ?_);intro w1 n1;have k:=af n1;clear n1;generalize H:w.heap.size=g at*;have B:=af H;clear H;have t:Hid (aq w1 g 37 aB):=by have h:=k.out.aH;rw[B.out]at h;exact h
 go_wp2_with fail;refine(y.out _ k.out.fr).mono ?_;rintro e w2⟨v,rfl,a⟩;obtain⟨R,U,P,rfl,A,_⟩:=aU a.own;have d:=mR w2 _ _ _ P _ (pF.rd a.own A.out);rw[←M.out]at d;have n:=af (k.out.fr.trans a.ar);have u:=af (t.out.fr a.ar (fun x=>x));clear a A y t k;go_wp2_with fail;refine(z.out _ n.out).mono ?_;rintro e w3⟨rfl,f3⟩;have K:=af (n.out.trans f3);have J:=af (u.out.fr f3 (fun x=>x));clear f3 z n u d;go_wp2_with(refine ai rfl 37 (.tmp 2) _ rfl g D rfl rfl _ _ J.out C.out (by rw[o.out.1];rfl) o.out.2 ?_);intro I b5 f5;have N:=af b5;have O:Hid (Fr ag w I):=K.out.aw f5 (fun i T e=>by have S:i=g:=e;have:=B.out;omega);clear b5 f5;go_wp2;exact bodyPost_ret (results_cell_row (fn:=Tryz.f75) (p:=2) (ty:=37) Tryz.results75 _ I _ 37 D (0,0) _ rfl N.out Tryz.underlying37 rfl C.out) rfl ⟨rfl,O.out⟩
end Go.Proofs.YtphjagkehiklkaaGreatDoor
