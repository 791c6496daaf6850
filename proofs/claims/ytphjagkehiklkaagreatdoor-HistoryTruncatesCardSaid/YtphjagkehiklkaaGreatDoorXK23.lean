/- Texts. -/
import Derived.Test.YtphjagkehiklkaaGreatDoorXK21
set_option linter.unusedVariables false
set_option linter.unusedSimpArgs false
set_option maxRecDepth 100000
set_option maxHeartbeats 8000000
namespace Go.Proofs.YtphjagkehiklkaaGreatDoor
open Go.RowKit Go.Shelf
section
variable{w w1 w2:World}{h b s g:Nat}{va vk:Value}{K:List Nat}{A:Option Addr}{c:Nat}{mb:Option Nat}{E:List Ent}{La Lk Ll Lg:List ActV}
theorem kt{w:World}{k:Nat}{t:TypeId}{cs:Array Value}(a:aq w k t cs)(b:t≠177)(c:t≠174)(d:t≠119):eZ w (fun i=>i=k):=fun i e=>by
 obtain rfl:i=k:=e;exact⟨fun x=>b (a.ty.one x),fun x=>c (a.ty.one x),fun x=>d (a.ty.one x)⟩
theorem uP{w:World}{base n:Nat}{e:TypeId}{size:Nat}{v:Value}{xs:List Value}(f:w.ownsRow base e size v n xs)(a:e≠177)(b:e≠174)(c:e≠119):eZ w (fun i=>v.ownBlock=some i):=fun i d=>by
 have t:=jc f d;exact⟨fun x=>a (t.one x),fun x=>b (t.one x),fun x=>c (t.one x)⟩
theorem dG.Bf(d:dG w h b s g va vk K A c mb E La Lk Ll Lg)(f:Fr (Lt.TB g A (Lg.length+1) c mb) w w1){l:Option Addr}{m:Nat}{j:Option Nat}{a:List ActV}(n:Lt.ew w1 g l (a.length+1) m j (dk E a) (Lt.aY (a.length+1))):
  dG w1 h b s g va vk K l m j E La Lk Ll a:=by
 have ap:=d.apart;have cu:eZ w (Lt.TB g A (Lg.length+1) c mb):=fun k e=>d.cu k (.inr (.inr (.inr e)));exact⟨d.aD.fr f ap.1.2.2,d.base.cu f cu,d.jt.cu f cu (fun k e=>(ap.2.1 k e).2),aJ d.kept f (fun k e=>ap.2.2 k e),d.lP,fun i k e=>(d.qs i k e).cu f cu,d.last.cu f cu,n⟩
theorem dG.Bc(j:dG w h b s g va vk K A c mb E La Lk Ll Lg)(f1:Fr (fun k=>va.ownBlock=some k) w w1){l:Value}{m:List ActV}(u:jr w1 l m)(r:∀k,l.ownBlock=some k→va.ownBlock=some k∨w.heap.size≤k)(f2:Fr (fun k=>k=h) w1 w2)
  (q:aq w2 h 111 #[.pointer (some ⟨b,0,none⟩),l,vk, .pointer (some ⟨s,0,none⟩), .pointer (some ⟨g,0,none⟩)]):dG w2 h b s g l vk K A c mb E m Lk Ll Lg:=by
 have ap:=j.apart;obtain⟨cs,o,_⟩:=j.jt;have d:eZ w (fun i=>va.ownBlock=some i):=uP o (by decide) (by decide) (by decide);have n:=j.aD.fr f1 ap.1.1;have a:eZ w1 (fun i=>i=h):=kt n (by decide) (by decide) (by decide);have t:=j.aD.lt;refine⟨q,(j.base.cu f1 d).cu f2 a,u.cu f2 a (fun k f e=>?_),aJ (aJ j.kept f1 (fun k f e=>(ap.2.1 k e).1 f)) f2 (fun k f e=>?_),j.lP,fun i k f=>((j.qs i k f).cu f1 d).cu f2 a,(j.last.cu f1 d).cu f2 a,
  j5 (j5 j.log f1 (fun k f e=>(ap.2.1 k e).2 f)) f2 (fun k f e=>?_)⟩
 ·obtain rfl:k=h:=e;rcases r k f with p|p;·exact ap.1.1 p
  ·omega
 ·obtain rfl:k=h:=e;exact ap.1.2.1 f
 ·obtain rfl:k=h:=e;exact ap.1.2.2 f
theorem dG.Be(d:dG w h b s g va vk K A c mb E La Lk Ll Lg)(f2:Fr (fun k=>k=h) w w2){l:Nat}{j:List ActV}(n:ec w l (ee j E))
  (m:aq w2 h 111 #[.pointer (some ⟨b,0,none⟩),va,vk, .pointer (some ⟨l,0,none⟩), .pointer (some ⟨g,0,none⟩)]):dG w2 h b l g va vk K A c mb E La Lk j Lg:=by
 have ap:=d.apart;have a:eZ w (fun i=>i=h):=kt d.aD (by decide) (by decide) (by decide);refine⟨m,d.base.cu f2 a,d.jt.cu f2 a (fun k f e=>?_),aJ d.kept f2 (fun k f e=>?_),d.lP,fun i k f=>(d.qs i k f).cu f2 a,n.cu f2 a,j5 d.log f2 (fun k f e=>?_)⟩;·obtain rfl:k=h:=e;exact ap.1.1 f
 ·obtain rfl:k=h:=e;exact ap.1.2.1 f
 ·obtain rfl:k=h:=e;exact ap.1.2.2 f
theorem dG.Bd(l:dG w h b s g va vk K A c mb E La Lk Ll Lg)(f1:Fr (fun k=>vk.ownBlock=some k) w w1){j:Value}{n:List Nat}{m:List ActV}(x:w1.ownsRow 0 25 1 j n.length (n.map fun k=>Value.pointer (some ⟨k,0,none⟩)))(t:∀k,j.ownBlock=some k→vk.ownBlock=some k∨w.heap.size≤k)
  (v:n.length=m.length/16)(p:∀i k,n[i]? =some k→ec w k (ee (m.take (16*(i+1))) E))(f2:Fr (fun k=>k=h) w1 w2)
  (r:aq w2 h 111 #[.pointer (some ⟨b,0,none⟩),va,j, .pointer (some ⟨s,0,none⟩), .pointer (some ⟨g,0,none⟩)]):dG w2 h b s g va j n A c mb E La m Ll Lg:=by
 have ap:=l.apart;have a:eZ w (fun i=>vk.ownBlock=some i):=uP l.kept (by decide) (by decide) (by decide);have o:=l.aD.fr f1 ap.1.2.1;have d:eZ w1 (fun i=>i=h):=kt o (by decide) (by decide) (by decide);have u:=l.aD.lt;refine⟨r,(l.base.cu f1 a).cu f2 d,(l.jt.cu f1 a (fun k f e=>(ap.2.1 k f).1 e)).cu f2 d (fun k f e=>?_),aJ x f2 (fun k f e=>?_),v,fun i k f=>((p i k f).cu f1 a).cu f2 d,(l.last.cu f1 a).cu f2 d,
  j5 (j5 l.log f1 (fun k f e=>ap.2.2 k e f)) f2 (fun k f e=>?_)⟩;·obtain rfl:k=h:=e;exact ap.1.1 f
 ·obtain rfl:k=h:=e;rcases t k f with q|q;·exact ap.1.2.1 q
  ·omega
 ·obtain rfl:k=h:=e;exact ap.1.2.2 f
end
def wU(w:World)(h:Nat)(E:List Ent)(L:List ActV)(T:Nat→Prop)(a:ActV)(e:Ending)(w':World):Prop:=∃T',e= .returned (.int .i64 (eo L a).1)∧eD w' h E (eo L a).2 T'∧Fr T w w'∧∀k,T' k→T k∨w.heap.size≤k
theorem sG:(Tryz.prog.info? 46).map (fun i=>(i.zero,i.size,i.bytes))=some (some eC,6,88):=by kernel_rfl
theorem Hi:(Tryz.prog.info? 25).map (fun i=>(i.zero,i.size,i.bytes))=some (some (.pointer none),1,8):=by kernel_rfl
theorem r8:(Tryz.prog.info? 26).map (·.size)=some 1:=by kernel_rfl
theorem xq:(Tryz.prog.info? 108).map (·.size)=some 1:=by kernel_rfl
theorem Ak:(Tryz.prog.info? 25).map (·.size)=some 1:=by kernel_rfl
theorem wY{L:List ActV}{a:ActV}(h:gv a=false):eo L a=(3,L):=by unfold eo;rw[if_pos h]
theorem zw{L:List ActV}{a:ActV}(h:gv a=true)(B:Bool)(q:Nat)(d:ActV)(i:0<L.length→q=L.length-1∧L[q]? =some d)(e:B=(decide (0<L.length)&&decide (dV a.key d.key≤0))):eo L a=if B=true then(32,L)else(0,L++[a]):=by
 unfold eo;rw[if_neg (by rw[h];decide)];by_cases b:0<L.length
 ·obtain⟨g,f⟩:=i b;rw[g]at f;rw[List.getLast?_eq_getElem?,f];simp only;have j:=iz.kH a.key d.key;subst e;by_cases c:dV a.key d.key≤0;·rw[decide_eq_true b,decide_eq_true c];rw[if_pos c];rfl
  ·rw[decide_eq_true b,decide_eq_false c];rw[if_neg c];rfl
 ·obtain rfl:L=[]:=List.eq_nil_of_length_eq_zero (by omega);rw[decide_eq_false b,Bool.false_and]at e;subst e;rfl
theorem nf(h:Nat)(E:List Ent)(L:List ActV)(T:Nat→Prop)(a:ActV)(cs:List Value)(w:World)(eg:eD w h E L T)(cx:cy w cs a)(dX:ed w)(dg:bU w)(bP:Hw a)(cH:∀b∈L,b.key.fA.size≤1099511627776)(cP:L.length<65536)(cF:gv a=true→(dj a).length<4294960000)
  (bH:∀k,k=1∨k=2→¬T k)
  (cz:gv a=true→∀w' s,Fr ah w w'→ec w' s (ee L E)→Calls Tryz.prog 86 #[.agg cs.toArray, .pointer (some ⟨s,0,none⟩)] w' (lz w' (ee L E) a.writes)):
  Calls Tryz.prog 32 #[.pointer (some ⟨h,0,none⟩), .agg cs.toArray] w (wU w h E L T a):=by
 obtain⟨b,s,g,va,vk,K,A,c,mb,bc,rfl⟩:=eg;obtain⟨am,V,bO⟩:=bc.jt;obtain⟨y,n1,C,rfl,H1,_⟩:=aH V;obtain⟨I,N,J,rfl,ez,_⟩:=aH bc.kept;have bn:=af bc;have cY:=af cx;have c0:=af bO;have c3:=af V;have b8:=af cz;have cC:=cx.len;have c2:=af cC;have d5:=af bH;have ci:Hid (a.reads.length≤60000∧a.writes.length≤60000):=⟨bP.nr,bP.nw⟩;have ae:Hid (∀k,HB h (.slice y n1 C) (.slice I N J) g A (L.length+1) c mb k→k<w.heap.size):=eD.lt ⟨b,s,g,_,_,K,A,c,mb,bc,rfl⟩;have d2:Hid (∀w',Fr ah w w'→Calls Tryz.prog 55 #[.pointer (some ⟨h,0,none⟩)] w' (bG w' (.bool false))):=fun w' f=>iO w' h b ((bc.aD.fr f (fun x=>x)).cell 0);have dz:Hid (∀w',Fr ah w w'→Calls Tryz.prog 18 #[.agg cs.toArray] w' (aK w' (kJ a))):=fun w' f=>rK a cs w' (dX.ao f) (cx.ao f) bP;have d1:Hid (∀w',Fr ah w w'→Calls Tryz.prog 87 #[.agg cs.toArray] w' (qK w' a)):=fun w' f=>oO a cs w' (cx.ao f) (by have:=bP.nr;omega) (by have:=bP.nw;omega);have Z:Hid (L.length<65536∧n1=L.length):=⟨cP,H1.out⟩;have b0:Hid (∀w',Fr ah w w'→gv a=true→Calls Tryz.prog 59 #[.string ⟨(dj a).toArray⟩] w' (aK w' (aU (dZ (dj a))))):=fun w' f cD=>by
  have e:aS ⟨(dj a).toArray⟩=dj a:=sx _;have h:=uS ⟨(dj a).toArray⟩ w' (dg.ao f) (by
   have H:=cF cD;have bA:=aQ ⟨(dj a).toArray⟩;rw[e]at bA;omega);rw[e]at h;exact h
 have b1:Hid (∀w',Fr ah w w'→Calls Tryz.prog 84 #[.pointer (some ⟨g,0,none⟩),aU (dZ (dj a))] w' (Lt.mK w' g A (L.length+1) c mb (dk E L) (dZ (dj a)))):=fun w' f=>
  Lt.sH g A (L.length+1) c mb (dk E L) (dZ (dj a)) w' (bc.ao f).log (jV _) (by omega) (dg.ao f) (fun k p ek=>bH k p (.inr (.inr (.inr ek))));obtain⟨q,cQ⟩:∃q:Nat,L.length-1=q:=⟨_,rfl⟩;obtain⟨aA,d,ak⟩:∃(aA:Addr)(d:ActV),Hid (0<L.length→y=some aA∧L[q]? =some d∧∀j x,d.key.cells[j]? =some x→w.cell? ((aA.add (q*6)).add j)=some x):=by
  by_cases d8:0<L.length;·obtain⟨eA,d6,bT,en,ep,eq⟩:=dF.at_ (k:=q) bO (by omega);obtain⟨aA,de,_,bN⟩:=(Rd.gO (H1.out▸V)).2 (by omega);refine⟨aA,d6,fun _=>⟨de,en,fun j x ap=>?_⟩⟩;rw[iq];refine bN _ x (eq j x ?_);obtain⟨er,ey,rfl,_⟩:=ep;rw[List.getElem?_append_left (List.getElem?_eq_some_iff.1 ap).1];exact ap
  ·exact⟨⟨0,0,none⟩,a,fun h=>absurd h d8⟩
 have dK:Hid (0<L.length→(n1:Int)-1=(q:Int)):=fun h=>by have:=H1.out;omega
 have br:Hid (0<L.length→q<n1):=fun h=>by have:=H1.out;omega
 have dA:Hid (0<L.length→∀w',Calls Tryz.prog 85 #[.agg a.key.cells.toArray, .agg d.key.cells.toArray] w' (aK w' (.int .i64 (dV a.key d.key)))):=fun h w'=>om _ _ w' (by have:=bP.fA;omega) (cH d (List.mem_of_getElem? (ak.out h).2.1));have b6:Hid (gv a=true→∀B:Bool,B=(decide (0<L.length)&&decide (dV a.key d.key≤0))→eo L a=if B=true then(32,L)else(0,L++[a])):=fun cD B cN=>zw cD B q d (fun h=>⟨cQ.symm,(ak.out h).2.1⟩) cN;have S:Hid (∀w' c9,eo L a=(c9,L)→Fr ah w w'→wU w h E L (HB h (.slice y n1 C) (.slice I N J) g A (L.length+1) c mb) a (.returned (.int .i64 c9)) w'):=fun w' c9 e f=>⟨_,by rw[e],by rw[e];exact⟨b,s,g,_,_,K,A,c,mb,bc.ao f,rfl⟩,f.bJ,fun k p=> .inl p⟩;clear cx dX dg bP cH cP bH cz bO V cQ cC cF bc;go_enter Tryz.func32,Tryz.ntmps32;go_wp2_with(refine aB rfl 46 (.tmp 1) rfl cs.toArray rfl ?_);intro w1 bV;have b2:=af bV.fr;have cJ:=af bV.aD;clear bV;have c1:Hid (w.heap.size≤w.heap.size):=Nat.le_refl _;generalize cA:w.heap.size=ab at cJ⊢;have cb:Hid (w.heap.size≤ab):=by rw[Hid,cA];exact Nat.le_refl _
 clear cA c1;go_wp2_with fail;refine(d2.out _ b2.out).mono ?_;rintro e w'⟨rfl,rfl⟩;have bv:=(bn.out.aD.fr b2.out (fun x=>x)).cell 1;simp only[bQ,List.getElem?_cons_succ,List.getElem?_cons_zero]at bv;have t1:decide ((65536:Int)≤(n1:Int))=false:=bZ (by have:=Z.out;omega);have es:¬(65536:Int)≤(n1:Int):=by have:=Z.out;omega
 have c4:Hid ((Tryz.prog.info? 46).map (·.size)=some cs.length):=by rw[Hid,c2.out];exact bM
 have aO:Hid (∀W,aq W ab 46 cs.toArray→∀j x,cs[j]? =some x→W.cell? ((⟨ab,0,none⟩:Addr).add j)=some x):=fun W dh j x ap=>by
  rw[Addr.add_mid,Nat.zero_add,dh.cell j,bQ];exact ap
 go_wp2_with(refine aC rfl 46 (.tmp 3) rfl ⟨ab,0,none⟩ rfl cs _ ?zP Tryz.underlying46 rfl c4.out (aR.go ?zQ));case zP=>exact aO.out _ cJ.out
 unfold aR;go_wp2_with fail;refine(dz.out _ b2.out).mono ?_;rintro e w2⟨rfl,f2⟩;have bW:=af (b2.out.trans f2);have cW:=af (cJ.out.fr f2 (fun x=>x));clear f2 dz b2 cJ bv;cases ac:gv a
 ·have ca:Hid (kJ a= .tuple #[.string ByteArray.empty, .int .i64 3]):=by rw[Hid,kJ,ac];rfl
  have bs:=af (S.out w2 3 (wY ac) bW.out);rw[ca.out];clear ac ca;go_wp2;go_ret;exact bs.out
 have ca:Hid (kJ a= .tuple #[.string ⟨(dj a).toArray⟩, .int .i64 0]):=by rw[Hid,kJ,ac];rfl
 have aT:=af ac;rw[ca.out];clear ac ca;have bv:=(bn.out.aD.fr bW.out (fun x=>x)).cell 1;simp only[bQ,List.getElem?_cons_succ,List.getElem?_cons_zero]at bv;have c6:Hid (∀W,Fr ah w W→W.cell? {block:=h,off:=1}=some (.slice y n1 C)∧W.cell? {block:=h,off:=3}=some (.pointer (some ⟨s,0,none⟩))∧W.cell? {block:=h,off:=4}=some (.pointer (some ⟨g,0,none⟩))):=fun W f=>⟨(bn.out.aD.fr f (fun x=>x)).cell 1,(bn.out.aD.fr f (fun x=>x)).cell 3,(bn.out.aD.fr f (fun x=>x)).cell 4⟩;have cT:Hid (∀W,aq W ab 46 cs.toArray→∀j x,a.key.cells[j]? =some x→W.cell? ((⟨ab,0,none⟩:Addr).add j)=some x):=fun W dh j x ap=>by
  obtain⟨er,ey,e,_⟩:=cY.out;refine aO.out W dh j x ?_;rw[e,List.getElem?_append_left (List.getElem?_eq_some_iff.1 ap).1];exact ap
 obtain⟨P,dT⟩:∃z:Bool,decide (0<L.length)=z:=⟨_,rfl⟩;obtain⟨Q,dU⟩:∃z:Bool,decide (dV a.key d.key≤0)=z:=⟨_,rfl⟩;have bf:=af dT;have EQ:=af dU;have ck:Hid (decide (0<n1)=P):=by
  rw[Hid,←bf.out];exact decide_eq_decide.2 (by have:=Z.out;omega)
 have cS:Hid (∀W,Fr ah w W→Calls Tryz.prog 86 #[.agg cs.toArray, .pointer (some ⟨s,0,none⟩)] W (fun e W'=>∃R,e= .returned (.tuple #[.pointer (some ⟨R,0,none⟩), .int .i64 0])∧ec W' R (ee (L++[a]) E)∧Fr ah W W')):=fun W f=>by
  refine(b8.out aT.out W s f (bn.out.ao f).last).mono ?_;rintro e ev⟨eG,eB,rfl,f5,bK⟩;rcases bK with⟨_,rfl,R,rfl,ea⟩|⟨⟨x,ap,cD⟩,_⟩;·exact⟨R,rfl,by rw[vF];exact ea,f5⟩
  ·have H:=aT.out;simp only[gv,Bool.and_eq_true]at H;have bA:=ky H.2 x ap;simp only[jy,cD,Bool.false_and]at bA;cases bA
 have bt:Hid (0<L.length→y=some aA):=fun p=>(ak.out p).1;clear dT dU;obtain⟨B,cN⟩:∃z:Bool,(bif P then Q else false)=z:=⟨_,rfl⟩;have HB:=af cN;clear cN;go_upto_region 9 with fail;refine iW 17 [.int .i64 (n1:Int), .bool P, .bool P,bif P then .pointer (some ⟨ab,0,none⟩)else undef,bif P then .agg a.key.cells.toArray else undef,bif P then .pointer (some ⟨h,0,none⟩)else undef,bif P then .pointer (some ⟨h,0,none⟩)else undef,bif P then .pointer (some ⟨h,1,none⟩)else undef,bif P then .slice y n1 C else undef,bif P then .int .i64 (n1:Int)else undef,bif P then .int .i64 (q:Int)else undef,bif P then .pointer (some (aA.add (q*6)))else undef,bif P then .pointer (some (aA.add (q*6)))else undef,bif P then .agg d.key.cells.toArray else undef,bif P then .int .i64 (dV a.key d.key)else undef,bif P then .bool Q else undef, .bool B] ?zR ?_;case zR=>
  refine⟨?yS,?zU,?zV,?zW,?zX,?zY,?zZ,?yA,?yB,?yC,?zH,?zI,?zJ,?zK,?zL,?zM,?zN,trivial⟩;all_goals intro u w' r o
  all_goals simp only[z1,z2,z3,z4,ar,Act.put,z5,z6,z7,Nat.reduceAdd,Nat.zero_add]
  case zU=>
   simp only[show u 0=_ from o 0];refine aF ?_;have t:=ck.out;go_simp;exact aL
  case' zV=>simp only[show u 1=_ from o 1]
  case' zW=>
   simp only[show u 2=_ from o 2];cases P;case false=>exact bS
  case zX=>
   simp only[show u 3=_ from o 3,show u 2=_ from o 2];cases P;case false=>exact bS
   refine aF ?_;exact aw _ _ rfl ⟨ab,0,none⟩ rfl a.key.cells _ (cT.out _ (cW.out.fr r (fun x=>x))) Tryz.underlying43 rfl fQ aL
  case' zY=>
   simp only[show u 2=_ from o 2];cases P;case false=>exact bS
  case' zZ=>
   simp only[show u 5=_ from o 5,show u 2=_ from o 2];cases P;case false=>exact bS
  case' yA=>
   simp only[show u 6=_ from o 6,show u 2=_ from o 2];cases P;case false=>exact bS
  case yB=>
   simp only[show u 7=_ from o 7,show u 2=_ from o 2];cases P;case false=>exact bS
   refine aF ?_;have q:=(c6.out _ (bW.out.trans r)).1;go_simp;exact aL
  case' yC=>
   simp only[show u 2=_ from o 2];cases P;case false=>exact bS
  case zH=>
   simp only[show u 9=_ from o 9,show u 2=_ from o 2];cases P;case false=>exact bS
   refine aF ?_;have p:=of_decide_eq_true bf.out;have cK:(n1:Int)-1=(q:Int):=dK.out p;have bz:IntKind.i64.wrap (q:Int)=(q:Int):=IntWalk.i64_in _ (by have:=Z.out;have:=br.out p;omega);go_simp;exact aL
  case zI=>
   simp only[show u 8=_ from o 8,show u 10=_ from o 10,show u 2=_ from o 2];cases P;case false=>exact bS
   refine aF ?_;have p:=of_decide_eq_true bf.out;have cK:y=some aA:=bt.out p;have bz:(q:Int)<(n1:Int):=by have:=br.out p;omega
   have cM:(0:Int)≤(q:Int):=by omega
   clear bt;subst cK;go_simp;exact aL
  case' zJ=>
   simp only[show u 11=_ from o 11,show u 2=_ from o 2];cases P;case false=>exact bS
  case zK=>
   simp only[show u 12=_ from o 12,show u 2=_ from o 2];cases P;case false=>exact bS
   refine aF ?_;have p:=of_decide_eq_true bf.out;exact aw _ _ rfl (aA.add (q*6)) rfl d.key.cells _ (fun em v el=>(bW.out.trans r).aj ((ak.out p).2.2 em v el) (fun x=>x)) Tryz.underlying43 rfl fQ aL
  case zL=>
   simp only[show u 4=_ from o 4,show u 13=_ from o 13,show u 2=_ from o 2];cases P;case false=>exact bS
   refine aF ?_;have p:=of_decide_eq_true bf.out;go_simp;refine(dA.out p _).mono ?_;rintro e dx⟨rfl,f4⟩;exact⟨rfl,f4⟩
  case zM=>
   simp only[show u 14=_ from o 14,show u 2=_ from o 2];cases P;case false=>exact bS
   refine aF ?_;have t:=EQ.out;go_simp;exact aL
  case zN=>
   simp only[show u 2=_ from o 2,show u 15=_ from o 15];cases P<;>exact aF (by go_simp;exact⟨by rw[←HB.out];rfl,az⟩)
  all_goals
   try simp only[cond]
   refine aF ?_;go_simp;exact aL
 intro w' r;simp only[z1,z2,z3,z4,ar,Act.put,z5,z6,z7,z8,z9,jn,jo,Nat.reduceAdd,Nat.zero_add];have b3:=af (bW.out.trans r);have cX:=af (cW.out.fr r (fun x=>x));clear r bW cW bv;have aP:Hid (eo L a=if B=true then(32,L)else(0,L++[a])):=b6.out aT.out B (by
  rw[bf.out,EQ.out,←HB.out];cases P<;>rfl);clear HB bf EQ ck dA ak b6 bt dK br;cases a3:B;case true=>
  have bs:=af (S.out w' 32 (by rw[aP.out,a3];rfl) b3.out);clear a3 aP;go_wp2;go_ret;exact bs.out
 have bj:Hid (eo L a=(0,L++[a])):=by rw[Hid,aP.out,a3];rfl
 clear a3 aP S;generalize w'=w3 at*;go_upto_region 11 with fail;refine y8 11 [iS (.agg cs.toArray),iS (.pointer (some ⟨h,0,none⟩)),iS (.pointer (some ⟨h,0,none⟩)),iS (.pointer (some ⟨h,3,none⟩)),iS (.pointer (some ⟨s,0,none⟩)),⟨fun v X=>∃i:Nat,v= .tuple #[.pointer (some ⟨i,0,none⟩), .int .i64 0]∧ec X i (ee (L++[a]) E),fun _ _ _ f h=>(by obtain⟨i,e,h⟩:=h;exact⟨i,e,h.ao f⟩)⟩,⟨fun v X=>∃i:Nat,v= .tuple #[.pointer (some ⟨i,0,none⟩), .int .i64 0]∧ec X i (ee (L++[a]) E),fun _ _ _ f h=>(by obtain⟨i,e,h⟩:=h;exact⟨i,e,h.ao f⟩)⟩,⟨fun v X=>∃i:Nat,v= .pointer (some ⟨i,0,none⟩)∧ec X i (ee (L++[a]) E),fun _ _ _ f h=>(by obtain⟨i,e,h⟩:=h;exact⟨i,e,h.ao f⟩)⟩,iS (.int .i64 0),⟨fun v X=>∃i:Nat,v= .pointer (some ⟨i,0,none⟩)∧ec X i (ee (L++[a]) E),fun _ _ _ f h=>(by obtain⟨i,e,h⟩:=h;exact⟨i,e,h.ao f⟩)⟩,iS (.int .i64 0)] ?zS ?_;case zS=>
  refine⟨?yD,?yT,?yE,?yF,?yG,?yH,?yI,?yJ,?yK,?yL,?zO,trivial⟩;all_goals intro u w' r o
  all_goals simp only[z1,z2,z3,z4,ar,Act.put,z5,z6,z7,Nat.reduceAdd,Nat.zero_add]
  case yD=>
   refine aF ?_;exact aw _ _ rfl ⟨ab,0,none⟩ rfl cs _ (aO.out _ (cX.out.fr r (fun x=>x))) Tryz.underlying46 rfl c4.out ⟨_,rfl,az,rfl⟩
  case' yE=>simp only[show u 1=_ from o 1]
  case' yF=>simp only[show u 2=_ from o 2]
  case yG=>
   simp only[show u 3=_ from o 3];refine aF ?_;have q:=(c6.out _ (b3.out.trans r)).2.1;go_simp;exact⟨_,rfl,az,rfl⟩
  case yH=>
   simp only[show u 0=_ from o 0,show u 4=_ from o 4];refine aF ?_;go_simp;refine(cS.out _ (b3.out.trans r)).mono ?_;rintro e dx⟨i,rfl,cO,f4⟩;exact⟨_,rfl,f4,⟨i,rfl,cO⟩⟩
  case yI=>
   obtain⟨i5,cK,eb⟩:=o 5;simp only[cK];refine aF ?_;go_simp;exact⟨_,rfl,az,⟨i5,rfl,eb⟩⟩
  case yJ=>
   obtain⟨i6,bz,ct⟩:=o 6;simp only[bz];refine aF ?_;go_simp;exact⟨_,rfl,az,⟨i6,rfl,ct⟩⟩
  case yK=>
   obtain⟨i6,bz,ct⟩:=o 6;simp only[bz];refine aF ?_;go_simp;exact⟨_,rfl,az,rfl⟩
  case yL=>
   obtain⟨i7,cM,cv⟩:=o 7;simp only[cM];refine aF ?_;go_simp;exact⟨_,rfl,az,⟨i7,rfl,cv⟩⟩
  case' zO=>simp only[show u 8=_ from o 8]
  all_goals
   refine aF ?_;go_simp;exact⟨_,rfl,az,rfl⟩
 intro u w' r o;have ef:=o 9 (by omega);simp only[z1,z2,z3,z4,ar,Act.put,z5,z6,z7,z8,z9,Nat.reduceAdd,Nat.zero_add,show u 10=_ from o 10 (by omega)];clear o;obtain⟨R,dS,cE⟩:=ef;simp only[dS];have b4:=af (b3.out.trans r);have dC:=af (cX.out.fr r (fun x=>x));have dM:=af cE;clear r cE dS b3 cX b8;have dI:Hid (Fr ah w w'):=b4.out;generalize w'=ev at*;have d4:Hid (∀W,Fr ah w W→cy W cs a):=fun W f=>cY.out.ao f;obtain⟨cq,bI⟩:∃cq,(dZ (dj a)).map bL=cq:=⟨_,rfl⟩;have a8:Hid (∀w',Fr ah w w'→Calls Tryz.prog 59 #[.string ⟨(dj a).toArray⟩] w' (aK w' (.agg cq.toArray))):=fun w' f=>by rw[←bI];exact b0.out w' f aT.out
 have a9:Hid (∀w',Fr ah w w'→Calls Tryz.prog 84 #[.pointer (some ⟨g,0,none⟩), .agg cq.toArray] w' (Lt.mK w' g A (L.length+1) c mb (dk E L) (dZ (dj a)))):=fun w' f=>by rw[←bI];exact b1.out w' f
 clear bI b0 b1;generalize(⟨(dj a).toArray⟩:ByteArray)=et at*;go_upto_region 14 with fail;refine iW 6 [.pointer (some ⟨h,0,none⟩), .pointer (some ⟨h,0,none⟩), .pointer (some ⟨h,4,none⟩), .pointer (some ⟨g,0,none⟩), .string et, .agg cq.toArray] ?zT ?_;case zT=>
  refine⟨?yU,?yM,?yN,?yO,?yV,?yP,trivial⟩;all_goals intro u w' r o
  all_goals simp only[z1,z2,z3,z4,ar,Act.put,z5,z6,z7,Nat.reduceAdd,Nat.zero_add]
  case' yM=>simp only[show u 0=_ from o 0]
  case' yN=>simp only[show u 1=_ from o 1]
  case yO=>
   simp only[show u 2=_ from o 2];refine aF ?_;have q:=(c6.out _ (b4.out.trans r)).2.2;go_simp;exact aL
  case yP=>
   simp only[show u 4=_ from o 4];refine aF ?_;go_simp;refine(a8.out _ (b4.out.trans r)).mono ?_;rintro e dx⟨rfl,f4⟩;exact⟨rfl,f4⟩
  all_goals
   refine aF ?_;go_simp;exact aL
 intro w' r;simp only[z1,z2,z3,z4,ar,Act.put,z5,z6,z7,z8,z9,jn,jo,Nat.reduceAdd,Nat.zero_add];have bh:=af (b4.out.trans r);have dD:=af (dC.out.fr r (fun x=>x));have dN:=af (dM.out.ao r);clear r b4 dC dM;generalize w'=ex at*;go_wp2_with fail;refine(a9.out _ bh.out).mono ?_;rintro e ax⟨rfl,ay,aE,F,dW,M,an⟩;have bo:=af (bn.out.ao bh.out);have cn:Lt.ew ax g ay ((L++[a]).length+1) aE F (dk E (L++[a])) (Lt.aY ((L++[a]).length+1)):=by
  rw[Dl,aW];exact dW
 have bq:Hid (dG ax h b s g (.slice y n1 C) (.slice I N J) K ay aE F E L L L (L++[a])):=bo.out.Bf M cn;have U:eZ ex (Lt.TB g A (L.length+1) c mb):=fun k p=>bo.out.cu k (.inr (.inr (.inr p)));have cl:Hid (∀k,Lt.TB g A (L.length+1) c mb k→k<w.heap.size):=fun k p=>ae.out k (.inr (.inr (.inr p)));have cg:Hid (∀k,Lt.TB g ay ((L++[a]).length+1) aE F k→Lt.TB g A (L.length+1) c mb k∨w.heap.size≤k):=fun k p=>by
  rw[aW]at p;exact(an k p).imp id (fun h=>Nat.le_trans bh.out.size h)
 have cV:Hid (Fr (HB h (.slice y n1 C) (.slice I N J) g A (L.length+1) c mb) w ax):=bh.out.bJ.trans (M.mono (fun i _ p=> .inr (.inr (.inr p))));have dE:=af (dD.out.fr M (fun e=>by have:=cl.out ab e;have:=cb.out;omega));have dO:=af (dN.out.cu M U);have b5:=af ((cY.out.ao bh.out).cu M U);have ba:=af ((c0.out.cu bh.out (eZ.nothing w)).cu M U);have bu:=bo.out.apart;have aX:Hid (ax.ownsRow 0 46 6 (.slice y n1 C) L.length am.flatten):=aJ (aJ c3.out bh.out (fun _ _ x=>x)) M (fun k p=>(bu.2.1 k p).2);have bk:=af bq.out.aD;have co:Hid (¬(Value.slice y n1 C).ownBlock=some h):=bu.1.1;have c5:Hid (¬(Value.slice y n1 C).ownBlock=some ab):=fun e=>by have:=ae.out ab (.inr (.inl e));have:=cb.out;omega
 have aV:Hid (∀k,(Value.slice y n1 C).ownBlock=some k→k<ax.heap.size):=fun k p=>mu aX.out p;have bl:Hid (eZ ax (fun k=>(Value.slice y n1 C).ownBlock=some k)):=uP aX.out (by decide) (by decide) (by decide);have bY:Hid (∀W,Fr (fun k=>(Value.slice y n1 C).ownBlock=some k) ax W→Calls Tryz.prog 87 #[.agg cs.toArray] W (qK W a)):=fun W f=>oO a cs W (b5.out.cu f bl.out) (by have:=ci.out;omega) (by have:=ci.out;omega);obtain⟨i0,cB,cG,a5,dt⟩:=info_parts sG;have db:Hid (¬1*i0.size>2^24):=by simp only[Hid];rw[a5];omega
 have dc:Hid (¬1*i0.size=0):=by simp only[Hid];rw[a5];omega
 have dd:Hid (∀ds:List Value,ds.length=6→Instr.fill (fun i=>some (i*i0.size,i0.size)) ((Array.range (1*i0.size)).map (eC.cells[· %eC.cells.size]!)) [(0, .agg ds.toArray)]=some ds.toArray):=fun ds di=>by rw[a5];exact Lt.pF _ _ 6 (by simpa using di) (by simp[eC,Value.cells])
 clear dW M an cn U bu a9 a8 dD dN d1;go_upto_region 17 with fail;refine wT 9 (fun k=>(Value.slice y n1 C).ownBlock=some k) [Is (.pointer (some ⟨h,0,none⟩)),Is (.pointer (some ⟨h,0,none⟩)),Is (.pointer (some ⟨h,0,none⟩)),Is (.pointer (some ⟨h,1,none⟩)),Is (.slice y n1 C),Is (.agg cs.toArray),fun x X=>∃ds:List Value,x= .agg ds.toArray∧cy X ds a∧jN ax.heap.size ds,fun x X=>∃(i:Nat)(ds:List Value),x= .slice (some ⟨i,0,none⟩) 1 1∧aq X i 46 ds.toArray∧ax.heap.size≤i∧cy X ds a∧jN ax.heap.size ds,fun x X=>∃ds:List Value,cy X ds a∧X.ownsRow 0 46 6 x (L.length+1) (am.flatten++ds)∧∀k,x.ownBlock=some k→(Value.slice y n1 C).ownBlock=some k∨ax.heap.size≤k] [(8,fun _=>True)] (fun X=>X.ownsRow 0 46 6 (.slice y n1 C) L.length am.flatten) (fun _ _=>false) (by kernel_rfl) (by kernel_rfl) (by kernel_rfl) (by kernel_rfl) (fun i=>i==8) (by rfl) ⟨Is.ag _,Is.ag _,Is.ag _,Is.ag _,Is.ag _,Is.ag _,fun _ _ _ _ r⟨ds,h,k,n⟩=>⟨ds,h,k.yc n (show Fr (fun k=>(Value.slice y n1 C).ownBlock=some k) _ _ from r) aV.out,n⟩,fun _ _ _ _ r⟨i,ds,h,b,l,k,n⟩=>⟨i,ds,h,b.fr (show Fr (fun k=>(Value.slice y n1 C).ownBlock=some k) _ _ from r) (fun t=>by have:=aV.out i t;omega),l,k.yc n (show Fr (fun k=>(Value.slice y n1 C).ownBlock=some k) _ _ from r) aV.out,n⟩,fun _ _ _ _ r⟨ds,H,bA,d9⟩=>⟨ds,H.ao (show Fr ah _ _ from r),aJ bA (show Fr ah _ _ from r) (fun _ _ x=>x),d9⟩,trivial⟩ ⟨fun _ _ _ _ _=>trivial,trivial⟩ (fun _ _ _ h df=>aJ df h (fun _ _ x=>x)) (aJ aX.out (Fr.refl ah _).drew (fun _ _ x=>x)) ?_ ?_
 ·refine⟨?yQ,?yR,?zA,?zB,?zC,?zD,?zE,?zF,?zG,trivial⟩;all_goals intro u w' d r o bT aG aI
  all_goals simp only[bm,bp,bw,bC,ar,Act.put,bD,bE,bF,Nat.reduceAdd,Nat.zero_add]
  case' zA=>simp only[show u 1=_ from o 1]
  case' zB=>simp only[show u 2=_ from o 2]
  case zC=>
   simp only[show u 3=_ from o 3];clear o bT aG aI;refine ai ?_;have q:=(bk.out.fr r co.out).cell 1;simp only[bQ,List.getElem?_cons_succ,List.getElem?_cons_zero]at q;go_simp;exact⟨_,rfl,al⟩
  case zD=>
   clear o bT aG aI;refine ai ?_;exact aw _ _ rfl ⟨ab,0,none⟩ rfl cs _ (aO.out _ (dE.out.fr r c5.out)) Tryz.underlying46 rfl c4.out ⟨_,rfl,al⟩
  case zE=>
   simp only[show u 5=_ from o 5];clear o bT aG aI;refine ai ?_;go_simp;refine(bY.out _ r).mono ?_;rintro e dx⟨ds,rfl,di,f4,cP⟩;exact⟨_,rfl,f4,⟨ds,rfl,di,cP.mono r.size⟩,trivial⟩
  case zF=>
   obtain⟨a0,bz,ct,n6⟩:=o 6;simp only[bz];clear o bT aG aI;refine ai ?_;have dl:a0.length=6:=ct.len;refine wp_buildSlice 26 46 1 #[(0, .tmp 76)] rfl a0.toArray i0 eC Tryz.underlying26 cB cG db.out dc.out ?_ ?_;·simp only[List.map_toArray,List.map_cons,List.map_nil];exact dd.out a0 dl
   ·exact⟨_,rfl,az.alloc _,⟨w'.heap.size,a0,rfl,aq.new _ _ _,r.size,ct.ao (az.alloc _),n6⟩,trivial⟩
  case zG=>
   obtain⟨i7,bx,cM,b7,eF,cv,n7⟩:=o 7;simp only[show u 4=_ from o 4,cM];clear o;refine ai ?_;have df:w'.ownsRow 0 46 6 (.slice y n1 C) L.length am.flatten:=by rw[dn,if_neg (by rw[aG 8 (by kernel_rfl)];exact Bool.false_ne_true)]at aI;exact aI
   clear bT aG aI;have eh:bx.length=6:=cv.len;refine tU _ (.tmp 74) (.tmp 77) 26 rfl 46 i0 eC 6 88 Tryz.underlying26 cB cG a5 dt rfl (by decide) _ _ _ rfl df (fun _=>True) (some ⟨i7,0,none⟩) 1 1 bx rfl ⟨by omega,fun _=>⟨_,rfl,trivial,fun j x ap=>by rw[Addr.add_mid,Nat.zero_add,b7.cell,bQ];exact ap⟩⟩ (fun u hu=>by have h:=ActV.one cv;rw[Array.all_eq_true_iff_forall_mem]at h;exact h u (by simpa using hu)) (by have:=Z.out;omega) (by decide) ?_;intro eH eI a4;exact⟨_,rfl,a4.fr,⟨bx,cv.yc n7 a4.fr aV.out,a4.own,fun k p=>(a4.eE k p).imp id (fun h=>Nat.le_trans r.size h)⟩,trivial⟩
  all_goals
   clear o bT aG aI;refine ai ?_;go_simp;exact⟨_,rfl,al⟩
 intro u w' r o aI;obtain⟨c7,cw,a1,bB⟩:=o 8 (by omega);have aG:u 0=_:=o 0 (by omega);obtain⟨Y,O,aa,c8,dH,_⟩:=aH a1;rw[c8]at a1 bB;simp only[bm,bp,bw,bC,ar,Act.put,bD,bE,bF,cZ,da,Nat.reduceAdd,Nat.zero_add,aG,c8];have bX:Hid (jr w' (.slice Y O aa) (L++[a])):=⟨am++[c7],by rw[List.flatten_append,List.flatten_cons,List.flatten_nil,List.append_nil,aW];exact a1,(ba.out.cu r bl.out).snoc cw⟩;have ad:=af r;have bi:=af bB;have dP:=af (dO.out.cu r bl.out);have be:=af (bk.out.fr r co.out);have ch:Hid (O=L.length+1):=dH.out;clear r o aI aG c8 cw a1 bB dO ba b5 bY aX bk dE dH;go_wp2_with(refine aM rfl 26 (.tmp 80) (.tmp 78) rfl h 1 (.slice Y O aa) rfl rfl rfl r8 _ _ #[.pointer (some ⟨b,0,none⟩), .slice Y O aa, .slice I N J, .pointer (some ⟨s,0,none⟩), .pointer (some ⟨g,0,none⟩)] be.out (show 1<5 by decide) rfl ?_);intro d0 b9 f9;have cj:Hid (dG d0 h b s g (.slice Y O aa) (.slice I N J) K ay aE F E (L++[a]) L L (L++[a])):=bq.out.Bc ad.out bX.out bi.out f9 b9;have dQ:=af (dP.out.cu f9 (kt be.out (by decide) (by decide) (by decide)));have cf:Hid (∀k,(Value.slice Y O aa).ownBlock=some k→(Value.slice y n1 C).ownBlock=some k∨w.heap.size≤k):=fun k p=>(bi.out k p).imp id (fun h=>Nat.le_trans cV.out.size h);have dB:Hid (Fr (HB h (.slice y n1 C) (.slice I N J) g A (L.length+1) c mb) w d0):=(cV.out.trans (ad.out.mono (fun i _ p=> .inr (.inl p)))).trans (f9.mono (fun i _ p=> .inl p));have dy:=af b9;clear b9 f9 bq ad bX bi dP be cV;go_wp2_with(refine aM rfl 25 (.tmp 84) (.tmp 82) rfl h 3 (.pointer (some ⟨R,0,none⟩)) rfl rfl rfl Ak _ _ #[.pointer (some ⟨b,0,none⟩), .slice Y O aa, .slice I N J, .pointer (some ⟨R,0,none⟩), .pointer (some ⟨g,0,none⟩)] dy.out (show 3<5 by decide) rfl ?_);intro av iu f10;have D:Hid (dG av h b R g (.slice Y O aa) (.slice I N J) K ay aE F E (L++[a]) L (L++[a]) (L++[a])):=cj.out.Be f10 dQ.out iu;have bg:Hid (Fr (HB h (.slice y n1 C) (.slice I N J) g A (L.length+1) c mb) w av):=dB.out.trans (f10.mono (fun i _ p=> .inl p));have bd:=af iu;clear iu f10 cj dB dy dQ;have bv:av.cell? {block:=h,off:=1}=some (.slice Y O aa):=bd.out.cell 1;have cm:Hid (∀(a7:Value)(dL:List Nat)w',dG w' h b R g (.slice Y O aa) a7 dL ay aE F E (L++[a]) (L++[a]) (L++[a]) (L++[a])→Fr (HB h (.slice y n1 C) (.slice I N J) g A (L.length+1) c mb) w w'→(∀k,a7.ownBlock=some k→(Value.slice I N J).ownBlock=some k∨w.heap.size≤k)→wU w h E L (HB h (.slice y n1 C) (.slice I N J) g A (L.length+1) c mb) a (.returned (.int .i64 0)) w'):=fun a7 dL w' cQ r p=>by
  refine⟨HB h (.slice Y O aa) a7 g ay ((L++[a]).length+1) aE F,by rw[bj.out],by rw[bj.out];exact⟨b,R,g,_,_,_,ay,aE,F,cQ,rfl⟩,r,fun k dq=>?_⟩;rcases dq with H|H|H|H;·exact .inl (.inl H)
  ·exact(cf.out k H).imp (fun h=> .inr (.inl h)) id
  ·exact(p k H).imp (fun h=> .inr (.inr (.inl h))) id
  ·exact(cg.out k H).imp (fun h=> .inr (.inr (.inr h))) id
 clear bj cf cg ae cl;by_cases hm:(L.length+1)%16=0;case neg=>
  have dR:(O:Int).tmod 16=(((L.length+1)%16:Nat):Int):=by rw[Int.tmod_eq_emod_of_nonneg (by omega),ch.out];omega
  have a2:((((L.length+1)%16:Nat):Int)==0)=false:=by rw[beq_eq_false_iff_ne];omega
  have bb:Hid (K.length=(L++[a]).length/16):=by
   rw[Hid,D.out.lP,aW,List.length_singleton];omega
  generalize dr:(L.length+1)%16=m at dR a2;have bs:Hid (dG av h b R g (.slice Y O aa) (.slice I N J) K ay aE F E (L++[a]) (L++[a]) (L++[a]) (L++[a])):=by
   have q:=D.out;refine⟨q.aD,q.base,q.jt,q.kept,bb.out,fun i k p=>?_,q.last,q.log⟩;have cO:=(List.getElem?_eq_some_iff.1 p).1;have dY:=q.lP;have H:=q.qs i k p;rw[List.take_append_of_le_length (by omega)];exact H
  clear hm dr bb;go_wp2;go_ret;exact cm.out _ _ _ bs.out bg.out (fun k p=> .inl p)
 case pos=>
  have dR:(O:Int).tmod 16=0:=by rw[Int.tmod_eq_emod_of_nonneg (by omega),ch.out];omega
  have dJ:=af hm;have d7:av.cell? {block:=h,off:=2}=some (.slice I N J):=bd.out.cell 2;obtain⟨du,dp,dv,bR,dw⟩:=info_parts Hi;have ei:Hid (¬1*du.size>2^24):=by simp only[Hid];rw[bR];omega
  have ej:Hid (¬1*du.size=0):=by simp only[Hid];rw[bR];omega
  have cp:=af D.out.kept;have cc:Hid (K.length≤65536):=by have:=D.out.lP;have:=Z.out;simp only[Hid];omega
  clear hm;go_wp2_with(refine cL _ rfl _ _ 108 rfl 25 du (.pointer none) 1 8 Tryz.underlying108 dp dv bR dw rfl (by decide) _ _ _ rfl cp.out 1 #[.pointer (some ⟨R,0,none⟩)] _ rfl rfl rfl (fun u hu=>by simp at hu;subst hu;rfl) (by have:=cc.out;omega) (by decide) ?_);intro v11 eu a4;obtain⟨aN,a6,aZ,rfl,d3,_⟩:=aH a4.own;have G:=af a4;have cR:=af (bd.out.fr a4.fr (D.out.apart.1.2.1));clear a4 bv d7;go_wp2_with(refine aM rfl 108 (.tmp 101) (.tmp 99) rfl h 2 (.slice aN a6 aZ) rfl rfl rfl xq _ _ #[.pointer (some ⟨b,0,none⟩), .slice Y O aa, .slice aN a6 aZ, .pointer (some ⟨R,0,none⟩), .pointer (some ⟨g,0,none⟩)] cR.out (show 2<5 by decide) rfl ?_);intro cI cr f12;have cd:(K++[R]).length=(L++[a]).length/16:=by
   have H:=D.out.lP;have bA:=dJ.out;rw[aW,aW,List.length_singleton,List.length_singleton,H];omega
  have bs:Hid (dG cI h b R g (.slice Y O aa) (.slice aN a6 aZ) (K++[R]) ay aE F E (L++[a]) (L++[a]) (L++[a]) (L++[a])):=by
   have q:=D.out;refine q.Bd G.out.fr (by rw[List.map_append,aW];exact G.out.own) G.out.eE cd (fun i k p=>?_) f12 cr;by_cases cO:i<K.length;·rw[List.getElem?_append_left cO]at p;have H:=q.qs i k p;have dY:=q.lP;rw[List.take_append_of_le_length (by omega)];exact H
   ·have dm:i=K.length:=by
     have:=(List.getElem?_eq_some_iff.1 p).1;rw[aW,List.length_singleton]at this;omega
    rw[dm,List.getElem?_append_right (Nat.le_refl _),Nat.sub_self]at p;cases p;have dY:=q.lP;have hm:=dJ.out;rw[List.take_of_length_le (by rw[aW,List.length_singleton];omega)];exact q.last
  have cU:Hid (Fr (HB h (.slice y n1 C) (.slice I N J) g A (L.length+1) c mb) w cI):=(bg.out.au G.out.fr (fun i _ p=> .inr (.inr (.inl p)))).trans (f12.mono (fun i _ p=> .inl p));have ce:Hid (∀k,(Value.slice aN a6 aZ).ownBlock=some k→(Value.slice I N J).ownBlock=some k∨w.heap.size≤k):=fun k p=>(G.out.eE k p).imp id (fun h=>Nat.le_trans bg.out.size h);clear cr f12 cd G;go_wp2;go_ret;exact cm.out _ _ _ bs.out cU.out ce.out
end Go.Proofs.YtphjagkehiklkaaGreatDoor
namespace Go.Proofs.YtphjagkehiklkaaGreatDoor
open Go.RowKit Go.Shelf
def vu(rt:List UInt8)(i n:Int)(l:List UInt8)(path:List (List UInt8)):Bool:=decide ((Lt.dm (dZ l) (i+1) (n+1) path).2.2=0)&&decide ((Lt.dm (dZ l) (i+1) (n+1) path).1=rt)
def rF(rt:List UInt8)(i n:Int)(l:List UInt8)(path:List (List UInt8)):Int:=
 if n<1∨65536<n∨i<0∨n≤i then 2 else if mN l=none then 3 else if vu rt i n l path=true then 0 else 35
def nh(w:World)(rt:List UInt8)(i n:Int)(l:List UInt8)(path:List (List UInt8))(e:Ending)(w':World):Prop:=
 ∃cs a b,e= .returned (.tuple #[.agg cs.toArray, .int .i64 b])∧cy w' cs a∧Fr ah w w'∧b=rF rt i n l path∧(b=0→mN l=some a)∧(b≠0→a=oi)
theorem xQ(rt:List UInt8)(ay:rt.length=32)(i n:Int)(d:ByteArray)(path:List (List UInt8))(len:Nat)(A:Option Addr)(c:Nat)(S:Nat→Prop)(w:World)(bG:Lt.fL w S A len path)(V:len≤1048576)(ch:ed w)(bJ:bU w)(ci:d.size≤16777216):
  Calls Tryz.prog 17 #[aU rt, .agg [Value.int .i64 i, .int .i64 n, .string d, .slice A len c].toArray] w (nh w rt i n (aS d) path):=by
 have D:Hid (rF rt i n (aS d) path=if n<1∨65536<n∨i<0∨n≤i then 2 else if mN (aS d)=none then 3 else if vu rt i n (aS d) path=true then 0 else 35):=rfl;have b3:Hid (∀w',Fr ah w w'→Calls Tryz.prog 20 #[.string d] w' (xN w' (aS d))):=fun w' f=>EZ d w' (ch.ao f) ci;have CL:Hid (∀w',Fr ah w w'→Calls Tryz.prog 59 #[.string d] w' (aK w' (aU (dZ (aS d))))):=fun w' f=>uS d w' (bJ.ao f) (by omega);have Y:Hid (∀(k m:Nat)w',Fr ah w w'→m≤65536→Calls Tryz.prog 58 #[aU (dZ (aS d)), .int .i64 ((k:Int)+1), .int .i64 ((m:Int)+1), .slice A len c] w' (aK w' (.tuple #[aU (Lt.dm (dZ (aS d)) ((k:Int)+1) ((m:Int)+1) path).1, .int .i64 (Lt.dm (dZ (aS d)) ((k:Int)+1) ((m:Int)+1) path).2.2]))):=fun k m w' f hm=>
  Lt.Fb (dZ (aS d)) (jV _) _ _ (by omega) path len A c S w' (bG.ao f) V (bJ.ao f);have aQ:Hid (∀k m:Int,(Lt.dm (dZ (aS d)) k m path).1.length=32):=fun k m=>Lt.oY (dZ (aS d)) (jV _) k m path bG.each;have l:Hid (∀ae:Int,rF rt i n (aS d) path=ae→ae≠0→∀w',Fr ah w w'→nh w rt i n (aS d) path (.returned (.tuple #[.agg bX.toArray, .int .i64 ae])) w'):=fun ae R T w' f=>⟨_,_,_,rfl,qI w',f,R.symm,fun h=>absurd h T,fun _=>rfl⟩;have r:Hid (∀cs a w',rF rt i n (aS d) path=0→mN (aS d)=some a→cy w' cs a→Fr ah w w'→nh w rt i n (aS d) path (.returned (.tuple #[.agg cs.toArray, .int .i64 0])) w'):=fun cs a w' R T aj f=>⟨_,_,_,rfl,aj,f,R.symm,fun _=>T,fun h=>absurd rfl h⟩;have aW:Hid (∀k m:Nat,vu rt (k:Int) (m:Int) (aS d) path=(decide ((Lt.dm (dZ (aS d)) ((k:Int)+1) ((m:Int)+1) path).2.2=0)&&decide ((Lt.dm (dZ (aS d)) ((k:Int)+1) ((m:Int)+1) path).1=rt))):=fun _ _=>rfl;have co:Hid (Lt.dB (rt.map bL).toArray):=Lt.dB.of ay;have bj:=af ay;have cn:Hid (Lt.dB ((dZ (aS d)).map bL).toArray):=Lt.dB.of (jV _);unfold aU at CL Y⊢;generalize bH:(dZ (aS d)).map bL=ct at*;generalize a4:rt.map bL=aG at*;have bk:=af a4;generalize nh w rt i n (aS d) path=PP at*;clear bG V ch bJ ci ay bH a4;go_enter Tryz.func17,Tryz.ntmps17;go_wp2_with(refine aB rfl 38 (.tmp 0) rfl aG.toArray rfl ?_);intro w1 n1;have bb:=af n1;clear n1;generalize av:w.heap.size=g2 at*;have bY:Hid (aq w1 g2 38 aG.toArray):=by have q:=bb.out.aD;rw[av]at q;exact q
 have cq:Hid (w.heap.size≤g2):=by rw[Hid,av];exact Nat.le_refl _
 clear av;go_wp2_with(refine aB rfl 33 (.tmp 1) rfl [Value.int .i64 i, .int .i64 n, .string d, .slice A len c].toArray rfl ?_);intro w2 cj;have aY:=af cj;clear cj;generalize a8:w1.heap.size=H at*;have cc:Hid (aq w2 H 33 [Value.int .i64 i, .int .i64 n, .string d, .slice A len c].toArray):=by have q:=aY.out.aD;rw[a8]at q;exact q
 clear a8;go_wp2_with(refine an rfl 46 rfl eC j8 bX.toArray rfl ?_);intro w3 n3;have a0:=af n3;clear n3;generalize a6:w2.heap.size=g4 at*;have aH:Hid (aq w3 g4 46 bX.toArray):=by have q:=a0.out.aD;rw[a6]at q;exact q
 have Z:Hid (Fr ah w w3):=(bb.out.fr.trans aY.out.fr).trans a0.out.fr;have E:Hid (w.heap.size≤g4):=by have:=(bb.out.fr.trans aY.out.fr).size;simp only[Hid];omega
 clear a6;have bZ:=af ((bY.out.fr aY.out.fr (fun x=>x)).fr a0.out.fr (fun x=>x));have a1:=af (cc.out.fr a0.out.fr (fun x=>x));clear bb aY a0 bY cc;have M:Hid (∀W,Fr ah w3 W→W.cell? {block:=H,off:=0}=some (.int .i64 i)∧W.cell? {block:=H,off:=1}=some (.int .i64 n)∧W.cell? {block:=H,off:=2}=some (.string d)∧W.cell? {block:=H,off:=3}=some (.slice A len c)):=fun W f=>⟨(a1.out.fr f (fun x=>x)).cell 0,(a1.out.fr f (fun x=>x)).cell 1,(a1.out.fr f (fun x=>x)).cell 2,(a1.out.fr f (fun x=>x)).cell 3⟩;obtain⟨cN,cO,cP,x3⟩:=M.out _ az;by_cases R:n<1;·have t1:decide (n<1)=true:=decide_eq_true R;have G:=af (l.out 2 (by rw[D.out,if_pos (by omega)]) (by decide));clear l r;go_wp2_with(first|(refine wpList_buildTo rfl 46 #[] rfl bX.toArray fP ?_)|(refine ak rfl 46 (.tmp 4) _ rfl g4 bX.toArray rfl rfl _ _ aH.out bM rfl fU ?_));intro t C y;have I:=af C;have J:Hid (Fr ah w t):=Z.out.au y (fun i ax e=>by have ad:i=g4:=e;have:=E.out;omega);clear C y;go_wp2;exact bodyPost_ret (bh (fn:=Tryz.f17) (p:=4) (q:=5) (ty:=46) Tryz.results17 _ t _ 46 bX.toArray (0,0) _ rfl I.out Tryz.underlying46 rfl bM _ rfl) rfl (G.out t J.out)
 have t1:decide (n<1)=false:=decide_eq_false R;by_cases T:65536<n;·have t2:decide (65536<n)=true:=decide_eq_true T;have G:=af (l.out 2 (by rw[D.out,if_pos (by omega)]) (by decide));clear l r;go_wp2_with(first|(refine wpList_buildTo rfl 46 #[] rfl bX.toArray fP ?_)|(refine ak rfl 46 (.tmp 4) _ rfl g4 bX.toArray rfl rfl _ _ aH.out bM rfl fU ?_));intro t C y;have I:=af C;have J:Hid (Fr ah w t):=Z.out.au y (fun i ax e=>by have ad:i=g4:=e;have:=E.out;omega);clear C y;go_wp2;exact bodyPost_ret (bh (fn:=Tryz.f17) (p:=4) (q:=5) (ty:=46) Tryz.results17 _ t _ 46 bX.toArray (0,0) _ rfl I.out Tryz.underlying46 rfl bM _ rfl) rfl (G.out t J.out)
 have t2:decide (65536<n)=false:=decide_eq_false T;by_cases aj:i<0;·have t3:decide (i<0)=true:=decide_eq_true aj;have G:=af (l.out 2 (by rw[D.out,if_pos (by omega)]) (by decide));clear l r;go_wp2_with(first|(refine wpList_buildTo rfl 46 #[] rfl bX.toArray fP ?_)|(refine ak rfl 46 (.tmp 4) _ rfl g4 bX.toArray rfl rfl _ _ aH.out bM rfl fU ?_));intro t C y;have I:=af C;have J:Hid (Fr ah w t):=Z.out.au y (fun i ax e=>by have ad:i=g4:=e;have:=E.out;omega);clear C y;go_wp2;exact bodyPost_ret (bh (fn:=Tryz.f17) (p:=4) (q:=5) (ty:=46) Tryz.results17 _ t _ 46 bX.toArray (0,0) _ rfl I.out Tryz.underlying46 rfl bM _ rfl) rfl (G.out t J.out)
 have t3:decide (i<0)=false:=decide_eq_false aj;by_cases a2:n≤i;·have t4:decide (n≤i)=true:=decide_eq_true a2;have G:=af (l.out 2 (by rw[D.out,if_pos (by omega)]) (by decide));clear l r;go_wp2_with(first|(refine wpList_buildTo rfl 46 #[] rfl bX.toArray fP ?_)|(refine ak rfl 46 (.tmp 4) _ rfl g4 bX.toArray rfl rfl _ _ aH.out bM rfl fU ?_));intro t C y;have I:=af C;have J:Hid (Fr ah w t):=Z.out.au y (fun i ax e=>by have ad:i=g4:=e;have:=E.out;omega);clear C y;go_wp2;exact bodyPost_ret (bh (fn:=Tryz.f17) (p:=4) (q:=5) (ty:=46) Tryz.results17 _ t _ 46 bX.toArray (0,0) _ rfl I.out Tryz.underlying46 rfl bM _ rfl) rfl (G.out t J.out)
 have t4:decide (n≤i)=false:=decide_eq_false a2;have ac:Hid (¬(n<1∨65536<n∨i<0∨n≤i)):=by simp only[Hid];omega
 go_wp2_with fail;refine(b3.out _ Z.out).mono ?_;rintro e X⟨cs,a,ae,rfl,am,f4,K⟩;have b9:=af (Z.out.trans f4);have bc:=af am;have br:=af (aH.out.fr f4 (fun x=>x));have b0:=af (bZ.out.fr f4 (fun x=>x));have aM:Hid (∀W,Fr ah X W→W.cell? {block:=H,off:=0}=some (.int .i64 i)∧W.cell? {block:=H,off:=1}=some (.int .i64 n)∧W.cell? {block:=H,off:=2}=some (.string d)∧W.cell? {block:=H,off:=3}=some (.slice A len c)):=fun W f=>M.out W (f4.trans f);have N:=af K;have a9:=am.len;have F:=af a9;clear K am f4 cN cO cP x3 M a1 Z aH bZ b3 a9;go_wp2_with(refine an rfl 46 rfl eC j8 bX.toArray rfl ?_);intro cL n5;have bo:=af n5;clear n5;generalize a7:X.heap.size=g6 at*;have b5:Hid (aq cL g6 46 bX.toArray):=by have q:=bo.out.aD;rw[a7]at q;exact q
 have bg:Hid (X.heap.size≤g6∧g4<g6∧w.heap.size≤g6):=by have:=br.out.lt;have:=b9.out.size;simp only[Hid];omega
 clear a7;go_wp2_with(refine ak rfl 46 (.tmp 6) _ rfl g6 cs.toArray rfl rfl _ _ b5.out (pJ _ F.out) (by rw[List.size_toArray,List.size_toArray,F.out];rfl) (ActV.one bc.out) ?_);intro cM ce f6;have b6:=af ce;have aA:Hid (Fr ah X cM):=bo.out.fr.au f6 (fun i ax e=>by have ad:i=g6:=e;have:=bg.out;omega);have aN:=af (b9.out.trans aA.out);have aO:=af aA.out;have bT:=af (bc.out.ao aA.out);have bs:=af (br.out.fr aA.out (fun x=>x));have b1:=af (b0.out.fr aA.out (fun x=>x));clear ce f6 bo b5 aA br b0 bc;by_cases ap:ae=0;case neg=>
  obtain⟨rfl,a5,_⟩:ae=3∧mN (aS d)=none∧a=oi:=by
   rcases N.out with⟨h,_⟩|h;·exact absurd h ap
   ·exact h
  have bd:=af a5;have t5:((3:Int)!=0)=true:=rfl;clear ap a5 N;have G:=af (l.out 3 (by rw[D.out,if_neg ac.out,if_pos bd.out]) (by decide));clear l r;go_wp2_with(first|(refine wpList_buildTo rfl 46 #[] rfl bX.toArray fP ?_)|(refine ak rfl 46 (.tmp 4) _ rfl g4 bX.toArray rfl rfl _ _ bs.out bM rfl fU ?_));intro t C y;have I:=af C;have J:Hid (Fr ah w t):=aN.out.au y (fun i ax e=>by have ad:i=g4:=e;have:=E.out;omega);clear C y;go_wp2;exact bodyPost_ret (bh (fn:=Tryz.f17) (p:=4) (q:=5) (ty:=46) Tryz.results17 _ t _ 46 bX.toArray (0,0) _ rfl I.out Tryz.underlying46 rfl bM _ rfl) rfl (G.out t J.out)
 subst ap;have t5:((0:Int)!=0)=false:=rfl;have aa:Hid (mN (aS d)=some a):=by
  rcases N.out with⟨_,h⟩|⟨h,_⟩;·exact h
  ·cases h
 clear N;obtain⟨m,rfl⟩:∃m:Nat,n=m:=⟨n.toNat,by omega⟩;obtain⟨k,rfl⟩:∃k:Nat,i=k:=⟨i.toNat,by omega⟩;have bi:Hid (m≤65536∧k≤65536):=by simp only[Hid];omega
 have cw:Hid (IntKind.i64.wrap ((k:Int)+1)=(k:Int)+1):=IntWalk.i64_in _ (by have:=bi.out;omega);have cx:Hid (IntKind.i64.wrap ((m:Int)+1)=(m:Int)+1):=IntWalk.i64_in _ (by have:=bi.out;omega);have aJ:=af (fun w' f=>Y.out k m w' f bi.out.1);have aT:=af (aQ.out ((k:Int)+1) ((m:Int)+1));have aV:=af (aW.out k m);have ba:Hid (Lt.dB ((Lt.dm (dZ (aS d)) ((k:Int)+1) ((m:Int)+1) path).1.map bL).toArray):=Lt.dB.of aT.out;generalize(Lt.dm (dZ (aS d)) ((k:Int)+1) ((m:Int)+1) path).2.2=U at*;generalize(Lt.dm (dZ (aS d)) ((k:Int)+1) ((m:Int)+1) path).1=fr at*;generalize a3:fr.map bL=L at*;have bf:=af a3;clear a3 Y aQ aW t1 t2 t3 t4 R T aj a2;have M:=af (fun W f=>aM.out W f);have bq:Hid (∀w:World,(binOp .neq 38 (.agg L.toArray) (.agg aG.toArray)).run Tryz.prog w= .ok (.bool (!decide (fr=rt))) w):=fun w=>by
  rw[←bf.out,←bk.out];exact Jg w _ Tryz.underlying38 fr rt aT.out bj.out
 have bl:Hid ((Tryz.prog.info? 38).map (·.size)=some L.length):=by have q:=ba.out.info;rw[List.size_toArray]at q;exact q
 have bn:Hid ((Tryz.prog.info? 38).map (·.size)=some aG.length):=by have q:=co.out.info;rw[List.size_toArray]at q;exact q
 go_upto_region 6 with fail;refine vW 18 38 [fun v=>v= .pointer (some ⟨H,2,none⟩),fun v=>v= .string d,fun v=>v= .agg ct.toArray,fun v=>v= .pointer (some ⟨H,0,none⟩),fun v=>v= .int .i64 (k:Int),fun v=>v= .int .i64 ((k:Int)+1),fun v=>v= .pointer (some ⟨H,1,none⟩),fun v=>v= .int .i64 (m:Int),fun v=>v= .int .i64 ((m:Int)+1),fun v=>v= .pointer (some ⟨H,3,none⟩),fun v=>v= .slice A len c,fun v=>v= .tuple #[.agg L.toArray, .int .i64 U],fun v=>v= .tuple #[.agg L.toArray, .int .i64 U],fun v=>v= .agg L.toArray,fun v=>v= .int .i64 U,fun _=>True,fun _=>True,fun v=>v= .int .i64 U] [] [(15,aE)] [(16,15,L.toArray)] (by kernel_rfl) (by kernel_rfl) (by kernel_rfl) trivial ?_ ?_
 ·refine⟨fun u w' o b s=>?_,fun u w' o b s=>?_,fun u w' o b s=>?_,fun u w' o b s=>?_,fun u w' o b s=>?_,fun u w' o b s=>?_,fun u w' o b s=>?_,fun u w' o b s=>?_,fun u w' o b s=>?_,fun u w' o b s=>?_,fun u w' o b s=>?_,fun u w' o b s=>?_,fun u w' o b s=>?_,fun u w' o b s=>?_,fun u w' o b s=>?_,fun u w' o b=>?_,fun u w' g o b cI bK=>?_,fun u w' o b s=>?_,trivial⟩;all_goals simp only[bm,bp,bw,bC,ar,Act.put,bD,bE,bF,Nat.reduceAdd,Nat.zero_add]
  ·clear b s;refine ai ?_;go_simp;exact⟨_,rfl,fX⟩
  ·have cB:u 0=_:=b 0 (by kernel_rfl);clear b s;simp only[cB];refine ai ?_;have q:=M.out _ (aO.out.trans o);obtain⟨bN,bO,bP,bR⟩:=q;go_simp;exact⟨_,rfl,fX⟩
  ·have R:u 1=_:=b 1 (by kernel_rfl);clear b s;simp only[R];refine ai ?_;go_simp;refine(CL.out _ (aN.out.trans o)).mono ?_;rintro e X⟨rfl,f4⟩;exact⟨_,rfl,rfl,trivial,f4⟩
  ·clear b s;refine ai ?_;go_simp;exact⟨_,rfl,fX⟩
  ·have aj:u 3=_:=b 3 (by kernel_rfl);clear b s;simp only[aj];refine ai ?_;have q:=M.out _ (aO.out.trans o);obtain⟨bN,bO,bP,bR⟩:=q;go_simp;exact⟨_,rfl,fX⟩
  ·have a2:u 4=_:=b 4 (by kernel_rfl);clear b s;simp only[a2];refine ai ?_;have cS:=cw.out;go_simp;exact⟨_,rfl,fX⟩
  ·clear b s;refine ai ?_;go_simp;exact⟨_,rfl,fX⟩
  ·have cD:u 6=_:=b 6 (by kernel_rfl);clear b s;simp only[cD];refine ai ?_;have q:=M.out _ (aO.out.trans o);obtain⟨bN,bO,bP,bR⟩:=q;go_simp;exact⟨_,rfl,fX⟩
  ·have cE:u 7=_:=b 7 (by kernel_rfl);clear b s;simp only[cE];refine ai ?_;have cT:=cx.out;go_simp;exact⟨_,rfl,fX⟩
  ·clear b s;refine ai ?_;go_simp;exact⟨_,rfl,fX⟩
  ·have cG:u 9=_:=b 9 (by kernel_rfl);clear b s;simp only[cG];refine ai ?_;have q:=M.out _ (aO.out.trans o);obtain⟨bN,bO,bP,bR⟩:=q;go_simp;exact⟨_,rfl,fX⟩
  ·have T:u 2=_:=b 2 (by kernel_rfl);have cC:u 5=_:=b 5 (by kernel_rfl);have cF:u 8=_:=b 8 (by kernel_rfl);have bu:u 10=_:=b 10 (by kernel_rfl);clear b s;simp only[T,cC,cF,bu];refine ai ?_;go_simp;refine(aJ.out _ (aN.out.trans o)).mono ?_;rintro e X⟨rfl,f4⟩;exact⟨_,rfl,rfl,trivial,f4⟩
  ·have bv:u 11=_:=b 11 (by kernel_rfl);clear b s;simp only[bv];refine ai ?_;go_simp;exact⟨_,rfl,fX⟩
  ·have ag:u 12=_:=b 12 (by kernel_rfl);clear b s;simp only[ag];refine ai ?_;go_simp;exact⟨_,rfl,fX⟩
  ·have ag:u 12=_:=b 12 (by kernel_rfl);clear b s;simp only[ag];refine ai ?_;go_simp;exact⟨_,rfl,fX⟩
  ·clear b;refine ai ?_;refine lg 38 rfl aZ iJ aE rfl ?_;intro X n4;exact⟨_,rfl,trivial,trivial,rfl,n4⟩
  ·have bx:u 13=_:=b 13 (by kernel_rfl);clear b;simp only[bx,cI];refine ai ?_;obtain⟨cs,hm,bK⟩:=bK;obtain rfl:cs=aE:=by simpa using hm
   refine Lt.oh 38 (.tmp 8) (.tmp 53) rfl g L.toArray rfl rfl _ _ bK ba.out.info ba.out.zero ba.out.one ?_;intro X b4 f4;exact⟨_,rfl,trivial,b4,f4⟩
  ·have bz:u 14=_:=b 14 (by kernel_rfl);clear b s;simp only[bz];refine ai ?_;go_simp;exact⟨_,rfl,fX⟩
 intro u w' o b cf cH;have bB:u 17=_:=b 17 (by omega);obtain⟨g8,bA,cK,b8⟩:=cf 15 aE (by simp);have b2:Hid (aq w' g8 38 L.toArray):=b8;have cQ:=af o;have ca:=af (aN.out.trans o);have aI:=af (b1.out.fr o (fun x=>x));have cd:=af (bs.out.fr o (fun x=>x));have b7:=af (b6.out.fr o (fun x=>x));have bV:=af (bT.out.ao o);clear b cf cH o b8 cK CL aJ M aM aO aN b1 bs b6 bT;simp only[bm,bp,bw,bC,ar,Act.put,bD,bE,bF,cZ,da,Nat.reduceAdd,Nat.zero_add,bB,bA];generalize w'=cR at*;obtain⟨P,cg⟩:∃P,(U !=0)=P:=⟨_,rfl⟩;have ab:=af cg;obtain⟨Q,bI⟩:∃Q,(!decide (fr=rt))=Q:=⟨_,rfl⟩;have aX:=af bI;rw[bI]at bq;clear cg bI;obtain⟨B,al⟩:∃z:Bool,(bif P then true else Q)=z:=⟨_,rfl⟩;have HB:=af al;clear al;go_upto_region 7 with fail;refine jm 7 [.int .i64 U, .bool P, .bool P,bif P then undef else .agg L.toArray,bif P then undef else .agg aG.toArray,bif P then undef else .bool Q, .bool B] ?zC ?_;case zC=>
  refine⟨?zJ,?zD,?zE,?zF,?zG,?zH,?zI,trivial⟩;all_goals intro u w' o b
  all_goals simp only[z1,z2,z3,z4,ar,Act.put,z5,z6,z7,Nat.reduceAdd,Nat.zero_add]
  case zD=>
   simp only[show u 0=_ from b 0];refine aF ?_;have t1:=ab.out;go_simp;exact aL
  case' zE=>simp only[show u 1=_ from b 1]
  case zF=>
   simp only[show u 2=_ from b 2];cases P;case true=>exact bS
   refine aF ?_;exact aw _ _ rfl ⟨g8,0,none⟩ rfl L _ (jJ (b2.out.fr o (fun x=>x))) Tryz.underlying38 rfl bl.out aL
  case zG=>
   simp only[show u 2=_ from b 2];cases P;case true=>exact bS
   refine aF ?_;exact aw _ _ rfl ⟨g2,0,none⟩ rfl aG _ (jJ (aI.out.fr o (fun x=>x))) Tryz.underlying38 rfl bn.out aL
  case zH=>
   simp only[show u 3=_ from b 3,show u 4=_ from b 4,show u 2=_ from b 2];cases P;case true=>exact bS
   refine aF ?_;exact mc _ _ _ _ _ rfl _ _ rfl rfl Tryz.eqGuardType38 _ (bq.out _) aL
  case zI=>
   simp only[show u 2=_ from b 2,show u 5=_ from b 5];cases P<;>exact aF (by go_simp;exact⟨by rw[←HB.out];rfl,az⟩)
  all_goals
   try simp only[cond]
   refine aF ?_;go_simp;exact aL
 intro w' o;simp only[z1,z2,z3,z4,ar,Act.put,z5,z6,z7,z8,z9,jn,jo,Nat.reduceAdd,Nat.zero_add];have cb:=af (ca.out.trans o);have bt:=af (cd.out.fr o (fun x=>x));have cm:=af (b7.out.fr o (fun x=>x));have bW:=af (bV.out.ao o);have O:Hid (vu rt (k:Int) (m:Int) (aS d) path=!B):=by
  rw[Hid,aV.out,←HB.out];have cz:decide (U=0)=!P:=by
   rw[←ab.out,bne,Bool.not_not];by_cases h:U=0<;>simp[h]
  have cA:decide (fr=rt)=!Q:=by rw[←aX.out,Bool.not_not]
  rw[cz,cA];cases P<;>cases Q<;>rfl
 clear o HB aV ab aX bq ca cd b7 bV b2 aI;cases al:B;case true=>
  have aP:Hid (rF rt (k:Int) (m:Int) (aS d) path=35):=by
   rw[D.out,if_neg ac.out,if_neg (by rw[aa.out];simp),O.out,al];rfl
  clear al O D;have G:=af (l.out 35 aP.out (by decide));clear l r;go_wp2_with(first|(refine wpList_buildTo rfl 46 #[] rfl bX.toArray fP ?_)|(refine ak rfl 46 (.tmp 4) _ rfl g4 bX.toArray rfl rfl _ _ bt.out bM rfl fU ?_));intro t C y;have I:=af C;have J:Hid (Fr ah w t):=cb.out.au y (fun i ax e=>by have ad:i=g4:=e;have:=E.out;omega);clear C y;go_wp2;exact bodyPost_ret (bh (fn:=Tryz.f17) (p:=4) (q:=5) (ty:=46) Tryz.results17 _ t _ 46 bX.toArray (0,0) _ rfl I.out Tryz.underlying46 rfl bM _ rfl) rfl (G.out t J.out)
 have be:Hid (rF rt (k:Int) (m:Int) (aS d) path=0):=by
  rw[D.out,if_neg ac.out,if_neg (by rw[aa.out];simp),O.out,al];rfl
 clear al O D l;have cr:Hid ((Tryz.prog.info? 46).map (·.size)=some cs.length):=by rw[Hid,F.out];exact bM
 have cv:Hid (cs.toArray.all (·.oneCell')=true):=ActV.one bW.out;go_wp2_with(refine aC rfl 46 (.tmp 6) rfl ⟨g6,0,none⟩ rfl cs _ ?zA Tryz.underlying46 rfl cr.out (aR.go ?zB));case zA=>
  intro j x cJ;rw[Addr.add_mid,Nat.zero_add,cm.out.cell j,bQ];exact cJ
 unfold aR;go_wp2_with(refine ak rfl 46 (.tmp 4) _ rfl g4 cs.toArray rfl rfl _ _ bt.out (pJ _ F.out) (by rw[List.size_toArray,List.size_toArray,F.out];rfl) cv.out ?_);intro t C y;have cl:=af C;have cp:Hid (Fr ah w t):=cb.out.au y (fun i ax e=>by have ad:i=g4:=e;have:=E.out;omega);have ck:Hid (cy t cs a):=bW.out.cu y (kt bt.out (by decide) (by decide) (by decide));have G:=af (r.out cs a t be.out aa.out ck.out cp.out);clear C y;go_wp2;exact bodyPost_ret (bh (fn:=Tryz.f17) (p:=4) (q:=5) (ty:=46) Tryz.results17 _ t _ 46 cs.toArray (0,0) _ rfl cl.out Tryz.underlying46 rfl (pJ _ F.out) _ rfl) rfl G.out
end Go.Proofs.YtphjagkehiklkaaGreatDoor
