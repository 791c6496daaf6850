/- Texts. -/
import Derived.Test.YtphjagkehiklkaaGreatDoorUK31
set_option linter.unusedVariables false
set_option linter.unusedSimpArgs false
set_option maxRecDepth 100000
set_option maxHeartbeats 8000000
namespace Go.Proofs.YtphjagkehiklkaaGreatDoor
open Go.RowKit Go.Shelf
section
variable{w w1 w2:World}{h b s g:Nat}{va vk:Value}{K:List Nat}{A:Option Addr}{c:Nat}{mb:Option Nat}{E:List Ent}{La Lk Ll Lg:List ActV}
theorem nt{w:World}{k:Nat}{t:TypeId}{cs:Array Value}(a:ak w k t cs)(b:t≠177)(c:t≠174)(d:t≠119):eG w (fun i=>i=k):=fun i e=>by
 obtain rfl:i=k:=e;exact⟨fun x=>b (a.ty.one x),fun x=>c (a.ty.one x),fun x=>d (a.ty.one x)⟩
theorem s8{w:World}{base n:Nat}{e:TypeId}{size:Nat}{v:Value}{xs:List Value}(f:w.ownsRow base e size v n xs)(a:e≠177)(b:e≠174)(c:e≠119):eG w (fun i=>v.ownBlock=some i):=fun i d=>by
 have t:=gW f d;exact⟨fun x=>a (t.one x),fun x=>b (t.one x),fun x=>c (t.one x)⟩
theorem dj.FQ(d:dj w h b s g va vk K A c mb E La Lk Ll Lg)(f:Fr (Lt.TB g A (Lg.length+1) c mb) w w1){l:Option Addr}{m:Nat}{j:Option Nat}{a:List ActV}(n:Lt.dQ w1 g l (a.length+1) m j (cL E a) (Lt.aZ (a.length+1))):
  dj w1 h b s g va vk K l m j E La Lk Ll a:=by
 have ap:=d.apart;have bV:eG w (Lt.TB g A (Lg.length+1) c mb):=fun k e=>d.bV k (.inr (.inr (.inr e)));exact⟨d.az.fr f ap.1.2.2,d.base.bV f bV,d.kL.bV f bV (fun k e=>(ap.2.1 k e).2),aK d.kept f (fun k e=>ap.2.2 k e),d.lB,fun i k e=>(d.qy i k e).bV f bV,d.last.bV f bV,n⟩
theorem dj.FM(j:dj w h b s g va vk K A c mb E La Lk Ll Lg)(f1:Fr (fun k=>va.ownBlock=some k) w w1){l:Value}{m:List ActV}(u:jO w1 l m)(r:∀k,l.ownBlock=some k→va.ownBlock=some k∨w.heap.size≤k)(f2:Fr (fun k=>k=h) w1 w2)
  (q:ak w2 h 111 #[.pointer (some ⟨b,0,none⟩),l,vk, .pointer (some ⟨s,0,none⟩), .pointer (some ⟨g,0,none⟩)]):dj w2 h b s g l vk K A c mb E m Lk Ll Lg:=by
 have ap:=j.apart;obtain⟨cs,o,_⟩:=j.kL;have d:eG w (fun i=>va.ownBlock=some i):=s8 o (by decide) (by decide) (by decide);have n:=j.az.fr f1 ap.1.1;have a:eG w1 (fun i=>i=h):=nt n (by decide) (by decide) (by decide);have t:=j.az.lt;refine⟨q,(j.base.bV f1 d).bV f2 a,u.bV f2 a (fun k f e=>?_),aK (aK j.kept f1 (fun k f e=>(ap.2.1 k e).1 f)) f2 (fun k f e=>?_),j.lB,fun i k f=>((j.qy i k f).bV f1 d).bV f2 a,(j.last.bV f1 d).bV f2 a,
  jh (jh j.log f1 (fun k f e=>(ap.2.1 k e).2 f)) f2 (fun k f e=>?_)⟩
 ·obtain rfl:k=h:=e;rcases r k f with p|p;·exact ap.1.1 p
  ·omega
 ·obtain rfl:k=h:=e;exact ap.1.2.1 f
 ·obtain rfl:k=h:=e;exact ap.1.2.2 f
theorem dj.FP(d:dj w h b s g va vk K A c mb E La Lk Ll Lg)(f2:Fr (fun k=>k=h) w w2){l:Nat}{j:List ActV}(n:ew w l (eU j E))
  (m:ak w2 h 111 #[.pointer (some ⟨b,0,none⟩),va,vk, .pointer (some ⟨l,0,none⟩), .pointer (some ⟨g,0,none⟩)]):dj w2 h b l g va vk K A c mb E La Lk j Lg:=by
 have ap:=d.apart;have a:eG w (fun i=>i=h):=nt d.az (by decide) (by decide) (by decide);refine⟨m,d.base.bV f2 a,d.kL.bV f2 a (fun k f e=>?_),aK d.kept f2 (fun k f e=>?_),d.lB,fun i k f=>(d.qy i k f).bV f2 a,n.bV f2 a,jh d.log f2 (fun k f e=>?_)⟩;·obtain rfl:k=h:=e;exact ap.1.1 f
 ·obtain rfl:k=h:=e;exact ap.1.2.1 f
 ·obtain rfl:k=h:=e;exact ap.1.2.2 f
theorem dj.FO(l:dj w h b s g va vk K A c mb E La Lk Ll Lg)(f1:Fr (fun k=>vk.ownBlock=some k) w w1){j:Value}{n:List Nat}{m:List ActV}(x:w1.ownsRow 0 25 1 j n.length (n.map fun k=>Value.pointer (some ⟨k,0,none⟩)))(t:∀k,j.ownBlock=some k→vk.ownBlock=some k∨w.heap.size≤k)
  (v:n.length=m.length/16)(p:∀i k,n[i]? =some k→ew w k (eU (m.take (16*(i+1))) E))(f2:Fr (fun k=>k=h) w1 w2)
  (r:ak w2 h 111 #[.pointer (some ⟨b,0,none⟩),va,j, .pointer (some ⟨s,0,none⟩), .pointer (some ⟨g,0,none⟩)]):dj w2 h b s g va j n A c mb E La m Ll Lg:=by
 have ap:=l.apart;have a:eG w (fun i=>vk.ownBlock=some i):=s8 l.kept (by decide) (by decide) (by decide);have o:=l.az.fr f1 ap.1.2.1;have d:eG w1 (fun i=>i=h):=nt o (by decide) (by decide) (by decide);have u:=l.az.lt;refine⟨r,(l.base.bV f1 a).bV f2 d,(l.kL.bV f1 a (fun k f e=>(ap.2.1 k f).1 e)).bV f2 d (fun k f e=>?_),aK x f2 (fun k f e=>?_),v,fun i k f=>((p i k f).bV f1 a).bV f2 d,(l.last.bV f1 a).bV f2 d,
  jh (jh l.log f1 (fun k f e=>ap.2.2 k e f)) f2 (fun k f e=>?_)⟩;·obtain rfl:k=h:=e;exact ap.1.1 f
 ·obtain rfl:k=h:=e;rcases t k f with q|q;·exact ap.1.2.1 q
  ·omega
 ·obtain rfl:k=h:=e;exact ap.1.2.2 f
end
def xv(w:World)(h:Nat)(E:List Ent)(L:List ActV)(T:Nat→Prop)(a:ActV)(e:Ending)(w':World):Prop:=∃T',e= .returned (.int .i64 (ee L a).1)∧eZ w' h E (ee L a).2 T'∧Fr T w w'∧∀k,T' k→T k∨w.heap.size≤k
theorem vK:(Tryz.prog.info? 46).map (fun i=>(i.zero,i.size,i.bytes))=some (some dU,6,88):=by kernel_rfl
theorem Ed:(Tryz.prog.info? 25).map (fun i=>(i.zero,i.size,i.bytes))=some (some (.pointer none),1,8):=by kernel_rfl
theorem Dm:(Tryz.prog.info? 26).map (·.size)=some 1:=by kernel_rfl
theorem Dp:(Tryz.prog.info? 108).map (·.size)=some 1:=by kernel_rfl
theorem Fe:(Tryz.prog.info? 25).map (·.size)=some 1:=by kernel_rfl
theorem uJ{L:List ActV}{a:ActV}(h:eW a=false):ee L a=(3,L):=by unfold ee;rw[if_pos h]
theorem xC{L:List ActV}{a:ActV}(h:eW a=true)(B:Bool)(q:Nat)(d:ActV)(i:0<L.length→q=L.length-1∧L[q]? =some d)(e:B=(decide (0<L.length)&&decide (fC a.key d.key≤0))):ee L a=if B=true then(32,L)else(0,L++[a]):=by
 unfold ee;rw[if_neg (by rw[h];decide)];by_cases b:0<L.length
 ·obtain⟨g,f⟩:=i b;rw[g]at f;rw[List.getLast?_eq_getElem?,f];simp only;have j:=sO.kN a.key d.key;subst e;by_cases c:fC a.key d.key≤0;·rw[decide_eq_true b,decide_eq_true c];rw[if_pos c];rfl
  ·rw[decide_eq_true b,decide_eq_false c];rw[if_neg c];rfl
 ·obtain rfl:L=[]:=List.eq_nil_of_length_eq_zero (by omega);rw[decide_eq_false b,Bool.false_and]at e;subst e;rfl
theorem pq(h:Nat)(E:List Ent)(L:List ActV)(T:Nat→Prop)(a:ActV)(cs:List Value)(w:World)(dZ:eZ w h E L T)(cj:ck w cs a)(dH:dy w)(c3:bp w)(bE:Eu a)(cu:∀b∈L,b.key.ez.size≤1099511627776)(cB:L.length<65536)(cr:eW a=true→(bY a).length<4294960000)
  (bw:∀k,k=1∨k=2→¬T k)
  (cl:eW a=true→∀w' s,Fr af w w'→ew w' s (eU L E)→Calls Tryz.prog 86 #[.agg cs.toArray, .pointer (some ⟨s,0,none⟩)] w' (lH w' (eU L E) a.writes)):
  Calls Tryz.prog 32 #[.pointer (some ⟨h,0,none⟩), .agg cs.toArray] w (xv w h E L T a):=by
 obtain⟨b,s,g,va,vk,K,A,c,mb,a7,rfl⟩:=dZ;obtain⟨ai,V,bD⟩:=a7.kL;obtain⟨y,n1,C,rfl,H1,_⟩:=aP V;obtain⟨I,N,J,rfl,ei,_⟩:=aP a7.kept;have bh:=Lib.hid a7;have cM:=Lib.hid cj;have cN:=Lib.hid bD;have cQ:=Lib.hid V;have bT:=Lib.hid cl;have co:=cj.len;have cP:=Lib.hid co;have dP:=Lib.hid bw;have b4:Hid (a.reads.length≤60000∧a.writes.length≤60000):=⟨bE.nr,bE.nw⟩;have ae:Hid (∀k,HB h (.slice y n1 C) (.slice I N J) g A (L.length+1) c mb k→k<w.heap.size):=eZ.lt ⟨b,s,g,_,_,K,A,c,mb,a7,rfl⟩;have dM:Hid (∀w',Fr af w w'→Calls Tryz.prog 55 #[.pointer (some ⟨h,0,none⟩)] w' (bj w' (.bool false))):=fun w' f=>lQ w' h b ((a7.az.fr f (fun x=>x)).cell 0);have dh:Hid (∀w',Fr af w w'→Calls Tryz.prog 18 #[.agg cs.toArray] w' (aH w' (jA a))):=fun w' f=>nT a cs w' (dH.al f) (cj.al f) bE;have dL:Hid (∀w',Fr af w w'→Calls Tryz.prog 87 #[.agg cs.toArray] w' (pk w' a)):=fun w' f=>rk a cs w' (cj.al f) (by have:=bE.nr;omega) (by have:=bE.nw;omega);have Z:Hid (L.length<65536∧n1=L.length):=⟨cB,H1.out⟩;have bL:Hid (∀w',Fr af w w'→eW a=true→Calls Tryz.prog 59 #[.string ⟨(bY a).toArray⟩] w' (aH w' (aL (bM (bY a))))):=fun w' f cp=>by
  have e:aC ⟨(bY a).toArray⟩=bY a:=ox _;have h:=tf ⟨(bY a).toArray⟩ w' (c3.al f) (by
   have H:=cr cp;have bu:=aG ⟨(bY a).toArray⟩;rw[e]at bu;omega);rw[e]at h;exact h
 have bN:Hid (∀w',Fr af w w'→Calls Tryz.prog 84 #[.pointer (some ⟨g,0,none⟩),aL (bM (bY a))] w' (Lt.lG w' g A (L.length+1) c mb (cL E L) (bM (bY a)))):=fun w' f=>
  Lt.qV g A (L.length+1) c mb (cL E L) (bM (bY a)) w' (a7.al f).log (fG _) (by omega) (c3.al f) (fun k p d3=>bw k p (.inr (.inr (.inr d3))));obtain⟨q,cC⟩:∃q:Nat,L.length-1=q:=⟨_,rfl⟩;obtain⟨ay,d,ah⟩:∃(ay:Addr)(d:ActV),Hid (0<L.length→y=some ay∧L[q]? =some d∧∀j x,d.key.cells[j]? =some x→w.cell? ((ay.add (q*6)).add j)=some x):=by
  by_cases dT:0<L.length;·obtain⟨ej,dR,bG,d6,d7,d8⟩:=dI.at_ (k:=q) bD (by omega);obtain⟨ay,c1,_,bC⟩:=(Rd.gj (H1.out▸V)).2 (by omega);refine⟨ay,dR,fun _=>⟨c1,d6,fun j x ap=>?_⟩⟩;rw[gA];refine bC _ x (d8 j x ?_);obtain⟨ea,eh,rfl,_⟩:=d7;rw[List.getElem?_append_left (List.getElem?_eq_some_iff.1 ap).1];exact ap
  ·exact⟨⟨0,0,none⟩,a,fun h=>absurd h dT⟩
 have dt:Hid (0<L.length→(n1:Int)-1=(q:Int)):=fun h=>by have:=H1.out;omega
 have bl:Hid (0<L.length→q<n1):=fun h=>by have:=H1.out;omega
 have di:Hid (0<L.length→∀w',Calls Tryz.prog 85 #[.agg a.key.cells.toArray, .agg d.key.cells.toArray] w' (aH w' (.int .i64 (fC a.key d.key)))):=fun h w'=>mM _ _ w' (by have:=bE.ez;omega) (cu d (List.mem_of_getElem? (ah.out h).2.1));have bS:Hid (eW a=true→∀B:Bool,B=(decide (0<L.length)&&decide (fC a.key d.key≤0))→ee L a=if B=true then(32,L)else(0,L++[a])):=fun cp B cz=>xC cp B q d (fun h=>⟨cC.symm,(ah.out h).2.1⟩) cz;have S:Hid (∀w' cW,ee L a=(cW,L)→Fr af w w'→xv w h E L (HB h (.slice y n1 C) (.slice I N J) g A (L.length+1) c mb) a (.returned (.int .i64 cW)) w'):=fun w' cW e f=>⟨_,by rw[e],by rw[e];exact⟨b,s,g,_,_,K,A,c,mb,a7.al f,rfl⟩,f.bA,fun k p=> .inl p⟩;clear cj dH c3 bE cu cB bw cl bD V cC co cr a7;go_enter Tryz.func32,Tryz.ntmps32;go_wp2_with(refine au rfl 46 (.tmp 1) rfl cs.toArray rfl ?_);intro w1 bH;have bO:=Lib.hid bH.fr;have cw:=Lib.hid bH.az;clear bH;have cO:Hid (w.heap.size≤w.heap.size):=Nat.le_refl _;generalize cm:w.heap.size=ab at cw⊢;have bW:Hid (w.heap.size≤ab):=by rw[Hid,cm];exact Nat.le_refl _
 clear cm cO;go_wp2_with fail;refine(dM.out _ bO.out).mono ?_;rintro e w'⟨rfl,rfl⟩;have br:=(bh.out.az.fr bO.out (fun x=>x)).cell 1;simp only[List.getElem?_toArray,List.getElem?_cons_succ,List.getElem?_cons_zero]at br;have t1:decide ((65536:Int)≤(n1:Int))=false:=decide_eq_false (by have:=Z.out;omega);have eb:¬(65536:Int)≤(n1:Int):=by have:=Z.out;omega
 have cR:Hid ((Tryz.prog.info? 46).map (·.size)=some cs.length):=by rw[Hid,cP.out];exact bm
 have aI:Hid (∀W,ak W ab 46 cs.toArray→∀j x,cs[j]? =some x→W.cell? ((⟨ab,0,none⟩:Addr).add j)=some x):=fun W c4 j x ap=>by
  rw[Addr.add_mid,Nat.zero_add,c4.cell j,List.getElem?_toArray];exact ap
 go_wp2_with(refine aw rfl 46 (.tmp 3) rfl ⟨ab,0,none⟩ rfl cs _ ?zP Tryz.underlying46 rfl cR.out (aR.go ?zQ));case zP=>exact aI.out _ cw.out
 unfold aR;go_wp2_with fail;refine(dh.out _ bO.out).mono ?_;rintro e w2⟨rfl,f2⟩;have bI:=Lib.hid (bO.out.trans f2);have cJ:=Lib.hid (cw.out.fr f2 (fun x=>x));clear f2 dh bO cw br;cases ac:eW a
 ·have bU:Hid (jA a= .tuple #[.string ByteArray.empty, .int .i64 3]):=by rw[Hid,jA,ac];rfl
  have bn:=Lib.hid (S.out w2 3 (uJ ac) bI.out);rw[bU.out];clear ac bU;go_wp2;go_ret;exact bn.out
 have bU:Hid (jA a= .tuple #[.string ⟨(bY a).toArray⟩, .int .i64 0]):=by rw[Hid,jA,ac];rfl
 have aN:=Lib.hid ac;rw[bU.out];clear ac bU;have br:=(bh.out.az.fr bI.out (fun x=>x)).cell 1;simp only[List.getElem?_toArray,List.getElem?_cons_succ,List.getElem?_cons_zero]at br;have cT:Hid (∀W,Fr af w W→W.cell? {block:=h,off:=1}=some (.slice y n1 C)∧W.cell? {block:=h,off:=3}=some (.pointer (some ⟨s,0,none⟩))∧W.cell? {block:=h,off:=4}=some (.pointer (some ⟨g,0,none⟩))):=fun W f=>⟨(bh.out.az.fr f (fun x=>x)).cell 1,(bh.out.az.fr f (fun x=>x)).cell 3,(bh.out.az.fr f (fun x=>x)).cell 4⟩;have cF:Hid (∀W,ak W ab 46 cs.toArray→∀j x,a.key.cells[j]? =some x→W.cell? ((⟨ab,0,none⟩:Addr).add j)=some x):=fun W c4 j x ap=>by
  obtain⟨ea,eh,e,_⟩:=cM.out;refine aI.out W c4 j x ?_;rw[e,List.getElem?_append_left (List.getElem?_eq_some_iff.1 ap).1];exact ap
 obtain⟨P,dE⟩:∃z:Bool,decide (0<L.length)=z:=⟨_,rfl⟩;obtain⟨Q,dF⟩:∃z:Bool,decide (fC a.key d.key≤0)=z:=⟨_,rfl⟩;have ba:=Lib.hid dE;have EQ:=Lib.hid dF;have b6:Hid (decide (0<n1)=P):=by
  rw[Hid,←ba.out];exact decide_eq_decide.2 (by have:=Z.out;omega)
 have cE:Hid (∀W,Fr af w W→Calls Tryz.prog 86 #[.agg cs.toArray, .pointer (some ⟨s,0,none⟩)] W (fun e W'=>∃R,e= .returned (.tuple #[.pointer (some ⟨R,0,none⟩), .int .i64 0])∧ew W' R (eU (L++[a]) E)∧Fr af W W')):=fun W f=>by
  refine(bT.out aN.out W s f (bh.out.al f).last).mono ?_;rintro e ef⟨em,ek,rfl,f5,bz⟩;rcases bz with⟨_,rfl,R,rfl,dW⟩|⟨⟨x,ap,cp⟩,_⟩;·exact⟨R,rfl,by rw[tP];exact dW,f5⟩
  ·have H:=aN.out;simp only[eW,Bool.and_eq_true]at H;have bu:=jB H.2 x ap;simp only[iA,cp,Bool.false_and]at bu;cases bu
 have bo:Hid (0<L.length→y=some ay):=fun p=>(ah.out p).1;clear dE dF;obtain⟨B,cz⟩:∃z:Bool,(bif P then Q else false)=z:=⟨_,rfl⟩;have HB:=Lib.hid cz;clear cz;go_upto_region 9 with fail;refine iP 17 [.int .i64 (n1:Int), .bool P, .bool P,bif P then .pointer (some ⟨ab,0,none⟩)else undef,bif P then .agg a.key.cells.toArray else undef,bif P then .pointer (some ⟨h,0,none⟩)else undef,bif P then .pointer (some ⟨h,0,none⟩)else undef,bif P then .pointer (some ⟨h,1,none⟩)else undef,bif P then .slice y n1 C else undef,bif P then .int .i64 (n1:Int)else undef,bif P then .int .i64 (q:Int)else undef,bif P then .pointer (some (ay.add (q*6)))else undef,bif P then .pointer (some (ay.add (q*6)))else undef,bif P then .agg d.key.cells.toArray else undef,bif P then .int .i64 (fC a.key d.key)else undef,bif P then .bool Q else undef, .bool B] ?zR ?_;case zR=>
  refine⟨?yS,?zU,?zV,?zW,?zX,?zY,?zZ,?yA,?yB,?yC,?zH,?zI,?zJ,?zK,?zL,?zM,?zN,trivial⟩;all_goals intro u w' r o
  all_goals simp only[z1,z2,z3,z4,an,Act.put,z5,z6,z7,Nat.reduceAdd,Nat.zero_add]
  case zU=>
   simp only[show u 0=_ from o 0];refine aB ?_;have t:=b6.out;go_simp;exact⟨rfl,Fr.refl _ _⟩
  case' zV=>simp only[show u 1=_ from o 1]
  case' zW=>
   simp only[show u 2=_ from o 2];cases P;case false=>exact bB
  case zX=>
   simp only[show u 3=_ from o 3,show u 2=_ from o 2];cases P;case false=>exact bB
   refine aB ?_;exact ar _ _ rfl ⟨ab,0,none⟩ rfl a.key.cells _ (cF.out _ (cJ.out.fr r (fun x=>x))) Tryz.underlying43 rfl eM ⟨rfl,Fr.refl _ _⟩
  case' zY=>
   simp only[show u 2=_ from o 2];cases P;case false=>exact bB
  case' zZ=>
   simp only[show u 5=_ from o 5,show u 2=_ from o 2];cases P;case false=>exact bB
  case' yA=>
   simp only[show u 6=_ from o 6,show u 2=_ from o 2];cases P;case false=>exact bB
  case yB=>
   simp only[show u 7=_ from o 7,show u 2=_ from o 2];cases P;case false=>exact bB
   refine aB ?_;have q:=(cT.out _ (bI.out.trans r)).1;go_simp;exact⟨rfl,Fr.refl _ _⟩
  case' yC=>
   simp only[show u 2=_ from o 2];cases P;case false=>exact bB
  case zH=>
   simp only[show u 9=_ from o 9,show u 2=_ from o 2];cases P;case false=>exact bB
   refine aB ?_;have p:=of_decide_eq_true ba.out;have cx:(n1:Int)-1=(q:Int):=dt.out p;have bt:IntKind.i64.wrap (q:Int)=(q:Int):=IntWalk.i64_in _ (by have:=Z.out;have:=bl.out p;omega);go_simp;exact⟨rfl,Fr.refl _ _⟩
  case zI=>
   simp only[show u 8=_ from o 8,show u 10=_ from o 10,show u 2=_ from o 2];cases P;case false=>exact bB
   refine aB ?_;have p:=of_decide_eq_true ba.out;have cx:y=some ay:=bo.out p;have bt:(q:Int)<(n1:Int):=by have:=bl.out p;omega
   have cy:(0:Int)≤(q:Int):=by omega
   clear bo;subst cx;go_simp;exact⟨rfl,Fr.refl _ _⟩
  case' zJ=>
   simp only[show u 11=_ from o 11,show u 2=_ from o 2];cases P;case false=>exact bB
  case zK=>
   simp only[show u 12=_ from o 12,show u 2=_ from o 2];cases P;case false=>exact bB
   refine aB ?_;have p:=of_decide_eq_true ba.out;exact ar _ _ rfl (ay.add (q*6)) rfl d.key.cells _ (fun d5 v d4=>(bI.out.trans r).aj ((ah.out p).2.2 d5 v d4) (fun x=>x)) Tryz.underlying43 rfl eM ⟨rfl,Fr.refl _ _⟩
  case zL=>
   simp only[show u 4=_ from o 4,show u 13=_ from o 13,show u 2=_ from o 2];cases P;case false=>exact bB
   refine aB ?_;have p:=of_decide_eq_true ba.out;go_simp;refine(di.out p _).mono ?_;rintro e df⟨rfl,f4⟩;exact⟨rfl,f4⟩
  case zM=>
   simp only[show u 14=_ from o 14,show u 2=_ from o 2];cases P;case false=>exact bB
   refine aB ?_;have t:=EQ.out;go_simp;exact⟨rfl,Fr.refl _ _⟩
  case zN=>
   simp only[show u 2=_ from o 2,show u 15=_ from o 15];cases P<;>exact aB (by go_simp;exact⟨by rw[←HB.out];rfl,Fr.refl _ _⟩)
  all_goals
   try simp only[cond]
   refine aB ?_;go_simp;exact⟨rfl,Fr.refl _ _⟩
 intro w' r;simp only[z1,z2,z3,z4,an,Act.put,z5,z6,z7,z8,z9,jl,jm,Nat.reduceAdd,Nat.zero_add];have bP:=Lib.hid (bI.out.trans r);have cK:=Lib.hid (cJ.out.fr r (fun x=>x));clear r bI cJ br;have aJ:Hid (ee L a=if B=true then(32,L)else(0,L++[a])):=bS.out aN.out B (by
  rw[ba.out,EQ.out,←HB.out];cases P<;>rfl);clear HB ba EQ b6 di ah bS bo dt bl;cases aW:B;case true=>
  have bn:=Lib.hid (S.out w' 32 (by rw[aJ.out,aW];rfl) bP.out);clear aW aJ;go_wp2;go_ret;exact bn.out
 have be:Hid (ee L a=(0,L++[a])):=by rw[Hid,aJ.out,aW];rfl
 clear aW aJ S;generalize w'=eo at*;go_upto_region 11 with fail;refine xo 11 [iS (.agg cs.toArray),iS (.pointer (some ⟨h,0,none⟩)),iS (.pointer (some ⟨h,0,none⟩)),iS (.pointer (some ⟨h,3,none⟩)),iS (.pointer (some ⟨s,0,none⟩)),⟨fun v X=>∃i:Nat,v= .tuple #[.pointer (some ⟨i,0,none⟩), .int .i64 0]∧ew X i (eU (L++[a]) E),fun _ _ _ f h=>(by obtain⟨i,e,h⟩:=h;exact⟨i,e,h.al f⟩)⟩,⟨fun v X=>∃i:Nat,v= .tuple #[.pointer (some ⟨i,0,none⟩), .int .i64 0]∧ew X i (eU (L++[a]) E),fun _ _ _ f h=>(by obtain⟨i,e,h⟩:=h;exact⟨i,e,h.al f⟩)⟩,⟨fun v X=>∃i:Nat,v= .pointer (some ⟨i,0,none⟩)∧ew X i (eU (L++[a]) E),fun _ _ _ f h=>(by obtain⟨i,e,h⟩:=h;exact⟨i,e,h.al f⟩)⟩,iS (.int .i64 0),⟨fun v X=>∃i:Nat,v= .pointer (some ⟨i,0,none⟩)∧ew X i (eU (L++[a]) E),fun _ _ _ f h=>(by obtain⟨i,e,h⟩:=h;exact⟨i,e,h.al f⟩)⟩,iS (.int .i64 0)] ?zS ?_;case zS=>
  refine⟨?yD,?yT,?yE,?yF,?yG,?yH,?yI,?yJ,?yK,?yL,?zO,trivial⟩;all_goals intro u w' r o
  all_goals simp only[z1,z2,z3,z4,an,Act.put,z5,z6,z7,Nat.reduceAdd,Nat.zero_add]
  case yD=>
   refine aB ?_;exact ar _ _ rfl ⟨ab,0,none⟩ rfl cs _ (aI.out _ (cK.out.fr r (fun x=>x))) Tryz.underlying46 rfl cR.out ⟨_,rfl,Fr.refl _ _,rfl⟩
  case' yE=>simp only[show u 1=_ from o 1]
  case' yF=>simp only[show u 2=_ from o 2]
  case yG=>
   simp only[show u 3=_ from o 3];refine aB ?_;have q:=(cT.out _ (bP.out.trans r)).2.1;go_simp;exact⟨_,rfl,Fr.refl _ _,rfl⟩
  case yH=>
   simp only[show u 0=_ from o 0,show u 4=_ from o 4];refine aB ?_;go_simp;refine(cE.out _ (bP.out.trans r)).mono ?_;rintro e df⟨i,rfl,cA,f4⟩;exact⟨_,rfl,f4,⟨i,rfl,cA⟩⟩
  case yI=>
   obtain⟨i5,cx,dX⟩:=o 5;simp only[cx];refine aB ?_;go_simp;exact⟨_,rfl,Fr.refl _ _,⟨i5,rfl,dX⟩⟩
  case yJ=>
   obtain⟨i6,bt,cg⟩:=o 6;simp only[bt];refine aB ?_;go_simp;exact⟨_,rfl,Fr.refl _ _,⟨i6,rfl,cg⟩⟩
  case yK=>
   obtain⟨i6,bt,cg⟩:=o 6;simp only[bt];refine aB ?_;go_simp;exact⟨_,rfl,Fr.refl _ _,rfl⟩
  case yL=>
   obtain⟨i7,cy,ch⟩:=o 7;simp only[cy];refine aB ?_;go_simp;exact⟨_,rfl,Fr.refl _ _,⟨i7,rfl,ch⟩⟩
  case' zO=>simp only[show u 8=_ from o 8]
  all_goals
   refine aB ?_;go_simp;exact⟨_,rfl,Fr.refl _ _,rfl⟩
 intro u w' r o;have dY:=o 9 (by omega);simp only[z1,z2,z3,z4,an,Act.put,z5,z6,z7,z8,z9,Nat.reduceAdd,Nat.zero_add,show u 10=_ from o 10 (by omega)];clear o;obtain⟨R,dC,cq⟩:=dY;simp only[dC];have bQ:=Lib.hid (bP.out.trans r);have dl:=Lib.hid (cK.out.fr r (fun x=>x));have dv:=Lib.hid cq;clear r cq dC bP cK bT;have dq:Hid (Fr af w w'):=bQ.out;generalize w'=ef at*;have dO:Hid (∀W,Fr af w W→ck W cs a):=fun W f=>cM.out.al f;obtain⟨ce,bx⟩:∃ce,(bM (bY a)).map aU=ce:=⟨_,rfl⟩;have a3:Hid (∀w',Fr af w w'→Calls Tryz.prog 59 #[.string ⟨(bY a).toArray⟩] w' (aH w' (.agg ce.toArray))):=fun w' f=>by rw[←bx];exact bL.out w' f aN.out
 have a4:Hid (∀w',Fr af w w'→Calls Tryz.prog 84 #[.pointer (some ⟨g,0,none⟩), .agg ce.toArray] w' (Lt.lG w' g A (L.length+1) c mb (cL E L) (bM (bY a)))):=fun w' f=>by rw[←bx];exact bN.out w' f
 clear bx bL bN;generalize(⟨(bY a).toArray⟩:ByteArray)=ec at*;go_upto_region 14 with fail;refine iP 6 [.pointer (some ⟨h,0,none⟩), .pointer (some ⟨h,0,none⟩), .pointer (some ⟨h,4,none⟩), .pointer (some ⟨g,0,none⟩), .string ec, .agg ce.toArray] ?zT ?_;case zT=>
  refine⟨?yU,?yM,?yN,?yO,?yV,?yP,trivial⟩;all_goals intro u w' r o
  all_goals simp only[z1,z2,z3,z4,an,Act.put,z5,z6,z7,Nat.reduceAdd,Nat.zero_add]
  case' yM=>simp only[show u 0=_ from o 0]
  case' yN=>simp only[show u 1=_ from o 1]
  case yO=>
   simp only[show u 2=_ from o 2];refine aB ?_;have q:=(cT.out _ (bQ.out.trans r)).2.2;go_simp;exact⟨rfl,Fr.refl _ _⟩
  case yP=>
   simp only[show u 4=_ from o 4];refine aB ?_;go_simp;refine(a3.out _ (bQ.out.trans r)).mono ?_;rintro e df⟨rfl,f4⟩;exact⟨rfl,f4⟩
  all_goals
   refine aB ?_;go_simp;exact⟨rfl,Fr.refl _ _⟩
 intro w' r;simp only[z1,z2,z3,z4,an,Act.put,z5,z6,z7,z8,z9,jl,jm,Nat.reduceAdd,Nat.zero_add];have bc:=Lib.hid (bQ.out.trans r);have dm:=Lib.hid (dl.out.fr r (fun x=>x));have dw:=Lib.hid (dv.out.al r);clear r bQ dl dv;generalize w'=eg at*;go_wp2_with fail;refine(a4.out _ bc.out).mono ?_;rintro e av⟨rfl,ax,aA,F,dG,M,am⟩;have bi:=Lib.hid (bh.out.al bc.out);have cb:Lt.dQ av g ax ((L++[a]).length+1) aA F (cL E (L++[a])) (Lt.aZ ((L++[a]).length+1)):=by
  rw[Ad,List.length_append];exact dG
 have bk:Hid (dj av h b s g (.slice y n1 C) (.slice I N J) K ax aA F E L L L (L++[a])):=bi.out.FQ M cb;have U:eG eg (Lt.TB g A (L.length+1) c mb):=fun k p=>bi.out.bV k (.inr (.inr (.inr p)));have b8:Hid (∀k,Lt.TB g A (L.length+1) c mb k→k<w.heap.size):=fun k p=>ae.out k (.inr (.inr (.inr p)));have b2:Hid (∀k,Lt.TB g ax ((L++[a]).length+1) aA F k→Lt.TB g A (L.length+1) c mb k∨w.heap.size≤k):=fun k p=>by
  rw[List.length_append]at p;exact(am k p).imp id (fun h=>Nat.le_trans bc.out.size h)
 have cH:Hid (Fr (HB h (.slice y n1 C) (.slice I N J) g A (L.length+1) c mb) w av):=bc.out.bA.trans (M.mono (fun i _ p=> .inr (.inr (.inr p))));have dn:=Lib.hid (dm.out.fr M (fun e=>by have:=b8.out ab e;have:=bW.out;omega));have dx:=Lib.hid (dw.out.bV M U);have bR:=Lib.hid ((cM.out.al bc.out).bV M U);have a5:=Lib.hid ((cN.out.bV bc.out (eG.nothing w)).bV M U);have bq:=bi.out.apart;have aQ:Hid (av.ownsRow 0 46 6 (.slice y n1 C) L.length ai.flatten):=aK (aK cQ.out bc.out (fun _ _ x=>x)) M (fun k p=>(bq.2.1 k p).2);have bf:=Lib.hid bk.out.az;have cc:Hid (¬(Value.slice y n1 C).ownBlock=some h):=bq.1.1;have cS:Hid (¬(Value.slice y n1 C).ownBlock=some ab):=fun e=>by have:=ae.out ab (.inr (.inl e));have:=bW.out;omega
 have aO:Hid (∀k,(Value.slice y n1 C).ownBlock=some k→k<av.heap.size):=fun k p=>ld aQ.out p;have bg:Hid (eG av (fun k=>(Value.slice y n1 C).ownBlock=some k)):=s8 aQ.out (by decide) (by decide) (by decide);have bK:Hid (∀W,Fr (fun k=>(Value.slice y n1 C).ownBlock=some k) av W→Calls Tryz.prog 87 #[.agg cs.toArray] W (pk W a)):=fun W f=>rk a cs W (bR.out.bV f bg.out) (by have:=b4.out;omega) (by have:=b4.out;omega);obtain⟨i0,cn,ct,aY,db⟩:=info_parts vK;have cY:Hid (¬1*i0.size>2^24):=by simp only[Hid];rw[aY];omega
 have cZ:Hid (¬1*i0.size=0):=by simp only[Hid];rw[aY];omega
 have c0:Hid (∀ds:List Value,ds.length=6→Instr.fill (fun i=>some (i*i0.size,i0.size)) ((Array.range (1*i0.size)).map (dU.cells[· %dU.cells.size]!)) [(0, .agg ds.toArray)]=some ds.toArray):=fun ds c5=>by rw[aY];exact Lt.oi _ _ 6 (by simpa using c5) (by simp[dU,Value.cells])
 clear dG M am cb U bq a4 a3 dm dw dL;go_upto_region 17 with fail;refine uE 9 (fun k=>(Value.slice y n1 C).ownBlock=some k) [Is (.pointer (some ⟨h,0,none⟩)),Is (.pointer (some ⟨h,0,none⟩)),Is (.pointer (some ⟨h,0,none⟩)),Is (.pointer (some ⟨h,1,none⟩)),Is (.slice y n1 C),Is (.agg cs.toArray),fun x X=>∃ds:List Value,x= .agg ds.toArray∧ck X ds a∧jE av.heap.size ds,fun x X=>∃(i:Nat)(ds:List Value),x= .slice (some ⟨i,0,none⟩) 1 1∧ak X i 46 ds.toArray∧av.heap.size≤i∧ck X ds a∧jE av.heap.size ds,fun x X=>∃ds:List Value,ck X ds a∧X.ownsRow 0 46 6 x (L.length+1) (ai.flatten++ds)∧∀k,x.ownBlock=some k→(Value.slice y n1 C).ownBlock=some k∨av.heap.size≤k] [(8,fun _=>True)] (fun X=>X.ownsRow 0 46 6 (.slice y n1 C) L.length ai.flatten) (fun _ _=>false) (by kernel_rfl) (by kernel_rfl) (by kernel_rfl) (by kernel_rfl) (fun i=>i==8) (by rfl) ⟨Is.ag _,Is.ag _,Is.ag _,Is.ag _,Is.ag _,Is.ag _,fun _ _ _ _ r⟨ds,h,k,n⟩=>⟨ds,h,k.vY n (show Fr (fun k=>(Value.slice y n1 C).ownBlock=some k) _ _ from r) aO.out,n⟩,fun _ _ _ _ r⟨i,ds,h,b,l,k,n⟩=>⟨i,ds,h,b.fr (show Fr (fun k=>(Value.slice y n1 C).ownBlock=some k) _ _ from r) (fun t=>by have:=aO.out i t;omega),l,k.vY n (show Fr (fun k=>(Value.slice y n1 C).ownBlock=some k) _ _ from r) aO.out,n⟩,fun _ _ _ _ r⟨ds,H,bu,dV⟩=>⟨ds,H.al (show Fr af _ _ from r),aK bu (show Fr af _ _ from r) (fun _ _ x=>x),dV⟩,trivial⟩ ⟨fun _ _ _ _ _=>trivial,trivial⟩ (fun _ _ _ h c2=>aK c2 h (fun _ _ x=>x)) (aK aQ.out (Fr.refl af _).drew (fun _ _ x=>x)) ?_ ?_
 ·refine⟨?yQ,?yR,?zA,?zB,?zC,?zD,?zE,?zF,?zG,trivial⟩;all_goals intro u w' d r o bG aD aE
  all_goals simp only[List.take_succ_cons,List.take_zero,List.map_cons,List.map_nil,an,Act.put,List.setIfInBounds_toArray,List.set_cons_zero,List.set_cons_succ,Nat.reduceAdd,Nat.zero_add]
  case' zA=>simp only[show u 1=_ from o 1 (by kernel_rfl)]
  case' zB=>simp only[show u 2=_ from o 2 (by kernel_rfl)]
  case zC=>
   simp only[show u 3=_ from o 3 (by kernel_rfl)];clear o bG aD aE;refine .inl ⟨by kernel_rfl,?_⟩;have q:=(bf.out.fr r cc.out).cell 1;simp only[List.getElem?_toArray,List.getElem?_cons_succ,List.getElem?_cons_zero]at q;go_simp;exact⟨_,rfl,Fr.refl _ _,rfl,trivial⟩
  case zD=>
   clear o bG aD aE;refine .inl ⟨by kernel_rfl,?_⟩;exact ar _ _ rfl ⟨ab,0,none⟩ rfl cs _ (aI.out _ (dn.out.fr r cS.out)) Tryz.underlying46 rfl cR.out ⟨_,rfl,Fr.refl _ _,rfl,trivial⟩
  case zE=>
   simp only[show u 5=_ from o 5 (by kernel_rfl)];clear o bG aD aE;refine .inl ⟨by kernel_rfl,?_⟩;go_simp;refine(bK.out _ r).mono ?_;rintro e df⟨ds,rfl,c5,f4,cB⟩;exact⟨_,rfl,f4,⟨ds,rfl,c5,cB.mono r.size⟩,trivial⟩
  case zF=>
   obtain⟨aT,bt,cg,n6⟩:=o 6 (by kernel_rfl);simp only[bt];clear o bG aD aE;refine .inl ⟨by kernel_rfl,?_⟩;have c6:aT.length=6:=cg.len;refine wp_buildSlice 26 46 1 #[(0, .tmp 76)] rfl aT.toArray i0 dU Tryz.underlying26 cn ct cY.out cZ.out ?_ ?_;·simp only[List.map_toArray,List.map_cons,List.map_nil];exact c0.out aT c6
   ·exact⟨_,rfl,(Fr.refl _ _).alloc _,⟨w'.heap.size,aT,rfl,ak.new _ _ _,r.size,cg.al ((Fr.refl _ _).alloc _),n6⟩,trivial⟩
  case zG=>
   obtain⟨i7,bs,cy,b7,el,ch,d9⟩:=o 7 (by kernel_rfl);simp only[show u 4=_ from o 4 (by kernel_rfl),cy];clear o;refine .inl ⟨by kernel_rfl,?_⟩;have c2:w'.ownsRow 0 46 6 (.slice y n1 C) L.length ai.flatten:=by rw[cI,if_neg (by rw[aD 8 (by kernel_rfl)];exact Bool.false_ne_true)]at aE;exact aE
   clear bG aD aE;have d0:bs.length=6:=ch.len;refine sd _ (.tmp 74) (.tmp 77) 26 rfl 46 i0 dU 6 88 Tryz.underlying26 cn ct aY db rfl (by decide) _ _ _ rfl c2 (fun _=>True) (some ⟨i7,0,none⟩) 1 1 bs rfl ⟨by omega,fun _=>⟨_,rfl,trivial,fun j x ap=>by rw[Addr.add_mid,Nat.zero_add,b7.cell,List.getElem?_toArray];exact ap⟩⟩ (fun u hu=>by have h:=ActV.one ch;rw[Array.all_eq_true_iff_forall_mem]at h;exact h u (by simpa using hu)) (by have:=Z.out;omega) (by decide) ?_;intro en ep aX;exact⟨_,rfl,aX.fr,⟨bs,ch.vY d9 aX.fr aO.out,aX.own,fun k p=>(aX.dD k p).imp id (fun h=>Nat.le_trans r.size h)⟩,trivial⟩
  all_goals
   clear o bG aD aE;refine .inl ⟨by kernel_rfl,?_⟩;go_simp;exact⟨_,rfl,Fr.refl _ _,rfl,trivial⟩
 intro u w' r o aE;obtain⟨cU,ci,aV,bv⟩:=o 8 (by omega);have aD:u 0=_:=o 0 (by omega);obtain⟨Y,O,aa,cV,dp,_⟩:=aP aV;rw[cV]at aV bv;simp only[List.take_succ_cons,List.take_zero,List.map_cons,List.map_nil,an,Act.put,List.setIfInBounds_toArray,List.set_cons_zero,List.set_cons_succ,List.drop_succ_cons,List.drop_zero,Nat.reduceAdd,Nat.zero_add,aD,cV];have bJ:Hid (jO w' (.slice Y O aa) (L++[a])):=⟨ai++[cU],by rw[List.flatten_append,List.flatten_cons,List.flatten_nil,List.append_nil,List.length_append];exact aV,(a5.out.bV r bg.out).snoc ci⟩;have ad:=Lib.hid r;have bd:=Lib.hid bv;have dz:=Lib.hid (dx.out.bV r bg.out);have a9:=Lib.hid (bf.out.fr r cc.out);have b3:Hid (O=L.length+1):=dp.out;clear r o aE aD cV ci aV bv dx a5 bR bK aQ bf dn dp;go_wp2_with(refine aM rfl 26 (.tmp 80) (.tmp 78) rfl h 1 (.slice Y O aa) rfl rfl rfl Dm _ _ #[.pointer (some ⟨b,0,none⟩), .slice Y O aa, .slice I N J, .pointer (some ⟨s,0,none⟩), .pointer (some ⟨g,0,none⟩)] a9.out (show 1<5 by decide) rfl ?_);intro dK b9 f9;have b5:Hid (dj dK h b s g (.slice Y O aa) (.slice I N J) K ax aA F E (L++[a]) L L (L++[a])):=bk.out.FM ad.out bJ.out bd.out f9 b9;have dA:=Lib.hid (dz.out.bV f9 (nt a9.out (by decide) (by decide) (by decide)));have b1:Hid (∀k,(Value.slice Y O aa).ownBlock=some k→(Value.slice y n1 C).ownBlock=some k∨w.heap.size≤k):=fun k p=>(bd.out k p).imp id (fun h=>Nat.le_trans cH.out.size h);have dk:Hid (Fr (HB h (.slice y n1 C) (.slice I N J) g A (L.length+1) c mb) w dK):=(cH.out.trans (ad.out.mono (fun i _ p=> .inr (.inl p)))).trans (f9.mono (fun i _ p=> .inl p));have dg:=Lib.hid b9;clear b9 f9 bk ad bJ bd dz a9 cH;go_wp2_with(refine aM rfl 25 (.tmp 84) (.tmp 82) rfl h 3 (.pointer (some ⟨R,0,none⟩)) rfl rfl rfl Fe _ _ #[.pointer (some ⟨b,0,none⟩), .slice Y O aa, .slice I N J, .pointer (some ⟨R,0,none⟩), .pointer (some ⟨g,0,none⟩)] dg.out (show 3<5 by decide) rfl ?_);intro aq gB f10;have D:Hid (dj aq h b R g (.slice Y O aa) (.slice I N J) K ax aA F E (L++[a]) L (L++[a]) (L++[a])):=b5.out.FP f10 dA.out gB;have bb:Hid (Fr (HB h (.slice y n1 C) (.slice I N J) g A (L.length+1) c mb) w aq):=dk.out.trans (f10.mono (fun i _ p=> .inl p));have a8:=Lib.hid gB;clear gB f10 b5 dk dg dA;have br:aq.cell? {block:=h,off:=1}=some (.slice Y O aa):=a8.out.cell 1;have ca:Hid (∀(a1:Value)(du:List Nat)w',dj w' h b R g (.slice Y O aa) a1 du ax aA F E (L++[a]) (L++[a]) (L++[a]) (L++[a])→Fr (HB h (.slice y n1 C) (.slice I N J) g A (L.length+1) c mb) w w'→(∀k,a1.ownBlock=some k→(Value.slice I N J).ownBlock=some k∨w.heap.size≤k)→xv w h E L (HB h (.slice y n1 C) (.slice I N J) g A (L.length+1) c mb) a (.returned (.int .i64 0)) w'):=fun a1 du w' cC r p=>by
  refine⟨HB h (.slice Y O aa) a1 g ax ((L++[a]).length+1) aA F,by rw[be.out],by rw[be.out];exact⟨b,R,g,_,_,_,ax,aA,F,cC,rfl⟩,r,fun k c9=>?_⟩;rcases c9 with H|H|H|H;·exact .inl (.inl H)
  ·exact(b1.out k H).imp (fun h=> .inr (.inl h)) id
  ·exact(p k H).imp (fun h=> .inr (.inr (.inl h))) id
  ·exact(b2.out k H).imp (fun h=> .inr (.inr (.inr h))) id
 clear be b1 b2 ae b8;by_cases hm:(L.length+1)%16=0;case neg=>
  have dB:(O:Int).tmod 16=(((L.length+1)%16:Nat):Int):=by rw[Int.tmod_eq_emod_of_nonneg (by omega),b3.out];omega
  have a2:((((L.length+1)%16:Nat):Int)==0)=false:=by rw[beq_eq_false_iff_ne];omega
  have a6:Hid (K.length=(L++[a]).length/16):=by
   rw[Hid,D.out.lB,List.length_append,List.length_singleton];omega
  generalize da:(L.length+1)%16=m at dB a2;have bn:Hid (dj aq h b R g (.slice Y O aa) (.slice I N J) K ax aA F E (L++[a]) (L++[a]) (L++[a]) (L++[a])):=by
   have q:=D.out;refine⟨q.az,q.base,q.kL,q.kept,a6.out,fun i k p=>?_,q.last,q.log⟩;have cA:=(List.getElem?_eq_some_iff.1 p).1;have dJ:=q.lB;have H:=q.qy i k p;rw[List.take_append_of_le_length (by omega)];exact H
  clear hm da a6;go_wp2;go_ret;exact ca.out _ _ _ bn.out bb.out (fun k p=> .inl p)
 case pos=>
  have dB:(O:Int).tmod 16=0:=by rw[Int.tmod_eq_emod_of_nonneg (by omega),b3.out];omega
  have dr:=Lib.hid hm;have dS:aq.cell? {block:=h,off:=2}=some (.slice I N J):=a8.out.cell 2;obtain⟨dc,c8,dd,bF,de⟩:=info_parts Ed;have d1:Hid (¬1*dc.size>2^24):=by simp only[Hid];rw[bF];omega
  have d2:Hid (¬1*dc.size=0):=by simp only[Hid];rw[bF];omega
  have cd:=Lib.hid D.out.kept;have bX:Hid (K.length≤65536):=by have:=D.out.lB;have:=Z.out;simp only[Hid];omega
  clear hm;go_wp2_with(refine cX _ rfl _ _ 108 rfl 25 dc (.pointer none) 1 8 Tryz.underlying108 c8 dd bF de rfl (by decide) _ _ _ rfl cd.out 1 #[.pointer (some ⟨R,0,none⟩)] _ rfl rfl rfl (fun u hu=>by simp at hu;subst hu;rfl) (by have:=bX.out;omega) (by decide) ?_);intro v11 ed aX;obtain⟨aF,a0,aS,rfl,dN,_⟩:=aP aX.own;have G:=Lib.hid aX;have cD:=Lib.hid (a8.out.fr aX.fr (D.out.apart.1.2.1));clear aX br dS;go_wp2_with(refine aM rfl 108 (.tmp 101) (.tmp 99) rfl h 2 (.slice aF a0 aS) rfl rfl rfl Dp _ _ #[.pointer (some ⟨b,0,none⟩), .slice Y O aa, .slice aF a0 aS, .pointer (some ⟨R,0,none⟩), .pointer (some ⟨g,0,none⟩)] cD.out (show 2<5 by decide) rfl ?_);intro cv cf f12;have bZ:(K++[R]).length=(L++[a]).length/16:=by
   have H:=D.out.lB;have bu:=dr.out;rw[List.length_append,List.length_append,List.length_singleton,List.length_singleton,H];omega
  have bn:Hid (dj cv h b R g (.slice Y O aa) (.slice aF a0 aS) (K++[R]) ax aA F E (L++[a]) (L++[a]) (L++[a]) (L++[a])):=by
   have q:=D.out;refine q.FO G.out.fr (by rw[List.map_append,List.length_append];exact G.out.own) G.out.dD bZ (fun i k p=>?_) f12 cf;by_cases cA:i<K.length;·rw[List.getElem?_append_left cA]at p;have H:=q.qy i k p;have dJ:=q.lB;rw[List.take_append_of_le_length (by omega)];exact H
   ·have c7:i=K.length:=by
     have:=(List.getElem?_eq_some_iff.1 p).1;rw[List.length_append,List.length_singleton]at this;omega
    rw[c7,List.getElem?_append_right (Nat.le_refl _),Nat.sub_self]at p;cases p;have dJ:=q.lB;have hm:=dr.out;rw[List.take_of_length_le (by rw[List.length_append,List.length_singleton];omega)];exact q.last
  have cG:Hid (Fr (HB h (.slice y n1 C) (.slice I N J) g A (L.length+1) c mb) w cv):=(bb.out.ao G.out.fr (fun i _ p=> .inr (.inr (.inl p)))).trans (f12.mono (fun i _ p=> .inl p));have b0:Hid (∀k,(Value.slice aF a0 aS).ownBlock=some k→(Value.slice I N J).ownBlock=some k∨w.heap.size≤k):=fun k p=>(G.out.dD k p).imp id (fun h=>Nat.le_trans bb.out.size h);clear cf f12 bZ G;go_wp2;go_ret;exact ca.out _ _ _ bn.out cG.out b0.out
end Go.Proofs.YtphjagkehiklkaaGreatDoor
namespace Go.Proofs.YtphjagkehiklkaaGreatDoor
open Go.RowKit Go.Shelf
def sB(w:World)(A:Option Addr)(n:Nat):Prop:=∀k,k<n→∃a b,A=some a∧q8 w b∧∀j x,b[j]? =some x→w.cell? ((a.add (k*6)).add j)=some x
theorem sB.al{w w':World}{A:Option Addr}{n:Nat}(h:sB w A n)(a:Fr af w w'):sB w' A n:=fun k g=>by
 obtain⟨b,c,d,e,f⟩:=h k g;exact⟨b,c,d,e.al a,fun j x i=>a.aj (f j x i) (fun x=>x)⟩
theorem q8.len{w:World}{cs:List Value}(h:q8 w cs):cs.length=6:=by
 obtain⟨_,_,_,_,_,_,_,_,_,_,_,_,_,_,_,_,rfl,_⟩:=h;rfl
theorem Mod.lt{w:World}{cs:List Value}{b:Nat}{E:List Ent}{L:List ActV}(h:Mod w cs b E L):∀v∈cs,∀k,v.ownBlock=some k→Ty w k 46:=by
 obtain⟨A,n,c,rfl,g,i,j,e,f,l⟩:=h;intro v d k a;rw[List.mem_cons,List.mem_singleton]at d;rcases d with rfl|rfl;·cases a
 ·exact gW f a
theorem Ty.lt{w:World}{k:Nat}{t:TypeId}(h:Ty w k t):k<w.heap.size:=by
 obtain⟨cs,h⟩:=h;exact ak.lt (cs:=cs) (t:=t) h
theorem Mod.len{w:World}{cs:List Value}{b:Nat}{E:List Ent}{L:List ActV}(h:Mod w cs b E L):cs.length=2:=by
 obtain⟨A,n,c,rfl,_⟩:=h;rfl
theorem Mod.one{w:World}{cs:List Value}{b:Nat}{E:List Ent}{L:List ActV}(h:Mod w cs b E L):cs.toArray.all (·.oneCell')=true:=by
 obtain⟨A,n,c,rfl,_⟩:=h;simp[Value.oneCell']
structure vM(w a wr:World)(h b g5 g6 k:Nat)(E:List Ent)(L:List ActV)(T:Nat→Prop)(ms:List Value):Prop where
 td:eZ wr h E L T
 mod:Mod wr ms b E L
 box:ak wr g6 28 ms.toArray
 run:gL L
 len:L.length≤k
 new:∀j,T j→a.heap.size≤j
 rows:∀v∈ms,∀j,v.ownBlock=some j→¬T j
 fr:Fr af w wr
 size:a.heap.size≤wr.heap.size
 out:ak wr g5 28 #[.pointer none, .slice none 0 0]
end Go.Proofs.YtphjagkehiklkaaGreatDoor
