/- Texts. -/
import Derived.Test.YtphjagkehiklkaaGreatDoorZK16
set_option linter.unusedVariables false
set_option linter.unusedSimpArgs false
set_option maxRecDepth 100000
set_option maxHeartbeats 4000000
namespace Go.Proofs.YtphjagkehiklkaaGreatDoor.Lt
open Go.RowKit
theorem aW{P:Program}{ops:Array Oper}{rest:List Oper}{u:Oper}{a:Act}{w:World}{Q:Exit→Act→World→Prop}(j:u.guard=none)(ty:TypeId)(x y:Operand)(p:u.op= .store ty x y)
  (g f:Nat)(v:Value)(r:a.eval x= .pointer (some ⟨g,f,none⟩))(s:a.eval y=v)(m:v.oneCell'=true)(d:(P.info? ty).map (·.size)=some 1)
  (t:TypeId)(cs cs':Array Value)(e:aq w g t cs)(o:f<cs.size)(i:cs.setIfInBounds f v=cs')
  (h:∀w',aq w' g t cs'→Fr (fun k=>k=g) w w'→wpList P ops Q rest (a.put u.dst undef) w'):wpList P ops Q (u::rest) a w:=by
 subst i;obtain⟨b,l,q⟩:∃b,P.info? ty=some b∧b.size=1:=by
  cases he:P.info? ty with
  |none=>rw[he]at d;cases d
  |some b=>rw[he]at d;exact⟨b,rfl,by simpa using d⟩
 have c:=Lib.rl_storeVar_one (P:=P) ty b l q ⟨g,f,none⟩ v (cs[f]) m w (by rw[e.cell];simp[o]) (e.frozen _);refine wpList_plain j fun K n=>?_;unfold Oper.wp execOp;simp only[p,r,s,Instr.storeAt,Instr.sureAddr,Sem.run_bind,Sem.run_pure,Result.andThen_ok,c];exact n _ _ (h _ (e.j7 f v) (Fr.setCell (T:=fun k=>k=g) (Fr.refl _ w) (fun _=>rfl) v))
theorem uN:(Tryz.prog.info? 31).map (·.size)=some 1:=by kernel_rfl
theorem Mk:(Tryz.prog.info? 178).map (·.size)=some 1:=by kernel_rfl
theorem cg:(Tryz.prog.info? 212).map (·.size)=some 2:=by kernel_rfl
def TB(p:Nat)(A:Option Addr)(n c:Nat)(mb:Option Nat)(k:Nat):Prop:=k=p∨mb=some k∨(Value.slice A n c).ownBlock=some k
theorem dH.oG{w:World}{b g:Nat}{ds:List (List UInt8)}{C:Nat→Nat→Prop}{t:TypeId}{cs:Array Value}(h:dH w b ds C)(a:aq w g t cs):b≠g:=by
 rintro rfl;obtain⟨es,clock,c,_⟩:=h;unfold aq at a;rw[c]at a;cases a
theorem dH.zT{w:World}{b base n:Nat}{ds:List (List UInt8)}{C:Nat→Nat→Prop}{e:TypeId}{size:Nat}{v:Value}{xs:List Value}(h:dH w b ds C)(g:w.ownsRow base e size v n xs):v.ownBlock≠some b:=by
 intro f;obtain⟨es,clock,c,_⟩:=h;obtain⟨i,a,d⟩:=cS g f;rw[c]at a;cases a;cases d
structure nh(w W:World)(p b g5:Nat)(v:Value)(ds:List (List UInt8))(n:Nat)(C:Nat→Nat→Prop)(lv idx:Nat)(T:Nat→Prop):Prop where
 fr:Fr T w W
 aE:aq W p 180 #[v, .map (some b)]
 row:W.ownsRow 0 38 32 v n (ds.flatMap aA)
 map:dH W b ds C
 cO:aq W g5 212 #[.int .i64 lv, .int .i64 idx]
section
variable{w W W':World}{p b g5 n lv idx:Nat}{v:Value}{ds:List (List UInt8)}{C C':Nat→Nat→Prop}{T:Nat→Prop}
theorem nh.LY(h:nh w W p b g5 v ds n C lv idx T):Fr T w W:=h.fr
theorem nh.later(h:nh w W p b g5 v ds n C lv idx T)(a:Fr ag W W'):nh w W' p b g5 v ds n C lv idx T:=
 ⟨h.fr.trans a.bO,h.aE.fr a (fun x=>x),aL h.row a (fun _ _ x=>x),h.map.fr a (fun x=>x),h.cO.fr a (fun x=>x)⟩
theorem nh.GN{d a:Nat}(h:nh w W p b g5 v ds n C lv idx T)(f:Fr (fun k=>k=g5) W W')(g:aq W' g5 212 #[.int .i64 d, .int .i64 a])(l:w.heap.size≤g5):nh w W' p b g5 v ds n C d a T:=
  ⟨h.fr.aw f (fun i m e=>by have c:i=g5:=e;omega),h.aE.fr f (fun e=>by have c:p=g5:=e;exact aq.ri h.aE h.cO (by decide) c),
   aL h.row f (fun k j e=>by have c:k=g5:=e;exact bM h.row h.cO (by decide) (by rw[←c];exact j)),
   h.map.fr f (fun e=>by have c:b=g5:=e;exact h.map.oG h.cO c),g⟩
theorem nh.GO(h:nh w W p b g5 v ds n C lv idx T)(c:Fr (fun k=>k=b) W W')(f:dH W' b ds C')(g:b<w.heap.size→T b):nh w W' p b g5 v ds n C' lv idx T:=
  ⟨h.fr.aw c (fun i d e=>by have a:i=b:=e;rw[a]at d⊢;exact g d),h.aE.fr c (fun e=>by have a:p=b:=e;exact h.map.oG h.aE a.symm),
   aL h.row c (fun k j e=>by have a:k=b:=e;exact h.map.zT h.row (by rw[←a];exact j)),f,h.cO.fr c (fun e=>by have a:g5=b:=e;exact h.map.oG h.cO a.symm)⟩
theorem nh.tree{A:Option Addr}{m c:Nat}(h:nh w W p b g5 (.slice A m c) ds m C lv idx T)(a:ds.length=m∧∀d∈ds,d.length=32):dZ W p A m c (some b) ds C:=
 ⟨h.aE,h.row,a.1,a.2, .inl ⟨b,rfl,h.map⟩⟩
end
theorem dZ.congr{w:World}{p:Nat}{A:Option Addr}{n c:Nat}{mb:Option Nat}{ds:List (List UInt8)}{C C':Nat→Nat→Prop}(h:dZ w p A n c mb ds C)(a:∀l i,C l i↔C' l i):dZ w p A n c mb ds C':=
 ⟨h.aE,h.row,h.len,h.each,by
  rcases h.parts with⟨b,f,j⟩|⟨d,e⟩;·exact .inl ⟨b,f,j.congr a⟩
  ·exact .inr ⟨d,fun l i g=>e l i ((a l i).2 g)⟩⟩
def nC(w:World)(p:Nat)(A:Option Addr)(n c:Nat)(mb:Option Nat)(ds:List (List UInt8))(d:List UInt8)(e:Ending)(w':World):Prop:=
 e= .returned (.int .i64 0)∧∃b f a,dZ w' p b (n+1) f a (ds++[d]) (bp (n+1))∧Fr (TB p A n c mb) w w'∧∀k,TB p b (n+1) f a k→TB p A n c mb k∨w.heap.size≤k
theorem tD(p:Nat)(A:Option Addr)(n c:Nat)(mb:Option Nat)(ds:List (List UInt8))(d:List UInt8)(w:World)(aa:dZ w p A n c mb ds (bp n))(c4:d.length=32)(dv:n<1048576)(dp:bT w)(c3:∀k,k=1∨k=2→¬TB p A n c mb k):
    Calls Tryz.prog 84 #[.pointer (some ⟨p,0,none⟩),aY d] w (nC w p A n c mb ds d):=by
  obtain⟨i0,cl,cm,cD,dy⟩:=info_parts sd;have c9:Hid ((Tryz.prog.info? 38).map (·.size)=some (aA d).length):=by rw[aA,List.length_map,c4];exact fo
  have du:Hid (Instr.fill (fun i=>some (i*32,32)) ((Array.range (1*32)).map (aZ.cells[· %aZ.cells.size]!)) [(0, .agg (aA d).toArray)]=some (aA d).toArray):=sR _ _ (by simp[aA,c4]) (by simp);have da:Hid ((aA d).length=32):=by simp[Hid,aA,c4]
  have db:Hid (∀u∈aA d,u.oneCell'=true):=fun u hu=>jg d u (by simpa[aA]using hu);have B:Hid ((ds++[d]).length=n+1∧∀x∈ds++[d],x.length=32):=by
    refine⟨by rw[aS,aa.len];rfl,fun x dx=>?_⟩;rcases List.mem_append.1 dx with h|h;· exact aa.each x h
    · rw[List.mem_singleton.1 h];exact c4
  have c8:=af aa.len;have a0:Hid (n≤1048576):=Nat.le_of_lt dv;have dc:=af dp;have NS:=af c3;have cL:Hid (∀k,(Value.slice A n c).ownBlock=some k→k<w.heap.size):=fun k X=>by
    obtain⟨o,c6,_⟩:=cS aa.row X;exact(Array.getElem?_eq_some_iff.1 c6).1
  unfold aY;change Calls _ _ #[_, .agg (aA d).toArray] _ _;generalize c1:aA d=L at*;have ch:Hid (aA d=L):=c1;clear c1;have g1:Hid (¬1*i0.size>2^24):=by simp only[Hid];rw[cD];omega
  have g2:Hid (¬1*i0.size=0):=by simp only[Hid];rw[cD];omega
  have gf:Hid (Instr.fill (fun i=>some (i*i0.size,i0.size)) ((Array.range (1*i0.size)).map (aZ.cells[· %aZ.cells.size]!)) [(0, .agg L.toArray)]=some L.toArray):=by simp only[Hid];rw[cD];exact du.out
  have dz:∀(w:World)(r:Option Nat),(binOp .eql 178 (.map r) (.map none)).run Tryz.prog w= .ok (.bool r.isNone) w:=fun w r=>run_eql_map_nil w _ _ _ r Tryz.underlying178;have dB:((n:Int)==1048576)=false:=by rw[beq_eq_false_iff_ne];omega
  have dw:n≤1048576:=by omega
  clear dp c3 c4;rcases aa.parts with⟨b,rfl,c2⟩|⟨rfl,c2⟩
  · have HB:=af aa.aE;have cQ:=af c2;have bx:Hid (TB p A n c (some b) b∨w.heap.size≤b):= .inl (.inr (.inl rfl));have cG:Hid (b<w.heap.size→TB p A n c (some b) b):=fun _=> .inr (.inl rfl);obtain⟨mb,c5⟩:∃mb,mb=some b:=⟨_,rfl⟩;rw[←c5]at bx cG NS⊢;clear c2 c5;go_enter Tryz.func84,Tryz.ntmps84;go_wp2_with(refine aB rfl 38 (.tmp 1) rfl _ rfl ?_);intro w1 n1;have ce:=af (aa.aE.fr n1.fr (fun x=>x));have cM:=af (aL aa.row n1.fr (fun _ _ x=>x));have cI:Hid (aq w1 w.heap.size 38 L.toArray):=n1.aE;have cH:=af n1.fr;have cN:Hid (w1.heap.size=w.heap.size+1):=n1.size;clear n1;have ck:w1.cell? ⟨p,0,none⟩=some (.slice A n c):=ce.out.cell 0;have cX:w1.cell? ⟨p,1,none⟩=some (.map (some b)):=ce.out.cell 1;have bv:=af (cQ.out.fr cH.out (fun x=>x));go_upto_region 7 with fail;clear ck cX aa HB cQ;obtain⟨g3,aT⟩:∃g3,g3=w.heap.size:=⟨_,rfl⟩;have cL:Hid (∀k,(Value.slice A n c).ownBlock=some k→k<g3):=by rw[aT];exact cL.out
    rw[←aT]at cI⊢;have dd:Hid (g3=w.heap.size):=aT;have cf:=ce;have cV:=cM;have cJ:=cI;have cU:=bv;have cn:Hid (Fr (TB p A n c mb) w w1):=cH.out.bO;clear ce cM cI bv cH aT cN;generalize w1=a7 at*;have ck:a7.cell? ⟨p,0,none⟩=some (.slice A n c):=cf.out.cell 0;go_upto_region 8 with fail;clear ck;have cj:Hid ((a7.alloc (.cells #[.int .i64 0, .int .i64 n] 212)).cell? ⟨p,0,none⟩=some (.slice A n c)):=(cf.out.alloc _).cell 0;have bI:=af (cf.out.alloc (.cells #[.int .i64 0, .int .i64 n] 212));have aO:=af (aL cV.out ((Fr.refl ag a7).alloc (.cells #[.int .i64 0, .int .i64 n] 212)) (fun _ _ x=>x));have bY:=af (cU.out.fr ((Fr.refl ag a7).alloc (.cells #[.int .i64 0, .int .i64 n] 212)) (fun x=>x));have ci:=af (cJ.out.alloc (.cells #[.int .i64 0, .int .i64 n] 212));have bJ:=af (cn.out.alloc (.cells #[.int .i64 0, .int .i64 n] 212));have bQ:=af (aq.new a7 212 #[.int .i64 0, .int .i64 n]);have cP:Hid (w.heap.size≤a7.heap.size):=cn.out.size;clear cf cV cU cJ cn;generalize a7.alloc (.cells #[.int .i64 0, .int .i64 n] 212)=bA at*;generalize a7.heap.size=g5 at*;have bf:Hid (∀k,(Value.slice A n c).ownBlock=some k→k<bA.heap.size):=fun k X=>by
      obtain⟨o,c6,_⟩:=cS aO.out X;exact(Array.getElem?_eq_some_iff.1 c6).1
    by_cases K:n+1≤c
    · obtain⟨C,rfl,cx⟩:∃C,A=some ⟨C,0,none⟩∧C<g3:=by
        rcases aO.out.2 with⟨cB,_⟩|⟨cZ,cY,cur,cB,_⟩;· injection cB with _ _ a6;omega
        · injection cB with ad _ _;subst ad;exact⟨cZ,rfl,cL.out cZ rfl⟩
      have NE:Hid ((p:Nat)≠C∧g3≠C∧C<bA.heap.size):=⟨fun e=>bM aO.out bI.out (by decide) (by rw[e];rfl),by omega,bf.out C rfl⟩;have cq:=af K;clear K cx;refine ay 8 (fun k=>k=C) [Is (.pointer (some ⟨p,0,none⟩)),Is (.pointer (some ⟨p,0,none⟩)),Is (.pointer (some ⟨p,0,none⟩)),Is (.pointer (some ⟨p,0,none⟩)),Is (.slice (some ⟨C,0,none⟩) n c),Is (.agg L.toArray),fun v W=>∃g,v= .slice (some ⟨g,0,none⟩) 1 1∧bA.heap.size≤g∧aq W g 38 L.toArray,Is (.slice (some ⟨C,0,none⟩) (n+1) c)] [(7,fun W=>W.ownsRow 0 38 32 (.slice (some ⟨C,0,none⟩) (n+1) c) (n+1) (ds.flatMap aA++L))] (fun W=>W.ownsRow 0 38 32 (.slice (some ⟨C,0,none⟩) n c) n (ds.flatMap aA)) (fun _ _=>false) (by kernel_rfl) (by kernel_rfl) (by kernel_rfl) (by kernel_rfl) ⟨Is.ah _,Is.ah _,Is.ah _,Is.ah _,Is.ah _,Is.ah _,fun v w' aX _ f⟨g,h,l,b⟩=>⟨g,h,l,b.fr f (fun e=>by have y:g=C:=e;have:=NE.out.2.2;omega)⟩,Is.ah _,trivial⟩ ⟨fun _ _ _ f h=>aL h f (fun _ _ x=>x),trivial⟩ (fun _ _ _ f h=>aL h f (fun _ _ x=>x)) (aL aO.out ((Fr.refl ag bA).drew) (fun _ _ x=>x)) ?_ ?_
      · refine⟨?_,?_,?_,?_,?_,?_,?_,?_,trivial⟩;all_goals intro u w' d f a s t m
        all_goals simp only[bw,bC,bD,bE,ar,Act.put,bF,bG,bH,Nat.reduceAdd,Nat.zero_add]
        · clear a s t m;refine aj ?_;go_simp;exact⟨_,rfl,al⟩
        · clear a s t m;refine aj ?_;go_simp;exact⟨_,rfl,al⟩
        · have ad:u 1=_:=a 1;clear a s t m;simp only[ad];refine aj ?_;go_simp;exact⟨_,rfl,al⟩
        · have ae:u 2=_:=a 2;clear a s t m;simp only[ae];refine aj ?_;go_simp;exact⟨_,rfl,al⟩
        · have a6:u 3=_:=a 3;clear a s t m;simp only[a6];refine aj ?_;have ca:=f.ak cj.out (fun e=>NE.out.1 e);go_simp;exact⟨_,rfl,al⟩
        · clear a s t m;refine aj ?_;exact wp_load_mid _ _ rfl g3 0 rfl L _ (dA (ci.out.fr f (fun e=>NE.out.2.1 e))) Tryz.underlying38 rfl c9.out ⟨_,rfl,al⟩
        · have bo:u 5=_:=a 5;clear a s t m;simp only[bo];refine aj ?_;refine wp_buildSlice 31 38 1 #[(0, .tmp 38)] rfl L.toArray i0 aZ Tryz.underlying31 cl cm g1.out g2.out ?_ ?_;· simp only[List.map_toArray,List.map_cons,List.map_nil];exact gf.out
          · exact⟨_,rfl,az.alloc _,⟨w'.heap.size,rfl,f.size,aq.new _ _ _⟩,trivial⟩
        · have bn:u 4=_:=a 4;obtain⟨g6,bq,dg,cv⟩:=a 6;clear a;simp only[bn,bq];refine aj ?_;have de:w'.ownsRow 0 38 32 (.slice (some ⟨C,0,none⟩) n c) n (ds.flatMap aA):=by rw[dq,if_neg (by rw[t 7 (by kernel_rfl)];exact Bool.false_ne_true)]at m;exact m
          clear s t m;refine qL (.tmp 37) (.tmp 39) rfl C n c _ rfl de cq.out ⟨g6,0,none⟩ 1 L rfl da.out (fun j u hu=>by rw[Addr.add_mid,Nat.zero_add,cv.cell,bP];exact hu) db.out ?_;intro aX br aJ;exact⟨_,rfl,br,rfl,aJ⟩
      · intro u w' f a m;have aM:u 7=_:=a 7 (by omega);have bm:u 0=_:=a 0 (by omega);have bz:w'.ownsRow 0 38 32 (.slice (some ⟨C,0,none⟩) (n+1) c) (n+1) (ds.flatMap aA++L):=m;have am:=af (bI.out.fr f (fun e=>NE.out.1 e));have bh:=af (bY.out.fr f (fun e=>by have y:b=C:=e;exact bY.out.zT aO.out (by rw[y];rfl)));have bc:=af (bQ.out.fr f (fun e=>by have y:g5=C:=e;exact bM aO.out bQ.out (by decide) (by rw[y];rfl)));have cW:=af bz;have bK:Hid (Fr (TB p (some ⟨C,0,none⟩) n c mb) w w'):=bJ.out.trans (f.mono (fun i _ e=> .inr (.inr (by have y:i=C:=e;rw[y];rfl))));have a1:Hid (∀k,(Value.slice (some ⟨C,0,none⟩) (n+1) c).ownBlock=some k→TB p (some ⟨C,0,none⟩) n c mb k∨w.heap.size≤k):=fun k X=> .inl (.inr (.inr X));clear a m bz f cj bI aO bY ci bJ bQ bf;obtain⟨E,J⟩:∃E,E=some (⟨C,0,none⟩:Addr):=⟨_,rfl⟩;obtain⟨G,aR⟩:∃G,G=c:=⟨_,rfl⟩;have V:Hid (w'.ownsRow 0 38 32 (.slice E (n+1) G) (n+1) (ds.flatMap aA++L)):=by rw[J,aR];exact cW.out
        have U:Hid (∀k,(Value.slice E (n+1) G).ownBlock=some k→TB p (some ⟨C,0,none⟩) n c mb k∨w.heap.size≤k):=by rw[J,aR];exact a1.out
        rw[←J,←aR]at aM;clear cW a1 J aR;simp only[bw,bC,bD,bE,ar,Act.put,bF,bG,bH,dj,dk,Nat.reduceAdd,Nat.zero_add,bm,aM];generalize w'=di at*;go_wp2_with(refine aW rfl 31 (.tmp 42) _ rfl p 0 (.slice E (n+1) G) rfl rfl rfl uN 180 #[.slice (some ⟨C,0,none⟩) n c, .map (some b)] #[.slice E (n+1) G, .map (some b)] am.out (show 0<2 by decide) rfl ?_);intro aK iU f10;have bB:Hid (nh w aK p b g5 (.slice E (n+1) G) (ds++[d]) (n+1) (cT n 0) 0 n (TB p (some ⟨C,0,none⟩) n c mb)):=
          ⟨bK.out.trans (f10.mono (fun i _ e=> .inl e)),iU,aL (by rw[List.flatMap_append,List.flatMap_singleton,ch.out];exact V.out) f10 (fun k X e=>by have y:k=p:=e;exact bM V.out am.out (by decide) (by rw[←y];exact X)),
           ((bh.out.fr f10 (fun e=>by have y:b=p:=e;exact bh.out.oG am.out y)).more d (fun l i h=>by rw[c8.out];exact h.2)).congr (lG n),bc.out.fr f10 (fun e=>by have y:g5=p:=e;exact aq.ri bc.out am.out (by decide) y)⟩;clear iU f10 am bh bc bK V;generalize aK=dl at*;go_wp2;go_loopw[43](fun _ wr=>∃lv idx:Nat,(idx+1)*2^lv=n+1∧nh w wr p b g5 (.slice E (n+1) G) (ds++[d]) (n+1) (cT n lv) lv idx (TB p (some ⟨C,0,none⟩) n c mb))(fun _ wr=>(intOf ((wr.cell? ⟨g5,1,none⟩).getD undef)).toNat);case atStart=>exact⟨0,n,by simp,bB.out⟩
        case round=>
          obtain⟨lv,idx,he,aQ⟩:=hrel;have ab:=af aQ;have ac:=af he;have cc:1≤2^lv:=Nat.one_le_two_pow;have bs:(idx+1)*1≤(idx+1)*2^lv:=Nat.mul_le_mul_left _ cc;have cA:idx≤1048576:=by have:=a0.out;omega
          have aG:lv≤64:=by
            rcases Nat.lt_or_ge 64 lv with h|h;· have ad:2^64≤2^lv:=Nat.pow_le_pow_right (by omega) (by omega);have ae:1*2^lv≤(idx+1)*2^lv:=Nat.mul_le_mul_right _ (by omega);have:=a0.out;omega
            · exact h
          have F:wr.cell? ⟨g5,0,none⟩=some (.int .i64 lv):=aQ.cO.cell 0;have c51:wr.cell? ⟨g5,1,none⟩=some (.int .i64 idx):=aQ.cO.cell 1;clear aQ he bB;by_cases cb:idx%2=1
          · obtain⟨q,bt⟩:∃q,idx=2*q+1:=⟨idx/2,by omega⟩;obtain⟨k2,Y⟩:∃k2,k2=2*q:=⟨_,rfl⟩;have b0:(idx:Int).tmod 2=1:=by rw[Int.tmod_eq_emod_of_nonneg (by omega)];omega
            have a2:(idx:Int)%2=1:=by omega
            have a3:(idx:Int)-1=(k2:Int):=by omega
            have a4:(idx:Int).tdiv 2=(q:Int):=by rw[Int.tdiv_eq_ediv_of_nonneg (by omega)];omega
            have a5:(idx:Int)/2=(q:Int):=by omega
            have cs:idx/2=q:=by omega
            obtain⟨l1,Z⟩:∃l1,l1=lv+1:=⟨_,rfl⟩;have ct:(lv:Int)+1=(l1:Int):=by omega
            have cu:l1≤65:=by omega
            have Q:Hid (l1=lv+1):=Z;have cE:IntKind.i64.wrap (q:Int)=(q:Int):=IntWalk.i64_in _ (by omega);have co:Hid (idx=2*q+1∧k2=2*q):=⟨bt,Y⟩;have b5:(q+1)*2^(lv+1)=n+1:=by rw[←ac.out,show idx+1=2*(q+1)by omega,Nat.pow_succ,Nat.mul_comm (2^lv) 2,←Nat.mul_assoc,Nat.mul_comm (q+1) 2]
            have a9:=af b5;have b6:(k2+1)*2^lv≤n:=by
              have ad:(idx+1)*2^lv=idx*2^lv+2^lv:=by rw[Nat.add_mul,Nat.one_mul]
              have ae:(k2+1)=idx:=by omega
              rw[ae];have:=ac.out;omega
            have CL:Hid (∀w',Fr ag wr w'→Calls Tryz.prog 131 #[.pointer (some ⟨p,0,none⟩), .agg #[.int .i64 (lv:Int), .int .i64 (k2:Int)]] w' (aH w' (aY (aI (ds++[d]) lv k2)))):=
              fun w' f=>eL p E (n+1) G (some b) (ds++[d]) (cT n lv) lv k2 w' ((ab.out.tree B.out).ao f) (by omega) (fun h=>⟨h, .inl b6⟩) aG (by have:=a0.out;omega);have aN:Hid (∀w',Fr ag wr w'→Calls Tryz.prog 131 #[.pointer (some ⟨p,0,none⟩), .agg #[.int .i64 (lv:Int), .int .i64 (idx:Int)]] w' (aH w' (aY (aI (ds++[d]) lv idx)))):=
              fun w' f=>eL p E (n+1) G (some b) (ds++[d]) (cT n lv) lv idx w' ((ab.out.tree B.out).ao f) (by have:=ac.out;omega) (fun h=>⟨h, .inr ⟨ac.out,Nat.le_refl _⟩⟩) aG (by have:=a0.out;omega);have aU:(aI (ds++[d]) lv k2).length=32:=dX _ B.out.2 lv k2 (by rw[B.out.1];omega);have aV:(aI (ds++[d]) lv idx).length=32:=dX _ B.out.2 lv idx (by rw[B.out.1];have:=ac.out;omega);have a8:Hid (∀w',Fr (TB p (some ⟨C,0,none⟩) n c mb) w w'→Calls Tryz.prog 122 #[aY (aI (ds++[d]) lv k2),aY (aI (ds++[d]) lv idx)] w' (aH w' (aY (cR (aI (ds++[d]) lv k2) (aI (ds++[d]) lv idx))))):=fun w' f=>lR _ _ aU aV w' (dc.out.fr f (NS.out _ (.inl rfl)) (NS.out _ (.inr rfl)));have bi:Hid (Value.agg (aA (cR (aI (ds++[d]) lv k2) (aI (ds++[d]) lv idx))).toArray=aY (aI (ds++[d]) l1 q)):=by
              have:aI (ds++[d]) l1 q=cR (aI (ds++[d]) lv k2) (aI (ds++[d]) lv idx):=by rw[Z,bt,Y];rfl
              rw[this];rfl
            have M:Hid (dI (aA (aI (ds++[d]) lv k2)).toArray):=dI.of aU;have N:Hid (dI (aA (aI (ds++[d]) lv idx)).toArray):=dI.of aV;have bd:Hid ((Tryz.prog.info? 38).map (·.size)=some (aA (aI (ds++[d]) lv k2)).length):=by rw[aA,List.length_map,aU];exact fo
            have be:Hid ((Tryz.prog.info? 38).map (·.size)=some (aA (aI (ds++[d]) lv idx)).length):=by rw[aA,List.length_map,aV];exact fo
            unfold aY at CL aN a8;simp only[show∀l:List UInt8,l.map bN=aA l from fun _=>rfl]at CL aN a8;generalize aA (cR (aI (ds++[d]) lv k2) (aI (ds++[d]) lv idx))=NV at*;generalize aA (aI (ds++[d]) lv k2)=bg at*;generalize aA (aI (ds++[d]) lv idx)=bk at*;clear bt Y Z b5 b6 aU aV bs cc;go_wp2_with fail;refine(CL.out _ az).mono ?_;rintro e cd⟨rfl,bl⟩;have ap:=af (ab.out.later bl);have bL:=af bl;clear bl F c51;go_wp2_with(refine an rfl 38 rfl aZ iR aD rfl ?_);intro dm nb;have bj:=af nb;clear nb;generalize aC:cd.heap.size=g6 at*;have P:=af aC;clear aC;go_wp2_with(refine ai rfl 38 (.tmp 6) _ rfl g6 bg.toArray rfl rfl _ _ (by have h:=bj.out.aE;rw[P.out]at h;exact h) M.out.info M.out.zero M.out.one ?_);intro wc b1 b7;have av:=af b1;have ba:Hid (Fr ag cd wc):=bj.out.fr.aw b7 (fun i cz e=>by have y:i=g6:=e;have:=P.out;omega);have H:=af (ap.out.later ba.out);clear b1 b7 bj ap;have F:wc.cell? ⟨g5,0,none⟩=some (.int .i64 lv):=H.out.cO.cell 0;have c51:wc.cell? ⟨g5,1,none⟩=some (.int .i64 idx):=H.out.cO.cell 1;go_wp2_with fail;refine(aN.out _ (bL.out.trans ba.out)).mono ?_;rintro e wd⟨rfl,fd⟩;have au:=af (H.out.later fd);have R:=af (av.out.fr fd (fun x=>x));clear fd F c51 H av bL ba CL aN P;go_wp2_with(refine an rfl 38 rfl aZ iR aD rfl ?_);intro dn ne;have Ne:=af ne;clear ne;generalize aF:wd.heap.size=g7 at*;have I:=af aF;clear aF;have cp:Hid (g6<g7):=by have:=R.out.lt;have:=I.out;simp only[Hid];omega
            go_wp2_with(refine ai rfl 38 (.tmp 7) _ rfl g7 bk.toArray rfl rfl _ _ (by have h:=Ne.out.aE;rw[I.out]at h;exact h) N.out.info N.out.zero N.out.one ?_);intro wf b2 b8;have T:=af b2;have bb:Hid (Fr ag wd wf):=Ne.out.fr.aw b8 (fun i cz e=>by have y:i=g7:=e;have:=I.out;omega);have z:=af (au.out.later bb.out);have S:=af (R.out.fr bb.out (fun x=>x));clear b2 b8 Ne au R bb I;have F:wf.cell? ⟨g5,0,none⟩=some (.int .i64 lv):=z.out.cO.cell 0;have c51:wf.cell? ⟨g5,1,none⟩=some (.int .i64 idx):=z.out.cO.cell 1;have bZ:Hid ((#[Value.int .i64 (l1:Int),Value.int .i64 (q:Int)]:Array Value).all (·.oneCell')=true):=by simp[Hid,Value.oneCell']
            go_wp2_with(refine ai rfl 212 (.tmp 5) _ rfl g5 #[.int .i64 (l1:Int), .int .i64 (q:Int)] rfl rfl _ _ z.out.cO cg rfl bZ.out ?_);intro bu b4 aP;have D:=af (z.out.GN aP b4 cP.out);have bU:=af (S.out.fr aP (fun e=>by have y:g6=g5:=e;exact aq.ri S.out z.out.cO (by decide) y));have bV:=af (T.out.fr aP (fun e=>by have y:g7=g5:=e;exact aq.ri T.out z.out.cO (by decide) y));clear bZ b4 aP z S T F c51;have bW:Hid (bu.cell? ⟨g5,0,none⟩=some (.int .i64 (l1:Int))):=D.out.cO.cell 0;have bX:Hid (bu.cell? ⟨g5,1,none⟩=some (.int .i64 q)):=D.out.cO.cell 1;have bv:Hid (bu.cell? ⟨p,1,none⟩=some (.map (some b))):=D.out.aE.cell 1;clear b0 a2 a3 a4 a5 cs ct cu cE;go_upto_region 13 with fail;refine ay 8 ag [Is (.pointer (some ⟨p,0,none⟩)),Is (.pointer (some ⟨p,0,none⟩)),Is (.pointer (some ⟨p,1,none⟩)),Is (.map (some b)),Is (ia l1 q),Is (.agg bg.toArray),Is (.agg bk.toArray),Is (.agg NV.toArray)] [] (fun _=>True) (fun _ _=>false) (by kernel_rfl) (by kernel_rfl) (by kernel_rfl) (by kernel_rfl) ⟨Is.ah _,Is.ah _,Is.ah _,Is.ah _,Is.ah _,Is.ah _,Is.ah _,Is.ah _,trivial⟩ trivial (fun _ _ _ _ h=>h) trivial ?_ ?_
            · refine⟨?_,?_,?_,?_,?_,?_,?_,?_,trivial⟩;all_goals intro u w' d f a s t m
              all_goals simp only[bw,bC,bD,bE,ar,Act.put,bF,bG,bH,Nat.reduceAdd,Nat.zero_add]
              · clear a s t m;refine aj ?_;go_simp;exact⟨_,rfl,al⟩
              · have bm:u 0=_:=a 0;clear a s t m;simp only[bm];refine aj ?_;go_simp;exact⟨_,rfl,al⟩
              · have ad:u 1=_:=a 1;clear a s t m;simp only[ad];refine aj ?_;go_simp;exact⟨_,rfl,al⟩
              · have ae:u 2=_:=a 2;clear a s t m;simp only[ae];refine aj ?_;have ca:=f.ak bv.out (fun x=>x);go_simp;exact⟨_,rfl,al⟩
              · clear a s t m;refine aj ?_;have ca:=f.ak bW.out (fun x=>x);have cw:=f.ak bX.out (fun x=>x);go_simp;exact⟨_,rfl,al⟩
              · clear a s t m;refine aj ?_;exact wp_load_mid _ _ rfl g6 0 rfl bg _ (dA (bU.out.fr f (fun x=>x))) Tryz.underlying38 rfl bd.out ⟨_,rfl,al⟩
              · clear a s t m;refine aj ?_;exact wp_load_mid _ _ rfl g7 0 rfl bk _ (dA (bV.out.fr f (fun x=>x))) Tryz.underlying38 rfl be.out ⟨_,rfl,al⟩
              · have bo:u 5=_:=a 5;have bq:u 6=_:=a 6;clear a s t m;simp only[bo,bq];refine aj ?_;go_simp;refine(a8.out _ (D.out.LY.trans f.bO)).mono ?_;rintro e dh⟨rfl,f4⟩;exact⟨_,rfl,f4.bO,rfl,trivial⟩
            · intro u w' f a m;have a6:u 3=_:=a 3 (by omega);have bn:u 4=_:=a 4 (by omega);have aM:u 7=_:=a 7 (by omega);have O:=af (D.out.later f);clear a m f bW bX bv bU bV D;simp only[bw,bC,bD,bE,ar,Act.put,bF,bG,bH,dj,dk,Nat.reduceAdd,Nat.zero_add,a6,bn,aM];refine jz rfl (.tmp 68) (.tmp 69) (.tmp 72) rfl O.out.map l1 q rfl rfl rfl (by rw[Q.out];exact oq n lv q a9.out) bi.out (cT n l1) (fun l i=>by rw[Q.out];exact mK n lv q l i a9.out) ?_;intro cF ax b9;have bS:=af (O.out.GO b9 ax cG.out);clear ax b9 O;simp only[Act.put];go_wp2;go_roundw;case rel=>exact⟨l1,q,by rw[Q.out];exact a9.out,bS.out⟩
              case measure=>
                have s:cF.cell? ⟨g5,1,none⟩=some (.int .i64 q):=bS.out.cO.cell 1;have k2:wr.cell? ⟨g5,1,none⟩=some (.int .i64 idx):=ab.out.cO.cell 1;have:=co.out;rw[s,k2];simp[intOf];omega
          · have b0:(idx:Int).tmod 2=0:=by rw[Int.tmod_eq_emod_of_nonneg (by omega)];omega
            have a2:(idx:Int)%2=0:=by omega
            have cr:Hid (∀l i,cT n lv l i↔bp (n+1) l i):=fun l i=>oo n lv idx ac.out (by omega) l i;go_wp2;go_ret;exact⟨rfl,E,G,some b,(ab.out.tree B.out).congr cr.out,ab.out.fr,fun k X=>by
              rcases X with h|h|h;· exact .inl (.inl h)
              · have e:b=k:=Option.some.inj h;rw[←e];exact bx.out
              · exact U.out k h⟩
    · have cq:=af K;clear K;refine ay 8 ag [Is (.pointer (some ⟨p,0,none⟩)),Is (.pointer (some ⟨p,0,none⟩)),Is (.pointer (some ⟨p,0,none⟩)),Is (.pointer (some ⟨p,0,none⟩)),Is (.slice A n c),Is (.agg L.toArray),fun v W=>∃g,v= .slice (some ⟨g,0,none⟩) 1 1∧bA.heap.size≤g∧aq W g 38 L.toArray,fun v W=>∃g cap,v= .slice (some ⟨g,0,none⟩) (n+1) cap∧bA.heap.size≤g∧W.ownsRow 0 38 32 v (n+1) (ds.flatMap aA++L)] [] (fun _=>True) (fun _ _=>false) (by kernel_rfl) (by kernel_rfl) (by kernel_rfl) (by kernel_rfl) ⟨Is.ah _,Is.ah _,Is.ah _,Is.ah _,Is.ah _,Is.ah _,fun v w' aX _ f⟨g,h,l,b⟩=>⟨g,h,l,b.fr f (fun x=>x)⟩,fun v w' aX _ f⟨g,cap,h,l,b⟩=>⟨g,cap,h,l,aL b f (fun _ _ x=>x)⟩,trivial⟩ trivial (fun _ _ _ _ h=>h) trivial ?_ ?_
      · refine⟨?_,?_,?_,?_,?_,?_,?_,?_,trivial⟩;all_goals intro u w' d f a s t m
        all_goals simp only[bw,bC,bD,bE,ar,Act.put,bF,bG,bH,Nat.reduceAdd,Nat.zero_add]
        · clear a s t m;refine aj ?_;go_simp;exact⟨_,rfl,al⟩
        · clear a s t m;refine aj ?_;go_simp;exact⟨_,rfl,al⟩
        · have ad:u 1=_:=a 1;clear a s t m;simp only[ad];refine aj ?_;go_simp;exact⟨_,rfl,al⟩
        · have ae:u 2=_:=a 2;clear a s t m;simp only[ae];refine aj ?_;go_simp;exact⟨_,rfl,al⟩
        · have a6:u 3=_:=a 3;clear a s t m;simp only[a6];refine aj ?_;have ca:=f.ak cj.out (fun x=>x);go_simp;exact⟨_,rfl,al⟩
        · clear a s t m;refine aj ?_;exact wp_load_mid _ _ rfl g3 0 rfl L _ (dA (ci.out.fr f (fun x=>x))) Tryz.underlying38 rfl c9.out ⟨_,rfl,al⟩
        · have bo:u 5=_:=a 5;clear a s t m;simp only[bo];refine aj ?_;refine wp_buildSlice 31 38 1 #[(0, .tmp 38)] rfl L.toArray i0 aZ Tryz.underlying31 cl cm g1.out g2.out ?_ ?_;· simp only[List.map_toArray,List.map_cons,List.map_nil];exact gf.out
          · exact⟨_,rfl,az.alloc _,⟨w'.heap.size,rfl,f.size,aq.new _ _ _⟩,trivial⟩
        · have bn:u 4=_:=a 4;obtain⟨g6,bq,dg,cv⟩:=a 6;clear a s t m;simp only[bn,bq];refine aj ?_;refine sy (.tmp 37) (.tmp 39) rfl A n c _ rfl (aL aO.out f (fun _ _ x=>x)) cq.out a0.out ⟨g6,0,none⟩ 1 L rfl da.out (fun j u hu=>by rw[Addr.add_mid,Nat.zero_add,cv.cell,bP];exact hu) db.out ?_;intro g cap aX br df aJ;exact⟨_,rfl,br,⟨g,cap,rfl,Nat.le_trans f.size df,aJ⟩,trivial⟩
      · intro u w' f a m;obtain⟨c0,G,aM,cy,bz⟩:=a 7 (by omega);have bm:u 0=_:=a 0 (by omega);rw[aM]at bz;have am:=af (bI.out.fr f (fun x=>x));have bh:=af (bY.out.fr f (fun x=>x));have bc:=af (bQ.out.fr f (fun x=>x));have bK:Hid (Fr (TB p A n c mb) w w'):=bJ.out.trans f.bO;have cC:=bJ.out.size;obtain⟨E,J⟩:∃E,E=some (⟨c0,0,none⟩:Addr):=⟨_,rfl⟩;have V:Hid (w'.ownsRow 0 38 32 (.slice E (n+1) G) (n+1) (ds.flatMap aA++L)):=by rw[J];exact bz
        have U:Hid (∀k,(Value.slice E (n+1) G).ownBlock=some k→TB p A n c mb k∨w.heap.size≤k):=by
          rw[J];intro k X;have:c0=k:=by simpa[Value.ownBlock]using X
          exact .inr (by omega)
        rw[←J]at aM;clear a m bz f cj bI aO bY ci bJ bQ bf cC J cy;simp only[bw,bC,bD,bE,ar,Act.put,bF,bG,bH,dj,dk,Nat.reduceAdd,Nat.zero_add,bm,aM];generalize w'=di at*;go_wp2_with(refine aW rfl 31 (.tmp 42) _ rfl p 0 (.slice E (n+1) G) rfl rfl rfl uN 180 #[.slice A n c, .map (some b)] #[.slice E (n+1) G, .map (some b)] am.out (show 0<2 by decide) rfl ?_);intro aK iU f10;have bB:Hid (nh w aK p b g5 (.slice E (n+1) G) (ds++[d]) (n+1) (cT n 0) 0 n (TB p A n c mb)):=
          ⟨bK.out.trans (f10.mono (fun i _ e=> .inl e)),iU,aL (by rw[List.flatMap_append,List.flatMap_singleton,ch.out];exact V.out) f10 (fun k X e=>by have y:k=p:=e;exact bM V.out am.out (by decide) (by rw[←y];exact X)),
           ((bh.out.fr f10 (fun e=>by have y:b=p:=e;exact bh.out.oG am.out y)).more d (fun l i h=>by rw[c8.out];exact h.2)).congr (lG n),bc.out.fr f10 (fun e=>by have y:g5=p:=e;exact aq.ri bc.out am.out (by decide) y)⟩;clear iU f10 am bh bc bK V;generalize aK=dl at*;go_wp2;go_loopw[43](fun _ wr=>∃lv idx:Nat,(idx+1)*2^lv=n+1∧nh w wr p b g5 (.slice E (n+1) G) (ds++[d]) (n+1) (cT n lv) lv idx (TB p A n c mb))(fun _ wr=>(intOf ((wr.cell? ⟨g5,1,none⟩).getD undef)).toNat);case atStart=>exact⟨0,n,by simp,bB.out⟩
        case round=>
          obtain⟨lv,idx,he,aQ⟩:=hrel;have ab:=af aQ;have ac:=af he;have cc:1≤2^lv:=Nat.one_le_two_pow;have bs:(idx+1)*1≤(idx+1)*2^lv:=Nat.mul_le_mul_left _ cc;have cA:idx≤1048576:=by have:=a0.out;omega
          have aG:lv≤64:=by
            rcases Nat.lt_or_ge 64 lv with h|h;· have ad:2^64≤2^lv:=Nat.pow_le_pow_right (by omega) (by omega);have ae:1*2^lv≤(idx+1)*2^lv:=Nat.mul_le_mul_right _ (by omega);have:=a0.out;omega
            · exact h
          have F:wr.cell? ⟨g5,0,none⟩=some (.int .i64 lv):=aQ.cO.cell 0;have c51:wr.cell? ⟨g5,1,none⟩=some (.int .i64 idx):=aQ.cO.cell 1;clear aQ he bB;by_cases cb:idx%2=1
          · obtain⟨q,bt⟩:∃q,idx=2*q+1:=⟨idx/2,by omega⟩;obtain⟨k2,Y⟩:∃k2,k2=2*q:=⟨_,rfl⟩;have b0:(idx:Int).tmod 2=1:=by rw[Int.tmod_eq_emod_of_nonneg (by omega)];omega
            have a2:(idx:Int)%2=1:=by omega
            have a3:(idx:Int)-1=(k2:Int):=by omega
            have a4:(idx:Int).tdiv 2=(q:Int):=by rw[Int.tdiv_eq_ediv_of_nonneg (by omega)];omega
            have a5:(idx:Int)/2=(q:Int):=by omega
            have cs:idx/2=q:=by omega
            obtain⟨l1,Z⟩:∃l1,l1=lv+1:=⟨_,rfl⟩;have ct:(lv:Int)+1=(l1:Int):=by omega
            have cu:l1≤65:=by omega
            have Q:Hid (l1=lv+1):=Z;have cE:IntKind.i64.wrap (q:Int)=(q:Int):=IntWalk.i64_in _ (by omega);have co:Hid (idx=2*q+1∧k2=2*q):=⟨bt,Y⟩;have b5:(q+1)*2^(lv+1)=n+1:=by rw[←ac.out,show idx+1=2*(q+1)by omega,Nat.pow_succ,Nat.mul_comm (2^lv) 2,←Nat.mul_assoc,Nat.mul_comm (q+1) 2]
            have a9:=af b5;have b6:(k2+1)*2^lv≤n:=by
              have ad:(idx+1)*2^lv=idx*2^lv+2^lv:=by rw[Nat.add_mul,Nat.one_mul]
              have ae:(k2+1)=idx:=by omega
              rw[ae];have:=ac.out;omega
            have CL:Hid (∀w',Fr ag wr w'→Calls Tryz.prog 131 #[.pointer (some ⟨p,0,none⟩), .agg #[.int .i64 (lv:Int), .int .i64 (k2:Int)]] w' (aH w' (aY (aI (ds++[d]) lv k2)))):=
              fun w' f=>eL p E (n+1) G (some b) (ds++[d]) (cT n lv) lv k2 w' ((ab.out.tree B.out).ao f) (by omega) (fun h=>⟨h, .inl b6⟩) aG (by have:=a0.out;omega);have aN:Hid (∀w',Fr ag wr w'→Calls Tryz.prog 131 #[.pointer (some ⟨p,0,none⟩), .agg #[.int .i64 (lv:Int), .int .i64 (idx:Int)]] w' (aH w' (aY (aI (ds++[d]) lv idx)))):=
              fun w' f=>eL p E (n+1) G (some b) (ds++[d]) (cT n lv) lv idx w' ((ab.out.tree B.out).ao f) (by have:=ac.out;omega) (fun h=>⟨h, .inr ⟨ac.out,Nat.le_refl _⟩⟩) aG (by have:=a0.out;omega);have aU:(aI (ds++[d]) lv k2).length=32:=dX _ B.out.2 lv k2 (by rw[B.out.1];omega);have aV:(aI (ds++[d]) lv idx).length=32:=dX _ B.out.2 lv idx (by rw[B.out.1];have:=ac.out;omega);have a8:Hid (∀w',Fr (TB p A n c mb) w w'→Calls Tryz.prog 122 #[aY (aI (ds++[d]) lv k2),aY (aI (ds++[d]) lv idx)] w' (aH w' (aY (cR (aI (ds++[d]) lv k2) (aI (ds++[d]) lv idx))))):=fun w' f=>lR _ _ aU aV w' (dc.out.fr f (NS.out _ (.inl rfl)) (NS.out _ (.inr rfl)));have bi:Hid (Value.agg (aA (cR (aI (ds++[d]) lv k2) (aI (ds++[d]) lv idx))).toArray=aY (aI (ds++[d]) l1 q)):=by
              have:aI (ds++[d]) l1 q=cR (aI (ds++[d]) lv k2) (aI (ds++[d]) lv idx):=by rw[Z,bt,Y];rfl
              rw[this];rfl
            have M:Hid (dI (aA (aI (ds++[d]) lv k2)).toArray):=dI.of aU;have N:Hid (dI (aA (aI (ds++[d]) lv idx)).toArray):=dI.of aV;have bd:Hid ((Tryz.prog.info? 38).map (·.size)=some (aA (aI (ds++[d]) lv k2)).length):=by rw[aA,List.length_map,aU];exact fo
            have be:Hid ((Tryz.prog.info? 38).map (·.size)=some (aA (aI (ds++[d]) lv idx)).length):=by rw[aA,List.length_map,aV];exact fo
            unfold aY at CL aN a8;simp only[show∀l:List UInt8,l.map bN=aA l from fun _=>rfl]at CL aN a8;generalize aA (cR (aI (ds++[d]) lv k2) (aI (ds++[d]) lv idx))=NV at*;generalize aA (aI (ds++[d]) lv k2)=bg at*;generalize aA (aI (ds++[d]) lv idx)=bk at*;clear bt Y Z b5 b6 aU aV bs cc;go_wp2_with fail;refine(CL.out _ az).mono ?_;rintro e cd⟨rfl,bl⟩;have ap:=af (ab.out.later bl);have bL:=af bl;clear bl F c51;go_wp2_with(refine an rfl 38 rfl aZ iR aD rfl ?_);intro dm nb;have bj:=af nb;clear nb;generalize aC:cd.heap.size=g6 at*;have P:=af aC;clear aC;go_wp2_with(refine ai rfl 38 (.tmp 6) _ rfl g6 bg.toArray rfl rfl _ _ (by have h:=bj.out.aE;rw[P.out]at h;exact h) M.out.info M.out.zero M.out.one ?_);intro wc b1 b7;have av:=af b1;have ba:Hid (Fr ag cd wc):=bj.out.fr.aw b7 (fun i cz e=>by have y:i=g6:=e;have:=P.out;omega);have H:=af (ap.out.later ba.out);clear b1 b7 bj ap;have F:wc.cell? ⟨g5,0,none⟩=some (.int .i64 lv):=H.out.cO.cell 0;have c51:wc.cell? ⟨g5,1,none⟩=some (.int .i64 idx):=H.out.cO.cell 1;go_wp2_with fail;refine(aN.out _ (bL.out.trans ba.out)).mono ?_;rintro e wd⟨rfl,fd⟩;have au:=af (H.out.later fd);have R:=af (av.out.fr fd (fun x=>x));clear fd F c51 H av bL ba CL aN P;go_wp2_with(refine an rfl 38 rfl aZ iR aD rfl ?_);intro dn ne;have Ne:=af ne;clear ne;generalize aF:wd.heap.size=g7 at*;have I:=af aF;clear aF;have cp:Hid (g6<g7):=by have:=R.out.lt;have:=I.out;simp only[Hid];omega
            go_wp2_with(refine ai rfl 38 (.tmp 7) _ rfl g7 bk.toArray rfl rfl _ _ (by have h:=Ne.out.aE;rw[I.out]at h;exact h) N.out.info N.out.zero N.out.one ?_);intro wf b2 b8;have T:=af b2;have bb:Hid (Fr ag wd wf):=Ne.out.fr.aw b8 (fun i cz e=>by have y:i=g7:=e;have:=I.out;omega);have z:=af (au.out.later bb.out);have S:=af (R.out.fr bb.out (fun x=>x));clear b2 b8 Ne au R bb I;have F:wf.cell? ⟨g5,0,none⟩=some (.int .i64 lv):=z.out.cO.cell 0;have c51:wf.cell? ⟨g5,1,none⟩=some (.int .i64 idx):=z.out.cO.cell 1;have bZ:Hid ((#[Value.int .i64 (l1:Int),Value.int .i64 (q:Int)]:Array Value).all (·.oneCell')=true):=by simp[Hid,Value.oneCell']
            go_wp2_with(refine ai rfl 212 (.tmp 5) _ rfl g5 #[.int .i64 (l1:Int), .int .i64 (q:Int)] rfl rfl _ _ z.out.cO cg rfl bZ.out ?_);intro bu b4 aP;have D:=af (z.out.GN aP b4 cP.out);have bU:=af (S.out.fr aP (fun e=>by have y:g6=g5:=e;exact aq.ri S.out z.out.cO (by decide) y));have bV:=af (T.out.fr aP (fun e=>by have y:g7=g5:=e;exact aq.ri T.out z.out.cO (by decide) y));clear bZ b4 aP z S T F c51;have bW:Hid (bu.cell? ⟨g5,0,none⟩=some (.int .i64 (l1:Int))):=D.out.cO.cell 0;have bX:Hid (bu.cell? ⟨g5,1,none⟩=some (.int .i64 q)):=D.out.cO.cell 1;have bv:Hid (bu.cell? ⟨p,1,none⟩=some (.map (some b))):=D.out.aE.cell 1;clear b0 a2 a3 a4 a5 cs ct cu cE;go_upto_region 13 with fail;refine ay 8 ag [Is (.pointer (some ⟨p,0,none⟩)),Is (.pointer (some ⟨p,0,none⟩)),Is (.pointer (some ⟨p,1,none⟩)),Is (.map (some b)),Is (ia l1 q),Is (.agg bg.toArray),Is (.agg bk.toArray),Is (.agg NV.toArray)] [] (fun _=>True) (fun _ _=>false) (by kernel_rfl) (by kernel_rfl) (by kernel_rfl) (by kernel_rfl) ⟨Is.ah _,Is.ah _,Is.ah _,Is.ah _,Is.ah _,Is.ah _,Is.ah _,Is.ah _,trivial⟩ trivial (fun _ _ _ _ h=>h) trivial ?_ ?_
            · refine⟨?_,?_,?_,?_,?_,?_,?_,?_,trivial⟩;all_goals intro u w' d f a s t m
              all_goals simp only[bw,bC,bD,bE,ar,Act.put,bF,bG,bH,Nat.reduceAdd,Nat.zero_add]
              · clear a s t m;refine aj ?_;go_simp;exact⟨_,rfl,al⟩
              · have bm:u 0=_:=a 0;clear a s t m;simp only[bm];refine aj ?_;go_simp;exact⟨_,rfl,al⟩
              · have ad:u 1=_:=a 1;clear a s t m;simp only[ad];refine aj ?_;go_simp;exact⟨_,rfl,al⟩
              · have ae:u 2=_:=a 2;clear a s t m;simp only[ae];refine aj ?_;have ca:=f.ak bv.out (fun x=>x);go_simp;exact⟨_,rfl,al⟩
              · clear a s t m;refine aj ?_;have ca:=f.ak bW.out (fun x=>x);have cw:=f.ak bX.out (fun x=>x);go_simp;exact⟨_,rfl,al⟩
              · clear a s t m;refine aj ?_;exact wp_load_mid _ _ rfl g6 0 rfl bg _ (dA (bU.out.fr f (fun x=>x))) Tryz.underlying38 rfl bd.out ⟨_,rfl,al⟩
              · clear a s t m;refine aj ?_;exact wp_load_mid _ _ rfl g7 0 rfl bk _ (dA (bV.out.fr f (fun x=>x))) Tryz.underlying38 rfl be.out ⟨_,rfl,al⟩
              · have bo:u 5=_:=a 5;have bq:u 6=_:=a 6;clear a s t m;simp only[bo,bq];refine aj ?_;go_simp;refine(a8.out _ (D.out.LY.trans f.bO)).mono ?_;rintro e dh⟨rfl,f4⟩;exact⟨_,rfl,f4.bO,rfl,trivial⟩
            · intro u w' f a m;have a6:u 3=_:=a 3 (by omega);have bn:u 4=_:=a 4 (by omega);have aM:u 7=_:=a 7 (by omega);have O:=af (D.out.later f);clear a m f bW bX bv bU bV D;simp only[bw,bC,bD,bE,ar,Act.put,bF,bG,bH,dj,dk,Nat.reduceAdd,Nat.zero_add,a6,bn,aM];refine jz rfl (.tmp 68) (.tmp 69) (.tmp 72) rfl O.out.map l1 q rfl rfl rfl (by rw[Q.out];exact oq n lv q a9.out) bi.out (cT n l1) (fun l i=>by rw[Q.out];exact mK n lv q l i a9.out) ?_;intro cF ax b9;have bS:=af (O.out.GO b9 ax cG.out);clear ax b9 O;simp only[Act.put];go_wp2;go_roundw;case rel=>exact⟨l1,q,by rw[Q.out];exact a9.out,bS.out⟩
              case measure=>
                have s:cF.cell? ⟨g5,1,none⟩=some (.int .i64 q):=bS.out.cO.cell 1;have k2:wr.cell? ⟨g5,1,none⟩=some (.int .i64 idx):=ab.out.cO.cell 1;have:=co.out;rw[s,k2];simp[intOf];omega
          · have b0:(idx:Int).tmod 2=0:=by rw[Int.tmod_eq_emod_of_nonneg (by omega)];omega
            have a2:(idx:Int)%2=0:=by omega
            have cr:Hid (∀l i,cT n lv l i↔bp (n+1) l i):=fun l i=>oo n lv idx ac.out (by omega) l i;go_wp2;go_ret;exact⟨rfl,E,G,some b,(ab.out.tree B.out).congr cr.out,ab.out.fr,fun k X=>by
              rcases X with h|h|h;· exact .inl (.inl h)
              · have e:b=k:=Option.some.inj h;rw[←e];exact bx.out
              · exact U.out k h⟩
  · have HB:=af aa.aE;have cQ:=af c2;clear c2;go_enter Tryz.func84,Tryz.ntmps84;go_wp2_with(refine aB rfl 38 (.tmp 1) rfl _ rfl ?_);intro w1 n1;have ce:=af (aa.aE.fr n1.fr (fun x=>x));have cM:=af (aL aa.row n1.fr (fun _ _ x=>x));have cI:Hid (aq w1 w.heap.size 38 L.toArray):=n1.aE;have cH:=af n1.fr;have cN:Hid (w1.heap.size=w.heap.size+1):=n1.size;clear n1;have ck:w1.cell? ⟨p,0,none⟩=some (.slice A n c):=ce.out.cell 0;have cX:w1.cell? ⟨p,1,none⟩=some (.map none):=ce.out.cell 1;have PL:Hid (p<w.heap.size):=aa.aE.lt;clear aa;go_wp2_with(refine uC rfl 178 rfl ?_);intro w2 dt;have cK:=af dt;clear dt ck cX;have c7:=af (ce.out.fr cK.out.fr (fun x=>x));have ck:w2.cell? ⟨p,0,none⟩=some (.slice A n c):=c7.out.cell 0;have cX:w2.cell? ⟨p,1,none⟩=some (.map none):=c7.out.cell 1;generalize dr:w1.heap.size=b at*;have bR:=af dr;clear dr;go_wp2_with(refine aW rfl 178 (.tmp 26) _ rfl p 1 (.map (some b)) rfl rfl rfl Mk 180 #[.slice A n c, .map none] #[.slice A n c, .map (some b)] c7.out (show 1<2 by decide) rfl ?_);intro w3 b3 f3;have cf:=af b3;have cV:=af (aL (aL cM.out cK.out.fr (fun _ _ x=>x)) f3 (fun k X e=>by have y:k=p:=e;exact bM cM.out ce.out (by decide) (by rw[←y];exact X)));have cJ:=af ((cI.out.fr cK.out.fr (fun x=>x)).fr f3 (fun e=>by have y:w.heap.size=p:=e;have:=PL.out;omega));have cU:Hid (dH w3 b ds (bp n)):=by
      refine⟨#[],0,?_,fun e he=>(by simp at he),fun l i h=>absurd h (cQ.out l i),pv.empty _⟩;have h:=cK.out.map;rw[bR.out]at h;exact(f3.block b (Array.getElem?_eq_some_iff.1 h).1 (fun e=>by have y:b=p:=e;have:=PL.out;have:=cN.out;have:=bR.out;omega)).trans h
    have cn:Hid (Fr (TB p A n c none) w w3):=((cH.out.trans cK.out.fr).bO).trans (f3.mono (fun i _ e=> .inl e));have bx:Hid (TB p A n c none b∨w.heap.size≤b):= .inr (by have:=cN.out;have:=bR.out;omega);have cG:Hid (b<w.heap.size→TB p A n c none b):=fun h=>by have:=cN.out;have:=bR.out;omega
    clear ck cX b3 f3 ce c7 cM cI HB cQ cK cH;go_upto_region 7 with fail;obtain⟨g3,aT⟩:∃g3,g3=w.heap.size:=⟨_,rfl⟩;have cL:Hid (∀k,(Value.slice A n c).ownBlock=some k→k<g3):=by rw[aT];exact cL.out
    rw[←aT]at cJ⊢;have dd:Hid (g3=w.heap.size):=aT;clear aT cN bR PL;generalize w3=a7 at*;have ck:a7.cell? ⟨p,0,none⟩=some (.slice A n c):=cf.out.cell 0;go_upto_region 8 with fail;clear ck;have cj:Hid ((a7.alloc (.cells #[.int .i64 0, .int .i64 n] 212)).cell? ⟨p,0,none⟩=some (.slice A n c)):=(cf.out.alloc _).cell 0;have bI:=af (cf.out.alloc (.cells #[.int .i64 0, .int .i64 n] 212));have aO:=af (aL cV.out ((Fr.refl ag a7).alloc (.cells #[.int .i64 0, .int .i64 n] 212)) (fun _ _ x=>x));have bY:=af (cU.out.fr ((Fr.refl ag a7).alloc (.cells #[.int .i64 0, .int .i64 n] 212)) (fun x=>x));have ci:=af (cJ.out.alloc (.cells #[.int .i64 0, .int .i64 n] 212));have bJ:=af (cn.out.alloc (.cells #[.int .i64 0, .int .i64 n] 212));have bQ:=af (aq.new a7 212 #[.int .i64 0, .int .i64 n]);have cP:Hid (w.heap.size≤a7.heap.size):=cn.out.size;clear cf cV cU cJ cn;generalize a7.alloc (.cells #[.int .i64 0, .int .i64 n] 212)=bA at*;generalize a7.heap.size=g5 at*;have bf:Hid (∀k,(Value.slice A n c).ownBlock=some k→k<bA.heap.size):=fun k X=>by
      obtain⟨o,c6,_⟩:=cS aO.out X;exact(Array.getElem?_eq_some_iff.1 c6).1
    by_cases K:n+1≤c
    · obtain⟨C,rfl,cx⟩:∃C,A=some ⟨C,0,none⟩∧C<g3:=by
        rcases aO.out.2 with⟨cB,_⟩|⟨cZ,cY,cur,cB,_⟩;· injection cB with _ _ a6;omega
        · injection cB with ad _ _;subst ad;exact⟨cZ,rfl,cL.out cZ rfl⟩
      have NE:Hid ((p:Nat)≠C∧g3≠C∧C<bA.heap.size):=⟨fun e=>bM aO.out bI.out (by decide) (by rw[e];rfl),by omega,bf.out C rfl⟩;have cq:=af K;clear K cx;refine ay 8 (fun k=>k=C) [Is (.pointer (some ⟨p,0,none⟩)),Is (.pointer (some ⟨p,0,none⟩)),Is (.pointer (some ⟨p,0,none⟩)),Is (.pointer (some ⟨p,0,none⟩)),Is (.slice (some ⟨C,0,none⟩) n c),Is (.agg L.toArray),fun v W=>∃g,v= .slice (some ⟨g,0,none⟩) 1 1∧bA.heap.size≤g∧aq W g 38 L.toArray,Is (.slice (some ⟨C,0,none⟩) (n+1) c)] [(7,fun W=>W.ownsRow 0 38 32 (.slice (some ⟨C,0,none⟩) (n+1) c) (n+1) (ds.flatMap aA++L))] (fun W=>W.ownsRow 0 38 32 (.slice (some ⟨C,0,none⟩) n c) n (ds.flatMap aA)) (fun _ _=>false) (by kernel_rfl) (by kernel_rfl) (by kernel_rfl) (by kernel_rfl) ⟨Is.ah _,Is.ah _,Is.ah _,Is.ah _,Is.ah _,Is.ah _,fun v w' aX _ f⟨g,h,l,b⟩=>⟨g,h,l,b.fr f (fun e=>by have y:g=C:=e;have:=NE.out.2.2;omega)⟩,Is.ah _,trivial⟩ ⟨fun _ _ _ f h=>aL h f (fun _ _ x=>x),trivial⟩ (fun _ _ _ f h=>aL h f (fun _ _ x=>x)) (aL aO.out ((Fr.refl ag bA).drew) (fun _ _ x=>x)) ?_ ?_
      · refine⟨?_,?_,?_,?_,?_,?_,?_,?_,trivial⟩;all_goals intro u w' d f a s t m
        all_goals simp only[bw,bC,bD,bE,ar,Act.put,bF,bG,bH,Nat.reduceAdd,Nat.zero_add]
        · clear a s t m;refine aj ?_;go_simp;exact⟨_,rfl,al⟩
        · clear a s t m;refine aj ?_;go_simp;exact⟨_,rfl,al⟩
        · have ad:u 1=_:=a 1;clear a s t m;simp only[ad];refine aj ?_;go_simp;exact⟨_,rfl,al⟩
        · have ae:u 2=_:=a 2;clear a s t m;simp only[ae];refine aj ?_;go_simp;exact⟨_,rfl,al⟩
        · have a6:u 3=_:=a 3;clear a s t m;simp only[a6];refine aj ?_;have ca:=f.ak cj.out (fun e=>NE.out.1 e);go_simp;exact⟨_,rfl,al⟩
        · clear a s t m;refine aj ?_;exact wp_load_mid _ _ rfl g3 0 rfl L _ (dA (ci.out.fr f (fun e=>NE.out.2.1 e))) Tryz.underlying38 rfl c9.out ⟨_,rfl,al⟩
        · have bo:u 5=_:=a 5;clear a s t m;simp only[bo];refine aj ?_;refine wp_buildSlice 31 38 1 #[(0, .tmp 38)] rfl L.toArray i0 aZ Tryz.underlying31 cl cm g1.out g2.out ?_ ?_;· simp only[List.map_toArray,List.map_cons,List.map_nil];exact gf.out
          · exact⟨_,rfl,az.alloc _,⟨w'.heap.size,rfl,f.size,aq.new _ _ _⟩,trivial⟩
        · have bn:u 4=_:=a 4;obtain⟨g6,bq,dg,cv⟩:=a 6;clear a;simp only[bn,bq];refine aj ?_;have de:w'.ownsRow 0 38 32 (.slice (some ⟨C,0,none⟩) n c) n (ds.flatMap aA):=by rw[dq,if_neg (by rw[t 7 (by kernel_rfl)];exact Bool.false_ne_true)]at m;exact m
          clear s t m;refine qL (.tmp 37) (.tmp 39) rfl C n c _ rfl de cq.out ⟨g6,0,none⟩ 1 L rfl da.out (fun j u hu=>by rw[Addr.add_mid,Nat.zero_add,cv.cell,bP];exact hu) db.out ?_;intro aX br aJ;exact⟨_,rfl,br,rfl,aJ⟩
      · intro u w' f a m;have aM:u 7=_:=a 7 (by omega);have bm:u 0=_:=a 0 (by omega);have bz:w'.ownsRow 0 38 32 (.slice (some ⟨C,0,none⟩) (n+1) c) (n+1) (ds.flatMap aA++L):=m;have am:=af (bI.out.fr f (fun e=>NE.out.1 e));have bh:=af (bY.out.fr f (fun e=>by have y:b=C:=e;exact bY.out.zT aO.out (by rw[y];rfl)));have bc:=af (bQ.out.fr f (fun e=>by have y:g5=C:=e;exact bM aO.out bQ.out (by decide) (by rw[y];rfl)));have cW:=af bz;have bK:Hid (Fr (TB p (some ⟨C,0,none⟩) n c none) w w'):=bJ.out.trans (f.mono (fun i _ e=> .inr (.inr (by have y:i=C:=e;rw[y];rfl))));have a1:Hid (∀k,(Value.slice (some ⟨C,0,none⟩) (n+1) c).ownBlock=some k→TB p (some ⟨C,0,none⟩) n c none k∨w.heap.size≤k):=fun k X=> .inl (.inr (.inr X));clear a m bz f cj bI aO bY ci bJ bQ bf;obtain⟨E,J⟩:∃E,E=some (⟨C,0,none⟩:Addr):=⟨_,rfl⟩;obtain⟨G,aR⟩:∃G,G=c:=⟨_,rfl⟩;have V:Hid (w'.ownsRow 0 38 32 (.slice E (n+1) G) (n+1) (ds.flatMap aA++L)):=by rw[J,aR];exact cW.out
        have U:Hid (∀k,(Value.slice E (n+1) G).ownBlock=some k→TB p (some ⟨C,0,none⟩) n c none k∨w.heap.size≤k):=by rw[J,aR];exact a1.out
        rw[←J,←aR]at aM;clear cW a1 J aR;simp only[bw,bC,bD,bE,ar,Act.put,bF,bG,bH,dj,dk,Nat.reduceAdd,Nat.zero_add,bm,aM];generalize w'=di at*;go_wp2_with(refine aW rfl 31 (.tmp 42) _ rfl p 0 (.slice E (n+1) G) rfl rfl rfl uN 180 #[.slice (some ⟨C,0,none⟩) n c, .map (some b)] #[.slice E (n+1) G, .map (some b)] am.out (show 0<2 by decide) rfl ?_);intro aK iU f10;have bB:Hid (nh w aK p b g5 (.slice E (n+1) G) (ds++[d]) (n+1) (cT n 0) 0 n (TB p (some ⟨C,0,none⟩) n c none)):=
          ⟨bK.out.trans (f10.mono (fun i _ e=> .inl e)),iU,aL (by rw[List.flatMap_append,List.flatMap_singleton,ch.out];exact V.out) f10 (fun k X e=>by have y:k=p:=e;exact bM V.out am.out (by decide) (by rw[←y];exact X)),
           ((bh.out.fr f10 (fun e=>by have y:b=p:=e;exact bh.out.oG am.out y)).more d (fun l i h=>by rw[c8.out];exact h.2)).congr (lG n),bc.out.fr f10 (fun e=>by have y:g5=p:=e;exact aq.ri bc.out am.out (by decide) y)⟩;clear iU f10 am bh bc bK V;generalize aK=dl at*;go_wp2;go_loopw[43](fun _ wr=>∃lv idx:Nat,(idx+1)*2^lv=n+1∧nh w wr p b g5 (.slice E (n+1) G) (ds++[d]) (n+1) (cT n lv) lv idx (TB p (some ⟨C,0,none⟩) n c none))(fun _ wr=>(intOf ((wr.cell? ⟨g5,1,none⟩).getD undef)).toNat);case atStart=>exact⟨0,n,by simp,bB.out⟩
        case round=>
          obtain⟨lv,idx,he,aQ⟩:=hrel;have ab:=af aQ;have ac:=af he;have cc:1≤2^lv:=Nat.one_le_two_pow;have bs:(idx+1)*1≤(idx+1)*2^lv:=Nat.mul_le_mul_left _ cc;have cA:idx≤1048576:=by have:=a0.out;omega
          have aG:lv≤64:=by
            rcases Nat.lt_or_ge 64 lv with h|h;· have ad:2^64≤2^lv:=Nat.pow_le_pow_right (by omega) (by omega);have ae:1*2^lv≤(idx+1)*2^lv:=Nat.mul_le_mul_right _ (by omega);have:=a0.out;omega
            · exact h
          have F:wr.cell? ⟨g5,0,none⟩=some (.int .i64 lv):=aQ.cO.cell 0;have c51:wr.cell? ⟨g5,1,none⟩=some (.int .i64 idx):=aQ.cO.cell 1;clear aQ he bB;by_cases cb:idx%2=1
          · obtain⟨q,bt⟩:∃q,idx=2*q+1:=⟨idx/2,by omega⟩;obtain⟨k2,Y⟩:∃k2,k2=2*q:=⟨_,rfl⟩;have b0:(idx:Int).tmod 2=1:=by rw[Int.tmod_eq_emod_of_nonneg (by omega)];omega
            have a2:(idx:Int)%2=1:=by omega
            have a3:(idx:Int)-1=(k2:Int):=by omega
            have a4:(idx:Int).tdiv 2=(q:Int):=by rw[Int.tdiv_eq_ediv_of_nonneg (by omega)];omega
            have a5:(idx:Int)/2=(q:Int):=by omega
            have cs:idx/2=q:=by omega
            obtain⟨l1,Z⟩:∃l1,l1=lv+1:=⟨_,rfl⟩;have ct:(lv:Int)+1=(l1:Int):=by omega
            have cu:l1≤65:=by omega
            have Q:Hid (l1=lv+1):=Z;have cE:IntKind.i64.wrap (q:Int)=(q:Int):=IntWalk.i64_in _ (by omega);have co:Hid (idx=2*q+1∧k2=2*q):=⟨bt,Y⟩;have b5:(q+1)*2^(lv+1)=n+1:=by rw[←ac.out,show idx+1=2*(q+1)by omega,Nat.pow_succ,Nat.mul_comm (2^lv) 2,←Nat.mul_assoc,Nat.mul_comm (q+1) 2]
            have a9:=af b5;have b6:(k2+1)*2^lv≤n:=by
              have ad:(idx+1)*2^lv=idx*2^lv+2^lv:=by rw[Nat.add_mul,Nat.one_mul]
              have ae:(k2+1)=idx:=by omega
              rw[ae];have:=ac.out;omega
            have CL:Hid (∀w',Fr ag wr w'→Calls Tryz.prog 131 #[.pointer (some ⟨p,0,none⟩), .agg #[.int .i64 (lv:Int), .int .i64 (k2:Int)]] w' (aH w' (aY (aI (ds++[d]) lv k2)))):=
              fun w' f=>eL p E (n+1) G (some b) (ds++[d]) (cT n lv) lv k2 w' ((ab.out.tree B.out).ao f) (by omega) (fun h=>⟨h, .inl b6⟩) aG (by have:=a0.out;omega);have aN:Hid (∀w',Fr ag wr w'→Calls Tryz.prog 131 #[.pointer (some ⟨p,0,none⟩), .agg #[.int .i64 (lv:Int), .int .i64 (idx:Int)]] w' (aH w' (aY (aI (ds++[d]) lv idx)))):=
              fun w' f=>eL p E (n+1) G (some b) (ds++[d]) (cT n lv) lv idx w' ((ab.out.tree B.out).ao f) (by have:=ac.out;omega) (fun h=>⟨h, .inr ⟨ac.out,Nat.le_refl _⟩⟩) aG (by have:=a0.out;omega);have aU:(aI (ds++[d]) lv k2).length=32:=dX _ B.out.2 lv k2 (by rw[B.out.1];omega);have aV:(aI (ds++[d]) lv idx).length=32:=dX _ B.out.2 lv idx (by rw[B.out.1];have:=ac.out;omega);have a8:Hid (∀w',Fr (TB p (some ⟨C,0,none⟩) n c none) w w'→Calls Tryz.prog 122 #[aY (aI (ds++[d]) lv k2),aY (aI (ds++[d]) lv idx)] w' (aH w' (aY (cR (aI (ds++[d]) lv k2) (aI (ds++[d]) lv idx))))):=fun w' f=>lR _ _ aU aV w' (dc.out.fr f (NS.out _ (.inl rfl)) (NS.out _ (.inr rfl)));have bi:Hid (Value.agg (aA (cR (aI (ds++[d]) lv k2) (aI (ds++[d]) lv idx))).toArray=aY (aI (ds++[d]) l1 q)):=by
              have:aI (ds++[d]) l1 q=cR (aI (ds++[d]) lv k2) (aI (ds++[d]) lv idx):=by rw[Z,bt,Y];rfl
              rw[this];rfl
            have M:Hid (dI (aA (aI (ds++[d]) lv k2)).toArray):=dI.of aU;have N:Hid (dI (aA (aI (ds++[d]) lv idx)).toArray):=dI.of aV;have bd:Hid ((Tryz.prog.info? 38).map (·.size)=some (aA (aI (ds++[d]) lv k2)).length):=by rw[aA,List.length_map,aU];exact fo
            have be:Hid ((Tryz.prog.info? 38).map (·.size)=some (aA (aI (ds++[d]) lv idx)).length):=by rw[aA,List.length_map,aV];exact fo
            unfold aY at CL aN a8;simp only[show∀l:List UInt8,l.map bN=aA l from fun _=>rfl]at CL aN a8;generalize aA (cR (aI (ds++[d]) lv k2) (aI (ds++[d]) lv idx))=NV at*;generalize aA (aI (ds++[d]) lv k2)=bg at*;generalize aA (aI (ds++[d]) lv idx)=bk at*;clear bt Y Z b5 b6 aU aV bs cc;go_wp2_with fail;refine(CL.out _ az).mono ?_;rintro e cd⟨rfl,bl⟩;have ap:=af (ab.out.later bl);have bL:=af bl;clear bl F c51;go_wp2_with(refine an rfl 38 rfl aZ iR aD rfl ?_);intro dm nb;have bj:=af nb;clear nb;generalize aC:cd.heap.size=g6 at*;have P:=af aC;clear aC;go_wp2_with(refine ai rfl 38 (.tmp 6) _ rfl g6 bg.toArray rfl rfl _ _ (by have h:=bj.out.aE;rw[P.out]at h;exact h) M.out.info M.out.zero M.out.one ?_);intro wc b1 b7;have av:=af b1;have ba:Hid (Fr ag cd wc):=bj.out.fr.aw b7 (fun i cz e=>by have y:i=g6:=e;have:=P.out;omega);have H:=af (ap.out.later ba.out);clear b1 b7 bj ap;have F:wc.cell? ⟨g5,0,none⟩=some (.int .i64 lv):=H.out.cO.cell 0;have c51:wc.cell? ⟨g5,1,none⟩=some (.int .i64 idx):=H.out.cO.cell 1;go_wp2_with fail;refine(aN.out _ (bL.out.trans ba.out)).mono ?_;rintro e wd⟨rfl,fd⟩;have au:=af (H.out.later fd);have R:=af (av.out.fr fd (fun x=>x));clear fd F c51 H av bL ba CL aN P;go_wp2_with(refine an rfl 38 rfl aZ iR aD rfl ?_);intro dn ne;have Ne:=af ne;clear ne;generalize aF:wd.heap.size=g7 at*;have I:=af aF;clear aF;have cp:Hid (g6<g7):=by have:=R.out.lt;have:=I.out;simp only[Hid];omega
            go_wp2_with(refine ai rfl 38 (.tmp 7) _ rfl g7 bk.toArray rfl rfl _ _ (by have h:=Ne.out.aE;rw[I.out]at h;exact h) N.out.info N.out.zero N.out.one ?_);intro wf b2 b8;have T:=af b2;have bb:Hid (Fr ag wd wf):=Ne.out.fr.aw b8 (fun i cz e=>by have y:i=g7:=e;have:=I.out;omega);have z:=af (au.out.later bb.out);have S:=af (R.out.fr bb.out (fun x=>x));clear b2 b8 Ne au R bb I;have F:wf.cell? ⟨g5,0,none⟩=some (.int .i64 lv):=z.out.cO.cell 0;have c51:wf.cell? ⟨g5,1,none⟩=some (.int .i64 idx):=z.out.cO.cell 1;have bZ:Hid ((#[Value.int .i64 (l1:Int),Value.int .i64 (q:Int)]:Array Value).all (·.oneCell')=true):=by simp[Hid,Value.oneCell']
            go_wp2_with(refine ai rfl 212 (.tmp 5) _ rfl g5 #[.int .i64 (l1:Int), .int .i64 (q:Int)] rfl rfl _ _ z.out.cO cg rfl bZ.out ?_);intro bu b4 aP;have D:=af (z.out.GN aP b4 cP.out);have bU:=af (S.out.fr aP (fun e=>by have y:g6=g5:=e;exact aq.ri S.out z.out.cO (by decide) y));have bV:=af (T.out.fr aP (fun e=>by have y:g7=g5:=e;exact aq.ri T.out z.out.cO (by decide) y));clear bZ b4 aP z S T F c51;have bW:Hid (bu.cell? ⟨g5,0,none⟩=some (.int .i64 (l1:Int))):=D.out.cO.cell 0;have bX:Hid (bu.cell? ⟨g5,1,none⟩=some (.int .i64 q)):=D.out.cO.cell 1;have bv:Hid (bu.cell? ⟨p,1,none⟩=some (.map (some b))):=D.out.aE.cell 1;clear b0 a2 a3 a4 a5 cs ct cu cE;go_upto_region 13 with fail;refine ay 8 ag [Is (.pointer (some ⟨p,0,none⟩)),Is (.pointer (some ⟨p,0,none⟩)),Is (.pointer (some ⟨p,1,none⟩)),Is (.map (some b)),Is (ia l1 q),Is (.agg bg.toArray),Is (.agg bk.toArray),Is (.agg NV.toArray)] [] (fun _=>True) (fun _ _=>false) (by kernel_rfl) (by kernel_rfl) (by kernel_rfl) (by kernel_rfl) ⟨Is.ah _,Is.ah _,Is.ah _,Is.ah _,Is.ah _,Is.ah _,Is.ah _,Is.ah _,trivial⟩ trivial (fun _ _ _ _ h=>h) trivial ?_ ?_
            · refine⟨?_,?_,?_,?_,?_,?_,?_,?_,trivial⟩;all_goals intro u w' d f a s t m
              all_goals simp only[bw,bC,bD,bE,ar,Act.put,bF,bG,bH,Nat.reduceAdd,Nat.zero_add]
              · clear a s t m;refine aj ?_;go_simp;exact⟨_,rfl,al⟩
              · have bm:u 0=_:=a 0;clear a s t m;simp only[bm];refine aj ?_;go_simp;exact⟨_,rfl,al⟩
              · have ad:u 1=_:=a 1;clear a s t m;simp only[ad];refine aj ?_;go_simp;exact⟨_,rfl,al⟩
              · have ae:u 2=_:=a 2;clear a s t m;simp only[ae];refine aj ?_;have ca:=f.ak bv.out (fun x=>x);go_simp;exact⟨_,rfl,al⟩
              · clear a s t m;refine aj ?_;have ca:=f.ak bW.out (fun x=>x);have cw:=f.ak bX.out (fun x=>x);go_simp;exact⟨_,rfl,al⟩
              · clear a s t m;refine aj ?_;exact wp_load_mid _ _ rfl g6 0 rfl bg _ (dA (bU.out.fr f (fun x=>x))) Tryz.underlying38 rfl bd.out ⟨_,rfl,al⟩
              · clear a s t m;refine aj ?_;exact wp_load_mid _ _ rfl g7 0 rfl bk _ (dA (bV.out.fr f (fun x=>x))) Tryz.underlying38 rfl be.out ⟨_,rfl,al⟩
              · have bo:u 5=_:=a 5;have bq:u 6=_:=a 6;clear a s t m;simp only[bo,bq];refine aj ?_;go_simp;refine(a8.out _ (D.out.LY.trans f.bO)).mono ?_;rintro e dh⟨rfl,f4⟩;exact⟨_,rfl,f4.bO,rfl,trivial⟩
            · intro u w' f a m;have a6:u 3=_:=a 3 (by omega);have bn:u 4=_:=a 4 (by omega);have aM:u 7=_:=a 7 (by omega);have O:=af (D.out.later f);clear a m f bW bX bv bU bV D;simp only[bw,bC,bD,bE,ar,Act.put,bF,bG,bH,dj,dk,Nat.reduceAdd,Nat.zero_add,a6,bn,aM];refine jz rfl (.tmp 68) (.tmp 69) (.tmp 72) rfl O.out.map l1 q rfl rfl rfl (by rw[Q.out];exact oq n lv q a9.out) bi.out (cT n l1) (fun l i=>by rw[Q.out];exact mK n lv q l i a9.out) ?_;intro cF ax b9;have bS:=af (O.out.GO b9 ax cG.out);clear ax b9 O;simp only[Act.put];go_wp2;go_roundw;case rel=>exact⟨l1,q,by rw[Q.out];exact a9.out,bS.out⟩
              case measure=>
                have s:cF.cell? ⟨g5,1,none⟩=some (.int .i64 q):=bS.out.cO.cell 1;have k2:wr.cell? ⟨g5,1,none⟩=some (.int .i64 idx):=ab.out.cO.cell 1;have:=co.out;rw[s,k2];simp[intOf];omega
          · have b0:(idx:Int).tmod 2=0:=by rw[Int.tmod_eq_emod_of_nonneg (by omega)];omega
            have a2:(idx:Int)%2=0:=by omega
            have cr:Hid (∀l i,cT n lv l i↔bp (n+1) l i):=fun l i=>oo n lv idx ac.out (by omega) l i;go_wp2;go_ret;exact⟨rfl,E,G,some b,(ab.out.tree B.out).congr cr.out,ab.out.fr,fun k X=>by
              rcases X with h|h|h;· exact .inl (.inl h)
              · have e:b=k:=Option.some.inj h;rw[←e];exact bx.out
              · exact U.out k h⟩
    · have cq:=af K;clear K;refine ay 8 ag [Is (.pointer (some ⟨p,0,none⟩)),Is (.pointer (some ⟨p,0,none⟩)),Is (.pointer (some ⟨p,0,none⟩)),Is (.pointer (some ⟨p,0,none⟩)),Is (.slice A n c),Is (.agg L.toArray),fun v W=>∃g,v= .slice (some ⟨g,0,none⟩) 1 1∧bA.heap.size≤g∧aq W g 38 L.toArray,fun v W=>∃g cap,v= .slice (some ⟨g,0,none⟩) (n+1) cap∧bA.heap.size≤g∧W.ownsRow 0 38 32 v (n+1) (ds.flatMap aA++L)] [] (fun _=>True) (fun _ _=>false) (by kernel_rfl) (by kernel_rfl) (by kernel_rfl) (by kernel_rfl) ⟨Is.ah _,Is.ah _,Is.ah _,Is.ah _,Is.ah _,Is.ah _,fun v w' aX _ f⟨g,h,l,b⟩=>⟨g,h,l,b.fr f (fun x=>x)⟩,fun v w' aX _ f⟨g,cap,h,l,b⟩=>⟨g,cap,h,l,aL b f (fun _ _ x=>x)⟩,trivial⟩ trivial (fun _ _ _ _ h=>h) trivial ?_ ?_
      · refine⟨?_,?_,?_,?_,?_,?_,?_,?_,trivial⟩;all_goals intro u w' d f a s t m
        all_goals simp only[bw,bC,bD,bE,ar,Act.put,bF,bG,bH,Nat.reduceAdd,Nat.zero_add]
        · clear a s t m;refine aj ?_;go_simp;exact⟨_,rfl,al⟩
        · clear a s t m;refine aj ?_;go_simp;exact⟨_,rfl,al⟩
        · have ad:u 1=_:=a 1;clear a s t m;simp only[ad];refine aj ?_;go_simp;exact⟨_,rfl,al⟩
        · have ae:u 2=_:=a 2;clear a s t m;simp only[ae];refine aj ?_;go_simp;exact⟨_,rfl,al⟩
        · have a6:u 3=_:=a 3;clear a s t m;simp only[a6];refine aj ?_;have ca:=f.ak cj.out (fun x=>x);go_simp;exact⟨_,rfl,al⟩
        · clear a s t m;refine aj ?_;exact wp_load_mid _ _ rfl g3 0 rfl L _ (dA (ci.out.fr f (fun x=>x))) Tryz.underlying38 rfl c9.out ⟨_,rfl,al⟩
        · have bo:u 5=_:=a 5;clear a s t m;simp only[bo];refine aj ?_;refine wp_buildSlice 31 38 1 #[(0, .tmp 38)] rfl L.toArray i0 aZ Tryz.underlying31 cl cm g1.out g2.out ?_ ?_;· simp only[List.map_toArray,List.map_cons,List.map_nil];exact gf.out
          · exact⟨_,rfl,az.alloc _,⟨w'.heap.size,rfl,f.size,aq.new _ _ _⟩,trivial⟩
        · have bn:u 4=_:=a 4;obtain⟨g6,bq,dg,cv⟩:=a 6;clear a s t m;simp only[bn,bq];refine aj ?_;refine sy (.tmp 37) (.tmp 39) rfl A n c _ rfl (aL aO.out f (fun _ _ x=>x)) cq.out a0.out ⟨g6,0,none⟩ 1 L rfl da.out (fun j u hu=>by rw[Addr.add_mid,Nat.zero_add,cv.cell,bP];exact hu) db.out ?_;intro g cap aX br df aJ;exact⟨_,rfl,br,⟨g,cap,rfl,Nat.le_trans f.size df,aJ⟩,trivial⟩
      · intro u w' f a m;obtain⟨c0,G,aM,cy,bz⟩:=a 7 (by omega);have bm:u 0=_:=a 0 (by omega);rw[aM]at bz;have am:=af (bI.out.fr f (fun x=>x));have bh:=af (bY.out.fr f (fun x=>x));have bc:=af (bQ.out.fr f (fun x=>x));have bK:Hid (Fr (TB p A n c none) w w'):=bJ.out.trans f.bO;have cC:=bJ.out.size;obtain⟨E,J⟩:∃E,E=some (⟨c0,0,none⟩:Addr):=⟨_,rfl⟩;have V:Hid (w'.ownsRow 0 38 32 (.slice E (n+1) G) (n+1) (ds.flatMap aA++L)):=by rw[J];exact bz
        have U:Hid (∀k,(Value.slice E (n+1) G).ownBlock=some k→TB p A n c none k∨w.heap.size≤k):=by
          rw[J];intro k X;have:c0=k:=by simpa[Value.ownBlock]using X
          exact .inr (by omega)
        rw[←J]at aM;clear a m bz f cj bI aO bY ci bJ bQ bf cC J cy;simp only[bw,bC,bD,bE,ar,Act.put,bF,bG,bH,dj,dk,Nat.reduceAdd,Nat.zero_add,bm,aM];generalize w'=di at*;go_wp2_with(refine aW rfl 31 (.tmp 42) _ rfl p 0 (.slice E (n+1) G) rfl rfl rfl uN 180 #[.slice A n c, .map (some b)] #[.slice E (n+1) G, .map (some b)] am.out (show 0<2 by decide) rfl ?_);intro aK iU f10;have bB:Hid (nh w aK p b g5 (.slice E (n+1) G) (ds++[d]) (n+1) (cT n 0) 0 n (TB p A n c none)):=
          ⟨bK.out.trans (f10.mono (fun i _ e=> .inl e)),iU,aL (by rw[List.flatMap_append,List.flatMap_singleton,ch.out];exact V.out) f10 (fun k X e=>by have y:k=p:=e;exact bM V.out am.out (by decide) (by rw[←y];exact X)),
           ((bh.out.fr f10 (fun e=>by have y:b=p:=e;exact bh.out.oG am.out y)).more d (fun l i h=>by rw[c8.out];exact h.2)).congr (lG n),bc.out.fr f10 (fun e=>by have y:g5=p:=e;exact aq.ri bc.out am.out (by decide) y)⟩;clear iU f10 am bh bc bK V;generalize aK=dl at*;go_wp2;go_loopw[43](fun _ wr=>∃lv idx:Nat,(idx+1)*2^lv=n+1∧nh w wr p b g5 (.slice E (n+1) G) (ds++[d]) (n+1) (cT n lv) lv idx (TB p A n c none))(fun _ wr=>(intOf ((wr.cell? ⟨g5,1,none⟩).getD undef)).toNat);case atStart=>exact⟨0,n,by simp,bB.out⟩
        case round=>
          obtain⟨lv,idx,he,aQ⟩:=hrel;have ab:=af aQ;have ac:=af he;have cc:1≤2^lv:=Nat.one_le_two_pow;have bs:(idx+1)*1≤(idx+1)*2^lv:=Nat.mul_le_mul_left _ cc;have cA:idx≤1048576:=by have:=a0.out;omega
          have aG:lv≤64:=by
            rcases Nat.lt_or_ge 64 lv with h|h;· have ad:2^64≤2^lv:=Nat.pow_le_pow_right (by omega) (by omega);have ae:1*2^lv≤(idx+1)*2^lv:=Nat.mul_le_mul_right _ (by omega);have:=a0.out;omega
            · exact h
          have F:wr.cell? ⟨g5,0,none⟩=some (.int .i64 lv):=aQ.cO.cell 0;have c51:wr.cell? ⟨g5,1,none⟩=some (.int .i64 idx):=aQ.cO.cell 1;clear aQ he bB;by_cases cb:idx%2=1
          · obtain⟨q,bt⟩:∃q,idx=2*q+1:=⟨idx/2,by omega⟩;obtain⟨k2,Y⟩:∃k2,k2=2*q:=⟨_,rfl⟩;have b0:(idx:Int).tmod 2=1:=by rw[Int.tmod_eq_emod_of_nonneg (by omega)];omega
            have a2:(idx:Int)%2=1:=by omega
            have a3:(idx:Int)-1=(k2:Int):=by omega
            have a4:(idx:Int).tdiv 2=(q:Int):=by rw[Int.tdiv_eq_ediv_of_nonneg (by omega)];omega
            have a5:(idx:Int)/2=(q:Int):=by omega
            have cs:idx/2=q:=by omega
            obtain⟨l1,Z⟩:∃l1,l1=lv+1:=⟨_,rfl⟩;have ct:(lv:Int)+1=(l1:Int):=by omega
            have cu:l1≤65:=by omega
            have Q:Hid (l1=lv+1):=Z;have cE:IntKind.i64.wrap (q:Int)=(q:Int):=IntWalk.i64_in _ (by omega);have co:Hid (idx=2*q+1∧k2=2*q):=⟨bt,Y⟩;have b5:(q+1)*2^(lv+1)=n+1:=by rw[←ac.out,show idx+1=2*(q+1)by omega,Nat.pow_succ,Nat.mul_comm (2^lv) 2,←Nat.mul_assoc,Nat.mul_comm (q+1) 2]
            have a9:=af b5;have b6:(k2+1)*2^lv≤n:=by
              have ad:(idx+1)*2^lv=idx*2^lv+2^lv:=by rw[Nat.add_mul,Nat.one_mul]
              have ae:(k2+1)=idx:=by omega
              rw[ae];have:=ac.out;omega
            have CL:Hid (∀w',Fr ag wr w'→Calls Tryz.prog 131 #[.pointer (some ⟨p,0,none⟩), .agg #[.int .i64 (lv:Int), .int .i64 (k2:Int)]] w' (aH w' (aY (aI (ds++[d]) lv k2)))):=
              fun w' f=>eL p E (n+1) G (some b) (ds++[d]) (cT n lv) lv k2 w' ((ab.out.tree B.out).ao f) (by omega) (fun h=>⟨h, .inl b6⟩) aG (by have:=a0.out;omega);have aN:Hid (∀w',Fr ag wr w'→Calls Tryz.prog 131 #[.pointer (some ⟨p,0,none⟩), .agg #[.int .i64 (lv:Int), .int .i64 (idx:Int)]] w' (aH w' (aY (aI (ds++[d]) lv idx)))):=
              fun w' f=>eL p E (n+1) G (some b) (ds++[d]) (cT n lv) lv idx w' ((ab.out.tree B.out).ao f) (by have:=ac.out;omega) (fun h=>⟨h, .inr ⟨ac.out,Nat.le_refl _⟩⟩) aG (by have:=a0.out;omega);have aU:(aI (ds++[d]) lv k2).length=32:=dX _ B.out.2 lv k2 (by rw[B.out.1];omega);have aV:(aI (ds++[d]) lv idx).length=32:=dX _ B.out.2 lv idx (by rw[B.out.1];have:=ac.out;omega);have a8:Hid (∀w',Fr (TB p A n c none) w w'→Calls Tryz.prog 122 #[aY (aI (ds++[d]) lv k2),aY (aI (ds++[d]) lv idx)] w' (aH w' (aY (cR (aI (ds++[d]) lv k2) (aI (ds++[d]) lv idx))))):=fun w' f=>lR _ _ aU aV w' (dc.out.fr f (NS.out _ (.inl rfl)) (NS.out _ (.inr rfl)));have bi:Hid (Value.agg (aA (cR (aI (ds++[d]) lv k2) (aI (ds++[d]) lv idx))).toArray=aY (aI (ds++[d]) l1 q)):=by
              have:aI (ds++[d]) l1 q=cR (aI (ds++[d]) lv k2) (aI (ds++[d]) lv idx):=by rw[Z,bt,Y];rfl
              rw[this];rfl
            have M:Hid (dI (aA (aI (ds++[d]) lv k2)).toArray):=dI.of aU;have N:Hid (dI (aA (aI (ds++[d]) lv idx)).toArray):=dI.of aV;have bd:Hid ((Tryz.prog.info? 38).map (·.size)=some (aA (aI (ds++[d]) lv k2)).length):=by rw[aA,List.length_map,aU];exact fo
            have be:Hid ((Tryz.prog.info? 38).map (·.size)=some (aA (aI (ds++[d]) lv idx)).length):=by rw[aA,List.length_map,aV];exact fo
            unfold aY at CL aN a8;simp only[show∀l:List UInt8,l.map bN=aA l from fun _=>rfl]at CL aN a8;generalize aA (cR (aI (ds++[d]) lv k2) (aI (ds++[d]) lv idx))=NV at*;generalize aA (aI (ds++[d]) lv k2)=bg at*;generalize aA (aI (ds++[d]) lv idx)=bk at*;clear bt Y Z b5 b6 aU aV bs cc;go_wp2_with fail;refine(CL.out _ az).mono ?_;rintro e cd⟨rfl,bl⟩;have ap:=af (ab.out.later bl);have bL:=af bl;clear bl F c51;go_wp2_with(refine an rfl 38 rfl aZ iR aD rfl ?_);intro dm nb;have bj:=af nb;clear nb;generalize aC:cd.heap.size=g6 at*;have P:=af aC;clear aC;go_wp2_with(refine ai rfl 38 (.tmp 6) _ rfl g6 bg.toArray rfl rfl _ _ (by have h:=bj.out.aE;rw[P.out]at h;exact h) M.out.info M.out.zero M.out.one ?_);intro wc b1 b7;have av:=af b1;have ba:Hid (Fr ag cd wc):=bj.out.fr.aw b7 (fun i cz e=>by have y:i=g6:=e;have:=P.out;omega);have H:=af (ap.out.later ba.out);clear b1 b7 bj ap;have F:wc.cell? ⟨g5,0,none⟩=some (.int .i64 lv):=H.out.cO.cell 0;have c51:wc.cell? ⟨g5,1,none⟩=some (.int .i64 idx):=H.out.cO.cell 1;go_wp2_with fail;refine(aN.out _ (bL.out.trans ba.out)).mono ?_;rintro e wd⟨rfl,fd⟩;have au:=af (H.out.later fd);have R:=af (av.out.fr fd (fun x=>x));clear fd F c51 H av bL ba CL aN P;go_wp2_with(refine an rfl 38 rfl aZ iR aD rfl ?_);intro dn ne;have Ne:=af ne;clear ne;generalize aF:wd.heap.size=g7 at*;have I:=af aF;clear aF;have cp:Hid (g6<g7):=by have:=R.out.lt;have:=I.out;simp only[Hid];omega
            go_wp2_with(refine ai rfl 38 (.tmp 7) _ rfl g7 bk.toArray rfl rfl _ _ (by have h:=Ne.out.aE;rw[I.out]at h;exact h) N.out.info N.out.zero N.out.one ?_);intro wf b2 b8;have T:=af b2;have bb:Hid (Fr ag wd wf):=Ne.out.fr.aw b8 (fun i cz e=>by have y:i=g7:=e;have:=I.out;omega);have z:=af (au.out.later bb.out);have S:=af (R.out.fr bb.out (fun x=>x));clear b2 b8 Ne au R bb I;have F:wf.cell? ⟨g5,0,none⟩=some (.int .i64 lv):=z.out.cO.cell 0;have c51:wf.cell? ⟨g5,1,none⟩=some (.int .i64 idx):=z.out.cO.cell 1;have bZ:Hid ((#[Value.int .i64 (l1:Int),Value.int .i64 (q:Int)]:Array Value).all (·.oneCell')=true):=by simp[Hid,Value.oneCell']
            go_wp2_with(refine ai rfl 212 (.tmp 5) _ rfl g5 #[.int .i64 (l1:Int), .int .i64 (q:Int)] rfl rfl _ _ z.out.cO cg rfl bZ.out ?_);intro bu b4 aP;have D:=af (z.out.GN aP b4 cP.out);have bU:=af (S.out.fr aP (fun e=>by have y:g6=g5:=e;exact aq.ri S.out z.out.cO (by decide) y));have bV:=af (T.out.fr aP (fun e=>by have y:g7=g5:=e;exact aq.ri T.out z.out.cO (by decide) y));clear bZ b4 aP z S T F c51;have bW:Hid (bu.cell? ⟨g5,0,none⟩=some (.int .i64 (l1:Int))):=D.out.cO.cell 0;have bX:Hid (bu.cell? ⟨g5,1,none⟩=some (.int .i64 q)):=D.out.cO.cell 1;have bv:Hid (bu.cell? ⟨p,1,none⟩=some (.map (some b))):=D.out.aE.cell 1;clear b0 a2 a3 a4 a5 cs ct cu cE;go_upto_region 13 with fail;refine ay 8 ag [Is (.pointer (some ⟨p,0,none⟩)),Is (.pointer (some ⟨p,0,none⟩)),Is (.pointer (some ⟨p,1,none⟩)),Is (.map (some b)),Is (ia l1 q),Is (.agg bg.toArray),Is (.agg bk.toArray),Is (.agg NV.toArray)] [] (fun _=>True) (fun _ _=>false) (by kernel_rfl) (by kernel_rfl) (by kernel_rfl) (by kernel_rfl) ⟨Is.ah _,Is.ah _,Is.ah _,Is.ah _,Is.ah _,Is.ah _,Is.ah _,Is.ah _,trivial⟩ trivial (fun _ _ _ _ h=>h) trivial ?_ ?_
            · refine⟨?_,?_,?_,?_,?_,?_,?_,?_,trivial⟩;all_goals intro u w' d f a s t m
              all_goals simp only[bw,bC,bD,bE,ar,Act.put,bF,bG,bH,Nat.reduceAdd,Nat.zero_add]
              · clear a s t m;refine aj ?_;go_simp;exact⟨_,rfl,al⟩
              · have bm:u 0=_:=a 0;clear a s t m;simp only[bm];refine aj ?_;go_simp;exact⟨_,rfl,al⟩
              · have ad:u 1=_:=a 1;clear a s t m;simp only[ad];refine aj ?_;go_simp;exact⟨_,rfl,al⟩
              · have ae:u 2=_:=a 2;clear a s t m;simp only[ae];refine aj ?_;have ca:=f.ak bv.out (fun x=>x);go_simp;exact⟨_,rfl,al⟩
              · clear a s t m;refine aj ?_;have ca:=f.ak bW.out (fun x=>x);have cw:=f.ak bX.out (fun x=>x);go_simp;exact⟨_,rfl,al⟩
              · clear a s t m;refine aj ?_;exact wp_load_mid _ _ rfl g6 0 rfl bg _ (dA (bU.out.fr f (fun x=>x))) Tryz.underlying38 rfl bd.out ⟨_,rfl,al⟩
              · clear a s t m;refine aj ?_;exact wp_load_mid _ _ rfl g7 0 rfl bk _ (dA (bV.out.fr f (fun x=>x))) Tryz.underlying38 rfl be.out ⟨_,rfl,al⟩
              · have bo:u 5=_:=a 5;have bq:u 6=_:=a 6;clear a s t m;simp only[bo,bq];refine aj ?_;go_simp;refine(a8.out _ (D.out.LY.trans f.bO)).mono ?_;rintro e dh⟨rfl,f4⟩;exact⟨_,rfl,f4.bO,rfl,trivial⟩
            · intro u w' f a m;have a6:u 3=_:=a 3 (by omega);have bn:u 4=_:=a 4 (by omega);have aM:u 7=_:=a 7 (by omega);have O:=af (D.out.later f);clear a m f bW bX bv bU bV D;simp only[bw,bC,bD,bE,ar,Act.put,bF,bG,bH,dj,dk,Nat.reduceAdd,Nat.zero_add,a6,bn,aM];refine jz rfl (.tmp 68) (.tmp 69) (.tmp 72) rfl O.out.map l1 q rfl rfl rfl (by rw[Q.out];exact oq n lv q a9.out) bi.out (cT n l1) (fun l i=>by rw[Q.out];exact mK n lv q l i a9.out) ?_;intro cF ax b9;have bS:=af (O.out.GO b9 ax cG.out);clear ax b9 O;simp only[Act.put];go_wp2;go_roundw;case rel=>exact⟨l1,q,by rw[Q.out];exact a9.out,bS.out⟩
              case measure=>
                have s:cF.cell? ⟨g5,1,none⟩=some (.int .i64 q):=bS.out.cO.cell 1;have k2:wr.cell? ⟨g5,1,none⟩=some (.int .i64 idx):=ab.out.cO.cell 1;have:=co.out;rw[s,k2];simp[intOf];omega
          · have b0:(idx:Int).tmod 2=0:=by rw[Int.tmod_eq_emod_of_nonneg (by omega)];omega
            have a2:(idx:Int)%2=0:=by omega
            have cr:Hid (∀l i,cT n lv l i↔bp (n+1) l i):=fun l i=>oo n lv idx ac.out (by omega) l i;go_wp2;go_ret;exact⟨rfl,E,G,some b,(ab.out.tree B.out).congr cr.out,ab.out.fr,fun k X=>by
              rcases X with h|h|h;· exact .inl (.inl h)
              · have e:b=k:=Option.some.inj h;rw[←e];exact bx.out
              · exact U.out k h⟩
end Go.Proofs.YtphjagkehiklkaaGreatDoor.Lt
