/- Texts. -/
import Derived.Test.YtphjagkehiklkaaGreatDoorYK17
set_option linter.unusedVariables false
set_option linter.unusedSimpArgs false
set_option maxRecDepth 100000
set_option maxHeartbeats 4000000
namespace Go.Proofs.YtphjagkehiklkaaGreatDoor.Lt
open Go.RowKit
theorem aS{P:Program}{ops:Array Oper}{rest:List Oper}{u:Oper}{a:Act}{w:World}{Q:Exit→Act→World→Prop}(j:u.guard=none)(ty:TypeId)(x y:Operand)(p:u.op= .store ty x y)
  (g f:Nat)(v:Value)(r:a.eval x= .pointer (some ⟨g,f,none⟩))(s:a.eval y=v)(m:v.oneCell'=true)(d:(P.info? ty).map (·.size)=some 1)
  (t:TypeId)(cs cs':Array Value)(e:ao w g t cs)(o:f<cs.size)(i:cs.setIfInBounds f v=cs')
  (h:∀w',ao w' g t cs'→Fr (fun k=>k=g) w w'→wpList P ops Q rest (a.put u.dst undef) w'):wpList P ops Q (u::rest) a w:=by
 subst i;obtain⟨b,l,q⟩:∃b,P.info? ty=some b∧b.size=1:=by
  cases he:P.info? ty with
  |none=>rw[he]at d;cases d
  |some b=>rw[he]at d;exact⟨b,rfl,by simpa using d⟩
 have c:=Lib.rl_storeVar_one (P:=P) ty b l q ⟨g,f,none⟩ v (cs[f]) m w (by rw[e.cell];simp[o]) (e.frozen _);refine wpList_plain j fun K n=>?_;unfold Oper.wp execOp;simp only[p,r,s,Instr.storeAt,Instr.sureAddr,Sem.run_bind,Sem.run_pure,Result.andThen_ok,c];exact n _ _ (h _ (e.jI f v) (Fr.setCell (T:=fun k=>k=g) (Fr.refl _ w) (fun _=>rfl) v))
theorem tO:(Tryz.prog.info? 31).map (·.size)=some 1:=by kernel_rfl
theorem JQ:(Tryz.prog.info? 178).map (·.size)=some 1:=by kernel_rfl
theorem bY:(Tryz.prog.info? 212).map (·.size)=some 2:=by kernel_rfl
def TB(p:Nat)(A:Option Addr)(n c:Nat)(mb:Option Nat)(k:Nat):Prop:=k=p∨mb=some k∨(Value.slice A n c).ownBlock=some k
theorem dO.nK{w:World}{b g:Nat}{ds:List (List UInt8)}{C:Nat→Nat→Prop}{t:TypeId}{cs:Array Value}(h:dO w b ds C)(a:ao w g t cs):b≠g:=by
 rintro rfl;obtain⟨es,clock,c,_⟩:=h;unfold ao at a;rw[c]at a;cases a
theorem dO.yF{w:World}{b base n:Nat}{ds:List (List UInt8)}{C:Nat→Nat→Prop}{e:TypeId}{size:Nat}{v:Value}{xs:List Value}(h:dO w b ds C)(g:w.ownsRow base e size v n xs):v.ownBlock≠some b:=by
 intro f;obtain⟨es,clock,c,_⟩:=h;obtain⟨i,a,d⟩:=cM g f;rw[c]at a;cases a;cases d
structure mA(w W:World)(p b g5:Nat)(v:Value)(ds:List (List UInt8))(n:Nat)(C:Nat→Nat→Prop)(lv idx:Nat)(T:Nat→Prop):Prop where
 fr:Fr T w W
 aF:ao W p 180 #[v, .map (some b)]
 row:W.ownsRow 0 38 32 v n (ds.flatMap ar)
 map:dO W b ds C
 cE:ao W g5 212 #[.int .i64 lv, .int .i64 idx]
section
variable{w W W':World}{p b g5 n lv idx:Nat}{v:Value}{ds:List (List UInt8)}{C C':Nat→Nat→Prop}{T:Nat→Prop}
theorem mA.JD(h:mA w W p b g5 v ds n C lv idx T):Fr T w W:=h.fr
theorem mA.later(h:mA w W p b g5 v ds n C lv idx T)(a:Fr ag W W'):mA w W' p b g5 v ds n C lv idx T:=
 ⟨h.fr.trans a.bI,h.aF.fr a (fun x=>x),aQ h.row a (fun _ _ x=>x),h.map.fr a (fun x=>x),h.cE.fr a (fun x=>x)⟩
theorem mA.Ew{d a:Nat}(h:mA w W p b g5 v ds n C lv idx T)(f:Fr (fun k=>k=g5) W W')(g:ao W' g5 212 #[.int .i64 d, .int .i64 a])(l:w.heap.size≤g5):mA w W' p b g5 v ds n C d a T:=
  ⟨h.fr.aw f (fun i m e=>by have c:i=g5:=e;omega),h.aF.fr f (fun e=>by have c:p=g5:=e;exact ao.oi h.aF h.cE (by decide) c),
   aQ h.row f (fun k j e=>by have c:k=g5:=e;exact bE h.row h.cE (by decide) (by rw[←c];exact j)),
   h.map.fr f (fun e=>by have c:b=g5:=e;exact h.map.nK h.cE c),g⟩
theorem mA.Ex(h:mA w W p b g5 v ds n C lv idx T)(c:Fr (fun k=>k=b) W W')(f:dO W' b ds C')(g:b<w.heap.size→T b):mA w W' p b g5 v ds n C' lv idx T:=
  ⟨h.fr.aw c (fun i d e=>by have a:i=b:=e;rw[a]at d⊢;exact g d),h.aF.fr c (fun e=>by have a:p=b:=e;exact h.map.nK h.aF a.symm),
   aQ h.row c (fun k j e=>by have a:k=b:=e;exact h.map.yF h.row (by rw[←a];exact j)),f,h.cE.fr c (fun e=>by have a:g5=b:=e;exact h.map.nK h.cE a.symm)⟩
theorem mA.tree{A:Option Addr}{m c:Nat}(h:mA w W p b g5 (.slice A m c) ds m C lv idx T)(a:ds.length=m∧∀d∈ds,d.length=32):eL W p A m c (some b) ds C:=
 ⟨h.aF,h.row,a.1,a.2, .inl ⟨b,rfl,h.map⟩⟩
end
theorem eL.congr{w:World}{p:Nat}{A:Option Addr}{n c:Nat}{mb:Option Nat}{ds:List (List UInt8)}{C C':Nat→Nat→Prop}(h:eL w p A n c mb ds C)(a:∀l i,C l i↔C' l i):eL w p A n c mb ds C':=
 ⟨h.aF,h.row,h.len,h.each,by
  rcases h.parts with⟨b,f,j⟩|⟨d,e⟩;·exact .inl ⟨b,f,j.congr a⟩
  ·exact .inr ⟨d,fun l i g=>e l i ((a l i).2 g)⟩⟩
def mK(w:World)(p:Nat)(A:Option Addr)(n c:Nat)(mb:Option Nat)(ds:List (List UInt8))(d:List UInt8)(e:Ending)(w':World):Prop:=
 e= .returned (.int .i64 0)∧∃b f a,eL w' p b (n+1) f a (ds++[d]) (bC (n+1))∧Fr (TB p A n c mb) w w'∧∀k,TB p b (n+1) f a k→TB p A n c mb k∨w.heap.size≤k
theorem sB(p:Nat)(A:Option Addr)(n c:Nat)(mb:Option Nat)(ds:List (List UInt8))(d:List UInt8)(w:World)(aa:eL w p A n c mb ds (bC n))(c6:d.length=32)(dw:n<1048576)(dr:bH w)(c5:∀k,k=1∨k=2→¬TB p A n c mb k):
    Calls Tryz.prog 84 #[.pointer (some ⟨p,0,none⟩),aP d] w (mK w p A n c mb ds d):=by
  obtain⟨i0,cl,cm,cD,dz⟩:=info_parts tM;have db:Hid ((Tryz.prog.info? 38).map (·.size)=some (ar d).length):=by rw[ar,List.length_map,c6];exact ef
  have dv:Hid (Instr.fill (fun i=>some (i*32,32)) ((Array.range (1*32)).map (aR.cells[· %aR.cells.size]!)) [(0, .agg (ar d).toArray)]=some (ar d).toArray):=rP _ _ (by simp[ar,c6]) (by simp);have dc:Hid ((ar d).length=32):=by simp[Hid,ar,c6]
  have dd:Hid (∀u∈ar d,u.oneCell'=true):=fun u hu=>jx d u (by simpa[ar]using hu);have B:Hid ((ds++[d]).length=n+1∧∀x∈ds++[d],x.length=32):=by
    refine⟨by rw[aY,aa.len];rfl,fun x dy=>?_⟩;rcases List.mem_append.1 dy with h|h;· exact aa.each x h
    · rw[List.mem_singleton.1 h];exact c6
  have da:=af aa.len;have a1:Hid (n≤1048576):=Nat.le_of_lt dw;have de:=af dr;have NS:=af c5;have cQ:Hid (∀k,(Value.slice A n c).ownBlock=some k→k<w.heap.size):=fun k X=>by
    obtain⟨o,c8,_⟩:=cM aa.row X;exact(Array.getElem?_eq_some_iff.1 c8).1
  unfold aP;change Calls _ _ #[_, .agg (ar d).toArray] _ _;generalize c3:ar d=L at*;have ch:Hid (ar d=L):=c3;clear c3;have g1:Hid (¬1*i0.size>2^24):=by simp only[Hid];rw[cD];omega
  have g2:Hid (¬1*i0.size=0):=by simp only[Hid];rw[cD];omega
  have gf:Hid (Instr.fill (fun i=>some (i*i0.size,i0.size)) ((Array.range (1*i0.size)).map (aR.cells[· %aR.cells.size]!)) [(0, .agg L.toArray)]=some L.toArray):=by simp only[Hid];rw[cD];exact dv.out
  have dA:∀(w:World)(r:Option Nat),(binOp .eql 178 (.map r) (.map none)).run Tryz.prog w= .ok (.bool r.isNone) w:=fun w r=>run_eql_map_nil w _ _ _ r Tryz.underlying178;have dB:((n:Int)==1048576)=false:=by rw[beq_eq_false_iff_ne];omega
  have dx:n≤1048576:=by omega
  clear dr c5 c6;rcases aa.parts with⟨b,rfl,c4⟩|⟨rfl,c4⟩
  · have HB:=af aa.aF;have cU:=af c4;have bw:Hid (TB p A n c (some b) b∨w.heap.size≤b):= .inl (.inr (.inl rfl));have cJ:Hid (b<w.heap.size→TB p A n c (some b) b):=fun _=> .inr (.inl rfl);obtain⟨mb,c7⟩:∃mb,mb=some b:=⟨_,rfl⟩;rw[←c7]at bw cJ NS⊢;clear c4 c7;go_enter Tryz.func84,Tryz.ntmps84;go_wp2_with(refine ay rfl 38 (.tmp 1) rfl _ rfl ?_);intro w1 n1;have cf:=af (aa.aF.fr n1.fr (fun x=>x));have cR:=af (aQ aa.row n1.fr (fun _ _ x=>x));have cL:Hid (ao w1 w.heap.size 38 L.toArray):=n1.aF;have cK:=af n1.fr;have cS:Hid (w1.heap.size=w.heap.size+1):=n1.size;clear n1;have ck:w1.cell? ⟨p,0,none⟩=some (.slice A n c):=cf.out.cell 0;have cZ:w1.cell? ⟨p,1,none⟩=some (.map (some b)):=cf.out.cell 1;have bv:=af (cU.out.fr cK.out (fun x=>x));go_upto_region 7 with fail;clear ck cZ aa HB cU;obtain⟨g3,aW⟩:∃g3,g3=w.heap.size:=⟨_,rfl⟩;have cQ:Hid (∀k,(Value.slice A n c).ownBlock=some k→k<g3):=by rw[aW];exact cQ.out
    rw[←aW]at cL⊢;have df:Hid (g3=w.heap.size):=aW;have cg:=cf;have cW:=cR;have cN:=cL;have cV:=bv;have cn:Hid (Fr (TB p A n c mb) w w1):=cK.out.bI;clear cf cR cL bv cK aW cS;generalize w1=a8 at*;have ck:a8.cell? ⟨p,0,none⟩=some (.slice A n c):=cg.out.cell 0;go_upto_region 8 with fail;clear ck;have cj:Hid ((a8.alloc (.cells #[.int .i64 0, .int .i64 n] 212)).cell? ⟨p,0,none⟩=some (.slice A n c)):=(cg.out.alloc _).cell 0;have bB:=af (cg.out.alloc (.cells #[.int .i64 0, .int .i64 n] 212));have aN:=af (aQ cW.out ((Fr.refl ag a8).alloc (.cells #[.int .i64 0, .int .i64 n] 212)) (fun _ _ x=>x));have bZ:=af (cV.out.fr ((Fr.refl ag a8).alloc (.cells #[.int .i64 0, .int .i64 n] 212)) (fun x=>x));have ci:=af (cN.out.alloc (.cells #[.int .i64 0, .int .i64 n] 212));have bF:=af (cn.out.alloc (.cells #[.int .i64 0, .int .i64 n] 212));have bR:=af (ao.new a8 212 #[.int .i64 0, .int .i64 n]);have cT:Hid (w.heap.size≤a8.heap.size):=cn.out.size;clear cg cW cV cN cn;generalize a8.alloc (.cells #[.int .i64 0, .int .i64 n] 212)=bz at*;generalize a8.heap.size=g5 at*;have bg:Hid (∀k,(Value.slice A n c).ownBlock=some k→k<bz.heap.size):=fun k X=>by
      obtain⟨o,c8,_⟩:=cM aN.out X;exact(Array.getElem?_eq_some_iff.1 c8).1
    by_cases K:n+1≤c
    · obtain⟨C,rfl,cx⟩:∃C,A=some ⟨C,0,none⟩∧C<g3:=by
        rcases aN.out.2 with⟨cB,_⟩|⟨c1,c0,cur,cB,_⟩;· injection cB with _ _ a7;omega
        · injection cB with ad _ _;subst ad;exact⟨c1,rfl,cQ.out c1 rfl⟩
      have NE:Hid ((p:Nat)≠C∧g3≠C∧C<bz.heap.size):=⟨fun e=>bE aN.out bB.out (by decide) (by rw[e];rfl),by omega,bg.out C rfl⟩;have cq:=af K;clear K cx;refine aE 8 (fun k=>k=C) [Is (.pointer (some ⟨p,0,none⟩)),Is (.pointer (some ⟨p,0,none⟩)),Is (.pointer (some ⟨p,0,none⟩)),Is (.pointer (some ⟨p,0,none⟩)),Is (.slice (some ⟨C,0,none⟩) n c),Is (.agg L.toArray),fun v W=>∃g,v= .slice (some ⟨g,0,none⟩) 1 1∧bz.heap.size≤g∧ao W g 38 L.toArray,Is (.slice (some ⟨C,0,none⟩) (n+1) c)] [(7,fun W=>W.ownsRow 0 38 32 (.slice (some ⟨C,0,none⟩) (n+1) c) (n+1) (ds.flatMap ar++L))] (fun W=>W.ownsRow 0 38 32 (.slice (some ⟨C,0,none⟩) n c) n (ds.flatMap ar)) (fun _ _=>false) (by kernel_rfl) (by kernel_rfl) (by kernel_rfl) (by kernel_rfl) ⟨Is.ah _,Is.ah _,Is.ah _,Is.ah _,Is.ah _,Is.ah _,fun v w' a0 _ f⟨g,h,l,b⟩=>⟨g,h,l,b.fr f (fun e=>by have y:g=C:=e;have:=NE.out.2.2;omega)⟩,Is.ah _,trivial⟩ ⟨fun _ _ _ f h=>aQ h f (fun _ _ x=>x),trivial⟩ (fun _ _ _ f h=>aQ h f (fun _ _ x=>x)) (aQ aN.out ((Fr.refl ag bz).drew) (fun _ _ x=>x)) ?_ ?_
      · refine⟨?_,?_,?_,?_,?_,?_,?_,?_,trivial⟩;all_goals intro u w' d f a s t m
        all_goals simp only[bJ,bK,bL,bM,au,Act.put,bN,bO,bP,Nat.reduceAdd,Nat.zero_add]
        · clear a s t m;refine aj ?_;go_simp;exact⟨_,rfl,al⟩
        · clear a s t m;refine aj ?_;go_simp;exact⟨_,rfl,al⟩
        · have ad:u 1=_:=a 1;clear a s t m;simp only[ad];refine aj ?_;go_simp;exact⟨_,rfl,al⟩
        · have ae:u 2=_:=a 2;clear a s t m;simp only[ae];refine aj ?_;go_simp;exact⟨_,rfl,al⟩
        · have a7:u 3=_:=a 3;clear a s t m;simp only[a7];refine aj ?_;have cb:=f.an cj.out (fun e=>NE.out.1 e);go_simp;exact⟨_,rfl,al⟩
        · clear a s t m;refine aj ?_;exact wp_load_mid _ _ rfl g3 0 rfl L _ (cG (ci.out.fr f (fun e=>NE.out.2.1 e))) Tryz.underlying38 rfl db.out ⟨_,rfl,al⟩
        · have bp:u 5=_:=a 5;clear a s t m;simp only[bp];refine aj ?_;refine wp_buildSlice 31 38 1 #[(0, .tmp 38)] rfl L.toArray i0 aR Tryz.underlying31 cl cm g1.out g2.out ?_ ?_;· simp only[List.map_toArray,List.map_cons,List.map_nil];exact gf.out
          · exact⟨_,rfl,aA.alloc _,⟨w'.heap.size,rfl,f.size,ao.new _ _ _⟩,trivial⟩
        · have bo:u 4=_:=a 4;obtain⟨g6,bq,di,cv⟩:=a 6;clear a;simp only[bo,bq];refine aj ?_;have dg:w'.ownsRow 0 38 32 (.slice (some ⟨C,0,none⟩) n c) n (ds.flatMap ar):=by rw[dn,if_neg (by rw[t 7 (by kernel_rfl)];exact Bool.false_ne_true)]at m;exact m
          clear s t m;refine pU (.tmp 37) (.tmp 39) rfl C n c _ rfl dg cq.out ⟨g6,0,none⟩ 1 L rfl dc.out (fun j u hu=>by rw[Addr.add_mid,Nat.zero_add,cv.cell,bD];exact hu) dd.out ?_;intro a0 br aI;exact⟨_,rfl,br,rfl,aI⟩
      · intro u w' f a m;have aL:u 7=_:=a 7 (by omega);have bn:u 0=_:=a 0 (by omega);have bx:w'.ownsRow 0 38 32 (.slice (some ⟨C,0,none⟩) (n+1) c) (n+1) (ds.flatMap ar++L):=m;have am:=af (bB.out.fr f (fun e=>NE.out.1 e));have bi:=af (bZ.out.fr f (fun e=>by have y:b=C:=e;exact bZ.out.yF aN.out (by rw[y];rfl)));have bd:=af (bR.out.fr f (fun e=>by have y:g5=C:=e;exact bE aN.out bR.out (by decide) (by rw[y];rfl)));have cY:=af bx;have bG:Hid (Fr (TB p (some ⟨C,0,none⟩) n c mb) w w'):=bF.out.trans (f.mono (fun i _ e=> .inr (.inr (by have y:i=C:=e;rw[y];rfl))));have a6:Hid (∀k,(Value.slice (some ⟨C,0,none⟩) (n+1) c).ownBlock=some k→TB p (some ⟨C,0,none⟩) n c mb k∨w.heap.size≤k):=fun k X=> .inl (.inr (.inr X));clear a m bx f cj bB aN bZ ci bF bR bg;obtain⟨E,J⟩:∃E,E=some (⟨C,0,none⟩:Addr):=⟨_,rfl⟩;obtain⟨G,aV⟩:∃G,G=c:=⟨_,rfl⟩;have V:Hid (w'.ownsRow 0 38 32 (.slice E (n+1) G) (n+1) (ds.flatMap ar++L)):=by rw[J,aV];exact cY.out
        have U:Hid (∀k,(Value.slice E (n+1) G).ownBlock=some k→TB p (some ⟨C,0,none⟩) n c mb k∨w.heap.size≤k):=by rw[J,aV];exact a6.out
        rw[←J,←aV]at aL;clear cY a6 J aV;simp only[bJ,bK,bL,bM,au,Act.put,bN,bO,bP,dL,dM,Nat.reduceAdd,Nat.zero_add,bn,aL];generalize w'=dl at*;go_wp2_with(refine aS rfl 31 (.tmp 42) _ rfl p 0 (.slice E (n+1) G) rfl rfl rfl tO 180 #[.slice (some ⟨C,0,none⟩) n c, .map (some b)] #[.slice E (n+1) G, .map (some b)] am.out (show 0<2 by decide) rfl ?_);intro aJ gR f10;have bA:Hid (mA w aJ p b g5 (.slice E (n+1) G) (ds++[d]) (n+1) (cO n 0) 0 n (TB p (some ⟨C,0,none⟩) n c mb)):=
          ⟨bG.out.trans (f10.mono (fun i _ e=> .inl e)),gR,aQ (by rw[List.flatMap_append,List.flatMap_singleton,ch.out];exact V.out) f10 (fun k X e=>by have y:k=p:=e;exact bE V.out am.out (by decide) (by rw[←y];exact X)),
           ((bi.out.fr f10 (fun e=>by have y:b=p:=e;exact bi.out.nK am.out y)).more d (fun l i h=>by rw[da.out];exact h.2)).congr (kN n),bd.out.fr f10 (fun e=>by have y:g5=p:=e;exact ao.oi bd.out am.out (by decide) y)⟩;clear gR f10 am bi bd bG V;generalize aJ=dm at*;go_wp2;go_loopw[43](fun _ wr=>∃lv idx:Nat,(idx+1)*2^lv=n+1∧mA w wr p b g5 (.slice E (n+1) G) (ds++[d]) (n+1) (cO n lv) lv idx (TB p (some ⟨C,0,none⟩) n c mb))(fun _ wr=>(intOf ((wr.cell? ⟨g5,1,none⟩).getD undef)).toNat);case atStart=>exact⟨0,n,by simp,bA.out⟩
        case round=>
          obtain⟨lv,idx,he,aU⟩:=hrel;have ab:=af aU;have ac:=af he;have cd:1≤2^lv:=Nat.one_le_two_pow;have bs:(idx+1)*1≤(idx+1)*2^lv:=Nat.mul_le_mul_left _ cd;have cA:idx≤1048576:=by have:=a1.out;omega
          have aG:lv≤64:=by
            rcases Nat.lt_or_ge 64 lv with h|h;· have ad:2^64≤2^lv:=Nat.pow_le_pow_right (by omega) (by omega);have ae:1*2^lv≤(idx+1)*2^lv:=Nat.mul_le_mul_right _ (by omega);have:=a1.out;omega
            · exact h
          have F:wr.cell? ⟨g5,0,none⟩=some (.int .i64 lv):=aU.cE.cell 0;have c51:wr.cell? ⟨g5,1,none⟩=some (.int .i64 idx):=aU.cE.cell 1;clear aU he bA;by_cases cc:idx%2=1
          · obtain⟨q,bt⟩:∃q,idx=2*q+1:=⟨idx/2,by omega⟩;obtain⟨k2,Y⟩:∃k2,k2=2*q:=⟨_,rfl⟩;have b1:(idx:Int).tmod 2=1:=by rw[Int.tmod_eq_emod_of_nonneg (by omega)];omega
            have a2:(idx:Int)%2=1:=by omega
            have a3:(idx:Int)-1=(k2:Int):=by omega
            have a4:(idx:Int).tdiv 2=(q:Int):=by rw[Int.tdiv_eq_ediv_of_nonneg (by omega)];omega
            have a5:(idx:Int)/2=(q:Int):=by omega
            have cs:idx/2=q:=by omega
            obtain⟨l1,Z⟩:∃l1,l1=lv+1:=⟨_,rfl⟩;have ct:(lv:Int)+1=(l1:Int):=by omega
            have cu:l1≤65:=by omega
            have Q:Hid (l1=lv+1):=Z;have cH:IntKind.i64.wrap (q:Int)=(q:Int):=IntWalk.i64_in _ (by omega);have co:Hid (idx=2*q+1∧k2=2*q):=⟨bt,Y⟩;have b6:(q+1)*2^(lv+1)=n+1:=by rw[←ac.out,show idx+1=2*(q+1)by omega,Nat.pow_succ,Nat.mul_comm (2^lv) 2,←Nat.mul_assoc,Nat.mul_comm (q+1) 2]
            have ba:=af b6;have b7:(k2+1)*2^lv≤n:=by
              have ad:(idx+1)*2^lv=idx*2^lv+2^lv:=by rw[Nat.add_mul,Nat.one_mul]
              have ae:(k2+1)=idx:=by omega
              rw[ae];have:=ac.out;omega
            have CL:Hid (∀w',Fr ag wr w'→Calls Tryz.prog 131 #[.pointer (some ⟨p,0,none⟩), .agg #[.int .i64 (lv:Int), .int .i64 (k2:Int)]] w' (aK w' (aP (aH (ds++[d]) lv k2)))):=
              fun w' f=>eB p E (n+1) G (some b) (ds++[d]) (cO n lv) lv k2 w' ((ab.out.tree B.out).aq f) (by omega) (fun h=>⟨h, .inl b7⟩) aG (by have:=a1.out;omega);have aM:Hid (∀w',Fr ag wr w'→Calls Tryz.prog 131 #[.pointer (some ⟨p,0,none⟩), .agg #[.int .i64 (lv:Int), .int .i64 (idx:Int)]] w' (aK w' (aP (aH (ds++[d]) lv idx)))):=
              fun w' f=>eB p E (n+1) G (some b) (ds++[d]) (cO n lv) lv idx w' ((ab.out.tree B.out).aq f) (by have:=ac.out;omega) (fun h=>⟨h, .inr ⟨ac.out,Nat.le_refl _⟩⟩) aG (by have:=a1.out;omega);have aX:(aH (ds++[d]) lv k2).length=32:=dV _ B.out.2 lv k2 (by rw[B.out.1];omega);have aZ:(aH (ds++[d]) lv idx).length=32:=dV _ B.out.2 lv idx (by rw[B.out.1];have:=ac.out;omega);have a9:Hid (∀w',Fr (TB p (some ⟨C,0,none⟩) n c mb) w w'→Calls Tryz.prog 122 #[aP (aH (ds++[d]) lv k2),aP (aH (ds++[d]) lv idx)] w' (aK w' (aP (cF (aH (ds++[d]) lv k2) (aH (ds++[d]) lv idx))))):=fun w' f=>kW _ _ aX aZ w' (de.out.fr f (NS.out _ (.inl rfl)) (NS.out _ (.inr rfl)));have bj:Hid (Value.agg (ar (cF (aH (ds++[d]) lv k2) (aH (ds++[d]) lv idx))).toArray=aP (aH (ds++[d]) l1 q)):=by
              have:aH (ds++[d]) l1 q=cF (aH (ds++[d]) lv k2) (aH (ds++[d]) lv idx):=by rw[Z,bt,Y];rfl
              rw[this];rfl
            have M:Hid (cX (ar (aH (ds++[d]) lv k2)).toArray):=cX.of aX;have N:Hid (cX (ar (aH (ds++[d]) lv idx)).toArray):=cX.of aZ;have be:Hid ((Tryz.prog.info? 38).map (·.size)=some (ar (aH (ds++[d]) lv k2)).length):=by rw[ar,List.length_map,aX];exact ef
            have bf:Hid ((Tryz.prog.info? 38).map (·.size)=some (ar (aH (ds++[d]) lv idx)).length):=by rw[ar,List.length_map,aZ];exact ef
            unfold aP at CL aM a9;simp only[show∀l:List UInt8,l.map aT=ar l from fun _=>rfl]at CL aM a9;generalize ar (cF (aH (ds++[d]) lv k2) (aH (ds++[d]) lv idx))=NV at*;generalize ar (aH (ds++[d]) lv k2)=bh at*;generalize ar (aH (ds++[d]) lv idx)=bl at*;clear bt Y Z b6 b7 aX aZ bs cd;go_wp2_with fail;refine(CL.out _ aA).mono ?_;rintro e ce⟨rfl,bm⟩;have ap:=af (ab.out.later bm);have bQ:=af bm;clear bm F c51;go_wp2_with(refine ak rfl 38 rfl aR fV aD rfl ?_);intro dp nb;have bk:=af nb;clear nb;generalize aB:ce.heap.size=g6 at*;have P:=af aB;clear aB;go_wp2_with(refine ai rfl 38 (.tmp 6) _ rfl g6 bh.toArray rfl rfl _ _ (by have h:=bk.out.aF;rw[P.out]at h;exact h) M.out.info M.out.zero M.out.one ?_);intro wc b2 b8;have ax:=af b2;have bb:Hid (Fr ag ce wc):=bk.out.fr.aw b8 (fun i cz e=>by have y:i=g6:=e;have:=P.out;omega);have H:=af (ap.out.later bb.out);clear b2 b8 bk ap;have F:wc.cell? ⟨g5,0,none⟩=some (.int .i64 lv):=H.out.cE.cell 0;have c51:wc.cell? ⟨g5,1,none⟩=some (.int .i64 idx):=H.out.cE.cell 1;go_wp2_with fail;refine(aM.out _ (bQ.out.trans bb.out)).mono ?_;rintro e wd⟨rfl,fd⟩;have av:=af (H.out.later fd);have R:=af (ax.out.fr fd (fun x=>x));clear fd F c51 H ax bQ bb CL aM P;go_wp2_with(refine ak rfl 38 rfl aR fV aD rfl ?_);intro dq ne;have Ne:=af ne;clear ne;generalize aC:wd.heap.size=g7 at*;have I:=af aC;clear aC;have cp:Hid (g6<g7):=by have:=R.out.lt;have:=I.out;simp only[Hid];omega
            go_wp2_with(refine ai rfl 38 (.tmp 7) _ rfl g7 bl.toArray rfl rfl _ _ (by have h:=Ne.out.aF;rw[I.out]at h;exact h) N.out.info N.out.zero N.out.one ?_);intro wf b4 b9;have T:=af b4;have bc:Hid (Fr ag wd wf):=Ne.out.fr.aw b9 (fun i cz e=>by have y:i=g7:=e;have:=I.out;omega);have z:=af (av.out.later bc.out);have S:=af (R.out.fr bc.out (fun x=>x));clear b4 b9 Ne av R bc I;have F:wf.cell? ⟨g5,0,none⟩=some (.int .i64 lv):=z.out.cE.cell 0;have c51:wf.cell? ⟨g5,1,none⟩=some (.int .i64 idx):=z.out.cE.cell 1;have b0:Hid ((#[Value.int .i64 (l1:Int),Value.int .i64 (q:Int)]:Array Value).all (·.oneCell')=true):=by simp[Hid,Value.oneCell']
            go_wp2_with(refine ai rfl 212 (.tmp 5) _ rfl g5 #[.int .i64 (l1:Int), .int .i64 (q:Int)] rfl rfl _ _ z.out.cE bY rfl b0.out ?_);intro bu b5 aO;have D:=af (z.out.Ew aO b5 cT.out);have bU:=af (S.out.fr aO (fun e=>by have y:g6=g5:=e;exact ao.oi S.out z.out.cE (by decide) y));have bV:=af (T.out.fr aO (fun e=>by have y:g7=g5:=e;exact ao.oi T.out z.out.cE (by decide) y));clear b0 b5 aO z S T F c51;have bW:Hid (bu.cell? ⟨g5,0,none⟩=some (.int .i64 (l1:Int))):=D.out.cE.cell 0;have bX:Hid (bu.cell? ⟨g5,1,none⟩=some (.int .i64 q)):=D.out.cE.cell 1;have bv:Hid (bu.cell? ⟨p,1,none⟩=some (.map (some b))):=D.out.aF.cell 1;clear b1 a2 a3 a4 a5 cs ct cu cH;go_upto_region 13 with fail;refine aE 8 ag [Is (.pointer (some ⟨p,0,none⟩)),Is (.pointer (some ⟨p,0,none⟩)),Is (.pointer (some ⟨p,1,none⟩)),Is (.map (some b)),Is (gE l1 q),Is (.agg bh.toArray),Is (.agg bl.toArray),Is (.agg NV.toArray)] [] (fun _=>True) (fun _ _=>false) (by kernel_rfl) (by kernel_rfl) (by kernel_rfl) (by kernel_rfl) ⟨Is.ah _,Is.ah _,Is.ah _,Is.ah _,Is.ah _,Is.ah _,Is.ah _,Is.ah _,trivial⟩ trivial (fun _ _ _ _ h=>h) trivial ?_ ?_
            · refine⟨?_,?_,?_,?_,?_,?_,?_,?_,trivial⟩;all_goals intro u w' d f a s t m
              all_goals simp only[bJ,bK,bL,bM,au,Act.put,bN,bO,bP,Nat.reduceAdd,Nat.zero_add]
              · clear a s t m;refine aj ?_;go_simp;exact⟨_,rfl,al⟩
              · have bn:u 0=_:=a 0;clear a s t m;simp only[bn];refine aj ?_;go_simp;exact⟨_,rfl,al⟩
              · have ad:u 1=_:=a 1;clear a s t m;simp only[ad];refine aj ?_;go_simp;exact⟨_,rfl,al⟩
              · have ae:u 2=_:=a 2;clear a s t m;simp only[ae];refine aj ?_;have cb:=f.an bv.out (fun x=>x);go_simp;exact⟨_,rfl,al⟩
              · clear a s t m;refine aj ?_;have cb:=f.an bW.out (fun x=>x);have cw:=f.an bX.out (fun x=>x);go_simp;exact⟨_,rfl,al⟩
              · clear a s t m;refine aj ?_;exact wp_load_mid _ _ rfl g6 0 rfl bh _ (cG (bU.out.fr f (fun x=>x))) Tryz.underlying38 rfl be.out ⟨_,rfl,al⟩
              · clear a s t m;refine aj ?_;exact wp_load_mid _ _ rfl g7 0 rfl bl _ (cG (bV.out.fr f (fun x=>x))) Tryz.underlying38 rfl bf.out ⟨_,rfl,al⟩
              · have bp:u 5=_:=a 5;have bq:u 6=_:=a 6;clear a s t m;simp only[bp,bq];refine aj ?_;go_simp;refine(a9.out _ (D.out.JD.trans f.bI)).mono ?_;rintro e dk⟨rfl,f4⟩;exact⟨_,rfl,f4.bI,rfl,trivial⟩
            · intro u w' f a m;have a7:u 3=_:=a 3 (by omega);have bo:u 4=_:=a 4 (by omega);have aL:u 7=_:=a 7 (by omega);have O:=af (D.out.later f);clear a m f bW bX bv bU bV D;simp only[bJ,bK,bL,bM,au,Act.put,bN,bO,bP,dL,dM,Nat.reduceAdd,Nat.zero_add,a7,bo,aL];refine jd rfl (.tmp 68) (.tmp 69) (.tmp 72) rfl O.out.map l1 q rfl rfl rfl (by rw[Q.out];exact nk n lv q ba.out) bj.out (cO n l1) (fun l i=>by rw[Q.out];exact mc n lv q l i ba.out) ?_;intro cI az ca;have bT:=af (O.out.Ex ca az cJ.out);clear az ca O;simp only[Act.put];go_wp2;go_roundw;case rel=>exact⟨l1,q,by rw[Q.out];exact ba.out,bT.out⟩
              case measure=>
                have s:cI.cell? ⟨g5,1,none⟩=some (.int .i64 q):=bT.out.cE.cell 1;have k2:wr.cell? ⟨g5,1,none⟩=some (.int .i64 idx):=ab.out.cE.cell 1;have:=co.out;rw[s,k2];simp[intOf];omega
          · have b1:(idx:Int).tmod 2=0:=by rw[Int.tmod_eq_emod_of_nonneg (by omega)];omega
            have a2:(idx:Int)%2=0:=by omega
            have cr:Hid (∀l i,cO n lv l i↔bC (n+1) l i):=fun l i=>nj n lv idx ac.out (by omega) l i;go_wp2;go_ret;exact⟨rfl,E,G,some b,(ab.out.tree B.out).congr cr.out,ab.out.fr,fun k X=>by
              rcases X with h|h|h;· exact .inl (.inl h)
              · have e:b=k:=Option.some.inj h;rw[←e];exact bw.out
              · exact U.out k h⟩
    · have cq:=af K;clear K;refine aE 8 ag [Is (.pointer (some ⟨p,0,none⟩)),Is (.pointer (some ⟨p,0,none⟩)),Is (.pointer (some ⟨p,0,none⟩)),Is (.pointer (some ⟨p,0,none⟩)),Is (.slice A n c),Is (.agg L.toArray),fun v W=>∃g,v= .slice (some ⟨g,0,none⟩) 1 1∧bz.heap.size≤g∧ao W g 38 L.toArray,fun v W=>∃g cap,v= .slice (some ⟨g,0,none⟩) (n+1) cap∧bz.heap.size≤g∧W.ownsRow 0 38 32 v (n+1) (ds.flatMap ar++L)] [] (fun _=>True) (fun _ _=>false) (by kernel_rfl) (by kernel_rfl) (by kernel_rfl) (by kernel_rfl) ⟨Is.ah _,Is.ah _,Is.ah _,Is.ah _,Is.ah _,Is.ah _,fun v w' a0 _ f⟨g,h,l,b⟩=>⟨g,h,l,b.fr f (fun x=>x)⟩,fun v w' a0 _ f⟨g,cap,h,l,b⟩=>⟨g,cap,h,l,aQ b f (fun _ _ x=>x)⟩,trivial⟩ trivial (fun _ _ _ _ h=>h) trivial ?_ ?_
      · refine⟨?_,?_,?_,?_,?_,?_,?_,?_,trivial⟩;all_goals intro u w' d f a s t m
        all_goals simp only[bJ,bK,bL,bM,au,Act.put,bN,bO,bP,Nat.reduceAdd,Nat.zero_add]
        · clear a s t m;refine aj ?_;go_simp;exact⟨_,rfl,al⟩
        · clear a s t m;refine aj ?_;go_simp;exact⟨_,rfl,al⟩
        · have ad:u 1=_:=a 1;clear a s t m;simp only[ad];refine aj ?_;go_simp;exact⟨_,rfl,al⟩
        · have ae:u 2=_:=a 2;clear a s t m;simp only[ae];refine aj ?_;go_simp;exact⟨_,rfl,al⟩
        · have a7:u 3=_:=a 3;clear a s t m;simp only[a7];refine aj ?_;have cb:=f.an cj.out (fun x=>x);go_simp;exact⟨_,rfl,al⟩
        · clear a s t m;refine aj ?_;exact wp_load_mid _ _ rfl g3 0 rfl L _ (cG (ci.out.fr f (fun x=>x))) Tryz.underlying38 rfl db.out ⟨_,rfl,al⟩
        · have bp:u 5=_:=a 5;clear a s t m;simp only[bp];refine aj ?_;refine wp_buildSlice 31 38 1 #[(0, .tmp 38)] rfl L.toArray i0 aR Tryz.underlying31 cl cm g1.out g2.out ?_ ?_;· simp only[List.map_toArray,List.map_cons,List.map_nil];exact gf.out
          · exact⟨_,rfl,aA.alloc _,⟨w'.heap.size,rfl,f.size,ao.new _ _ _⟩,trivial⟩
        · have bo:u 4=_:=a 4;obtain⟨g6,bq,di,cv⟩:=a 6;clear a s t m;simp only[bo,bq];refine aj ?_;refine rD (.tmp 37) (.tmp 39) rfl A n c _ rfl (aQ aN.out f (fun _ _ x=>x)) cq.out a1.out ⟨g6,0,none⟩ 1 L rfl dc.out (fun j u hu=>by rw[Addr.add_mid,Nat.zero_add,cv.cell,bD];exact hu) dd.out ?_;intro g cap a0 br dh aI;exact⟨_,rfl,br,⟨g,cap,rfl,Nat.le_trans f.size dh,aI⟩,trivial⟩
      · intro u w' f a m;obtain⟨c2,G,aL,cy,bx⟩:=a 7 (by omega);have bn:u 0=_:=a 0 (by omega);rw[aL]at bx;have am:=af (bB.out.fr f (fun x=>x));have bi:=af (bZ.out.fr f (fun x=>x));have bd:=af (bR.out.fr f (fun x=>x));have bG:Hid (Fr (TB p A n c mb) w w'):=bF.out.trans f.bI;have cC:=bF.out.size;obtain⟨E,J⟩:∃E,E=some (⟨c2,0,none⟩:Addr):=⟨_,rfl⟩;have V:Hid (w'.ownsRow 0 38 32 (.slice E (n+1) G) (n+1) (ds.flatMap ar++L)):=by rw[J];exact bx
        have U:Hid (∀k,(Value.slice E (n+1) G).ownBlock=some k→TB p A n c mb k∨w.heap.size≤k):=by
          rw[J];intro k X;have:c2=k:=by simpa[Value.ownBlock]using X
          exact .inr (by omega)
        rw[←J]at aL;clear a m bx f cj bB aN bZ ci bF bR bg cC J cy;simp only[bJ,bK,bL,bM,au,Act.put,bN,bO,bP,dL,dM,Nat.reduceAdd,Nat.zero_add,bn,aL];generalize w'=dl at*;go_wp2_with(refine aS rfl 31 (.tmp 42) _ rfl p 0 (.slice E (n+1) G) rfl rfl rfl tO 180 #[.slice A n c, .map (some b)] #[.slice E (n+1) G, .map (some b)] am.out (show 0<2 by decide) rfl ?_);intro aJ gR f10;have bA:Hid (mA w aJ p b g5 (.slice E (n+1) G) (ds++[d]) (n+1) (cO n 0) 0 n (TB p A n c mb)):=
          ⟨bG.out.trans (f10.mono (fun i _ e=> .inl e)),gR,aQ (by rw[List.flatMap_append,List.flatMap_singleton,ch.out];exact V.out) f10 (fun k X e=>by have y:k=p:=e;exact bE V.out am.out (by decide) (by rw[←y];exact X)),
           ((bi.out.fr f10 (fun e=>by have y:b=p:=e;exact bi.out.nK am.out y)).more d (fun l i h=>by rw[da.out];exact h.2)).congr (kN n),bd.out.fr f10 (fun e=>by have y:g5=p:=e;exact ao.oi bd.out am.out (by decide) y)⟩;clear gR f10 am bi bd bG V;generalize aJ=dm at*;go_wp2;go_loopw[43](fun _ wr=>∃lv idx:Nat,(idx+1)*2^lv=n+1∧mA w wr p b g5 (.slice E (n+1) G) (ds++[d]) (n+1) (cO n lv) lv idx (TB p A n c mb))(fun _ wr=>(intOf ((wr.cell? ⟨g5,1,none⟩).getD undef)).toNat);case atStart=>exact⟨0,n,by simp,bA.out⟩
        case round=>
          obtain⟨lv,idx,he,aU⟩:=hrel;have ab:=af aU;have ac:=af he;have cd:1≤2^lv:=Nat.one_le_two_pow;have bs:(idx+1)*1≤(idx+1)*2^lv:=Nat.mul_le_mul_left _ cd;have cA:idx≤1048576:=by have:=a1.out;omega
          have aG:lv≤64:=by
            rcases Nat.lt_or_ge 64 lv with h|h;· have ad:2^64≤2^lv:=Nat.pow_le_pow_right (by omega) (by omega);have ae:1*2^lv≤(idx+1)*2^lv:=Nat.mul_le_mul_right _ (by omega);have:=a1.out;omega
            · exact h
          have F:wr.cell? ⟨g5,0,none⟩=some (.int .i64 lv):=aU.cE.cell 0;have c51:wr.cell? ⟨g5,1,none⟩=some (.int .i64 idx):=aU.cE.cell 1;clear aU he bA;by_cases cc:idx%2=1
          · obtain⟨q,bt⟩:∃q,idx=2*q+1:=⟨idx/2,by omega⟩;obtain⟨k2,Y⟩:∃k2,k2=2*q:=⟨_,rfl⟩;have b1:(idx:Int).tmod 2=1:=by rw[Int.tmod_eq_emod_of_nonneg (by omega)];omega
            have a2:(idx:Int)%2=1:=by omega
            have a3:(idx:Int)-1=(k2:Int):=by omega
            have a4:(idx:Int).tdiv 2=(q:Int):=by rw[Int.tdiv_eq_ediv_of_nonneg (by omega)];omega
            have a5:(idx:Int)/2=(q:Int):=by omega
            have cs:idx/2=q:=by omega
            obtain⟨l1,Z⟩:∃l1,l1=lv+1:=⟨_,rfl⟩;have ct:(lv:Int)+1=(l1:Int):=by omega
            have cu:l1≤65:=by omega
            have Q:Hid (l1=lv+1):=Z;have cH:IntKind.i64.wrap (q:Int)=(q:Int):=IntWalk.i64_in _ (by omega);have co:Hid (idx=2*q+1∧k2=2*q):=⟨bt,Y⟩;have b6:(q+1)*2^(lv+1)=n+1:=by rw[←ac.out,show idx+1=2*(q+1)by omega,Nat.pow_succ,Nat.mul_comm (2^lv) 2,←Nat.mul_assoc,Nat.mul_comm (q+1) 2]
            have ba:=af b6;have b7:(k2+1)*2^lv≤n:=by
              have ad:(idx+1)*2^lv=idx*2^lv+2^lv:=by rw[Nat.add_mul,Nat.one_mul]
              have ae:(k2+1)=idx:=by omega
              rw[ae];have:=ac.out;omega
            have CL:Hid (∀w',Fr ag wr w'→Calls Tryz.prog 131 #[.pointer (some ⟨p,0,none⟩), .agg #[.int .i64 (lv:Int), .int .i64 (k2:Int)]] w' (aK w' (aP (aH (ds++[d]) lv k2)))):=
              fun w' f=>eB p E (n+1) G (some b) (ds++[d]) (cO n lv) lv k2 w' ((ab.out.tree B.out).aq f) (by omega) (fun h=>⟨h, .inl b7⟩) aG (by have:=a1.out;omega);have aM:Hid (∀w',Fr ag wr w'→Calls Tryz.prog 131 #[.pointer (some ⟨p,0,none⟩), .agg #[.int .i64 (lv:Int), .int .i64 (idx:Int)]] w' (aK w' (aP (aH (ds++[d]) lv idx)))):=
              fun w' f=>eB p E (n+1) G (some b) (ds++[d]) (cO n lv) lv idx w' ((ab.out.tree B.out).aq f) (by have:=ac.out;omega) (fun h=>⟨h, .inr ⟨ac.out,Nat.le_refl _⟩⟩) aG (by have:=a1.out;omega);have aX:(aH (ds++[d]) lv k2).length=32:=dV _ B.out.2 lv k2 (by rw[B.out.1];omega);have aZ:(aH (ds++[d]) lv idx).length=32:=dV _ B.out.2 lv idx (by rw[B.out.1];have:=ac.out;omega);have a9:Hid (∀w',Fr (TB p A n c mb) w w'→Calls Tryz.prog 122 #[aP (aH (ds++[d]) lv k2),aP (aH (ds++[d]) lv idx)] w' (aK w' (aP (cF (aH (ds++[d]) lv k2) (aH (ds++[d]) lv idx))))):=fun w' f=>kW _ _ aX aZ w' (de.out.fr f (NS.out _ (.inl rfl)) (NS.out _ (.inr rfl)));have bj:Hid (Value.agg (ar (cF (aH (ds++[d]) lv k2) (aH (ds++[d]) lv idx))).toArray=aP (aH (ds++[d]) l1 q)):=by
              have:aH (ds++[d]) l1 q=cF (aH (ds++[d]) lv k2) (aH (ds++[d]) lv idx):=by rw[Z,bt,Y];rfl
              rw[this];rfl
            have M:Hid (cX (ar (aH (ds++[d]) lv k2)).toArray):=cX.of aX;have N:Hid (cX (ar (aH (ds++[d]) lv idx)).toArray):=cX.of aZ;have be:Hid ((Tryz.prog.info? 38).map (·.size)=some (ar (aH (ds++[d]) lv k2)).length):=by rw[ar,List.length_map,aX];exact ef
            have bf:Hid ((Tryz.prog.info? 38).map (·.size)=some (ar (aH (ds++[d]) lv idx)).length):=by rw[ar,List.length_map,aZ];exact ef
            unfold aP at CL aM a9;simp only[show∀l:List UInt8,l.map aT=ar l from fun _=>rfl]at CL aM a9;generalize ar (cF (aH (ds++[d]) lv k2) (aH (ds++[d]) lv idx))=NV at*;generalize ar (aH (ds++[d]) lv k2)=bh at*;generalize ar (aH (ds++[d]) lv idx)=bl at*;clear bt Y Z b6 b7 aX aZ bs cd;go_wp2_with fail;refine(CL.out _ aA).mono ?_;rintro e ce⟨rfl,bm⟩;have ap:=af (ab.out.later bm);have bQ:=af bm;clear bm F c51;go_wp2_with(refine ak rfl 38 rfl aR fV aD rfl ?_);intro dp nb;have bk:=af nb;clear nb;generalize aB:ce.heap.size=g6 at*;have P:=af aB;clear aB;go_wp2_with(refine ai rfl 38 (.tmp 6) _ rfl g6 bh.toArray rfl rfl _ _ (by have h:=bk.out.aF;rw[P.out]at h;exact h) M.out.info M.out.zero M.out.one ?_);intro wc b2 b8;have ax:=af b2;have bb:Hid (Fr ag ce wc):=bk.out.fr.aw b8 (fun i cz e=>by have y:i=g6:=e;have:=P.out;omega);have H:=af (ap.out.later bb.out);clear b2 b8 bk ap;have F:wc.cell? ⟨g5,0,none⟩=some (.int .i64 lv):=H.out.cE.cell 0;have c51:wc.cell? ⟨g5,1,none⟩=some (.int .i64 idx):=H.out.cE.cell 1;go_wp2_with fail;refine(aM.out _ (bQ.out.trans bb.out)).mono ?_;rintro e wd⟨rfl,fd⟩;have av:=af (H.out.later fd);have R:=af (ax.out.fr fd (fun x=>x));clear fd F c51 H ax bQ bb CL aM P;go_wp2_with(refine ak rfl 38 rfl aR fV aD rfl ?_);intro dq ne;have Ne:=af ne;clear ne;generalize aC:wd.heap.size=g7 at*;have I:=af aC;clear aC;have cp:Hid (g6<g7):=by have:=R.out.lt;have:=I.out;simp only[Hid];omega
            go_wp2_with(refine ai rfl 38 (.tmp 7) _ rfl g7 bl.toArray rfl rfl _ _ (by have h:=Ne.out.aF;rw[I.out]at h;exact h) N.out.info N.out.zero N.out.one ?_);intro wf b4 b9;have T:=af b4;have bc:Hid (Fr ag wd wf):=Ne.out.fr.aw b9 (fun i cz e=>by have y:i=g7:=e;have:=I.out;omega);have z:=af (av.out.later bc.out);have S:=af (R.out.fr bc.out (fun x=>x));clear b4 b9 Ne av R bc I;have F:wf.cell? ⟨g5,0,none⟩=some (.int .i64 lv):=z.out.cE.cell 0;have c51:wf.cell? ⟨g5,1,none⟩=some (.int .i64 idx):=z.out.cE.cell 1;have b0:Hid ((#[Value.int .i64 (l1:Int),Value.int .i64 (q:Int)]:Array Value).all (·.oneCell')=true):=by simp[Hid,Value.oneCell']
            go_wp2_with(refine ai rfl 212 (.tmp 5) _ rfl g5 #[.int .i64 (l1:Int), .int .i64 (q:Int)] rfl rfl _ _ z.out.cE bY rfl b0.out ?_);intro bu b5 aO;have D:=af (z.out.Ew aO b5 cT.out);have bU:=af (S.out.fr aO (fun e=>by have y:g6=g5:=e;exact ao.oi S.out z.out.cE (by decide) y));have bV:=af (T.out.fr aO (fun e=>by have y:g7=g5:=e;exact ao.oi T.out z.out.cE (by decide) y));clear b0 b5 aO z S T F c51;have bW:Hid (bu.cell? ⟨g5,0,none⟩=some (.int .i64 (l1:Int))):=D.out.cE.cell 0;have bX:Hid (bu.cell? ⟨g5,1,none⟩=some (.int .i64 q)):=D.out.cE.cell 1;have bv:Hid (bu.cell? ⟨p,1,none⟩=some (.map (some b))):=D.out.aF.cell 1;clear b1 a2 a3 a4 a5 cs ct cu cH;go_upto_region 13 with fail;refine aE 8 ag [Is (.pointer (some ⟨p,0,none⟩)),Is (.pointer (some ⟨p,0,none⟩)),Is (.pointer (some ⟨p,1,none⟩)),Is (.map (some b)),Is (gE l1 q),Is (.agg bh.toArray),Is (.agg bl.toArray),Is (.agg NV.toArray)] [] (fun _=>True) (fun _ _=>false) (by kernel_rfl) (by kernel_rfl) (by kernel_rfl) (by kernel_rfl) ⟨Is.ah _,Is.ah _,Is.ah _,Is.ah _,Is.ah _,Is.ah _,Is.ah _,Is.ah _,trivial⟩ trivial (fun _ _ _ _ h=>h) trivial ?_ ?_
            · refine⟨?_,?_,?_,?_,?_,?_,?_,?_,trivial⟩;all_goals intro u w' d f a s t m
              all_goals simp only[bJ,bK,bL,bM,au,Act.put,bN,bO,bP,Nat.reduceAdd,Nat.zero_add]
              · clear a s t m;refine aj ?_;go_simp;exact⟨_,rfl,al⟩
              · have bn:u 0=_:=a 0;clear a s t m;simp only[bn];refine aj ?_;go_simp;exact⟨_,rfl,al⟩
              · have ad:u 1=_:=a 1;clear a s t m;simp only[ad];refine aj ?_;go_simp;exact⟨_,rfl,al⟩
              · have ae:u 2=_:=a 2;clear a s t m;simp only[ae];refine aj ?_;have cb:=f.an bv.out (fun x=>x);go_simp;exact⟨_,rfl,al⟩
              · clear a s t m;refine aj ?_;have cb:=f.an bW.out (fun x=>x);have cw:=f.an bX.out (fun x=>x);go_simp;exact⟨_,rfl,al⟩
              · clear a s t m;refine aj ?_;exact wp_load_mid _ _ rfl g6 0 rfl bh _ (cG (bU.out.fr f (fun x=>x))) Tryz.underlying38 rfl be.out ⟨_,rfl,al⟩
              · clear a s t m;refine aj ?_;exact wp_load_mid _ _ rfl g7 0 rfl bl _ (cG (bV.out.fr f (fun x=>x))) Tryz.underlying38 rfl bf.out ⟨_,rfl,al⟩
              · have bp:u 5=_:=a 5;have bq:u 6=_:=a 6;clear a s t m;simp only[bp,bq];refine aj ?_;go_simp;refine(a9.out _ (D.out.JD.trans f.bI)).mono ?_;rintro e dk⟨rfl,f4⟩;exact⟨_,rfl,f4.bI,rfl,trivial⟩
            · intro u w' f a m;have a7:u 3=_:=a 3 (by omega);have bo:u 4=_:=a 4 (by omega);have aL:u 7=_:=a 7 (by omega);have O:=af (D.out.later f);clear a m f bW bX bv bU bV D;simp only[bJ,bK,bL,bM,au,Act.put,bN,bO,bP,dL,dM,Nat.reduceAdd,Nat.zero_add,a7,bo,aL];refine jd rfl (.tmp 68) (.tmp 69) (.tmp 72) rfl O.out.map l1 q rfl rfl rfl (by rw[Q.out];exact nk n lv q ba.out) bj.out (cO n l1) (fun l i=>by rw[Q.out];exact mc n lv q l i ba.out) ?_;intro cI az ca;have bT:=af (O.out.Ex ca az cJ.out);clear az ca O;simp only[Act.put];go_wp2;go_roundw;case rel=>exact⟨l1,q,by rw[Q.out];exact ba.out,bT.out⟩
              case measure=>
                have s:cI.cell? ⟨g5,1,none⟩=some (.int .i64 q):=bT.out.cE.cell 1;have k2:wr.cell? ⟨g5,1,none⟩=some (.int .i64 idx):=ab.out.cE.cell 1;have:=co.out;rw[s,k2];simp[intOf];omega
          · have b1:(idx:Int).tmod 2=0:=by rw[Int.tmod_eq_emod_of_nonneg (by omega)];omega
            have a2:(idx:Int)%2=0:=by omega
            have cr:Hid (∀l i,cO n lv l i↔bC (n+1) l i):=fun l i=>nj n lv idx ac.out (by omega) l i;go_wp2;go_ret;exact⟨rfl,E,G,some b,(ab.out.tree B.out).congr cr.out,ab.out.fr,fun k X=>by
              rcases X with h|h|h;· exact .inl (.inl h)
              · have e:b=k:=Option.some.inj h;rw[←e];exact bw.out
              · exact U.out k h⟩
  · have HB:=af aa.aF;have cU:=af c4;clear c4;go_enter Tryz.func84,Tryz.ntmps84;go_wp2_with(refine ay rfl 38 (.tmp 1) rfl _ rfl ?_);intro w1 n1;have cf:=af (aa.aF.fr n1.fr (fun x=>x));have cR:=af (aQ aa.row n1.fr (fun _ _ x=>x));have cL:Hid (ao w1 w.heap.size 38 L.toArray):=n1.aF;have cK:=af n1.fr;have cS:Hid (w1.heap.size=w.heap.size+1):=n1.size;clear n1;have ck:w1.cell? ⟨p,0,none⟩=some (.slice A n c):=cf.out.cell 0;have cZ:w1.cell? ⟨p,1,none⟩=some (.map none):=cf.out.cell 1;have PL:Hid (p<w.heap.size):=aa.aF.lt;clear aa;go_wp2_with(refine tw rfl 178 rfl ?_);intro w2 du;have cP:=af du;clear du ck cZ;have c9:=af (cf.out.fr cP.out.fr (fun x=>x));have ck:w2.cell? ⟨p,0,none⟩=some (.slice A n c):=c9.out.cell 0;have cZ:w2.cell? ⟨p,1,none⟩=some (.map none):=c9.out.cell 1;generalize dt:w1.heap.size=b at*;have bS:=af dt;clear dt;go_wp2_with(refine aS rfl 178 (.tmp 26) _ rfl p 1 (.map (some b)) rfl rfl rfl JQ 180 #[.slice A n c, .map none] #[.slice A n c, .map (some b)] c9.out (show 1<2 by decide) rfl ?_);intro dj b3 f3;have cg:=af b3;have cW:=af (aQ (aQ cR.out cP.out.fr (fun _ _ x=>x)) f3 (fun k X e=>by have y:k=p:=e;exact bE cR.out cf.out (by decide) (by rw[←y];exact X)));have cN:=af ((cL.out.fr cP.out.fr (fun x=>x)).fr f3 (fun e=>by have y:w.heap.size=p:=e;have:=PL.out;omega));have cV:Hid (dO dj b ds (bC n)):=by
      refine⟨#[],0,?_,fun e he=>(by simp at he),fun l i h=>absurd h (cU.out l i),ou.empty _⟩;have h:=cP.out.map;rw[bS.out]at h;exact(f3.block b (Array.getElem?_eq_some_iff.1 h).1 (fun e=>by have y:b=p:=e;have:=PL.out;have:=cS.out;have:=bS.out;omega)).trans h
    have cn:Hid (Fr (TB p A n c none) w dj):=((cK.out.trans cP.out.fr).bI).trans (f3.mono (fun i _ e=> .inl e));have bw:Hid (TB p A n c none b∨w.heap.size≤b):= .inr (by have:=cS.out;have:=bS.out;omega);have cJ:Hid (b<w.heap.size→TB p A n c none b):=fun h=>by have:=cS.out;have:=bS.out;omega
    clear ck cZ b3 f3 cf c9 cR cL HB cU cP cK;go_upto_region 7 with fail;obtain⟨g3,aW⟩:∃g3,g3=w.heap.size:=⟨_,rfl⟩;have cQ:Hid (∀k,(Value.slice A n c).ownBlock=some k→k<g3):=by rw[aW];exact cQ.out
    rw[←aW]at cN⊢;have df:Hid (g3=w.heap.size):=aW;clear aW cS bS PL;generalize dj=a8 at*;have ck:a8.cell? ⟨p,0,none⟩=some (.slice A n c):=cg.out.cell 0;go_upto_region 8 with fail;clear ck;have cj:Hid ((a8.alloc (.cells #[.int .i64 0, .int .i64 n] 212)).cell? ⟨p,0,none⟩=some (.slice A n c)):=(cg.out.alloc _).cell 0;have bB:=af (cg.out.alloc (.cells #[.int .i64 0, .int .i64 n] 212));have aN:=af (aQ cW.out ((Fr.refl ag a8).alloc (.cells #[.int .i64 0, .int .i64 n] 212)) (fun _ _ x=>x));have bZ:=af (cV.out.fr ((Fr.refl ag a8).alloc (.cells #[.int .i64 0, .int .i64 n] 212)) (fun x=>x));have ci:=af (cN.out.alloc (.cells #[.int .i64 0, .int .i64 n] 212));have bF:=af (cn.out.alloc (.cells #[.int .i64 0, .int .i64 n] 212));have bR:=af (ao.new a8 212 #[.int .i64 0, .int .i64 n]);have cT:Hid (w.heap.size≤a8.heap.size):=cn.out.size;clear cg cW cV cN cn;generalize a8.alloc (.cells #[.int .i64 0, .int .i64 n] 212)=bz at*;generalize a8.heap.size=g5 at*;have bg:Hid (∀k,(Value.slice A n c).ownBlock=some k→k<bz.heap.size):=fun k X=>by
      obtain⟨o,c8,_⟩:=cM aN.out X;exact(Array.getElem?_eq_some_iff.1 c8).1
    by_cases K:n+1≤c
    · obtain⟨C,rfl,cx⟩:∃C,A=some ⟨C,0,none⟩∧C<g3:=by
        rcases aN.out.2 with⟨cB,_⟩|⟨c1,c0,cur,cB,_⟩;· injection cB with _ _ a7;omega
        · injection cB with ad _ _;subst ad;exact⟨c1,rfl,cQ.out c1 rfl⟩
      have NE:Hid ((p:Nat)≠C∧g3≠C∧C<bz.heap.size):=⟨fun e=>bE aN.out bB.out (by decide) (by rw[e];rfl),by omega,bg.out C rfl⟩;have cq:=af K;clear K cx;refine aE 8 (fun k=>k=C) [Is (.pointer (some ⟨p,0,none⟩)),Is (.pointer (some ⟨p,0,none⟩)),Is (.pointer (some ⟨p,0,none⟩)),Is (.pointer (some ⟨p,0,none⟩)),Is (.slice (some ⟨C,0,none⟩) n c),Is (.agg L.toArray),fun v W=>∃g,v= .slice (some ⟨g,0,none⟩) 1 1∧bz.heap.size≤g∧ao W g 38 L.toArray,Is (.slice (some ⟨C,0,none⟩) (n+1) c)] [(7,fun W=>W.ownsRow 0 38 32 (.slice (some ⟨C,0,none⟩) (n+1) c) (n+1) (ds.flatMap ar++L))] (fun W=>W.ownsRow 0 38 32 (.slice (some ⟨C,0,none⟩) n c) n (ds.flatMap ar)) (fun _ _=>false) (by kernel_rfl) (by kernel_rfl) (by kernel_rfl) (by kernel_rfl) ⟨Is.ah _,Is.ah _,Is.ah _,Is.ah _,Is.ah _,Is.ah _,fun v w' a0 _ f⟨g,h,l,b⟩=>⟨g,h,l,b.fr f (fun e=>by have y:g=C:=e;have:=NE.out.2.2;omega)⟩,Is.ah _,trivial⟩ ⟨fun _ _ _ f h=>aQ h f (fun _ _ x=>x),trivial⟩ (fun _ _ _ f h=>aQ h f (fun _ _ x=>x)) (aQ aN.out ((Fr.refl ag bz).drew) (fun _ _ x=>x)) ?_ ?_
      · refine⟨?_,?_,?_,?_,?_,?_,?_,?_,trivial⟩;all_goals intro u w' d f a s t m
        all_goals simp only[bJ,bK,bL,bM,au,Act.put,bN,bO,bP,Nat.reduceAdd,Nat.zero_add]
        · clear a s t m;refine aj ?_;go_simp;exact⟨_,rfl,al⟩
        · clear a s t m;refine aj ?_;go_simp;exact⟨_,rfl,al⟩
        · have ad:u 1=_:=a 1;clear a s t m;simp only[ad];refine aj ?_;go_simp;exact⟨_,rfl,al⟩
        · have ae:u 2=_:=a 2;clear a s t m;simp only[ae];refine aj ?_;go_simp;exact⟨_,rfl,al⟩
        · have a7:u 3=_:=a 3;clear a s t m;simp only[a7];refine aj ?_;have cb:=f.an cj.out (fun e=>NE.out.1 e);go_simp;exact⟨_,rfl,al⟩
        · clear a s t m;refine aj ?_;exact wp_load_mid _ _ rfl g3 0 rfl L _ (cG (ci.out.fr f (fun e=>NE.out.2.1 e))) Tryz.underlying38 rfl db.out ⟨_,rfl,al⟩
        · have bp:u 5=_:=a 5;clear a s t m;simp only[bp];refine aj ?_;refine wp_buildSlice 31 38 1 #[(0, .tmp 38)] rfl L.toArray i0 aR Tryz.underlying31 cl cm g1.out g2.out ?_ ?_;· simp only[List.map_toArray,List.map_cons,List.map_nil];exact gf.out
          · exact⟨_,rfl,aA.alloc _,⟨w'.heap.size,rfl,f.size,ao.new _ _ _⟩,trivial⟩
        · have bo:u 4=_:=a 4;obtain⟨g6,bq,di,cv⟩:=a 6;clear a;simp only[bo,bq];refine aj ?_;have dg:w'.ownsRow 0 38 32 (.slice (some ⟨C,0,none⟩) n c) n (ds.flatMap ar):=by rw[dn,if_neg (by rw[t 7 (by kernel_rfl)];exact Bool.false_ne_true)]at m;exact m
          clear s t m;refine pU (.tmp 37) (.tmp 39) rfl C n c _ rfl dg cq.out ⟨g6,0,none⟩ 1 L rfl dc.out (fun j u hu=>by rw[Addr.add_mid,Nat.zero_add,cv.cell,bD];exact hu) dd.out ?_;intro a0 br aI;exact⟨_,rfl,br,rfl,aI⟩
      · intro u w' f a m;have aL:u 7=_:=a 7 (by omega);have bn:u 0=_:=a 0 (by omega);have bx:w'.ownsRow 0 38 32 (.slice (some ⟨C,0,none⟩) (n+1) c) (n+1) (ds.flatMap ar++L):=m;have am:=af (bB.out.fr f (fun e=>NE.out.1 e));have bi:=af (bZ.out.fr f (fun e=>by have y:b=C:=e;exact bZ.out.yF aN.out (by rw[y];rfl)));have bd:=af (bR.out.fr f (fun e=>by have y:g5=C:=e;exact bE aN.out bR.out (by decide) (by rw[y];rfl)));have cY:=af bx;have bG:Hid (Fr (TB p (some ⟨C,0,none⟩) n c none) w w'):=bF.out.trans (f.mono (fun i _ e=> .inr (.inr (by have y:i=C:=e;rw[y];rfl))));have a6:Hid (∀k,(Value.slice (some ⟨C,0,none⟩) (n+1) c).ownBlock=some k→TB p (some ⟨C,0,none⟩) n c none k∨w.heap.size≤k):=fun k X=> .inl (.inr (.inr X));clear a m bx f cj bB aN bZ ci bF bR bg;obtain⟨E,J⟩:∃E,E=some (⟨C,0,none⟩:Addr):=⟨_,rfl⟩;obtain⟨G,aV⟩:∃G,G=c:=⟨_,rfl⟩;have V:Hid (w'.ownsRow 0 38 32 (.slice E (n+1) G) (n+1) (ds.flatMap ar++L)):=by rw[J,aV];exact cY.out
        have U:Hid (∀k,(Value.slice E (n+1) G).ownBlock=some k→TB p (some ⟨C,0,none⟩) n c none k∨w.heap.size≤k):=by rw[J,aV];exact a6.out
        rw[←J,←aV]at aL;clear cY a6 J aV;simp only[bJ,bK,bL,bM,au,Act.put,bN,bO,bP,dL,dM,Nat.reduceAdd,Nat.zero_add,bn,aL];generalize w'=dl at*;go_wp2_with(refine aS rfl 31 (.tmp 42) _ rfl p 0 (.slice E (n+1) G) rfl rfl rfl tO 180 #[.slice (some ⟨C,0,none⟩) n c, .map (some b)] #[.slice E (n+1) G, .map (some b)] am.out (show 0<2 by decide) rfl ?_);intro aJ gR f10;have bA:Hid (mA w aJ p b g5 (.slice E (n+1) G) (ds++[d]) (n+1) (cO n 0) 0 n (TB p (some ⟨C,0,none⟩) n c none)):=
          ⟨bG.out.trans (f10.mono (fun i _ e=> .inl e)),gR,aQ (by rw[List.flatMap_append,List.flatMap_singleton,ch.out];exact V.out) f10 (fun k X e=>by have y:k=p:=e;exact bE V.out am.out (by decide) (by rw[←y];exact X)),
           ((bi.out.fr f10 (fun e=>by have y:b=p:=e;exact bi.out.nK am.out y)).more d (fun l i h=>by rw[da.out];exact h.2)).congr (kN n),bd.out.fr f10 (fun e=>by have y:g5=p:=e;exact ao.oi bd.out am.out (by decide) y)⟩;clear gR f10 am bi bd bG V;generalize aJ=dm at*;go_wp2;go_loopw[43](fun _ wr=>∃lv idx:Nat,(idx+1)*2^lv=n+1∧mA w wr p b g5 (.slice E (n+1) G) (ds++[d]) (n+1) (cO n lv) lv idx (TB p (some ⟨C,0,none⟩) n c none))(fun _ wr=>(intOf ((wr.cell? ⟨g5,1,none⟩).getD undef)).toNat);case atStart=>exact⟨0,n,by simp,bA.out⟩
        case round=>
          obtain⟨lv,idx,he,aU⟩:=hrel;have ab:=af aU;have ac:=af he;have cd:1≤2^lv:=Nat.one_le_two_pow;have bs:(idx+1)*1≤(idx+1)*2^lv:=Nat.mul_le_mul_left _ cd;have cA:idx≤1048576:=by have:=a1.out;omega
          have aG:lv≤64:=by
            rcases Nat.lt_or_ge 64 lv with h|h;· have ad:2^64≤2^lv:=Nat.pow_le_pow_right (by omega) (by omega);have ae:1*2^lv≤(idx+1)*2^lv:=Nat.mul_le_mul_right _ (by omega);have:=a1.out;omega
            · exact h
          have F:wr.cell? ⟨g5,0,none⟩=some (.int .i64 lv):=aU.cE.cell 0;have c51:wr.cell? ⟨g5,1,none⟩=some (.int .i64 idx):=aU.cE.cell 1;clear aU he bA;by_cases cc:idx%2=1
          · obtain⟨q,bt⟩:∃q,idx=2*q+1:=⟨idx/2,by omega⟩;obtain⟨k2,Y⟩:∃k2,k2=2*q:=⟨_,rfl⟩;have b1:(idx:Int).tmod 2=1:=by rw[Int.tmod_eq_emod_of_nonneg (by omega)];omega
            have a2:(idx:Int)%2=1:=by omega
            have a3:(idx:Int)-1=(k2:Int):=by omega
            have a4:(idx:Int).tdiv 2=(q:Int):=by rw[Int.tdiv_eq_ediv_of_nonneg (by omega)];omega
            have a5:(idx:Int)/2=(q:Int):=by omega
            have cs:idx/2=q:=by omega
            obtain⟨l1,Z⟩:∃l1,l1=lv+1:=⟨_,rfl⟩;have ct:(lv:Int)+1=(l1:Int):=by omega
            have cu:l1≤65:=by omega
            have Q:Hid (l1=lv+1):=Z;have cH:IntKind.i64.wrap (q:Int)=(q:Int):=IntWalk.i64_in _ (by omega);have co:Hid (idx=2*q+1∧k2=2*q):=⟨bt,Y⟩;have b6:(q+1)*2^(lv+1)=n+1:=by rw[←ac.out,show idx+1=2*(q+1)by omega,Nat.pow_succ,Nat.mul_comm (2^lv) 2,←Nat.mul_assoc,Nat.mul_comm (q+1) 2]
            have ba:=af b6;have b7:(k2+1)*2^lv≤n:=by
              have ad:(idx+1)*2^lv=idx*2^lv+2^lv:=by rw[Nat.add_mul,Nat.one_mul]
              have ae:(k2+1)=idx:=by omega
              rw[ae];have:=ac.out;omega
            have CL:Hid (∀w',Fr ag wr w'→Calls Tryz.prog 131 #[.pointer (some ⟨p,0,none⟩), .agg #[.int .i64 (lv:Int), .int .i64 (k2:Int)]] w' (aK w' (aP (aH (ds++[d]) lv k2)))):=
              fun w' f=>eB p E (n+1) G (some b) (ds++[d]) (cO n lv) lv k2 w' ((ab.out.tree B.out).aq f) (by omega) (fun h=>⟨h, .inl b7⟩) aG (by have:=a1.out;omega);have aM:Hid (∀w',Fr ag wr w'→Calls Tryz.prog 131 #[.pointer (some ⟨p,0,none⟩), .agg #[.int .i64 (lv:Int), .int .i64 (idx:Int)]] w' (aK w' (aP (aH (ds++[d]) lv idx)))):=
              fun w' f=>eB p E (n+1) G (some b) (ds++[d]) (cO n lv) lv idx w' ((ab.out.tree B.out).aq f) (by have:=ac.out;omega) (fun h=>⟨h, .inr ⟨ac.out,Nat.le_refl _⟩⟩) aG (by have:=a1.out;omega);have aX:(aH (ds++[d]) lv k2).length=32:=dV _ B.out.2 lv k2 (by rw[B.out.1];omega);have aZ:(aH (ds++[d]) lv idx).length=32:=dV _ B.out.2 lv idx (by rw[B.out.1];have:=ac.out;omega);have a9:Hid (∀w',Fr (TB p (some ⟨C,0,none⟩) n c none) w w'→Calls Tryz.prog 122 #[aP (aH (ds++[d]) lv k2),aP (aH (ds++[d]) lv idx)] w' (aK w' (aP (cF (aH (ds++[d]) lv k2) (aH (ds++[d]) lv idx))))):=fun w' f=>kW _ _ aX aZ w' (de.out.fr f (NS.out _ (.inl rfl)) (NS.out _ (.inr rfl)));have bj:Hid (Value.agg (ar (cF (aH (ds++[d]) lv k2) (aH (ds++[d]) lv idx))).toArray=aP (aH (ds++[d]) l1 q)):=by
              have:aH (ds++[d]) l1 q=cF (aH (ds++[d]) lv k2) (aH (ds++[d]) lv idx):=by rw[Z,bt,Y];rfl
              rw[this];rfl
            have M:Hid (cX (ar (aH (ds++[d]) lv k2)).toArray):=cX.of aX;have N:Hid (cX (ar (aH (ds++[d]) lv idx)).toArray):=cX.of aZ;have be:Hid ((Tryz.prog.info? 38).map (·.size)=some (ar (aH (ds++[d]) lv k2)).length):=by rw[ar,List.length_map,aX];exact ef
            have bf:Hid ((Tryz.prog.info? 38).map (·.size)=some (ar (aH (ds++[d]) lv idx)).length):=by rw[ar,List.length_map,aZ];exact ef
            unfold aP at CL aM a9;simp only[show∀l:List UInt8,l.map aT=ar l from fun _=>rfl]at CL aM a9;generalize ar (cF (aH (ds++[d]) lv k2) (aH (ds++[d]) lv idx))=NV at*;generalize ar (aH (ds++[d]) lv k2)=bh at*;generalize ar (aH (ds++[d]) lv idx)=bl at*;clear bt Y Z b6 b7 aX aZ bs cd;go_wp2_with fail;refine(CL.out _ aA).mono ?_;rintro e ce⟨rfl,bm⟩;have ap:=af (ab.out.later bm);have bQ:=af bm;clear bm F c51;go_wp2_with(refine ak rfl 38 rfl aR fV aD rfl ?_);intro dp nb;have bk:=af nb;clear nb;generalize aB:ce.heap.size=g6 at*;have P:=af aB;clear aB;go_wp2_with(refine ai rfl 38 (.tmp 6) _ rfl g6 bh.toArray rfl rfl _ _ (by have h:=bk.out.aF;rw[P.out]at h;exact h) M.out.info M.out.zero M.out.one ?_);intro wc b2 b8;have ax:=af b2;have bb:Hid (Fr ag ce wc):=bk.out.fr.aw b8 (fun i cz e=>by have y:i=g6:=e;have:=P.out;omega);have H:=af (ap.out.later bb.out);clear b2 b8 bk ap;have F:wc.cell? ⟨g5,0,none⟩=some (.int .i64 lv):=H.out.cE.cell 0;have c51:wc.cell? ⟨g5,1,none⟩=some (.int .i64 idx):=H.out.cE.cell 1;go_wp2_with fail;refine(aM.out _ (bQ.out.trans bb.out)).mono ?_;rintro e wd⟨rfl,fd⟩;have av:=af (H.out.later fd);have R:=af (ax.out.fr fd (fun x=>x));clear fd F c51 H ax bQ bb CL aM P;go_wp2_with(refine ak rfl 38 rfl aR fV aD rfl ?_);intro dq ne;have Ne:=af ne;clear ne;generalize aC:wd.heap.size=g7 at*;have I:=af aC;clear aC;have cp:Hid (g6<g7):=by have:=R.out.lt;have:=I.out;simp only[Hid];omega
            go_wp2_with(refine ai rfl 38 (.tmp 7) _ rfl g7 bl.toArray rfl rfl _ _ (by have h:=Ne.out.aF;rw[I.out]at h;exact h) N.out.info N.out.zero N.out.one ?_);intro wf b4 b9;have T:=af b4;have bc:Hid (Fr ag wd wf):=Ne.out.fr.aw b9 (fun i cz e=>by have y:i=g7:=e;have:=I.out;omega);have z:=af (av.out.later bc.out);have S:=af (R.out.fr bc.out (fun x=>x));clear b4 b9 Ne av R bc I;have F:wf.cell? ⟨g5,0,none⟩=some (.int .i64 lv):=z.out.cE.cell 0;have c51:wf.cell? ⟨g5,1,none⟩=some (.int .i64 idx):=z.out.cE.cell 1;have b0:Hid ((#[Value.int .i64 (l1:Int),Value.int .i64 (q:Int)]:Array Value).all (·.oneCell')=true):=by simp[Hid,Value.oneCell']
            go_wp2_with(refine ai rfl 212 (.tmp 5) _ rfl g5 #[.int .i64 (l1:Int), .int .i64 (q:Int)] rfl rfl _ _ z.out.cE bY rfl b0.out ?_);intro bu b5 aO;have D:=af (z.out.Ew aO b5 cT.out);have bU:=af (S.out.fr aO (fun e=>by have y:g6=g5:=e;exact ao.oi S.out z.out.cE (by decide) y));have bV:=af (T.out.fr aO (fun e=>by have y:g7=g5:=e;exact ao.oi T.out z.out.cE (by decide) y));clear b0 b5 aO z S T F c51;have bW:Hid (bu.cell? ⟨g5,0,none⟩=some (.int .i64 (l1:Int))):=D.out.cE.cell 0;have bX:Hid (bu.cell? ⟨g5,1,none⟩=some (.int .i64 q)):=D.out.cE.cell 1;have bv:Hid (bu.cell? ⟨p,1,none⟩=some (.map (some b))):=D.out.aF.cell 1;clear b1 a2 a3 a4 a5 cs ct cu cH;go_upto_region 13 with fail;refine aE 8 ag [Is (.pointer (some ⟨p,0,none⟩)),Is (.pointer (some ⟨p,0,none⟩)),Is (.pointer (some ⟨p,1,none⟩)),Is (.map (some b)),Is (gE l1 q),Is (.agg bh.toArray),Is (.agg bl.toArray),Is (.agg NV.toArray)] [] (fun _=>True) (fun _ _=>false) (by kernel_rfl) (by kernel_rfl) (by kernel_rfl) (by kernel_rfl) ⟨Is.ah _,Is.ah _,Is.ah _,Is.ah _,Is.ah _,Is.ah _,Is.ah _,Is.ah _,trivial⟩ trivial (fun _ _ _ _ h=>h) trivial ?_ ?_
            · refine⟨?_,?_,?_,?_,?_,?_,?_,?_,trivial⟩;all_goals intro u w' d f a s t m
              all_goals simp only[bJ,bK,bL,bM,au,Act.put,bN,bO,bP,Nat.reduceAdd,Nat.zero_add]
              · clear a s t m;refine aj ?_;go_simp;exact⟨_,rfl,al⟩
              · have bn:u 0=_:=a 0;clear a s t m;simp only[bn];refine aj ?_;go_simp;exact⟨_,rfl,al⟩
              · have ad:u 1=_:=a 1;clear a s t m;simp only[ad];refine aj ?_;go_simp;exact⟨_,rfl,al⟩
              · have ae:u 2=_:=a 2;clear a s t m;simp only[ae];refine aj ?_;have cb:=f.an bv.out (fun x=>x);go_simp;exact⟨_,rfl,al⟩
              · clear a s t m;refine aj ?_;have cb:=f.an bW.out (fun x=>x);have cw:=f.an bX.out (fun x=>x);go_simp;exact⟨_,rfl,al⟩
              · clear a s t m;refine aj ?_;exact wp_load_mid _ _ rfl g6 0 rfl bh _ (cG (bU.out.fr f (fun x=>x))) Tryz.underlying38 rfl be.out ⟨_,rfl,al⟩
              · clear a s t m;refine aj ?_;exact wp_load_mid _ _ rfl g7 0 rfl bl _ (cG (bV.out.fr f (fun x=>x))) Tryz.underlying38 rfl bf.out ⟨_,rfl,al⟩
              · have bp:u 5=_:=a 5;have bq:u 6=_:=a 6;clear a s t m;simp only[bp,bq];refine aj ?_;go_simp;refine(a9.out _ (D.out.JD.trans f.bI)).mono ?_;rintro e dk⟨rfl,f4⟩;exact⟨_,rfl,f4.bI,rfl,trivial⟩
            · intro u w' f a m;have a7:u 3=_:=a 3 (by omega);have bo:u 4=_:=a 4 (by omega);have aL:u 7=_:=a 7 (by omega);have O:=af (D.out.later f);clear a m f bW bX bv bU bV D;simp only[bJ,bK,bL,bM,au,Act.put,bN,bO,bP,dL,dM,Nat.reduceAdd,Nat.zero_add,a7,bo,aL];refine jd rfl (.tmp 68) (.tmp 69) (.tmp 72) rfl O.out.map l1 q rfl rfl rfl (by rw[Q.out];exact nk n lv q ba.out) bj.out (cO n l1) (fun l i=>by rw[Q.out];exact mc n lv q l i ba.out) ?_;intro cI az ca;have bT:=af (O.out.Ex ca az cJ.out);clear az ca O;simp only[Act.put];go_wp2;go_roundw;case rel=>exact⟨l1,q,by rw[Q.out];exact ba.out,bT.out⟩
              case measure=>
                have s:cI.cell? ⟨g5,1,none⟩=some (.int .i64 q):=bT.out.cE.cell 1;have k2:wr.cell? ⟨g5,1,none⟩=some (.int .i64 idx):=ab.out.cE.cell 1;have:=co.out;rw[s,k2];simp[intOf];omega
          · have b1:(idx:Int).tmod 2=0:=by rw[Int.tmod_eq_emod_of_nonneg (by omega)];omega
            have a2:(idx:Int)%2=0:=by omega
            have cr:Hid (∀l i,cO n lv l i↔bC (n+1) l i):=fun l i=>nj n lv idx ac.out (by omega) l i;go_wp2;go_ret;exact⟨rfl,E,G,some b,(ab.out.tree B.out).congr cr.out,ab.out.fr,fun k X=>by
              rcases X with h|h|h;· exact .inl (.inl h)
              · have e:b=k:=Option.some.inj h;rw[←e];exact bw.out
              · exact U.out k h⟩
    · have cq:=af K;clear K;refine aE 8 ag [Is (.pointer (some ⟨p,0,none⟩)),Is (.pointer (some ⟨p,0,none⟩)),Is (.pointer (some ⟨p,0,none⟩)),Is (.pointer (some ⟨p,0,none⟩)),Is (.slice A n c),Is (.agg L.toArray),fun v W=>∃g,v= .slice (some ⟨g,0,none⟩) 1 1∧bz.heap.size≤g∧ao W g 38 L.toArray,fun v W=>∃g cap,v= .slice (some ⟨g,0,none⟩) (n+1) cap∧bz.heap.size≤g∧W.ownsRow 0 38 32 v (n+1) (ds.flatMap ar++L)] [] (fun _=>True) (fun _ _=>false) (by kernel_rfl) (by kernel_rfl) (by kernel_rfl) (by kernel_rfl) ⟨Is.ah _,Is.ah _,Is.ah _,Is.ah _,Is.ah _,Is.ah _,fun v w' a0 _ f⟨g,h,l,b⟩=>⟨g,h,l,b.fr f (fun x=>x)⟩,fun v w' a0 _ f⟨g,cap,h,l,b⟩=>⟨g,cap,h,l,aQ b f (fun _ _ x=>x)⟩,trivial⟩ trivial (fun _ _ _ _ h=>h) trivial ?_ ?_
      · refine⟨?_,?_,?_,?_,?_,?_,?_,?_,trivial⟩;all_goals intro u w' d f a s t m
        all_goals simp only[bJ,bK,bL,bM,au,Act.put,bN,bO,bP,Nat.reduceAdd,Nat.zero_add]
        · clear a s t m;refine aj ?_;go_simp;exact⟨_,rfl,al⟩
        · clear a s t m;refine aj ?_;go_simp;exact⟨_,rfl,al⟩
        · have ad:u 1=_:=a 1;clear a s t m;simp only[ad];refine aj ?_;go_simp;exact⟨_,rfl,al⟩
        · have ae:u 2=_:=a 2;clear a s t m;simp only[ae];refine aj ?_;go_simp;exact⟨_,rfl,al⟩
        · have a7:u 3=_:=a 3;clear a s t m;simp only[a7];refine aj ?_;have cb:=f.an cj.out (fun x=>x);go_simp;exact⟨_,rfl,al⟩
        · clear a s t m;refine aj ?_;exact wp_load_mid _ _ rfl g3 0 rfl L _ (cG (ci.out.fr f (fun x=>x))) Tryz.underlying38 rfl db.out ⟨_,rfl,al⟩
        · have bp:u 5=_:=a 5;clear a s t m;simp only[bp];refine aj ?_;refine wp_buildSlice 31 38 1 #[(0, .tmp 38)] rfl L.toArray i0 aR Tryz.underlying31 cl cm g1.out g2.out ?_ ?_;· simp only[List.map_toArray,List.map_cons,List.map_nil];exact gf.out
          · exact⟨_,rfl,aA.alloc _,⟨w'.heap.size,rfl,f.size,ao.new _ _ _⟩,trivial⟩
        · have bo:u 4=_:=a 4;obtain⟨g6,bq,di,cv⟩:=a 6;clear a s t m;simp only[bo,bq];refine aj ?_;refine rD (.tmp 37) (.tmp 39) rfl A n c _ rfl (aQ aN.out f (fun _ _ x=>x)) cq.out a1.out ⟨g6,0,none⟩ 1 L rfl dc.out (fun j u hu=>by rw[Addr.add_mid,Nat.zero_add,cv.cell,bD];exact hu) dd.out ?_;intro g cap a0 br dh aI;exact⟨_,rfl,br,⟨g,cap,rfl,Nat.le_trans f.size dh,aI⟩,trivial⟩
      · intro u w' f a m;obtain⟨c2,G,aL,cy,bx⟩:=a 7 (by omega);have bn:u 0=_:=a 0 (by omega);rw[aL]at bx;have am:=af (bB.out.fr f (fun x=>x));have bi:=af (bZ.out.fr f (fun x=>x));have bd:=af (bR.out.fr f (fun x=>x));have bG:Hid (Fr (TB p A n c none) w w'):=bF.out.trans f.bI;have cC:=bF.out.size;obtain⟨E,J⟩:∃E,E=some (⟨c2,0,none⟩:Addr):=⟨_,rfl⟩;have V:Hid (w'.ownsRow 0 38 32 (.slice E (n+1) G) (n+1) (ds.flatMap ar++L)):=by rw[J];exact bx
        have U:Hid (∀k,(Value.slice E (n+1) G).ownBlock=some k→TB p A n c none k∨w.heap.size≤k):=by
          rw[J];intro k X;have:c2=k:=by simpa[Value.ownBlock]using X
          exact .inr (by omega)
        rw[←J]at aL;clear a m bx f cj bB aN bZ ci bF bR bg cC J cy;simp only[bJ,bK,bL,bM,au,Act.put,bN,bO,bP,dL,dM,Nat.reduceAdd,Nat.zero_add,bn,aL];generalize w'=dl at*;go_wp2_with(refine aS rfl 31 (.tmp 42) _ rfl p 0 (.slice E (n+1) G) rfl rfl rfl tO 180 #[.slice A n c, .map (some b)] #[.slice E (n+1) G, .map (some b)] am.out (show 0<2 by decide) rfl ?_);intro aJ gR f10;have bA:Hid (mA w aJ p b g5 (.slice E (n+1) G) (ds++[d]) (n+1) (cO n 0) 0 n (TB p A n c none)):=
          ⟨bG.out.trans (f10.mono (fun i _ e=> .inl e)),gR,aQ (by rw[List.flatMap_append,List.flatMap_singleton,ch.out];exact V.out) f10 (fun k X e=>by have y:k=p:=e;exact bE V.out am.out (by decide) (by rw[←y];exact X)),
           ((bi.out.fr f10 (fun e=>by have y:b=p:=e;exact bi.out.nK am.out y)).more d (fun l i h=>by rw[da.out];exact h.2)).congr (kN n),bd.out.fr f10 (fun e=>by have y:g5=p:=e;exact ao.oi bd.out am.out (by decide) y)⟩;clear gR f10 am bi bd bG V;generalize aJ=dm at*;go_wp2;go_loopw[43](fun _ wr=>∃lv idx:Nat,(idx+1)*2^lv=n+1∧mA w wr p b g5 (.slice E (n+1) G) (ds++[d]) (n+1) (cO n lv) lv idx (TB p A n c none))(fun _ wr=>(intOf ((wr.cell? ⟨g5,1,none⟩).getD undef)).toNat);case atStart=>exact⟨0,n,by simp,bA.out⟩
        case round=>
          obtain⟨lv,idx,he,aU⟩:=hrel;have ab:=af aU;have ac:=af he;have cd:1≤2^lv:=Nat.one_le_two_pow;have bs:(idx+1)*1≤(idx+1)*2^lv:=Nat.mul_le_mul_left _ cd;have cA:idx≤1048576:=by have:=a1.out;omega
          have aG:lv≤64:=by
            rcases Nat.lt_or_ge 64 lv with h|h;· have ad:2^64≤2^lv:=Nat.pow_le_pow_right (by omega) (by omega);have ae:1*2^lv≤(idx+1)*2^lv:=Nat.mul_le_mul_right _ (by omega);have:=a1.out;omega
            · exact h
          have F:wr.cell? ⟨g5,0,none⟩=some (.int .i64 lv):=aU.cE.cell 0;have c51:wr.cell? ⟨g5,1,none⟩=some (.int .i64 idx):=aU.cE.cell 1;clear aU he bA;by_cases cc:idx%2=1
          · obtain⟨q,bt⟩:∃q,idx=2*q+1:=⟨idx/2,by omega⟩;obtain⟨k2,Y⟩:∃k2,k2=2*q:=⟨_,rfl⟩;have b1:(idx:Int).tmod 2=1:=by rw[Int.tmod_eq_emod_of_nonneg (by omega)];omega
            have a2:(idx:Int)%2=1:=by omega
            have a3:(idx:Int)-1=(k2:Int):=by omega
            have a4:(idx:Int).tdiv 2=(q:Int):=by rw[Int.tdiv_eq_ediv_of_nonneg (by omega)];omega
            have a5:(idx:Int)/2=(q:Int):=by omega
            have cs:idx/2=q:=by omega
            obtain⟨l1,Z⟩:∃l1,l1=lv+1:=⟨_,rfl⟩;have ct:(lv:Int)+1=(l1:Int):=by omega
            have cu:l1≤65:=by omega
            have Q:Hid (l1=lv+1):=Z;have cH:IntKind.i64.wrap (q:Int)=(q:Int):=IntWalk.i64_in _ (by omega);have co:Hid (idx=2*q+1∧k2=2*q):=⟨bt,Y⟩;have b6:(q+1)*2^(lv+1)=n+1:=by rw[←ac.out,show idx+1=2*(q+1)by omega,Nat.pow_succ,Nat.mul_comm (2^lv) 2,←Nat.mul_assoc,Nat.mul_comm (q+1) 2]
            have ba:=af b6;have b7:(k2+1)*2^lv≤n:=by
              have ad:(idx+1)*2^lv=idx*2^lv+2^lv:=by rw[Nat.add_mul,Nat.one_mul]
              have ae:(k2+1)=idx:=by omega
              rw[ae];have:=ac.out;omega
            have CL:Hid (∀w',Fr ag wr w'→Calls Tryz.prog 131 #[.pointer (some ⟨p,0,none⟩), .agg #[.int .i64 (lv:Int), .int .i64 (k2:Int)]] w' (aK w' (aP (aH (ds++[d]) lv k2)))):=
              fun w' f=>eB p E (n+1) G (some b) (ds++[d]) (cO n lv) lv k2 w' ((ab.out.tree B.out).aq f) (by omega) (fun h=>⟨h, .inl b7⟩) aG (by have:=a1.out;omega);have aM:Hid (∀w',Fr ag wr w'→Calls Tryz.prog 131 #[.pointer (some ⟨p,0,none⟩), .agg #[.int .i64 (lv:Int), .int .i64 (idx:Int)]] w' (aK w' (aP (aH (ds++[d]) lv idx)))):=
              fun w' f=>eB p E (n+1) G (some b) (ds++[d]) (cO n lv) lv idx w' ((ab.out.tree B.out).aq f) (by have:=ac.out;omega) (fun h=>⟨h, .inr ⟨ac.out,Nat.le_refl _⟩⟩) aG (by have:=a1.out;omega);have aX:(aH (ds++[d]) lv k2).length=32:=dV _ B.out.2 lv k2 (by rw[B.out.1];omega);have aZ:(aH (ds++[d]) lv idx).length=32:=dV _ B.out.2 lv idx (by rw[B.out.1];have:=ac.out;omega);have a9:Hid (∀w',Fr (TB p A n c none) w w'→Calls Tryz.prog 122 #[aP (aH (ds++[d]) lv k2),aP (aH (ds++[d]) lv idx)] w' (aK w' (aP (cF (aH (ds++[d]) lv k2) (aH (ds++[d]) lv idx))))):=fun w' f=>kW _ _ aX aZ w' (de.out.fr f (NS.out _ (.inl rfl)) (NS.out _ (.inr rfl)));have bj:Hid (Value.agg (ar (cF (aH (ds++[d]) lv k2) (aH (ds++[d]) lv idx))).toArray=aP (aH (ds++[d]) l1 q)):=by
              have:aH (ds++[d]) l1 q=cF (aH (ds++[d]) lv k2) (aH (ds++[d]) lv idx):=by rw[Z,bt,Y];rfl
              rw[this];rfl
            have M:Hid (cX (ar (aH (ds++[d]) lv k2)).toArray):=cX.of aX;have N:Hid (cX (ar (aH (ds++[d]) lv idx)).toArray):=cX.of aZ;have be:Hid ((Tryz.prog.info? 38).map (·.size)=some (ar (aH (ds++[d]) lv k2)).length):=by rw[ar,List.length_map,aX];exact ef
            have bf:Hid ((Tryz.prog.info? 38).map (·.size)=some (ar (aH (ds++[d]) lv idx)).length):=by rw[ar,List.length_map,aZ];exact ef
            unfold aP at CL aM a9;simp only[show∀l:List UInt8,l.map aT=ar l from fun _=>rfl]at CL aM a9;generalize ar (cF (aH (ds++[d]) lv k2) (aH (ds++[d]) lv idx))=NV at*;generalize ar (aH (ds++[d]) lv k2)=bh at*;generalize ar (aH (ds++[d]) lv idx)=bl at*;clear bt Y Z b6 b7 aX aZ bs cd;go_wp2_with fail;refine(CL.out _ aA).mono ?_;rintro e ce⟨rfl,bm⟩;have ap:=af (ab.out.later bm);have bQ:=af bm;clear bm F c51;go_wp2_with(refine ak rfl 38 rfl aR fV aD rfl ?_);intro dp nb;have bk:=af nb;clear nb;generalize aB:ce.heap.size=g6 at*;have P:=af aB;clear aB;go_wp2_with(refine ai rfl 38 (.tmp 6) _ rfl g6 bh.toArray rfl rfl _ _ (by have h:=bk.out.aF;rw[P.out]at h;exact h) M.out.info M.out.zero M.out.one ?_);intro wc b2 b8;have ax:=af b2;have bb:Hid (Fr ag ce wc):=bk.out.fr.aw b8 (fun i cz e=>by have y:i=g6:=e;have:=P.out;omega);have H:=af (ap.out.later bb.out);clear b2 b8 bk ap;have F:wc.cell? ⟨g5,0,none⟩=some (.int .i64 lv):=H.out.cE.cell 0;have c51:wc.cell? ⟨g5,1,none⟩=some (.int .i64 idx):=H.out.cE.cell 1;go_wp2_with fail;refine(aM.out _ (bQ.out.trans bb.out)).mono ?_;rintro e wd⟨rfl,fd⟩;have av:=af (H.out.later fd);have R:=af (ax.out.fr fd (fun x=>x));clear fd F c51 H ax bQ bb CL aM P;go_wp2_with(refine ak rfl 38 rfl aR fV aD rfl ?_);intro dq ne;have Ne:=af ne;clear ne;generalize aC:wd.heap.size=g7 at*;have I:=af aC;clear aC;have cp:Hid (g6<g7):=by have:=R.out.lt;have:=I.out;simp only[Hid];omega
            go_wp2_with(refine ai rfl 38 (.tmp 7) _ rfl g7 bl.toArray rfl rfl _ _ (by have h:=Ne.out.aF;rw[I.out]at h;exact h) N.out.info N.out.zero N.out.one ?_);intro wf b4 b9;have T:=af b4;have bc:Hid (Fr ag wd wf):=Ne.out.fr.aw b9 (fun i cz e=>by have y:i=g7:=e;have:=I.out;omega);have z:=af (av.out.later bc.out);have S:=af (R.out.fr bc.out (fun x=>x));clear b4 b9 Ne av R bc I;have F:wf.cell? ⟨g5,0,none⟩=some (.int .i64 lv):=z.out.cE.cell 0;have c51:wf.cell? ⟨g5,1,none⟩=some (.int .i64 idx):=z.out.cE.cell 1;have b0:Hid ((#[Value.int .i64 (l1:Int),Value.int .i64 (q:Int)]:Array Value).all (·.oneCell')=true):=by simp[Hid,Value.oneCell']
            go_wp2_with(refine ai rfl 212 (.tmp 5) _ rfl g5 #[.int .i64 (l1:Int), .int .i64 (q:Int)] rfl rfl _ _ z.out.cE bY rfl b0.out ?_);intro bu b5 aO;have D:=af (z.out.Ew aO b5 cT.out);have bU:=af (S.out.fr aO (fun e=>by have y:g6=g5:=e;exact ao.oi S.out z.out.cE (by decide) y));have bV:=af (T.out.fr aO (fun e=>by have y:g7=g5:=e;exact ao.oi T.out z.out.cE (by decide) y));clear b0 b5 aO z S T F c51;have bW:Hid (bu.cell? ⟨g5,0,none⟩=some (.int .i64 (l1:Int))):=D.out.cE.cell 0;have bX:Hid (bu.cell? ⟨g5,1,none⟩=some (.int .i64 q)):=D.out.cE.cell 1;have bv:Hid (bu.cell? ⟨p,1,none⟩=some (.map (some b))):=D.out.aF.cell 1;clear b1 a2 a3 a4 a5 cs ct cu cH;go_upto_region 13 with fail;refine aE 8 ag [Is (.pointer (some ⟨p,0,none⟩)),Is (.pointer (some ⟨p,0,none⟩)),Is (.pointer (some ⟨p,1,none⟩)),Is (.map (some b)),Is (gE l1 q),Is (.agg bh.toArray),Is (.agg bl.toArray),Is (.agg NV.toArray)] [] (fun _=>True) (fun _ _=>false) (by kernel_rfl) (by kernel_rfl) (by kernel_rfl) (by kernel_rfl) ⟨Is.ah _,Is.ah _,Is.ah _,Is.ah _,Is.ah _,Is.ah _,Is.ah _,Is.ah _,trivial⟩ trivial (fun _ _ _ _ h=>h) trivial ?_ ?_
            · refine⟨?_,?_,?_,?_,?_,?_,?_,?_,trivial⟩;all_goals intro u w' d f a s t m
              all_goals simp only[bJ,bK,bL,bM,au,Act.put,bN,bO,bP,Nat.reduceAdd,Nat.zero_add]
              · clear a s t m;refine aj ?_;go_simp;exact⟨_,rfl,al⟩
              · have bn:u 0=_:=a 0;clear a s t m;simp only[bn];refine aj ?_;go_simp;exact⟨_,rfl,al⟩
              · have ad:u 1=_:=a 1;clear a s t m;simp only[ad];refine aj ?_;go_simp;exact⟨_,rfl,al⟩
              · have ae:u 2=_:=a 2;clear a s t m;simp only[ae];refine aj ?_;have cb:=f.an bv.out (fun x=>x);go_simp;exact⟨_,rfl,al⟩
              · clear a s t m;refine aj ?_;have cb:=f.an bW.out (fun x=>x);have cw:=f.an bX.out (fun x=>x);go_simp;exact⟨_,rfl,al⟩
              · clear a s t m;refine aj ?_;exact wp_load_mid _ _ rfl g6 0 rfl bh _ (cG (bU.out.fr f (fun x=>x))) Tryz.underlying38 rfl be.out ⟨_,rfl,al⟩
              · clear a s t m;refine aj ?_;exact wp_load_mid _ _ rfl g7 0 rfl bl _ (cG (bV.out.fr f (fun x=>x))) Tryz.underlying38 rfl bf.out ⟨_,rfl,al⟩
              · have bp:u 5=_:=a 5;have bq:u 6=_:=a 6;clear a s t m;simp only[bp,bq];refine aj ?_;go_simp;refine(a9.out _ (D.out.JD.trans f.bI)).mono ?_;rintro e dk⟨rfl,f4⟩;exact⟨_,rfl,f4.bI,rfl,trivial⟩
            · intro u w' f a m;have a7:u 3=_:=a 3 (by omega);have bo:u 4=_:=a 4 (by omega);have aL:u 7=_:=a 7 (by omega);have O:=af (D.out.later f);clear a m f bW bX bv bU bV D;simp only[bJ,bK,bL,bM,au,Act.put,bN,bO,bP,dL,dM,Nat.reduceAdd,Nat.zero_add,a7,bo,aL];refine jd rfl (.tmp 68) (.tmp 69) (.tmp 72) rfl O.out.map l1 q rfl rfl rfl (by rw[Q.out];exact nk n lv q ba.out) bj.out (cO n l1) (fun l i=>by rw[Q.out];exact mc n lv q l i ba.out) ?_;intro cI az ca;have bT:=af (O.out.Ex ca az cJ.out);clear az ca O;simp only[Act.put];go_wp2;go_roundw;case rel=>exact⟨l1,q,by rw[Q.out];exact ba.out,bT.out⟩
              case measure=>
                have s:cI.cell? ⟨g5,1,none⟩=some (.int .i64 q):=bT.out.cE.cell 1;have k2:wr.cell? ⟨g5,1,none⟩=some (.int .i64 idx):=ab.out.cE.cell 1;have:=co.out;rw[s,k2];simp[intOf];omega
          · have b1:(idx:Int).tmod 2=0:=by rw[Int.tmod_eq_emod_of_nonneg (by omega)];omega
            have a2:(idx:Int)%2=0:=by omega
            have cr:Hid (∀l i,cO n lv l i↔bC (n+1) l i):=fun l i=>nj n lv idx ac.out (by omega) l i;go_wp2;go_ret;exact⟨rfl,E,G,some b,(ab.out.tree B.out).congr cr.out,ab.out.fr,fun k X=>by
              rcases X with h|h|h;· exact .inl (.inl h)
              · have e:b=k:=Option.some.inj h;rw[←e];exact bw.out
              · exact U.out k h⟩
end Go.Proofs.YtphjagkehiklkaaGreatDoor.Lt
