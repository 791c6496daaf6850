/- Texts. -/
import Derived.Test.YtphjagkehiklkaaGreatDoorXK19
set_option linter.unusedVariables false
set_option linter.unusedSimpArgs false
set_option maxRecDepth 100000
set_option maxHeartbeats 4000000
namespace Go.Proofs.YtphjagkehiklkaaGreatDoor.Lt
open Go.RowKit
theorem aM{P:Program}{ops:Array Oper}{rest:List Oper}{u:Oper}{a:Act}{w:World}{Q:Exit→Act→World→Prop}(j:u.guard=none)(ty:TypeId)(x y:Operand)(p:u.op= .store ty x y)
  (g f:Nat)(v:Value)(r:a.eval x= .pointer (some ⟨g,f,none⟩))(s:a.eval y=v)(m:v.oneCell'=true)(d:(P.info? ty).map (·.size)=some 1)
  (t:TypeId)(cs cs':Array Value)(e:aq w g t cs)(o:f<cs.size)(i:cs.setIfInBounds f v=cs')
  (h:∀w',aq w' g t cs'→Fr (fun k=>k=g) w w'→wpList P ops Q rest (a.put u.dst undef) w'):wpList P ops Q (u::rest) a w:=by
 subst i;obtain⟨b,l,q⟩:∃b,P.info? ty=some b∧b.size=1:=by
  cases he:P.info? ty with
  |none=>rw[he]at d;cases d
  |some b=>rw[he]at d;exact⟨b,rfl,by simpa using d⟩
 have c:=Lib.rl_storeVar_one (P:=P) ty b l q ⟨g,f,none⟩ v (cs[f]) m w (by rw[e.cell];simp[o]) (e.frozen _);refine wpList_plain j fun K n=>?_;unfold Oper.wp execOp;simp only[p,r,s,Instr.storeAt,Instr.sureAddr,Sem.run_bind,Sem.run_pure,Result.andThen_ok,c];exact n _ _ (h _ (e.jM f v) (Fr.setCell (T:=fun k=>k=g) (Fr.refl _ w) (fun _=>rfl) v))
theorem tQ:(Tryz.prog.info? 31).map (·.size)=some 1:=by kernel_rfl
theorem JV:(Tryz.prog.info? 178).map (·.size)=some 1:=by kernel_rfl
theorem cg:(Tryz.prog.info? 212).map (·.size)=some 2:=by kernel_rfl
def TB(p:Nat)(A:Option Addr)(n c:Nat)(mb:Option Nat)(k:Nat):Prop:=k=p∨mb=some k∨(Value.slice A n c).ownBlock=some k
theorem df.kh{w:World}{b g:Nat}{ds:List (List UInt8)}{C:Nat→Nat→Prop}{t:TypeId}{cs:Array Value}(h:df w b ds C)(a:aq w g t cs):b≠g:=by
 rintro rfl;obtain⟨es,clock,c,_⟩:=h;unfold aq at a;rw[c]at a;cases a
theorem df.tR{w:World}{b base n:Nat}{ds:List (List UInt8)}{C:Nat→Nat→Prop}{e:TypeId}{size:Nat}{v:Value}{xs:List Value}(h:df w b ds C)(g:w.ownsRow base e size v n xs):v.ownBlock≠some b:=by
 intro f;obtain⟨es,clock,c,_⟩:=h;obtain⟨i,a,d⟩:=cO g f;rw[c]at a;cases a;cases d
structure mC(w W:World)(p b g5:Nat)(v:Value)(ds:List (List UInt8))(n:Nat)(C:Nat→Nat→Prop)(lv idx:Nat)(T:Nat→Prop):Prop where
 fr:Fr T w W
 aD:aq W p 180 #[v, .map (some b)]
 row:W.ownsRow 0 38 32 v n (ds.flatMap aA)
 map:df W b ds C
 cG:aq W g5 212 #[.int .i64 lv, .int .i64 idx]
section
variable{w W W':World}{p b g5 n lv idx:Nat}{v:Value}{ds:List (List UInt8)}{C C':Nat→Nat→Prop}{T:Nat→Prop}
theorem mC.JH(h:mC w W p b g5 v ds n C lv idx T):Fr T w W:=h.fr
theorem mC.later(h:mC w W p b g5 v ds n C lv idx T)(a:Fr ah W W'):mC w W' p b g5 v ds n C lv idx T:=
 ⟨h.fr.trans a.bJ,h.aD.fr a (fun x=>x),aJ h.row a (fun _ _ x=>x),h.map.fr a (fun x=>x),h.cG.fr a (fun x=>x)⟩
theorem mC.EM{d a:Nat}(h:mC w W p b g5 v ds n C lv idx T)(f:Fr (fun k=>k=g5) W W')(g:aq W' g5 212 #[.int .i64 d, .int .i64 a])(l:w.heap.size≤g5):mC w W' p b g5 v ds n C d a T:=
  ⟨h.fr.au f (fun i m e=>by have c:i=g5:=e;omega),h.aD.fr f (fun e=>by have c:p=g5:=e;exact aq.pN h.aD h.cG (by decide) c),
   aJ h.row f (fun k j e=>by have c:k=g5:=e;exact bK h.row h.cG (by decide) (by rw[←c];exact j)),
   h.map.fr f (fun e=>by have c:b=g5:=e;exact h.map.kh h.cG c),g⟩
theorem mC.EN(h:mC w W p b g5 v ds n C lv idx T)(c:Fr (fun k=>k=b) W W')(f:df W' b ds C')(g:b<w.heap.size→T b):mC w W' p b g5 v ds n C' lv idx T:=
  ⟨h.fr.au c (fun i d e=>by have a:i=b:=e;rw[a]at d⊢;exact g d),h.aD.fr c (fun e=>by have a:p=b:=e;exact h.map.kh h.aD a.symm),
   aJ h.row c (fun k j e=>by have a:k=b:=e;exact h.map.tR h.row (by rw[←a];exact j)),f,h.cG.fr c (fun e=>by have a:g5=b:=e;exact h.map.kh h.cG a.symm)⟩
theorem mC.tree{A:Option Addr}{m c:Nat}(h:mC w W p b g5 (.slice A m c) ds m C lv idx T)(a:ds.length=m∧∀d∈ds,d.length=32):ew W p A m c (some b) ds C:=
 ⟨h.aD,h.row,a.1,a.2, .inl ⟨b,rfl,h.map⟩⟩
end
theorem ew.congr{w:World}{p:Nat}{A:Option Addr}{n c:Nat}{mb:Option Nat}{ds:List (List UInt8)}{C C':Nat→Nat→Prop}(h:ew w p A n c mb ds C)(a:∀l i,C l i↔C' l i):ew w p A n c mb ds C':=
 ⟨h.aD,h.row,h.len,h.each,by
  rcases h.parts with⟨b,f,j⟩|⟨d,e⟩;·exact .inl ⟨b,f,j.congr a⟩
  ·exact .inr ⟨d,fun l i g=>e l i ((a l i).2 g)⟩⟩
def mK(w:World)(p:Nat)(A:Option Addr)(n c:Nat)(mb:Option Nat)(ds:List (List UInt8))(d:List UInt8)(e:Ending)(w':World):Prop:=
 e= .returned (.int .i64 0)∧∃b f a,ew w' p b (n+1) f a (ds++[d]) (aY (n+1))∧Fr (TB p A n c mb) w w'∧∀k,TB p b (n+1) f a k→TB p A n c mb k∨w.heap.size≤k
theorem sH(p:Nat)(A:Option Addr)(n c:Nat)(mb:Option Nat)(ds:List (List UInt8))(d:List UInt8)(w:World)(aa:ew w p A n c mb ds (aY n))(c5:d.length=32)(dw:n<1048576)(dr:bU w)(c4:∀k,k=1∨k=2→¬TB p A n c mb k):
    Calls Tryz.prog 84 #[.pointer (some ⟨p,0,none⟩),aU d] w (mK w p A n c mb ds d):=by
  obtain⟨i0,cl,cm,cD,dA⟩:=info_parts rm;have db:Hid ((Tryz.prog.info? 38).map (·.size)=some (aA d).length):=by rw[aA,List.length_map,c5];exact eW
  have dv:Hid (Instr.fill (fun i=>some (i*32,32)) ((Array.range (1*32)).map (aZ.cells[· %aZ.cells.size]!)) [(0, .agg (aA d).toArray)]=some (aA d).toArray):=rX _ _ (by simp[aA,c5]) (by simp);have dc:Hid ((aA d).length=32):=by simp[Hid,aA,c5]
  have dd:Hid (∀u∈aA d,u.oneCell'=true):=fun u hu=>iP d u (by simpa[aA]using hu);have B:Hid ((ds++[d]).length=n+1∧∀x∈ds++[d],x.length=32):=by
    refine⟨by rw[aW,aa.len];rfl,fun x dz=>?_⟩;rcases List.mem_append.1 dz with h|h;· exact aa.each x h
    · rw[List.mem_singleton.1 h];exact c5
  have c9:=af aa.len;have a1:Hid (n≤1048576):=Nat.le_of_lt dw;have de:=af dr;have NS:=af c4;have cM:Hid (∀k,(Value.slice A n c).ownBlock=some k→k<w.heap.size):=fun k X=>by
    obtain⟨o,c7,_⟩:=cO aa.row X;exact(Array.getElem?_eq_some_iff.1 c7).1
  unfold aU;change Calls _ _ #[_, .agg (aA d).toArray] _ _;generalize c2:aA d=L at*;have ch:Hid (aA d=L):=c2;clear c2;have g1:Hid (¬1*i0.size>2^24):=by simp only[Hid];rw[cD];omega
  have g2:Hid (¬1*i0.size=0):=by simp only[Hid];rw[cD];omega
  have gf:Hid (Instr.fill (fun i=>some (i*i0.size,i0.size)) ((Array.range (1*i0.size)).map (aZ.cells[· %aZ.cells.size]!)) [(0, .agg L.toArray)]=some L.toArray):=by simp only[Hid];rw[cD];exact dv.out
  have dC:∀(w:World)(r:Option Nat),(binOp .eql 178 (.map r) (.map none)).run Tryz.prog w= .ok (.bool r.isNone) w:=fun w r=>run_eql_map_nil w _ _ _ r Tryz.underlying178;have dD:((n:Int)==1048576)=false:=by rw[beq_eq_false_iff_ne];omega
  have dy:n≤1048576:=by omega
  clear dr c4 c5;rcases aa.parts with⟨b,rfl,c3⟩|⟨rfl,c3⟩
  · have HB:=af aa.aD;have cT:=af c3;have bA:Hid (TB p A n c (some b) b∨w.heap.size≤b):= .inl (.inr (.inl rfl));have cH:Hid (b<w.heap.size→TB p A n c (some b) b):=fun _=> .inr (.inl rfl);obtain⟨mb,c6⟩:∃mb,mb=some b:=⟨_,rfl⟩;rw[←c6]at bA cH NS⊢;clear c3 c6;go_enter Tryz.func84,Tryz.ntmps84;go_wp2_with(refine aB rfl 38 (.tmp 1) rfl _ rfl ?_);intro w1 n1;have ce:=af (aa.aD.fr n1.fr (fun x=>x));have cQ:=af (aJ aa.row n1.fr (fun _ _ x=>x));have cJ:Hid (aq w1 w.heap.size 38 L.toArray):=n1.aD;have cI:=af n1.fr;have cR:Hid (w1.heap.size=w.heap.size+1):=n1.size;clear n1;have ck:w1.cell? ⟨p,0,none⟩=some (.slice A n c):=ce.out.cell 0;have cX:w1.cell? ⟨p,1,none⟩=some (.map (some b)):=ce.out.cell 1;have bz:=af (cT.out.fr cI.out (fun x=>x));go_upto_region 7 with fail;clear ck cX aa HB cT;obtain⟨g3,aT⟩:∃g3,g3=w.heap.size:=⟨_,rfl⟩;have cM:Hid (∀k,(Value.slice A n c).ownBlock=some k→k<g3):=by rw[aT];exact cM.out
    rw[←aT]at cJ⊢;have dg:Hid (g3=w.heap.size):=aT;have cf:=ce;have cV:=cQ;have cK:=cJ;have cU:=bz;have cn:Hid (Fr (TB p A n c mb) w w1):=cI.out.bJ;clear ce cQ cJ bz cI aT cR;generalize w1=a8 at*;have ck:a8.cell? ⟨p,0,none⟩=some (.slice A n c):=cf.out.cell 0;go_upto_region 8 with fail;clear ck;have cj:Hid ((a8.alloc (.cells #[.int .i64 0, .int .i64 n] 212)).cell? ⟨p,0,none⟩=some (.slice A n c)):=(cf.out.alloc _).cell 0;have bI:=af (cf.out.alloc (.cells #[.int .i64 0, .int .i64 n] 212));have aP:=af (aJ cV.out ((Fr.refl ah a8).alloc (.cells #[.int .i64 0, .int .i64 n] 212)) (fun _ _ x=>x));have bY:=af (cU.out.fr ((Fr.refl ah a8).alloc (.cells #[.int .i64 0, .int .i64 n] 212)) (fun x=>x));have ci:=af (cK.out.alloc (.cells #[.int .i64 0, .int .i64 n] 212));have bM:=af (cn.out.alloc (.cells #[.int .i64 0, .int .i64 n] 212));have bP:=af (aq.new a8 212 #[.int .i64 0, .int .i64 n]);have cS:Hid (w.heap.size≤a8.heap.size):=cn.out.size;clear cf cV cU cK cn;generalize a8.alloc (.cells #[.int .i64 0, .int .i64 n] 212)=bG at*;generalize a8.heap.size=g5 at*;have bg:Hid (∀k,(Value.slice A n c).ownBlock=some k→k<bG.heap.size):=fun k X=>by
      obtain⟨o,c7,_⟩:=cO aP.out X;exact(Array.getElem?_eq_some_iff.1 c7).1
    by_cases K:n+1≤c
    · obtain⟨C,rfl,cx⟩:∃C,A=some ⟨C,0,none⟩∧C<g3:=by
        rcases aP.out.2 with⟨cB,_⟩|⟨c0,cY,cur,cB,_⟩;· injection cB with _ _ a7;omega
        · injection cB with ad _ _;subst ad;exact⟨c0,rfl,cM.out c0 rfl⟩
      have NE:Hid ((p:Nat)≠C∧g3≠C∧C<bG.heap.size):=⟨fun e=>bK aP.out bI.out (by decide) (by rw[e];rfl),by omega,bg.out C rfl⟩;have cq:=af K;clear K cx;refine ay 8 (fun k=>k=C) [Is (.pointer (some ⟨p,0,none⟩)),Is (.pointer (some ⟨p,0,none⟩)),Is (.pointer (some ⟨p,0,none⟩)),Is (.pointer (some ⟨p,0,none⟩)),Is (.slice (some ⟨C,0,none⟩) n c),Is (.agg L.toArray),fun v W=>∃g,v= .slice (some ⟨g,0,none⟩) 1 1∧bG.heap.size≤g∧aq W g 38 L.toArray,Is (.slice (some ⟨C,0,none⟩) (n+1) c)] [(7,fun W=>W.ownsRow 0 38 32 (.slice (some ⟨C,0,none⟩) (n+1) c) (n+1) (ds.flatMap aA++L))] (fun W=>W.ownsRow 0 38 32 (.slice (some ⟨C,0,none⟩) n c) n (ds.flatMap aA)) (fun _ _=>false) (by kernel_rfl) (by kernel_rfl) (by kernel_rfl) (by kernel_rfl) ⟨Is.ag _,Is.ag _,Is.ag _,Is.ag _,Is.ag _,Is.ag _,fun v w' a0 _ f⟨g,h,l,b⟩=>⟨g,h,l,b.fr f (fun e=>by have y:g=C:=e;have:=NE.out.2.2;omega)⟩,Is.ag _,trivial⟩ ⟨fun _ _ _ f h=>aJ h f (fun _ _ x=>x),trivial⟩ (fun _ _ _ f h=>aJ h f (fun _ _ x=>x)) (aJ aP.out ((Fr.refl ah bG).drew) (fun _ _ x=>x)) ?_ ?_
      · refine⟨?_,?_,?_,?_,?_,?_,?_,?_,trivial⟩;all_goals intro u w' d f a s t m
        all_goals simp only[bm,bp,bw,bC,ar,Act.put,bD,bE,bF,Nat.reduceAdd,Nat.zero_add]
        · clear a s t m;refine ai ?_;go_simp;exact⟨_,rfl,al⟩
        · clear a s t m;refine ai ?_;go_simp;exact⟨_,rfl,al⟩
        · have ad:u 1=_:=a 1;clear a s t m;simp only[ad];refine ai ?_;go_simp;exact⟨_,rfl,al⟩
        · have ae:u 2=_:=a 2;clear a s t m;simp only[ae];refine ai ?_;go_simp;exact⟨_,rfl,al⟩
        · have a7:u 3=_:=a 3;clear a s t m;simp only[a7];refine ai ?_;have ca:=f.aj cj.out (fun e=>NE.out.1 e);go_simp;exact⟨_,rfl,al⟩
        · clear a s t m;refine ai ?_;exact wp_load_mid _ _ rfl g3 0 rfl L _ (dx (ci.out.fr f (fun e=>NE.out.2.1 e))) Tryz.underlying38 rfl db.out ⟨_,rfl,al⟩
        · have br:u 5=_:=a 5;clear a s t m;simp only[br];refine ai ?_;refine wp_buildSlice 31 38 1 #[(0, .tmp 38)] rfl L.toArray i0 aZ Tryz.underlying31 cl cm g1.out g2.out ?_ ?_;· simp only[List.map_toArray,List.map_cons,List.map_nil];exact gf.out
          · exact⟨_,rfl,az.alloc _,⟨w'.heap.size,rfl,f.size,aq.new _ _ _⟩,trivial⟩
        · have bq:u 4=_:=a 4;obtain⟨g6,bs,dj,cv⟩:=a 6;clear a;simp only[bq,bs];refine ai ?_;have dh:w'.ownsRow 0 38 32 (.slice (some ⟨C,0,none⟩) n c) n (ds.flatMap aA):=by rw[dn,if_neg (by rw[t 7 (by kernel_rfl)];exact Bool.false_ne_true)]at m;exact m
          clear s t m;refine qb (.tmp 37) (.tmp 39) rfl C n c _ rfl dh cq.out ⟨g6,0,none⟩ 1 L rfl dc.out (fun j u hu=>by rw[Addr.add_mid,Nat.zero_add,cv.cell,bQ];exact hu) dd.out ?_;intro a0 bt aI;exact⟨_,rfl,bt,rfl,aI⟩
      · intro u w' f a m;have aN:u 7=_:=a 7 (by omega);have bo:u 0=_:=a 0 (by omega);have bB:w'.ownsRow 0 38 32 (.slice (some ⟨C,0,none⟩) (n+1) c) (n+1) (ds.flatMap aA++L):=m;have am:=af (bI.out.fr f (fun e=>NE.out.1 e));have bi:=af (bY.out.fr f (fun e=>by have y:b=C:=e;exact bY.out.tR aP.out (by rw[y];rfl)));have bd:=af (bP.out.fr f (fun e=>by have y:g5=C:=e;exact bK aP.out bP.out (by decide) (by rw[y];rfl)));have cW:=af bB;have bN:Hid (Fr (TB p (some ⟨C,0,none⟩) n c mb) w w'):=bM.out.trans (f.mono (fun i _ e=> .inr (.inr (by have y:i=C:=e;rw[y];rfl))));have a6:Hid (∀k,(Value.slice (some ⟨C,0,none⟩) (n+1) c).ownBlock=some k→TB p (some ⟨C,0,none⟩) n c mb k∨w.heap.size≤k):=fun k X=> .inl (.inr (.inr X));clear a m bB f cj bI aP bY ci bM bP bg;obtain⟨E,J⟩:∃E,E=some (⟨C,0,none⟩:Addr):=⟨_,rfl⟩;obtain⟨G,aS⟩:∃G,G=c:=⟨_,rfl⟩;have V:Hid (w'.ownsRow 0 38 32 (.slice E (n+1) G) (n+1) (ds.flatMap aA++L)):=by rw[J,aS];exact cW.out
        have U:Hid (∀k,(Value.slice E (n+1) G).ownBlock=some k→TB p (some ⟨C,0,none⟩) n c mb k∨w.heap.size≤k):=by rw[J,aS];exact a6.out
        rw[←J,←aS]at aN;clear cW a6 J aS;simp only[bm,bp,bw,bC,ar,Act.put,bD,bE,bF,cZ,da,Nat.reduceAdd,Nat.zero_add,bo,aN];generalize w'=dl at*;go_wp2_with(refine aM rfl 31 (.tmp 42) _ rfl p 0 (.slice E (n+1) G) rfl rfl rfl tQ 180 #[.slice (some ⟨C,0,none⟩) n c, .map (some b)] #[.slice E (n+1) G, .map (some b)] am.out (show 0<2 by decide) rfl ?_);intro aL iu f10;have bH:Hid (mC w aL p b g5 (.slice E (n+1) G) (ds++[d]) (n+1) (cP n 0) 0 n (TB p (some ⟨C,0,none⟩) n c mb)):=
          ⟨bN.out.trans (f10.mono (fun i _ e=> .inl e)),iu,aJ (by rw[List.flatMap_append,List.flatMap_singleton,ch.out];exact V.out) f10 (fun k X e=>by have y:k=p:=e;exact bK V.out am.out (by decide) (by rw[←y];exact X)),
           ((bi.out.fr f10 (fun e=>by have y:b=p:=e;exact bi.out.kh am.out y)).more d (fun l i h=>by rw[c9.out];exact h.2)).congr (kQ n),bd.out.fr f10 (fun e=>by have y:g5=p:=e;exact aq.pN bd.out am.out (by decide) y)⟩;clear iu f10 am bi bd bN V;generalize aL=dm at*;go_wp2;go_loopw[43](fun _ wr=>∃lv idx:Nat,(idx+1)*2^lv=n+1∧mC w wr p b g5 (.slice E (n+1) G) (ds++[d]) (n+1) (cP n lv) lv idx (TB p (some ⟨C,0,none⟩) n c mb))(fun _ wr=>(intOf ((wr.cell? ⟨g5,1,none⟩).getD undef)).toNat);case atStart=>exact⟨0,n,by simp,bH.out⟩
        case round=>
          obtain⟨lv,idx,he,aR⟩:=hrel;have ab:=af aR;have ac:=af he;have cc:1≤2^lv:=Nat.one_le_two_pow;have bu:(idx+1)*1≤(idx+1)*2^lv:=Nat.mul_le_mul_left _ cc;have cA:idx≤1048576:=by have:=a1.out;omega
          have aH:lv≤64:=by
            rcases Nat.lt_or_ge 64 lv with h|h;· have ad:2^64≤2^lv:=Nat.pow_le_pow_right (by omega) (by omega);have ae:1*2^lv≤(idx+1)*2^lv:=Nat.mul_le_mul_right _ (by omega);have:=a1.out;omega
            · exact h
          have F:wr.cell? ⟨g5,0,none⟩=some (.int .i64 lv):=aR.cG.cell 0;have c51:wr.cell? ⟨g5,1,none⟩=some (.int .i64 idx):=aR.cG.cell 1;clear aR he bH;by_cases cb:idx%2=1
          · obtain⟨q,bv⟩:∃q,idx=2*q+1:=⟨idx/2,by omega⟩;obtain⟨k2,Y⟩:∃k2,k2=2*q:=⟨_,rfl⟩;have b0:(idx:Int).tmod 2=1:=by rw[Int.tmod_eq_emod_of_nonneg (by omega)];omega
            have a2:(idx:Int)%2=1:=by omega
            have a3:(idx:Int)-1=(k2:Int):=by omega
            have a4:(idx:Int).tdiv 2=(q:Int):=by rw[Int.tdiv_eq_ediv_of_nonneg (by omega)];omega
            have a5:(idx:Int)/2=(q:Int):=by omega
            have cs:idx/2=q:=by omega
            obtain⟨l1,Z⟩:∃l1,l1=lv+1:=⟨_,rfl⟩;have ct:(lv:Int)+1=(l1:Int):=by omega
            have cu:l1≤65:=by omega
            have Q:Hid (l1=lv+1):=Z;have cE:IntKind.i64.wrap (q:Int)=(q:Int):=IntWalk.i64_in _ (by omega);have co:Hid (idx=2*q+1∧k2=2*q):=⟨bv,Y⟩;have b5:(q+1)*2^(lv+1)=n+1:=by rw[←ac.out,show idx+1=2*(q+1)by omega,Nat.pow_succ,Nat.mul_comm (2^lv) 2,←Nat.mul_assoc,Nat.mul_comm (q+1) 2]
            have ba:=af b5;have b6:(k2+1)*2^lv≤n:=by
              have ad:(idx+1)*2^lv=idx*2^lv+2^lv:=by rw[Nat.add_mul,Nat.one_mul]
              have ae:(k2+1)=idx:=by omega
              rw[ae];have:=ac.out;omega
            have CL:Hid (∀w',Fr ah wr w'→Calls Tryz.prog 131 #[.pointer (some ⟨p,0,none⟩), .agg #[.int .i64 (lv:Int), .int .i64 (k2:Int)]] w' (aK w' (aU (aG (ds++[d]) lv k2)))):=
              fun w' f=>eG p E (n+1) G (some b) (ds++[d]) (cP n lv) lv k2 w' ((ab.out.tree B.out).ao f) (by omega) (fun h=>⟨h, .inl b6⟩) aH (by have:=a1.out;omega);have aO:Hid (∀w',Fr ah wr w'→Calls Tryz.prog 131 #[.pointer (some ⟨p,0,none⟩), .agg #[.int .i64 (lv:Int), .int .i64 (idx:Int)]] w' (aK w' (aU (aG (ds++[d]) lv idx)))):=
              fun w' f=>eG p E (n+1) G (some b) (ds++[d]) (cP n lv) lv idx w' ((ab.out.tree B.out).ao f) (by have:=ac.out;omega) (fun h=>⟨h, .inr ⟨ac.out,Nat.le_refl _⟩⟩) aH (by have:=a1.out;omega);have aV:(aG (ds++[d]) lv k2).length=32:=dJ _ B.out.2 lv k2 (by rw[B.out.1];omega);have aX:(aG (ds++[d]) lv idx).length=32:=dJ _ B.out.2 lv idx (by rw[B.out.1];have:=ac.out;omega);have a9:Hid (∀w',Fr (TB p (some ⟨C,0,none⟩) n c mb) w w'→Calls Tryz.prog 122 #[aU (aG (ds++[d]) lv k2),aU (aG (ds++[d]) lv idx)] w' (aK w' (aU (cN (aG (ds++[d]) lv k2) (aG (ds++[d]) lv idx))))):=fun w' f=>lj _ _ aV aX w' (de.out.fr f (NS.out _ (.inl rfl)) (NS.out _ (.inr rfl)));have bj:Hid (Value.agg (aA (cN (aG (ds++[d]) lv k2) (aG (ds++[d]) lv idx))).toArray=aU (aG (ds++[d]) l1 q)):=by
              have:aG (ds++[d]) l1 q=cN (aG (ds++[d]) lv k2) (aG (ds++[d]) lv idx):=by rw[Z,bv,Y];rfl
              rw[this];rfl
            have M:Hid (dB (aA (aG (ds++[d]) lv k2)).toArray):=dB.of aV;have N:Hid (dB (aA (aG (ds++[d]) lv idx)).toArray):=dB.of aX;have be:Hid ((Tryz.prog.info? 38).map (·.size)=some (aA (aG (ds++[d]) lv k2)).length):=by rw[aA,List.length_map,aV];exact eW
            have bf:Hid ((Tryz.prog.info? 38).map (·.size)=some (aA (aG (ds++[d]) lv idx)).length):=by rw[aA,List.length_map,aX];exact eW
            unfold aU at CL aO a9;simp only[show∀l:List UInt8,l.map bL=aA l from fun _=>rfl]at CL aO a9;generalize aA (cN (aG (ds++[d]) lv k2) (aG (ds++[d]) lv idx))=NV at*;generalize aA (aG (ds++[d]) lv k2)=bh at*;generalize aA (aG (ds++[d]) lv idx)=bl at*;clear bv Y Z b5 b6 aV aX bu cc;go_wp2_with fail;refine(CL.out _ az).mono ?_;rintro e cd⟨rfl,bn⟩;have ap:=af (ab.out.later bn);have bO:=af bn;clear bn F c51;go_wp2_with(refine an rfl 38 rfl aZ iJ aE rfl ?_);intro dp nb;have bk:=af nb;clear nb;generalize aC:cd.heap.size=g6 at*;have P:=af aC;clear aC;go_wp2_with(refine ak rfl 38 (.tmp 6) _ rfl g6 bh.toArray rfl rfl _ _ (by have h:=bk.out.aD;rw[P.out]at h;exact h) M.out.info M.out.zero M.out.one ?_);intro wc b1 b7;have aw:=af b1;have bb:Hid (Fr ah cd wc):=bk.out.fr.au b7 (fun i cz e=>by have y:i=g6:=e;have:=P.out;omega);have H:=af (ap.out.later bb.out);clear b1 b7 bk ap;have F:wc.cell? ⟨g5,0,none⟩=some (.int .i64 lv):=H.out.cG.cell 0;have c51:wc.cell? ⟨g5,1,none⟩=some (.int .i64 idx):=H.out.cG.cell 1;go_wp2_with fail;refine(aO.out _ (bO.out.trans bb.out)).mono ?_;rintro e wd⟨rfl,fd⟩;have av:=af (H.out.later fd);have R:=af (aw.out.fr fd (fun x=>x));clear fd F c51 H aw bO bb CL aO P;go_wp2_with(refine an rfl 38 rfl aZ iJ aE rfl ?_);intro dq ne;have Ne:=af ne;clear ne;generalize aF:wd.heap.size=g7 at*;have I:=af aF;clear aF;have cp:Hid (g6<g7):=by have:=R.out.lt;have:=I.out;simp only[Hid];omega
            go_wp2_with(refine ak rfl 38 (.tmp 7) _ rfl g7 bl.toArray rfl rfl _ _ (by have h:=Ne.out.aD;rw[I.out]at h;exact h) N.out.info N.out.zero N.out.one ?_);intro wf b2 b8;have T:=af b2;have bc:Hid (Fr ah wd wf):=Ne.out.fr.au b8 (fun i cz e=>by have y:i=g7:=e;have:=I.out;omega);have z:=af (av.out.later bc.out);have S:=af (R.out.fr bc.out (fun x=>x));clear b2 b8 Ne av R bc I;have F:wf.cell? ⟨g5,0,none⟩=some (.int .i64 lv):=z.out.cG.cell 0;have c51:wf.cell? ⟨g5,1,none⟩=some (.int .i64 idx):=z.out.cG.cell 1;have bZ:Hid ((#[Value.int .i64 (l1:Int),Value.int .i64 (q:Int)]:Array Value).all (·.oneCell')=true):=by simp[Hid,Value.oneCell']
            go_wp2_with(refine ak rfl 212 (.tmp 5) _ rfl g5 #[.int .i64 (l1:Int), .int .i64 (q:Int)] rfl rfl _ _ z.out.cG cg rfl bZ.out ?_);intro bx b4 aQ;have D:=af (z.out.EM aQ b4 cS.out);have bT:=af (S.out.fr aQ (fun e=>by have y:g6=g5:=e;exact aq.pN S.out z.out.cG (by decide) y));have bV:=af (T.out.fr aQ (fun e=>by have y:g7=g5:=e;exact aq.pN T.out z.out.cG (by decide) y));clear bZ b4 aQ z S T F c51;have bW:Hid (bx.cell? ⟨g5,0,none⟩=some (.int .i64 (l1:Int))):=D.out.cG.cell 0;have bX:Hid (bx.cell? ⟨g5,1,none⟩=some (.int .i64 q)):=D.out.cG.cell 1;have bz:Hid (bx.cell? ⟨p,1,none⟩=some (.map (some b))):=D.out.aD.cell 1;clear b0 a2 a3 a4 a5 cs ct cu cE;go_upto_region 13 with fail;refine ay 8 ah [Is (.pointer (some ⟨p,0,none⟩)),Is (.pointer (some ⟨p,0,none⟩)),Is (.pointer (some ⟨p,1,none⟩)),Is (.map (some b)),Is (dS l1 q),Is (.agg bh.toArray),Is (.agg bl.toArray),Is (.agg NV.toArray)] [] (fun _=>True) (fun _ _=>false) (by kernel_rfl) (by kernel_rfl) (by kernel_rfl) (by kernel_rfl) ⟨Is.ag _,Is.ag _,Is.ag _,Is.ag _,Is.ag _,Is.ag _,Is.ag _,Is.ag _,trivial⟩ trivial (fun _ _ _ _ h=>h) trivial ?_ ?_
            · refine⟨?_,?_,?_,?_,?_,?_,?_,?_,trivial⟩;all_goals intro u w' d f a s t m
              all_goals simp only[bm,bp,bw,bC,ar,Act.put,bD,bE,bF,Nat.reduceAdd,Nat.zero_add]
              · clear a s t m;refine ai ?_;go_simp;exact⟨_,rfl,al⟩
              · have bo:u 0=_:=a 0;clear a s t m;simp only[bo];refine ai ?_;go_simp;exact⟨_,rfl,al⟩
              · have ad:u 1=_:=a 1;clear a s t m;simp only[ad];refine ai ?_;go_simp;exact⟨_,rfl,al⟩
              · have ae:u 2=_:=a 2;clear a s t m;simp only[ae];refine ai ?_;have ca:=f.aj bz.out (fun x=>x);go_simp;exact⟨_,rfl,al⟩
              · clear a s t m;refine ai ?_;have ca:=f.aj bW.out (fun x=>x);have cw:=f.aj bX.out (fun x=>x);go_simp;exact⟨_,rfl,al⟩
              · clear a s t m;refine ai ?_;exact wp_load_mid _ _ rfl g6 0 rfl bh _ (dx (bT.out.fr f (fun x=>x))) Tryz.underlying38 rfl be.out ⟨_,rfl,al⟩
              · clear a s t m;refine ai ?_;exact wp_load_mid _ _ rfl g7 0 rfl bl _ (dx (bV.out.fr f (fun x=>x))) Tryz.underlying38 rfl bf.out ⟨_,rfl,al⟩
              · have br:u 5=_:=a 5;have bs:u 6=_:=a 6;clear a s t m;simp only[br,bs];refine ai ?_;go_simp;refine(a9.out _ (D.out.JH.trans f.bJ)).mono ?_;rintro e dk⟨rfl,f4⟩;exact⟨_,rfl,f4.bJ,rfl,trivial⟩
            · intro u w' f a m;have a7:u 3=_:=a 3 (by omega);have bq:u 4=_:=a 4 (by omega);have aN:u 7=_:=a 7 (by omega);have O:=af (D.out.later f);clear a m f bW bX bz bT bV D;simp only[bm,bp,bw,bC,ar,Act.put,bD,bE,bF,cZ,da,Nat.reduceAdd,Nat.zero_add,a7,bq,aN];refine jf rfl (.tmp 68) (.tmp 69) (.tmp 72) rfl O.out.map l1 q rfl rfl rfl (by rw[Q.out];exact nC n lv q ba.out) bj.out (cP n l1) (fun l i=>by rw[Q.out];exact mh n lv q l i ba.out) ?_;intro cF ax b9;have bS:=af (O.out.EN b9 ax cH.out);clear ax b9 O;simp only[Act.put];go_wp2;go_roundw;case rel=>exact⟨l1,q,by rw[Q.out];exact ba.out,bS.out⟩
              case measure=>
                have s:cF.cell? ⟨g5,1,none⟩=some (.int .i64 q):=bS.out.cG.cell 1;have k2:wr.cell? ⟨g5,1,none⟩=some (.int .i64 idx):=ab.out.cG.cell 1;have:=co.out;rw[s,k2];simp[intOf];omega
          · have b0:(idx:Int).tmod 2=0:=by rw[Int.tmod_eq_emod_of_nonneg (by omega)];omega
            have a2:(idx:Int)%2=0:=by omega
            have cr:Hid (∀l i,cP n lv l i↔aY (n+1) l i):=fun l i=>nz n lv idx ac.out (by omega) l i;go_wp2;go_ret;exact⟨rfl,E,G,some b,(ab.out.tree B.out).congr cr.out,ab.out.fr,fun k X=>by
              rcases X with h|h|h;· exact .inl (.inl h)
              · have e:b=k:=Option.some.inj h;rw[←e];exact bA.out
              · exact U.out k h⟩
    · have cq:=af K;clear K;refine ay 8 ah [Is (.pointer (some ⟨p,0,none⟩)),Is (.pointer (some ⟨p,0,none⟩)),Is (.pointer (some ⟨p,0,none⟩)),Is (.pointer (some ⟨p,0,none⟩)),Is (.slice A n c),Is (.agg L.toArray),fun v W=>∃g,v= .slice (some ⟨g,0,none⟩) 1 1∧bG.heap.size≤g∧aq W g 38 L.toArray,fun v W=>∃g cap,v= .slice (some ⟨g,0,none⟩) (n+1) cap∧bG.heap.size≤g∧W.ownsRow 0 38 32 v (n+1) (ds.flatMap aA++L)] [] (fun _=>True) (fun _ _=>false) (by kernel_rfl) (by kernel_rfl) (by kernel_rfl) (by kernel_rfl) ⟨Is.ag _,Is.ag _,Is.ag _,Is.ag _,Is.ag _,Is.ag _,fun v w' a0 _ f⟨g,h,l,b⟩=>⟨g,h,l,b.fr f (fun x=>x)⟩,fun v w' a0 _ f⟨g,cap,h,l,b⟩=>⟨g,cap,h,l,aJ b f (fun _ _ x=>x)⟩,trivial⟩ trivial (fun _ _ _ _ h=>h) trivial ?_ ?_
      · refine⟨?_,?_,?_,?_,?_,?_,?_,?_,trivial⟩;all_goals intro u w' d f a s t m
        all_goals simp only[bm,bp,bw,bC,ar,Act.put,bD,bE,bF,Nat.reduceAdd,Nat.zero_add]
        · clear a s t m;refine ai ?_;go_simp;exact⟨_,rfl,al⟩
        · clear a s t m;refine ai ?_;go_simp;exact⟨_,rfl,al⟩
        · have ad:u 1=_:=a 1;clear a s t m;simp only[ad];refine ai ?_;go_simp;exact⟨_,rfl,al⟩
        · have ae:u 2=_:=a 2;clear a s t m;simp only[ae];refine ai ?_;go_simp;exact⟨_,rfl,al⟩
        · have a7:u 3=_:=a 3;clear a s t m;simp only[a7];refine ai ?_;have ca:=f.aj cj.out (fun x=>x);go_simp;exact⟨_,rfl,al⟩
        · clear a s t m;refine ai ?_;exact wp_load_mid _ _ rfl g3 0 rfl L _ (dx (ci.out.fr f (fun x=>x))) Tryz.underlying38 rfl db.out ⟨_,rfl,al⟩
        · have br:u 5=_:=a 5;clear a s t m;simp only[br];refine ai ?_;refine wp_buildSlice 31 38 1 #[(0, .tmp 38)] rfl L.toArray i0 aZ Tryz.underlying31 cl cm g1.out g2.out ?_ ?_;· simp only[List.map_toArray,List.map_cons,List.map_nil];exact gf.out
          · exact⟨_,rfl,az.alloc _,⟨w'.heap.size,rfl,f.size,aq.new _ _ _⟩,trivial⟩
        · have bq:u 4=_:=a 4;obtain⟨g6,bs,dj,cv⟩:=a 6;clear a s t m;simp only[bq,bs];refine ai ?_;refine rH (.tmp 37) (.tmp 39) rfl A n c _ rfl (aJ aP.out f (fun _ _ x=>x)) cq.out a1.out ⟨g6,0,none⟩ 1 L rfl dc.out (fun j u hu=>by rw[Addr.add_mid,Nat.zero_add,cv.cell,bQ];exact hu) dd.out ?_;intro g cap a0 bt di aI;exact⟨_,rfl,bt,⟨g,cap,rfl,Nat.le_trans f.size di,aI⟩,trivial⟩
      · intro u w' f a m;obtain⟨c1,G,aN,cy,bB⟩:=a 7 (by omega);have bo:u 0=_:=a 0 (by omega);rw[aN]at bB;have am:=af (bI.out.fr f (fun x=>x));have bi:=af (bY.out.fr f (fun x=>x));have bd:=af (bP.out.fr f (fun x=>x));have bN:Hid (Fr (TB p A n c mb) w w'):=bM.out.trans f.bJ;have cC:=bM.out.size;obtain⟨E,J⟩:∃E,E=some (⟨c1,0,none⟩:Addr):=⟨_,rfl⟩;have V:Hid (w'.ownsRow 0 38 32 (.slice E (n+1) G) (n+1) (ds.flatMap aA++L)):=by rw[J];exact bB
        have U:Hid (∀k,(Value.slice E (n+1) G).ownBlock=some k→TB p A n c mb k∨w.heap.size≤k):=by
          rw[J];intro k X;have:c1=k:=by simpa[Value.ownBlock]using X
          exact .inr (by omega)
        rw[←J]at aN;clear a m bB f cj bI aP bY ci bM bP bg cC J cy;simp only[bm,bp,bw,bC,ar,Act.put,bD,bE,bF,cZ,da,Nat.reduceAdd,Nat.zero_add,bo,aN];generalize w'=dl at*;go_wp2_with(refine aM rfl 31 (.tmp 42) _ rfl p 0 (.slice E (n+1) G) rfl rfl rfl tQ 180 #[.slice A n c, .map (some b)] #[.slice E (n+1) G, .map (some b)] am.out (show 0<2 by decide) rfl ?_);intro aL iu f10;have bH:Hid (mC w aL p b g5 (.slice E (n+1) G) (ds++[d]) (n+1) (cP n 0) 0 n (TB p A n c mb)):=
          ⟨bN.out.trans (f10.mono (fun i _ e=> .inl e)),iu,aJ (by rw[List.flatMap_append,List.flatMap_singleton,ch.out];exact V.out) f10 (fun k X e=>by have y:k=p:=e;exact bK V.out am.out (by decide) (by rw[←y];exact X)),
           ((bi.out.fr f10 (fun e=>by have y:b=p:=e;exact bi.out.kh am.out y)).more d (fun l i h=>by rw[c9.out];exact h.2)).congr (kQ n),bd.out.fr f10 (fun e=>by have y:g5=p:=e;exact aq.pN bd.out am.out (by decide) y)⟩;clear iu f10 am bi bd bN V;generalize aL=dm at*;go_wp2;go_loopw[43](fun _ wr=>∃lv idx:Nat,(idx+1)*2^lv=n+1∧mC w wr p b g5 (.slice E (n+1) G) (ds++[d]) (n+1) (cP n lv) lv idx (TB p A n c mb))(fun _ wr=>(intOf ((wr.cell? ⟨g5,1,none⟩).getD undef)).toNat);case atStart=>exact⟨0,n,by simp,bH.out⟩
        case round=>
          obtain⟨lv,idx,he,aR⟩:=hrel;have ab:=af aR;have ac:=af he;have cc:1≤2^lv:=Nat.one_le_two_pow;have bu:(idx+1)*1≤(idx+1)*2^lv:=Nat.mul_le_mul_left _ cc;have cA:idx≤1048576:=by have:=a1.out;omega
          have aH:lv≤64:=by
            rcases Nat.lt_or_ge 64 lv with h|h;· have ad:2^64≤2^lv:=Nat.pow_le_pow_right (by omega) (by omega);have ae:1*2^lv≤(idx+1)*2^lv:=Nat.mul_le_mul_right _ (by omega);have:=a1.out;omega
            · exact h
          have F:wr.cell? ⟨g5,0,none⟩=some (.int .i64 lv):=aR.cG.cell 0;have c51:wr.cell? ⟨g5,1,none⟩=some (.int .i64 idx):=aR.cG.cell 1;clear aR he bH;by_cases cb:idx%2=1
          · obtain⟨q,bv⟩:∃q,idx=2*q+1:=⟨idx/2,by omega⟩;obtain⟨k2,Y⟩:∃k2,k2=2*q:=⟨_,rfl⟩;have b0:(idx:Int).tmod 2=1:=by rw[Int.tmod_eq_emod_of_nonneg (by omega)];omega
            have a2:(idx:Int)%2=1:=by omega
            have a3:(idx:Int)-1=(k2:Int):=by omega
            have a4:(idx:Int).tdiv 2=(q:Int):=by rw[Int.tdiv_eq_ediv_of_nonneg (by omega)];omega
            have a5:(idx:Int)/2=(q:Int):=by omega
            have cs:idx/2=q:=by omega
            obtain⟨l1,Z⟩:∃l1,l1=lv+1:=⟨_,rfl⟩;have ct:(lv:Int)+1=(l1:Int):=by omega
            have cu:l1≤65:=by omega
            have Q:Hid (l1=lv+1):=Z;have cE:IntKind.i64.wrap (q:Int)=(q:Int):=IntWalk.i64_in _ (by omega);have co:Hid (idx=2*q+1∧k2=2*q):=⟨bv,Y⟩;have b5:(q+1)*2^(lv+1)=n+1:=by rw[←ac.out,show idx+1=2*(q+1)by omega,Nat.pow_succ,Nat.mul_comm (2^lv) 2,←Nat.mul_assoc,Nat.mul_comm (q+1) 2]
            have ba:=af b5;have b6:(k2+1)*2^lv≤n:=by
              have ad:(idx+1)*2^lv=idx*2^lv+2^lv:=by rw[Nat.add_mul,Nat.one_mul]
              have ae:(k2+1)=idx:=by omega
              rw[ae];have:=ac.out;omega
            have CL:Hid (∀w',Fr ah wr w'→Calls Tryz.prog 131 #[.pointer (some ⟨p,0,none⟩), .agg #[.int .i64 (lv:Int), .int .i64 (k2:Int)]] w' (aK w' (aU (aG (ds++[d]) lv k2)))):=
              fun w' f=>eG p E (n+1) G (some b) (ds++[d]) (cP n lv) lv k2 w' ((ab.out.tree B.out).ao f) (by omega) (fun h=>⟨h, .inl b6⟩) aH (by have:=a1.out;omega);have aO:Hid (∀w',Fr ah wr w'→Calls Tryz.prog 131 #[.pointer (some ⟨p,0,none⟩), .agg #[.int .i64 (lv:Int), .int .i64 (idx:Int)]] w' (aK w' (aU (aG (ds++[d]) lv idx)))):=
              fun w' f=>eG p E (n+1) G (some b) (ds++[d]) (cP n lv) lv idx w' ((ab.out.tree B.out).ao f) (by have:=ac.out;omega) (fun h=>⟨h, .inr ⟨ac.out,Nat.le_refl _⟩⟩) aH (by have:=a1.out;omega);have aV:(aG (ds++[d]) lv k2).length=32:=dJ _ B.out.2 lv k2 (by rw[B.out.1];omega);have aX:(aG (ds++[d]) lv idx).length=32:=dJ _ B.out.2 lv idx (by rw[B.out.1];have:=ac.out;omega);have a9:Hid (∀w',Fr (TB p A n c mb) w w'→Calls Tryz.prog 122 #[aU (aG (ds++[d]) lv k2),aU (aG (ds++[d]) lv idx)] w' (aK w' (aU (cN (aG (ds++[d]) lv k2) (aG (ds++[d]) lv idx))))):=fun w' f=>lj _ _ aV aX w' (de.out.fr f (NS.out _ (.inl rfl)) (NS.out _ (.inr rfl)));have bj:Hid (Value.agg (aA (cN (aG (ds++[d]) lv k2) (aG (ds++[d]) lv idx))).toArray=aU (aG (ds++[d]) l1 q)):=by
              have:aG (ds++[d]) l1 q=cN (aG (ds++[d]) lv k2) (aG (ds++[d]) lv idx):=by rw[Z,bv,Y];rfl
              rw[this];rfl
            have M:Hid (dB (aA (aG (ds++[d]) lv k2)).toArray):=dB.of aV;have N:Hid (dB (aA (aG (ds++[d]) lv idx)).toArray):=dB.of aX;have be:Hid ((Tryz.prog.info? 38).map (·.size)=some (aA (aG (ds++[d]) lv k2)).length):=by rw[aA,List.length_map,aV];exact eW
            have bf:Hid ((Tryz.prog.info? 38).map (·.size)=some (aA (aG (ds++[d]) lv idx)).length):=by rw[aA,List.length_map,aX];exact eW
            unfold aU at CL aO a9;simp only[show∀l:List UInt8,l.map bL=aA l from fun _=>rfl]at CL aO a9;generalize aA (cN (aG (ds++[d]) lv k2) (aG (ds++[d]) lv idx))=NV at*;generalize aA (aG (ds++[d]) lv k2)=bh at*;generalize aA (aG (ds++[d]) lv idx)=bl at*;clear bv Y Z b5 b6 aV aX bu cc;go_wp2_with fail;refine(CL.out _ az).mono ?_;rintro e cd⟨rfl,bn⟩;have ap:=af (ab.out.later bn);have bO:=af bn;clear bn F c51;go_wp2_with(refine an rfl 38 rfl aZ iJ aE rfl ?_);intro dp nb;have bk:=af nb;clear nb;generalize aC:cd.heap.size=g6 at*;have P:=af aC;clear aC;go_wp2_with(refine ak rfl 38 (.tmp 6) _ rfl g6 bh.toArray rfl rfl _ _ (by have h:=bk.out.aD;rw[P.out]at h;exact h) M.out.info M.out.zero M.out.one ?_);intro wc b1 b7;have aw:=af b1;have bb:Hid (Fr ah cd wc):=bk.out.fr.au b7 (fun i cz e=>by have y:i=g6:=e;have:=P.out;omega);have H:=af (ap.out.later bb.out);clear b1 b7 bk ap;have F:wc.cell? ⟨g5,0,none⟩=some (.int .i64 lv):=H.out.cG.cell 0;have c51:wc.cell? ⟨g5,1,none⟩=some (.int .i64 idx):=H.out.cG.cell 1;go_wp2_with fail;refine(aO.out _ (bO.out.trans bb.out)).mono ?_;rintro e wd⟨rfl,fd⟩;have av:=af (H.out.later fd);have R:=af (aw.out.fr fd (fun x=>x));clear fd F c51 H aw bO bb CL aO P;go_wp2_with(refine an rfl 38 rfl aZ iJ aE rfl ?_);intro dq ne;have Ne:=af ne;clear ne;generalize aF:wd.heap.size=g7 at*;have I:=af aF;clear aF;have cp:Hid (g6<g7):=by have:=R.out.lt;have:=I.out;simp only[Hid];omega
            go_wp2_with(refine ak rfl 38 (.tmp 7) _ rfl g7 bl.toArray rfl rfl _ _ (by have h:=Ne.out.aD;rw[I.out]at h;exact h) N.out.info N.out.zero N.out.one ?_);intro wf b2 b8;have T:=af b2;have bc:Hid (Fr ah wd wf):=Ne.out.fr.au b8 (fun i cz e=>by have y:i=g7:=e;have:=I.out;omega);have z:=af (av.out.later bc.out);have S:=af (R.out.fr bc.out (fun x=>x));clear b2 b8 Ne av R bc I;have F:wf.cell? ⟨g5,0,none⟩=some (.int .i64 lv):=z.out.cG.cell 0;have c51:wf.cell? ⟨g5,1,none⟩=some (.int .i64 idx):=z.out.cG.cell 1;have bZ:Hid ((#[Value.int .i64 (l1:Int),Value.int .i64 (q:Int)]:Array Value).all (·.oneCell')=true):=by simp[Hid,Value.oneCell']
            go_wp2_with(refine ak rfl 212 (.tmp 5) _ rfl g5 #[.int .i64 (l1:Int), .int .i64 (q:Int)] rfl rfl _ _ z.out.cG cg rfl bZ.out ?_);intro bx b4 aQ;have D:=af (z.out.EM aQ b4 cS.out);have bT:=af (S.out.fr aQ (fun e=>by have y:g6=g5:=e;exact aq.pN S.out z.out.cG (by decide) y));have bV:=af (T.out.fr aQ (fun e=>by have y:g7=g5:=e;exact aq.pN T.out z.out.cG (by decide) y));clear bZ b4 aQ z S T F c51;have bW:Hid (bx.cell? ⟨g5,0,none⟩=some (.int .i64 (l1:Int))):=D.out.cG.cell 0;have bX:Hid (bx.cell? ⟨g5,1,none⟩=some (.int .i64 q)):=D.out.cG.cell 1;have bz:Hid (bx.cell? ⟨p,1,none⟩=some (.map (some b))):=D.out.aD.cell 1;clear b0 a2 a3 a4 a5 cs ct cu cE;go_upto_region 13 with fail;refine ay 8 ah [Is (.pointer (some ⟨p,0,none⟩)),Is (.pointer (some ⟨p,0,none⟩)),Is (.pointer (some ⟨p,1,none⟩)),Is (.map (some b)),Is (dS l1 q),Is (.agg bh.toArray),Is (.agg bl.toArray),Is (.agg NV.toArray)] [] (fun _=>True) (fun _ _=>false) (by kernel_rfl) (by kernel_rfl) (by kernel_rfl) (by kernel_rfl) ⟨Is.ag _,Is.ag _,Is.ag _,Is.ag _,Is.ag _,Is.ag _,Is.ag _,Is.ag _,trivial⟩ trivial (fun _ _ _ _ h=>h) trivial ?_ ?_
            · refine⟨?_,?_,?_,?_,?_,?_,?_,?_,trivial⟩;all_goals intro u w' d f a s t m
              all_goals simp only[bm,bp,bw,bC,ar,Act.put,bD,bE,bF,Nat.reduceAdd,Nat.zero_add]
              · clear a s t m;refine ai ?_;go_simp;exact⟨_,rfl,al⟩
              · have bo:u 0=_:=a 0;clear a s t m;simp only[bo];refine ai ?_;go_simp;exact⟨_,rfl,al⟩
              · have ad:u 1=_:=a 1;clear a s t m;simp only[ad];refine ai ?_;go_simp;exact⟨_,rfl,al⟩
              · have ae:u 2=_:=a 2;clear a s t m;simp only[ae];refine ai ?_;have ca:=f.aj bz.out (fun x=>x);go_simp;exact⟨_,rfl,al⟩
              · clear a s t m;refine ai ?_;have ca:=f.aj bW.out (fun x=>x);have cw:=f.aj bX.out (fun x=>x);go_simp;exact⟨_,rfl,al⟩
              · clear a s t m;refine ai ?_;exact wp_load_mid _ _ rfl g6 0 rfl bh _ (dx (bT.out.fr f (fun x=>x))) Tryz.underlying38 rfl be.out ⟨_,rfl,al⟩
              · clear a s t m;refine ai ?_;exact wp_load_mid _ _ rfl g7 0 rfl bl _ (dx (bV.out.fr f (fun x=>x))) Tryz.underlying38 rfl bf.out ⟨_,rfl,al⟩
              · have br:u 5=_:=a 5;have bs:u 6=_:=a 6;clear a s t m;simp only[br,bs];refine ai ?_;go_simp;refine(a9.out _ (D.out.JH.trans f.bJ)).mono ?_;rintro e dk⟨rfl,f4⟩;exact⟨_,rfl,f4.bJ,rfl,trivial⟩
            · intro u w' f a m;have a7:u 3=_:=a 3 (by omega);have bq:u 4=_:=a 4 (by omega);have aN:u 7=_:=a 7 (by omega);have O:=af (D.out.later f);clear a m f bW bX bz bT bV D;simp only[bm,bp,bw,bC,ar,Act.put,bD,bE,bF,cZ,da,Nat.reduceAdd,Nat.zero_add,a7,bq,aN];refine jf rfl (.tmp 68) (.tmp 69) (.tmp 72) rfl O.out.map l1 q rfl rfl rfl (by rw[Q.out];exact nC n lv q ba.out) bj.out (cP n l1) (fun l i=>by rw[Q.out];exact mh n lv q l i ba.out) ?_;intro cF ax b9;have bS:=af (O.out.EN b9 ax cH.out);clear ax b9 O;simp only[Act.put];go_wp2;go_roundw;case rel=>exact⟨l1,q,by rw[Q.out];exact ba.out,bS.out⟩
              case measure=>
                have s:cF.cell? ⟨g5,1,none⟩=some (.int .i64 q):=bS.out.cG.cell 1;have k2:wr.cell? ⟨g5,1,none⟩=some (.int .i64 idx):=ab.out.cG.cell 1;have:=co.out;rw[s,k2];simp[intOf];omega
          · have b0:(idx:Int).tmod 2=0:=by rw[Int.tmod_eq_emod_of_nonneg (by omega)];omega
            have a2:(idx:Int)%2=0:=by omega
            have cr:Hid (∀l i,cP n lv l i↔aY (n+1) l i):=fun l i=>nz n lv idx ac.out (by omega) l i;go_wp2;go_ret;exact⟨rfl,E,G,some b,(ab.out.tree B.out).congr cr.out,ab.out.fr,fun k X=>by
              rcases X with h|h|h;· exact .inl (.inl h)
              · have e:b=k:=Option.some.inj h;rw[←e];exact bA.out
              · exact U.out k h⟩
  · have HB:=af aa.aD;have cT:=af c3;clear c3;go_enter Tryz.func84,Tryz.ntmps84;go_wp2_with(refine aB rfl 38 (.tmp 1) rfl _ rfl ?_);intro w1 n1;have ce:=af (aa.aD.fr n1.fr (fun x=>x));have cQ:=af (aJ aa.row n1.fr (fun _ _ x=>x));have cJ:Hid (aq w1 w.heap.size 38 L.toArray):=n1.aD;have cI:=af n1.fr;have cR:Hid (w1.heap.size=w.heap.size+1):=n1.size;clear n1;have ck:w1.cell? ⟨p,0,none⟩=some (.slice A n c):=ce.out.cell 0;have cX:w1.cell? ⟨p,1,none⟩=some (.map none):=ce.out.cell 1;have PL:Hid (p<w.heap.size):=aa.aD.lt;clear aa;go_wp2_with(refine tG rfl 178 rfl ?_);intro w2 du;have cL:=af du;clear du ck cX;have c8:=af (ce.out.fr cL.out.fr (fun x=>x));have ck:w2.cell? ⟨p,0,none⟩=some (.slice A n c):=c8.out.cell 0;have cX:w2.cell? ⟨p,1,none⟩=some (.map none):=c8.out.cell 1;generalize dt:w1.heap.size=b at*;have bR:=af dt;clear dt;go_wp2_with(refine aM rfl 178 (.tmp 26) _ rfl p 1 (.map (some b)) rfl rfl rfl JV 180 #[.slice A n c, .map none] #[.slice A n c, .map (some b)] c8.out (show 1<2 by decide) rfl ?_);intro w3 b3 f3;have cf:=af b3;have cV:=af (aJ (aJ cQ.out cL.out.fr (fun _ _ x=>x)) f3 (fun k X e=>by have y:k=p:=e;exact bK cQ.out ce.out (by decide) (by rw[←y];exact X)));have cK:=af ((cJ.out.fr cL.out.fr (fun x=>x)).fr f3 (fun e=>by have y:w.heap.size=p:=e;have:=PL.out;omega));have cU:Hid (df w3 b ds (aY n)):=by
      refine⟨#[],0,?_,fun e he=>(by simp at he),fun l i h=>absurd h (cT.out l i),oI.empty _⟩;have h:=cL.out.map;rw[bR.out]at h;exact(f3.block b (Array.getElem?_eq_some_iff.1 h).1 (fun e=>by have y:b=p:=e;have:=PL.out;have:=cR.out;have:=bR.out;omega)).trans h
    have cn:Hid (Fr (TB p A n c none) w w3):=((cI.out.trans cL.out.fr).bJ).trans (f3.mono (fun i _ e=> .inl e));have bA:Hid (TB p A n c none b∨w.heap.size≤b):= .inr (by have:=cR.out;have:=bR.out;omega);have cH:Hid (b<w.heap.size→TB p A n c none b):=fun h=>by have:=cR.out;have:=bR.out;omega
    clear ck cX b3 f3 ce c8 cQ cJ HB cT cL cI;go_upto_region 7 with fail;obtain⟨g3,aT⟩:∃g3,g3=w.heap.size:=⟨_,rfl⟩;have cM:Hid (∀k,(Value.slice A n c).ownBlock=some k→k<g3):=by rw[aT];exact cM.out
    rw[←aT]at cK⊢;have dg:Hid (g3=w.heap.size):=aT;clear aT cR bR PL;generalize w3=a8 at*;have ck:a8.cell? ⟨p,0,none⟩=some (.slice A n c):=cf.out.cell 0;go_upto_region 8 with fail;clear ck;have cj:Hid ((a8.alloc (.cells #[.int .i64 0, .int .i64 n] 212)).cell? ⟨p,0,none⟩=some (.slice A n c)):=(cf.out.alloc _).cell 0;have bI:=af (cf.out.alloc (.cells #[.int .i64 0, .int .i64 n] 212));have aP:=af (aJ cV.out ((Fr.refl ah a8).alloc (.cells #[.int .i64 0, .int .i64 n] 212)) (fun _ _ x=>x));have bY:=af (cU.out.fr ((Fr.refl ah a8).alloc (.cells #[.int .i64 0, .int .i64 n] 212)) (fun x=>x));have ci:=af (cK.out.alloc (.cells #[.int .i64 0, .int .i64 n] 212));have bM:=af (cn.out.alloc (.cells #[.int .i64 0, .int .i64 n] 212));have bP:=af (aq.new a8 212 #[.int .i64 0, .int .i64 n]);have cS:Hid (w.heap.size≤a8.heap.size):=cn.out.size;clear cf cV cU cK cn;generalize a8.alloc (.cells #[.int .i64 0, .int .i64 n] 212)=bG at*;generalize a8.heap.size=g5 at*;have bg:Hid (∀k,(Value.slice A n c).ownBlock=some k→k<bG.heap.size):=fun k X=>by
      obtain⟨o,c7,_⟩:=cO aP.out X;exact(Array.getElem?_eq_some_iff.1 c7).1
    by_cases K:n+1≤c
    · obtain⟨C,rfl,cx⟩:∃C,A=some ⟨C,0,none⟩∧C<g3:=by
        rcases aP.out.2 with⟨cB,_⟩|⟨c0,cY,cur,cB,_⟩;· injection cB with _ _ a7;omega
        · injection cB with ad _ _;subst ad;exact⟨c0,rfl,cM.out c0 rfl⟩
      have NE:Hid ((p:Nat)≠C∧g3≠C∧C<bG.heap.size):=⟨fun e=>bK aP.out bI.out (by decide) (by rw[e];rfl),by omega,bg.out C rfl⟩;have cq:=af K;clear K cx;refine ay 8 (fun k=>k=C) [Is (.pointer (some ⟨p,0,none⟩)),Is (.pointer (some ⟨p,0,none⟩)),Is (.pointer (some ⟨p,0,none⟩)),Is (.pointer (some ⟨p,0,none⟩)),Is (.slice (some ⟨C,0,none⟩) n c),Is (.agg L.toArray),fun v W=>∃g,v= .slice (some ⟨g,0,none⟩) 1 1∧bG.heap.size≤g∧aq W g 38 L.toArray,Is (.slice (some ⟨C,0,none⟩) (n+1) c)] [(7,fun W=>W.ownsRow 0 38 32 (.slice (some ⟨C,0,none⟩) (n+1) c) (n+1) (ds.flatMap aA++L))] (fun W=>W.ownsRow 0 38 32 (.slice (some ⟨C,0,none⟩) n c) n (ds.flatMap aA)) (fun _ _=>false) (by kernel_rfl) (by kernel_rfl) (by kernel_rfl) (by kernel_rfl) ⟨Is.ag _,Is.ag _,Is.ag _,Is.ag _,Is.ag _,Is.ag _,fun v w' a0 _ f⟨g,h,l,b⟩=>⟨g,h,l,b.fr f (fun e=>by have y:g=C:=e;have:=NE.out.2.2;omega)⟩,Is.ag _,trivial⟩ ⟨fun _ _ _ f h=>aJ h f (fun _ _ x=>x),trivial⟩ (fun _ _ _ f h=>aJ h f (fun _ _ x=>x)) (aJ aP.out ((Fr.refl ah bG).drew) (fun _ _ x=>x)) ?_ ?_
      · refine⟨?_,?_,?_,?_,?_,?_,?_,?_,trivial⟩;all_goals intro u w' d f a s t m
        all_goals simp only[bm,bp,bw,bC,ar,Act.put,bD,bE,bF,Nat.reduceAdd,Nat.zero_add]
        · clear a s t m;refine ai ?_;go_simp;exact⟨_,rfl,al⟩
        · clear a s t m;refine ai ?_;go_simp;exact⟨_,rfl,al⟩
        · have ad:u 1=_:=a 1;clear a s t m;simp only[ad];refine ai ?_;go_simp;exact⟨_,rfl,al⟩
        · have ae:u 2=_:=a 2;clear a s t m;simp only[ae];refine ai ?_;go_simp;exact⟨_,rfl,al⟩
        · have a7:u 3=_:=a 3;clear a s t m;simp only[a7];refine ai ?_;have ca:=f.aj cj.out (fun e=>NE.out.1 e);go_simp;exact⟨_,rfl,al⟩
        · clear a s t m;refine ai ?_;exact wp_load_mid _ _ rfl g3 0 rfl L _ (dx (ci.out.fr f (fun e=>NE.out.2.1 e))) Tryz.underlying38 rfl db.out ⟨_,rfl,al⟩
        · have br:u 5=_:=a 5;clear a s t m;simp only[br];refine ai ?_;refine wp_buildSlice 31 38 1 #[(0, .tmp 38)] rfl L.toArray i0 aZ Tryz.underlying31 cl cm g1.out g2.out ?_ ?_;· simp only[List.map_toArray,List.map_cons,List.map_nil];exact gf.out
          · exact⟨_,rfl,az.alloc _,⟨w'.heap.size,rfl,f.size,aq.new _ _ _⟩,trivial⟩
        · have bq:u 4=_:=a 4;obtain⟨g6,bs,dj,cv⟩:=a 6;clear a;simp only[bq,bs];refine ai ?_;have dh:w'.ownsRow 0 38 32 (.slice (some ⟨C,0,none⟩) n c) n (ds.flatMap aA):=by rw[dn,if_neg (by rw[t 7 (by kernel_rfl)];exact Bool.false_ne_true)]at m;exact m
          clear s t m;refine qb (.tmp 37) (.tmp 39) rfl C n c _ rfl dh cq.out ⟨g6,0,none⟩ 1 L rfl dc.out (fun j u hu=>by rw[Addr.add_mid,Nat.zero_add,cv.cell,bQ];exact hu) dd.out ?_;intro a0 bt aI;exact⟨_,rfl,bt,rfl,aI⟩
      · intro u w' f a m;have aN:u 7=_:=a 7 (by omega);have bo:u 0=_:=a 0 (by omega);have bB:w'.ownsRow 0 38 32 (.slice (some ⟨C,0,none⟩) (n+1) c) (n+1) (ds.flatMap aA++L):=m;have am:=af (bI.out.fr f (fun e=>NE.out.1 e));have bi:=af (bY.out.fr f (fun e=>by have y:b=C:=e;exact bY.out.tR aP.out (by rw[y];rfl)));have bd:=af (bP.out.fr f (fun e=>by have y:g5=C:=e;exact bK aP.out bP.out (by decide) (by rw[y];rfl)));have cW:=af bB;have bN:Hid (Fr (TB p (some ⟨C,0,none⟩) n c none) w w'):=bM.out.trans (f.mono (fun i _ e=> .inr (.inr (by have y:i=C:=e;rw[y];rfl))));have a6:Hid (∀k,(Value.slice (some ⟨C,0,none⟩) (n+1) c).ownBlock=some k→TB p (some ⟨C,0,none⟩) n c none k∨w.heap.size≤k):=fun k X=> .inl (.inr (.inr X));clear a m bB f cj bI aP bY ci bM bP bg;obtain⟨E,J⟩:∃E,E=some (⟨C,0,none⟩:Addr):=⟨_,rfl⟩;obtain⟨G,aS⟩:∃G,G=c:=⟨_,rfl⟩;have V:Hid (w'.ownsRow 0 38 32 (.slice E (n+1) G) (n+1) (ds.flatMap aA++L)):=by rw[J,aS];exact cW.out
        have U:Hid (∀k,(Value.slice E (n+1) G).ownBlock=some k→TB p (some ⟨C,0,none⟩) n c none k∨w.heap.size≤k):=by rw[J,aS];exact a6.out
        rw[←J,←aS]at aN;clear cW a6 J aS;simp only[bm,bp,bw,bC,ar,Act.put,bD,bE,bF,cZ,da,Nat.reduceAdd,Nat.zero_add,bo,aN];generalize w'=dl at*;go_wp2_with(refine aM rfl 31 (.tmp 42) _ rfl p 0 (.slice E (n+1) G) rfl rfl rfl tQ 180 #[.slice (some ⟨C,0,none⟩) n c, .map (some b)] #[.slice E (n+1) G, .map (some b)] am.out (show 0<2 by decide) rfl ?_);intro aL iu f10;have bH:Hid (mC w aL p b g5 (.slice E (n+1) G) (ds++[d]) (n+1) (cP n 0) 0 n (TB p (some ⟨C,0,none⟩) n c none)):=
          ⟨bN.out.trans (f10.mono (fun i _ e=> .inl e)),iu,aJ (by rw[List.flatMap_append,List.flatMap_singleton,ch.out];exact V.out) f10 (fun k X e=>by have y:k=p:=e;exact bK V.out am.out (by decide) (by rw[←y];exact X)),
           ((bi.out.fr f10 (fun e=>by have y:b=p:=e;exact bi.out.kh am.out y)).more d (fun l i h=>by rw[c9.out];exact h.2)).congr (kQ n),bd.out.fr f10 (fun e=>by have y:g5=p:=e;exact aq.pN bd.out am.out (by decide) y)⟩;clear iu f10 am bi bd bN V;generalize aL=dm at*;go_wp2;go_loopw[43](fun _ wr=>∃lv idx:Nat,(idx+1)*2^lv=n+1∧mC w wr p b g5 (.slice E (n+1) G) (ds++[d]) (n+1) (cP n lv) lv idx (TB p (some ⟨C,0,none⟩) n c none))(fun _ wr=>(intOf ((wr.cell? ⟨g5,1,none⟩).getD undef)).toNat);case atStart=>exact⟨0,n,by simp,bH.out⟩
        case round=>
          obtain⟨lv,idx,he,aR⟩:=hrel;have ab:=af aR;have ac:=af he;have cc:1≤2^lv:=Nat.one_le_two_pow;have bu:(idx+1)*1≤(idx+1)*2^lv:=Nat.mul_le_mul_left _ cc;have cA:idx≤1048576:=by have:=a1.out;omega
          have aH:lv≤64:=by
            rcases Nat.lt_or_ge 64 lv with h|h;· have ad:2^64≤2^lv:=Nat.pow_le_pow_right (by omega) (by omega);have ae:1*2^lv≤(idx+1)*2^lv:=Nat.mul_le_mul_right _ (by omega);have:=a1.out;omega
            · exact h
          have F:wr.cell? ⟨g5,0,none⟩=some (.int .i64 lv):=aR.cG.cell 0;have c51:wr.cell? ⟨g5,1,none⟩=some (.int .i64 idx):=aR.cG.cell 1;clear aR he bH;by_cases cb:idx%2=1
          · obtain⟨q,bv⟩:∃q,idx=2*q+1:=⟨idx/2,by omega⟩;obtain⟨k2,Y⟩:∃k2,k2=2*q:=⟨_,rfl⟩;have b0:(idx:Int).tmod 2=1:=by rw[Int.tmod_eq_emod_of_nonneg (by omega)];omega
            have a2:(idx:Int)%2=1:=by omega
            have a3:(idx:Int)-1=(k2:Int):=by omega
            have a4:(idx:Int).tdiv 2=(q:Int):=by rw[Int.tdiv_eq_ediv_of_nonneg (by omega)];omega
            have a5:(idx:Int)/2=(q:Int):=by omega
            have cs:idx/2=q:=by omega
            obtain⟨l1,Z⟩:∃l1,l1=lv+1:=⟨_,rfl⟩;have ct:(lv:Int)+1=(l1:Int):=by omega
            have cu:l1≤65:=by omega
            have Q:Hid (l1=lv+1):=Z;have cE:IntKind.i64.wrap (q:Int)=(q:Int):=IntWalk.i64_in _ (by omega);have co:Hid (idx=2*q+1∧k2=2*q):=⟨bv,Y⟩;have b5:(q+1)*2^(lv+1)=n+1:=by rw[←ac.out,show idx+1=2*(q+1)by omega,Nat.pow_succ,Nat.mul_comm (2^lv) 2,←Nat.mul_assoc,Nat.mul_comm (q+1) 2]
            have ba:=af b5;have b6:(k2+1)*2^lv≤n:=by
              have ad:(idx+1)*2^lv=idx*2^lv+2^lv:=by rw[Nat.add_mul,Nat.one_mul]
              have ae:(k2+1)=idx:=by omega
              rw[ae];have:=ac.out;omega
            have CL:Hid (∀w',Fr ah wr w'→Calls Tryz.prog 131 #[.pointer (some ⟨p,0,none⟩), .agg #[.int .i64 (lv:Int), .int .i64 (k2:Int)]] w' (aK w' (aU (aG (ds++[d]) lv k2)))):=
              fun w' f=>eG p E (n+1) G (some b) (ds++[d]) (cP n lv) lv k2 w' ((ab.out.tree B.out).ao f) (by omega) (fun h=>⟨h, .inl b6⟩) aH (by have:=a1.out;omega);have aO:Hid (∀w',Fr ah wr w'→Calls Tryz.prog 131 #[.pointer (some ⟨p,0,none⟩), .agg #[.int .i64 (lv:Int), .int .i64 (idx:Int)]] w' (aK w' (aU (aG (ds++[d]) lv idx)))):=
              fun w' f=>eG p E (n+1) G (some b) (ds++[d]) (cP n lv) lv idx w' ((ab.out.tree B.out).ao f) (by have:=ac.out;omega) (fun h=>⟨h, .inr ⟨ac.out,Nat.le_refl _⟩⟩) aH (by have:=a1.out;omega);have aV:(aG (ds++[d]) lv k2).length=32:=dJ _ B.out.2 lv k2 (by rw[B.out.1];omega);have aX:(aG (ds++[d]) lv idx).length=32:=dJ _ B.out.2 lv idx (by rw[B.out.1];have:=ac.out;omega);have a9:Hid (∀w',Fr (TB p (some ⟨C,0,none⟩) n c none) w w'→Calls Tryz.prog 122 #[aU (aG (ds++[d]) lv k2),aU (aG (ds++[d]) lv idx)] w' (aK w' (aU (cN (aG (ds++[d]) lv k2) (aG (ds++[d]) lv idx))))):=fun w' f=>lj _ _ aV aX w' (de.out.fr f (NS.out _ (.inl rfl)) (NS.out _ (.inr rfl)));have bj:Hid (Value.agg (aA (cN (aG (ds++[d]) lv k2) (aG (ds++[d]) lv idx))).toArray=aU (aG (ds++[d]) l1 q)):=by
              have:aG (ds++[d]) l1 q=cN (aG (ds++[d]) lv k2) (aG (ds++[d]) lv idx):=by rw[Z,bv,Y];rfl
              rw[this];rfl
            have M:Hid (dB (aA (aG (ds++[d]) lv k2)).toArray):=dB.of aV;have N:Hid (dB (aA (aG (ds++[d]) lv idx)).toArray):=dB.of aX;have be:Hid ((Tryz.prog.info? 38).map (·.size)=some (aA (aG (ds++[d]) lv k2)).length):=by rw[aA,List.length_map,aV];exact eW
            have bf:Hid ((Tryz.prog.info? 38).map (·.size)=some (aA (aG (ds++[d]) lv idx)).length):=by rw[aA,List.length_map,aX];exact eW
            unfold aU at CL aO a9;simp only[show∀l:List UInt8,l.map bL=aA l from fun _=>rfl]at CL aO a9;generalize aA (cN (aG (ds++[d]) lv k2) (aG (ds++[d]) lv idx))=NV at*;generalize aA (aG (ds++[d]) lv k2)=bh at*;generalize aA (aG (ds++[d]) lv idx)=bl at*;clear bv Y Z b5 b6 aV aX bu cc;go_wp2_with fail;refine(CL.out _ az).mono ?_;rintro e cd⟨rfl,bn⟩;have ap:=af (ab.out.later bn);have bO:=af bn;clear bn F c51;go_wp2_with(refine an rfl 38 rfl aZ iJ aE rfl ?_);intro dp nb;have bk:=af nb;clear nb;generalize aC:cd.heap.size=g6 at*;have P:=af aC;clear aC;go_wp2_with(refine ak rfl 38 (.tmp 6) _ rfl g6 bh.toArray rfl rfl _ _ (by have h:=bk.out.aD;rw[P.out]at h;exact h) M.out.info M.out.zero M.out.one ?_);intro wc b1 b7;have aw:=af b1;have bb:Hid (Fr ah cd wc):=bk.out.fr.au b7 (fun i cz e=>by have y:i=g6:=e;have:=P.out;omega);have H:=af (ap.out.later bb.out);clear b1 b7 bk ap;have F:wc.cell? ⟨g5,0,none⟩=some (.int .i64 lv):=H.out.cG.cell 0;have c51:wc.cell? ⟨g5,1,none⟩=some (.int .i64 idx):=H.out.cG.cell 1;go_wp2_with fail;refine(aO.out _ (bO.out.trans bb.out)).mono ?_;rintro e wd⟨rfl,fd⟩;have av:=af (H.out.later fd);have R:=af (aw.out.fr fd (fun x=>x));clear fd F c51 H aw bO bb CL aO P;go_wp2_with(refine an rfl 38 rfl aZ iJ aE rfl ?_);intro dq ne;have Ne:=af ne;clear ne;generalize aF:wd.heap.size=g7 at*;have I:=af aF;clear aF;have cp:Hid (g6<g7):=by have:=R.out.lt;have:=I.out;simp only[Hid];omega
            go_wp2_with(refine ak rfl 38 (.tmp 7) _ rfl g7 bl.toArray rfl rfl _ _ (by have h:=Ne.out.aD;rw[I.out]at h;exact h) N.out.info N.out.zero N.out.one ?_);intro wf b2 b8;have T:=af b2;have bc:Hid (Fr ah wd wf):=Ne.out.fr.au b8 (fun i cz e=>by have y:i=g7:=e;have:=I.out;omega);have z:=af (av.out.later bc.out);have S:=af (R.out.fr bc.out (fun x=>x));clear b2 b8 Ne av R bc I;have F:wf.cell? ⟨g5,0,none⟩=some (.int .i64 lv):=z.out.cG.cell 0;have c51:wf.cell? ⟨g5,1,none⟩=some (.int .i64 idx):=z.out.cG.cell 1;have bZ:Hid ((#[Value.int .i64 (l1:Int),Value.int .i64 (q:Int)]:Array Value).all (·.oneCell')=true):=by simp[Hid,Value.oneCell']
            go_wp2_with(refine ak rfl 212 (.tmp 5) _ rfl g5 #[.int .i64 (l1:Int), .int .i64 (q:Int)] rfl rfl _ _ z.out.cG cg rfl bZ.out ?_);intro bx b4 aQ;have D:=af (z.out.EM aQ b4 cS.out);have bT:=af (S.out.fr aQ (fun e=>by have y:g6=g5:=e;exact aq.pN S.out z.out.cG (by decide) y));have bV:=af (T.out.fr aQ (fun e=>by have y:g7=g5:=e;exact aq.pN T.out z.out.cG (by decide) y));clear bZ b4 aQ z S T F c51;have bW:Hid (bx.cell? ⟨g5,0,none⟩=some (.int .i64 (l1:Int))):=D.out.cG.cell 0;have bX:Hid (bx.cell? ⟨g5,1,none⟩=some (.int .i64 q)):=D.out.cG.cell 1;have bz:Hid (bx.cell? ⟨p,1,none⟩=some (.map (some b))):=D.out.aD.cell 1;clear b0 a2 a3 a4 a5 cs ct cu cE;go_upto_region 13 with fail;refine ay 8 ah [Is (.pointer (some ⟨p,0,none⟩)),Is (.pointer (some ⟨p,0,none⟩)),Is (.pointer (some ⟨p,1,none⟩)),Is (.map (some b)),Is (dS l1 q),Is (.agg bh.toArray),Is (.agg bl.toArray),Is (.agg NV.toArray)] [] (fun _=>True) (fun _ _=>false) (by kernel_rfl) (by kernel_rfl) (by kernel_rfl) (by kernel_rfl) ⟨Is.ag _,Is.ag _,Is.ag _,Is.ag _,Is.ag _,Is.ag _,Is.ag _,Is.ag _,trivial⟩ trivial (fun _ _ _ _ h=>h) trivial ?_ ?_
            · refine⟨?_,?_,?_,?_,?_,?_,?_,?_,trivial⟩;all_goals intro u w' d f a s t m
              all_goals simp only[bm,bp,bw,bC,ar,Act.put,bD,bE,bF,Nat.reduceAdd,Nat.zero_add]
              · clear a s t m;refine ai ?_;go_simp;exact⟨_,rfl,al⟩
              · have bo:u 0=_:=a 0;clear a s t m;simp only[bo];refine ai ?_;go_simp;exact⟨_,rfl,al⟩
              · have ad:u 1=_:=a 1;clear a s t m;simp only[ad];refine ai ?_;go_simp;exact⟨_,rfl,al⟩
              · have ae:u 2=_:=a 2;clear a s t m;simp only[ae];refine ai ?_;have ca:=f.aj bz.out (fun x=>x);go_simp;exact⟨_,rfl,al⟩
              · clear a s t m;refine ai ?_;have ca:=f.aj bW.out (fun x=>x);have cw:=f.aj bX.out (fun x=>x);go_simp;exact⟨_,rfl,al⟩
              · clear a s t m;refine ai ?_;exact wp_load_mid _ _ rfl g6 0 rfl bh _ (dx (bT.out.fr f (fun x=>x))) Tryz.underlying38 rfl be.out ⟨_,rfl,al⟩
              · clear a s t m;refine ai ?_;exact wp_load_mid _ _ rfl g7 0 rfl bl _ (dx (bV.out.fr f (fun x=>x))) Tryz.underlying38 rfl bf.out ⟨_,rfl,al⟩
              · have br:u 5=_:=a 5;have bs:u 6=_:=a 6;clear a s t m;simp only[br,bs];refine ai ?_;go_simp;refine(a9.out _ (D.out.JH.trans f.bJ)).mono ?_;rintro e dk⟨rfl,f4⟩;exact⟨_,rfl,f4.bJ,rfl,trivial⟩
            · intro u w' f a m;have a7:u 3=_:=a 3 (by omega);have bq:u 4=_:=a 4 (by omega);have aN:u 7=_:=a 7 (by omega);have O:=af (D.out.later f);clear a m f bW bX bz bT bV D;simp only[bm,bp,bw,bC,ar,Act.put,bD,bE,bF,cZ,da,Nat.reduceAdd,Nat.zero_add,a7,bq,aN];refine jf rfl (.tmp 68) (.tmp 69) (.tmp 72) rfl O.out.map l1 q rfl rfl rfl (by rw[Q.out];exact nC n lv q ba.out) bj.out (cP n l1) (fun l i=>by rw[Q.out];exact mh n lv q l i ba.out) ?_;intro cF ax b9;have bS:=af (O.out.EN b9 ax cH.out);clear ax b9 O;simp only[Act.put];go_wp2;go_roundw;case rel=>exact⟨l1,q,by rw[Q.out];exact ba.out,bS.out⟩
              case measure=>
                have s:cF.cell? ⟨g5,1,none⟩=some (.int .i64 q):=bS.out.cG.cell 1;have k2:wr.cell? ⟨g5,1,none⟩=some (.int .i64 idx):=ab.out.cG.cell 1;have:=co.out;rw[s,k2];simp[intOf];omega
          · have b0:(idx:Int).tmod 2=0:=by rw[Int.tmod_eq_emod_of_nonneg (by omega)];omega
            have a2:(idx:Int)%2=0:=by omega
            have cr:Hid (∀l i,cP n lv l i↔aY (n+1) l i):=fun l i=>nz n lv idx ac.out (by omega) l i;go_wp2;go_ret;exact⟨rfl,E,G,some b,(ab.out.tree B.out).congr cr.out,ab.out.fr,fun k X=>by
              rcases X with h|h|h;· exact .inl (.inl h)
              · have e:b=k:=Option.some.inj h;rw[←e];exact bA.out
              · exact U.out k h⟩
    · have cq:=af K;clear K;refine ay 8 ah [Is (.pointer (some ⟨p,0,none⟩)),Is (.pointer (some ⟨p,0,none⟩)),Is (.pointer (some ⟨p,0,none⟩)),Is (.pointer (some ⟨p,0,none⟩)),Is (.slice A n c),Is (.agg L.toArray),fun v W=>∃g,v= .slice (some ⟨g,0,none⟩) 1 1∧bG.heap.size≤g∧aq W g 38 L.toArray,fun v W=>∃g cap,v= .slice (some ⟨g,0,none⟩) (n+1) cap∧bG.heap.size≤g∧W.ownsRow 0 38 32 v (n+1) (ds.flatMap aA++L)] [] (fun _=>True) (fun _ _=>false) (by kernel_rfl) (by kernel_rfl) (by kernel_rfl) (by kernel_rfl) ⟨Is.ag _,Is.ag _,Is.ag _,Is.ag _,Is.ag _,Is.ag _,fun v w' a0 _ f⟨g,h,l,b⟩=>⟨g,h,l,b.fr f (fun x=>x)⟩,fun v w' a0 _ f⟨g,cap,h,l,b⟩=>⟨g,cap,h,l,aJ b f (fun _ _ x=>x)⟩,trivial⟩ trivial (fun _ _ _ _ h=>h) trivial ?_ ?_
      · refine⟨?_,?_,?_,?_,?_,?_,?_,?_,trivial⟩;all_goals intro u w' d f a s t m
        all_goals simp only[bm,bp,bw,bC,ar,Act.put,bD,bE,bF,Nat.reduceAdd,Nat.zero_add]
        · clear a s t m;refine ai ?_;go_simp;exact⟨_,rfl,al⟩
        · clear a s t m;refine ai ?_;go_simp;exact⟨_,rfl,al⟩
        · have ad:u 1=_:=a 1;clear a s t m;simp only[ad];refine ai ?_;go_simp;exact⟨_,rfl,al⟩
        · have ae:u 2=_:=a 2;clear a s t m;simp only[ae];refine ai ?_;go_simp;exact⟨_,rfl,al⟩
        · have a7:u 3=_:=a 3;clear a s t m;simp only[a7];refine ai ?_;have ca:=f.aj cj.out (fun x=>x);go_simp;exact⟨_,rfl,al⟩
        · clear a s t m;refine ai ?_;exact wp_load_mid _ _ rfl g3 0 rfl L _ (dx (ci.out.fr f (fun x=>x))) Tryz.underlying38 rfl db.out ⟨_,rfl,al⟩
        · have br:u 5=_:=a 5;clear a s t m;simp only[br];refine ai ?_;refine wp_buildSlice 31 38 1 #[(0, .tmp 38)] rfl L.toArray i0 aZ Tryz.underlying31 cl cm g1.out g2.out ?_ ?_;· simp only[List.map_toArray,List.map_cons,List.map_nil];exact gf.out
          · exact⟨_,rfl,az.alloc _,⟨w'.heap.size,rfl,f.size,aq.new _ _ _⟩,trivial⟩
        · have bq:u 4=_:=a 4;obtain⟨g6,bs,dj,cv⟩:=a 6;clear a s t m;simp only[bq,bs];refine ai ?_;refine rH (.tmp 37) (.tmp 39) rfl A n c _ rfl (aJ aP.out f (fun _ _ x=>x)) cq.out a1.out ⟨g6,0,none⟩ 1 L rfl dc.out (fun j u hu=>by rw[Addr.add_mid,Nat.zero_add,cv.cell,bQ];exact hu) dd.out ?_;intro g cap a0 bt di aI;exact⟨_,rfl,bt,⟨g,cap,rfl,Nat.le_trans f.size di,aI⟩,trivial⟩
      · intro u w' f a m;obtain⟨c1,G,aN,cy,bB⟩:=a 7 (by omega);have bo:u 0=_:=a 0 (by omega);rw[aN]at bB;have am:=af (bI.out.fr f (fun x=>x));have bi:=af (bY.out.fr f (fun x=>x));have bd:=af (bP.out.fr f (fun x=>x));have bN:Hid (Fr (TB p A n c none) w w'):=bM.out.trans f.bJ;have cC:=bM.out.size;obtain⟨E,J⟩:∃E,E=some (⟨c1,0,none⟩:Addr):=⟨_,rfl⟩;have V:Hid (w'.ownsRow 0 38 32 (.slice E (n+1) G) (n+1) (ds.flatMap aA++L)):=by rw[J];exact bB
        have U:Hid (∀k,(Value.slice E (n+1) G).ownBlock=some k→TB p A n c none k∨w.heap.size≤k):=by
          rw[J];intro k X;have:c1=k:=by simpa[Value.ownBlock]using X
          exact .inr (by omega)
        rw[←J]at aN;clear a m bB f cj bI aP bY ci bM bP bg cC J cy;simp only[bm,bp,bw,bC,ar,Act.put,bD,bE,bF,cZ,da,Nat.reduceAdd,Nat.zero_add,bo,aN];generalize w'=dl at*;go_wp2_with(refine aM rfl 31 (.tmp 42) _ rfl p 0 (.slice E (n+1) G) rfl rfl rfl tQ 180 #[.slice A n c, .map (some b)] #[.slice E (n+1) G, .map (some b)] am.out (show 0<2 by decide) rfl ?_);intro aL iu f10;have bH:Hid (mC w aL p b g5 (.slice E (n+1) G) (ds++[d]) (n+1) (cP n 0) 0 n (TB p A n c none)):=
          ⟨bN.out.trans (f10.mono (fun i _ e=> .inl e)),iu,aJ (by rw[List.flatMap_append,List.flatMap_singleton,ch.out];exact V.out) f10 (fun k X e=>by have y:k=p:=e;exact bK V.out am.out (by decide) (by rw[←y];exact X)),
           ((bi.out.fr f10 (fun e=>by have y:b=p:=e;exact bi.out.kh am.out y)).more d (fun l i h=>by rw[c9.out];exact h.2)).congr (kQ n),bd.out.fr f10 (fun e=>by have y:g5=p:=e;exact aq.pN bd.out am.out (by decide) y)⟩;clear iu f10 am bi bd bN V;generalize aL=dm at*;go_wp2;go_loopw[43](fun _ wr=>∃lv idx:Nat,(idx+1)*2^lv=n+1∧mC w wr p b g5 (.slice E (n+1) G) (ds++[d]) (n+1) (cP n lv) lv idx (TB p A n c none))(fun _ wr=>(intOf ((wr.cell? ⟨g5,1,none⟩).getD undef)).toNat);case atStart=>exact⟨0,n,by simp,bH.out⟩
        case round=>
          obtain⟨lv,idx,he,aR⟩:=hrel;have ab:=af aR;have ac:=af he;have cc:1≤2^lv:=Nat.one_le_two_pow;have bu:(idx+1)*1≤(idx+1)*2^lv:=Nat.mul_le_mul_left _ cc;have cA:idx≤1048576:=by have:=a1.out;omega
          have aH:lv≤64:=by
            rcases Nat.lt_or_ge 64 lv with h|h;· have ad:2^64≤2^lv:=Nat.pow_le_pow_right (by omega) (by omega);have ae:1*2^lv≤(idx+1)*2^lv:=Nat.mul_le_mul_right _ (by omega);have:=a1.out;omega
            · exact h
          have F:wr.cell? ⟨g5,0,none⟩=some (.int .i64 lv):=aR.cG.cell 0;have c51:wr.cell? ⟨g5,1,none⟩=some (.int .i64 idx):=aR.cG.cell 1;clear aR he bH;by_cases cb:idx%2=1
          · obtain⟨q,bv⟩:∃q,idx=2*q+1:=⟨idx/2,by omega⟩;obtain⟨k2,Y⟩:∃k2,k2=2*q:=⟨_,rfl⟩;have b0:(idx:Int).tmod 2=1:=by rw[Int.tmod_eq_emod_of_nonneg (by omega)];omega
            have a2:(idx:Int)%2=1:=by omega
            have a3:(idx:Int)-1=(k2:Int):=by omega
            have a4:(idx:Int).tdiv 2=(q:Int):=by rw[Int.tdiv_eq_ediv_of_nonneg (by omega)];omega
            have a5:(idx:Int)/2=(q:Int):=by omega
            have cs:idx/2=q:=by omega
            obtain⟨l1,Z⟩:∃l1,l1=lv+1:=⟨_,rfl⟩;have ct:(lv:Int)+1=(l1:Int):=by omega
            have cu:l1≤65:=by omega
            have Q:Hid (l1=lv+1):=Z;have cE:IntKind.i64.wrap (q:Int)=(q:Int):=IntWalk.i64_in _ (by omega);have co:Hid (idx=2*q+1∧k2=2*q):=⟨bv,Y⟩;have b5:(q+1)*2^(lv+1)=n+1:=by rw[←ac.out,show idx+1=2*(q+1)by omega,Nat.pow_succ,Nat.mul_comm (2^lv) 2,←Nat.mul_assoc,Nat.mul_comm (q+1) 2]
            have ba:=af b5;have b6:(k2+1)*2^lv≤n:=by
              have ad:(idx+1)*2^lv=idx*2^lv+2^lv:=by rw[Nat.add_mul,Nat.one_mul]
              have ae:(k2+1)=idx:=by omega
              rw[ae];have:=ac.out;omega
            have CL:Hid (∀w',Fr ah wr w'→Calls Tryz.prog 131 #[.pointer (some ⟨p,0,none⟩), .agg #[.int .i64 (lv:Int), .int .i64 (k2:Int)]] w' (aK w' (aU (aG (ds++[d]) lv k2)))):=
              fun w' f=>eG p E (n+1) G (some b) (ds++[d]) (cP n lv) lv k2 w' ((ab.out.tree B.out).ao f) (by omega) (fun h=>⟨h, .inl b6⟩) aH (by have:=a1.out;omega);have aO:Hid (∀w',Fr ah wr w'→Calls Tryz.prog 131 #[.pointer (some ⟨p,0,none⟩), .agg #[.int .i64 (lv:Int), .int .i64 (idx:Int)]] w' (aK w' (aU (aG (ds++[d]) lv idx)))):=
              fun w' f=>eG p E (n+1) G (some b) (ds++[d]) (cP n lv) lv idx w' ((ab.out.tree B.out).ao f) (by have:=ac.out;omega) (fun h=>⟨h, .inr ⟨ac.out,Nat.le_refl _⟩⟩) aH (by have:=a1.out;omega);have aV:(aG (ds++[d]) lv k2).length=32:=dJ _ B.out.2 lv k2 (by rw[B.out.1];omega);have aX:(aG (ds++[d]) lv idx).length=32:=dJ _ B.out.2 lv idx (by rw[B.out.1];have:=ac.out;omega);have a9:Hid (∀w',Fr (TB p A n c none) w w'→Calls Tryz.prog 122 #[aU (aG (ds++[d]) lv k2),aU (aG (ds++[d]) lv idx)] w' (aK w' (aU (cN (aG (ds++[d]) lv k2) (aG (ds++[d]) lv idx))))):=fun w' f=>lj _ _ aV aX w' (de.out.fr f (NS.out _ (.inl rfl)) (NS.out _ (.inr rfl)));have bj:Hid (Value.agg (aA (cN (aG (ds++[d]) lv k2) (aG (ds++[d]) lv idx))).toArray=aU (aG (ds++[d]) l1 q)):=by
              have:aG (ds++[d]) l1 q=cN (aG (ds++[d]) lv k2) (aG (ds++[d]) lv idx):=by rw[Z,bv,Y];rfl
              rw[this];rfl
            have M:Hid (dB (aA (aG (ds++[d]) lv k2)).toArray):=dB.of aV;have N:Hid (dB (aA (aG (ds++[d]) lv idx)).toArray):=dB.of aX;have be:Hid ((Tryz.prog.info? 38).map (·.size)=some (aA (aG (ds++[d]) lv k2)).length):=by rw[aA,List.length_map,aV];exact eW
            have bf:Hid ((Tryz.prog.info? 38).map (·.size)=some (aA (aG (ds++[d]) lv idx)).length):=by rw[aA,List.length_map,aX];exact eW
            unfold aU at CL aO a9;simp only[show∀l:List UInt8,l.map bL=aA l from fun _=>rfl]at CL aO a9;generalize aA (cN (aG (ds++[d]) lv k2) (aG (ds++[d]) lv idx))=NV at*;generalize aA (aG (ds++[d]) lv k2)=bh at*;generalize aA (aG (ds++[d]) lv idx)=bl at*;clear bv Y Z b5 b6 aV aX bu cc;go_wp2_with fail;refine(CL.out _ az).mono ?_;rintro e cd⟨rfl,bn⟩;have ap:=af (ab.out.later bn);have bO:=af bn;clear bn F c51;go_wp2_with(refine an rfl 38 rfl aZ iJ aE rfl ?_);intro dp nb;have bk:=af nb;clear nb;generalize aC:cd.heap.size=g6 at*;have P:=af aC;clear aC;go_wp2_with(refine ak rfl 38 (.tmp 6) _ rfl g6 bh.toArray rfl rfl _ _ (by have h:=bk.out.aD;rw[P.out]at h;exact h) M.out.info M.out.zero M.out.one ?_);intro wc b1 b7;have aw:=af b1;have bb:Hid (Fr ah cd wc):=bk.out.fr.au b7 (fun i cz e=>by have y:i=g6:=e;have:=P.out;omega);have H:=af (ap.out.later bb.out);clear b1 b7 bk ap;have F:wc.cell? ⟨g5,0,none⟩=some (.int .i64 lv):=H.out.cG.cell 0;have c51:wc.cell? ⟨g5,1,none⟩=some (.int .i64 idx):=H.out.cG.cell 1;go_wp2_with fail;refine(aO.out _ (bO.out.trans bb.out)).mono ?_;rintro e wd⟨rfl,fd⟩;have av:=af (H.out.later fd);have R:=af (aw.out.fr fd (fun x=>x));clear fd F c51 H aw bO bb CL aO P;go_wp2_with(refine an rfl 38 rfl aZ iJ aE rfl ?_);intro dq ne;have Ne:=af ne;clear ne;generalize aF:wd.heap.size=g7 at*;have I:=af aF;clear aF;have cp:Hid (g6<g7):=by have:=R.out.lt;have:=I.out;simp only[Hid];omega
            go_wp2_with(refine ak rfl 38 (.tmp 7) _ rfl g7 bl.toArray rfl rfl _ _ (by have h:=Ne.out.aD;rw[I.out]at h;exact h) N.out.info N.out.zero N.out.one ?_);intro wf b2 b8;have T:=af b2;have bc:Hid (Fr ah wd wf):=Ne.out.fr.au b8 (fun i cz e=>by have y:i=g7:=e;have:=I.out;omega);have z:=af (av.out.later bc.out);have S:=af (R.out.fr bc.out (fun x=>x));clear b2 b8 Ne av R bc I;have F:wf.cell? ⟨g5,0,none⟩=some (.int .i64 lv):=z.out.cG.cell 0;have c51:wf.cell? ⟨g5,1,none⟩=some (.int .i64 idx):=z.out.cG.cell 1;have bZ:Hid ((#[Value.int .i64 (l1:Int),Value.int .i64 (q:Int)]:Array Value).all (·.oneCell')=true):=by simp[Hid,Value.oneCell']
            go_wp2_with(refine ak rfl 212 (.tmp 5) _ rfl g5 #[.int .i64 (l1:Int), .int .i64 (q:Int)] rfl rfl _ _ z.out.cG cg rfl bZ.out ?_);intro bx b4 aQ;have D:=af (z.out.EM aQ b4 cS.out);have bT:=af (S.out.fr aQ (fun e=>by have y:g6=g5:=e;exact aq.pN S.out z.out.cG (by decide) y));have bV:=af (T.out.fr aQ (fun e=>by have y:g7=g5:=e;exact aq.pN T.out z.out.cG (by decide) y));clear bZ b4 aQ z S T F c51;have bW:Hid (bx.cell? ⟨g5,0,none⟩=some (.int .i64 (l1:Int))):=D.out.cG.cell 0;have bX:Hid (bx.cell? ⟨g5,1,none⟩=some (.int .i64 q)):=D.out.cG.cell 1;have bz:Hid (bx.cell? ⟨p,1,none⟩=some (.map (some b))):=D.out.aD.cell 1;clear b0 a2 a3 a4 a5 cs ct cu cE;go_upto_region 13 with fail;refine ay 8 ah [Is (.pointer (some ⟨p,0,none⟩)),Is (.pointer (some ⟨p,0,none⟩)),Is (.pointer (some ⟨p,1,none⟩)),Is (.map (some b)),Is (dS l1 q),Is (.agg bh.toArray),Is (.agg bl.toArray),Is (.agg NV.toArray)] [] (fun _=>True) (fun _ _=>false) (by kernel_rfl) (by kernel_rfl) (by kernel_rfl) (by kernel_rfl) ⟨Is.ag _,Is.ag _,Is.ag _,Is.ag _,Is.ag _,Is.ag _,Is.ag _,Is.ag _,trivial⟩ trivial (fun _ _ _ _ h=>h) trivial ?_ ?_
            · refine⟨?_,?_,?_,?_,?_,?_,?_,?_,trivial⟩;all_goals intro u w' d f a s t m
              all_goals simp only[bm,bp,bw,bC,ar,Act.put,bD,bE,bF,Nat.reduceAdd,Nat.zero_add]
              · clear a s t m;refine ai ?_;go_simp;exact⟨_,rfl,al⟩
              · have bo:u 0=_:=a 0;clear a s t m;simp only[bo];refine ai ?_;go_simp;exact⟨_,rfl,al⟩
              · have ad:u 1=_:=a 1;clear a s t m;simp only[ad];refine ai ?_;go_simp;exact⟨_,rfl,al⟩
              · have ae:u 2=_:=a 2;clear a s t m;simp only[ae];refine ai ?_;have ca:=f.aj bz.out (fun x=>x);go_simp;exact⟨_,rfl,al⟩
              · clear a s t m;refine ai ?_;have ca:=f.aj bW.out (fun x=>x);have cw:=f.aj bX.out (fun x=>x);go_simp;exact⟨_,rfl,al⟩
              · clear a s t m;refine ai ?_;exact wp_load_mid _ _ rfl g6 0 rfl bh _ (dx (bT.out.fr f (fun x=>x))) Tryz.underlying38 rfl be.out ⟨_,rfl,al⟩
              · clear a s t m;refine ai ?_;exact wp_load_mid _ _ rfl g7 0 rfl bl _ (dx (bV.out.fr f (fun x=>x))) Tryz.underlying38 rfl bf.out ⟨_,rfl,al⟩
              · have br:u 5=_:=a 5;have bs:u 6=_:=a 6;clear a s t m;simp only[br,bs];refine ai ?_;go_simp;refine(a9.out _ (D.out.JH.trans f.bJ)).mono ?_;rintro e dk⟨rfl,f4⟩;exact⟨_,rfl,f4.bJ,rfl,trivial⟩
            · intro u w' f a m;have a7:u 3=_:=a 3 (by omega);have bq:u 4=_:=a 4 (by omega);have aN:u 7=_:=a 7 (by omega);have O:=af (D.out.later f);clear a m f bW bX bz bT bV D;simp only[bm,bp,bw,bC,ar,Act.put,bD,bE,bF,cZ,da,Nat.reduceAdd,Nat.zero_add,a7,bq,aN];refine jf rfl (.tmp 68) (.tmp 69) (.tmp 72) rfl O.out.map l1 q rfl rfl rfl (by rw[Q.out];exact nC n lv q ba.out) bj.out (cP n l1) (fun l i=>by rw[Q.out];exact mh n lv q l i ba.out) ?_;intro cF ax b9;have bS:=af (O.out.EN b9 ax cH.out);clear ax b9 O;simp only[Act.put];go_wp2;go_roundw;case rel=>exact⟨l1,q,by rw[Q.out];exact ba.out,bS.out⟩
              case measure=>
                have s:cF.cell? ⟨g5,1,none⟩=some (.int .i64 q):=bS.out.cG.cell 1;have k2:wr.cell? ⟨g5,1,none⟩=some (.int .i64 idx):=ab.out.cG.cell 1;have:=co.out;rw[s,k2];simp[intOf];omega
          · have b0:(idx:Int).tmod 2=0:=by rw[Int.tmod_eq_emod_of_nonneg (by omega)];omega
            have a2:(idx:Int)%2=0:=by omega
            have cr:Hid (∀l i,cP n lv l i↔aY (n+1) l i):=fun l i=>nz n lv idx ac.out (by omega) l i;go_wp2;go_ret;exact⟨rfl,E,G,some b,(ab.out.tree B.out).congr cr.out,ab.out.fr,fun k X=>by
              rcases X with h|h|h;· exact .inl (.inl h)
              · have e:b=k:=Option.some.inj h;rw[←e];exact bA.out
              · exact U.out k h⟩
end Go.Proofs.YtphjagkehiklkaaGreatDoor.Lt
