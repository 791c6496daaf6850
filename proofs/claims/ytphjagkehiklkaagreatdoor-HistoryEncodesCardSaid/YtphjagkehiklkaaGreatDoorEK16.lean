/- Texts. -/
import Derived.Test.YtphjagkehiklkaaGreatDoorEK15
set_option linter.unusedVariables false
set_option linter.unusedSimpArgs false
set_option maxRecDepth 100000
set_option maxHeartbeats 4000000
namespace Go.Proofs.YtphjagkehiklkaaGreatDoor.Lt
open Proofs.Tryz Go.RowKit
theorem aZ{P:Program}{ops:Array Oper}{rest:List Oper}{u:Oper}{a:Act}{w:World}{Q:Exit->Act->World->Prop}(j:u.guard=none)(ty:TypeId)(x y:Operand)(p:u.op= .store ty x y)
  (g f:Nat)(v:Value)(r:a.eval x= .pointer (some ⟨g,f,none⟩))(s:a.eval y=v)(m:v.oneCell'=true)(d:(P.info? ty).map (·.size)=some 1)
  (t:TypeId)(cs cs':Array Value)(e:aq w g t cs)(o:f<cs.size)(i:cs.setIfInBounds f v=cs')
  (h:∀w',aq w' g t cs'->Fr (λk=>k=g) w w'->wpList P ops Q rest (a.put u.dst undef) w'):wpList P ops Q (u::rest) a w:=by
 subst i;obtain⟨b,l,q⟩:∃b,P.info? ty=some b/\b.size=1:=by
  cases he:P.info? ty with
  |none=>rw[he]at d;cases d
  |some b=>rw[he]at d;exact⟨b,rfl,by simpa using d⟩
 have c:=Lib.rl_storeVar_one (P:=P) ty b l q ⟨g,f,none⟩ v (cs[f]) m w (by rw[e.cell];simp[o]) (e.frozen _);refine wpList_plain j λK n=>?_;unfold Oper.wp execOp;simp only[p,r,s,Instr.storeAt,Instr.sureAddr,Sem.run_bind,Sem.run_pure,Result.andThen_ok,c];exact n _ _ (h _ (e.kq f v) (Fr.setCell (T:=λk=>k=g) (Fr.refl _ w) (λ_=>rfl) v))
theorem uK:(prog.info? 31).map (·.size)=some 1:=by kernel_rfl
theorem LQ:(prog.info? 178).map (·.size)=some 1:=by kernel_rfl
theorem cy:(prog.info? 212).map (·.size)=some 2:=by kernel_rfl
def TB(p:Nat)(A:Option Addr)(n c:Nat)(mb:Option Nat)(k:Nat):Prop:=k=p\/mb=some k\/(Value.slice A n c).ownBlock=some k
theorem dY.oA{w:World}{b g:Nat}{ds:List (List UInt8)}{C:Nat->Nat->Prop}{t:TypeId}{cs:Array Value}(h:dY w b ds C)(a:aq w g t cs):b≠g:=by
 rintro rfl;obtain⟨es,clock,c,_⟩:=h;unfold aq at a;rw[c]at a;cases a
theorem dY.zK{w:World}{b base n:Nat}{ds:List (List UInt8)}{C:Nat->Nat->Prop}{e:TypeId}{size:Nat}{v:Value}{xs:List Value}(h:dY w b ds C)(g:w.ownsRow base e size v n xs):v.ownBlock≠some b:=by
 intro f;obtain⟨es,clock,c,_⟩:=h;obtain⟨i,a,d⟩:=cT g f;rw[c]at a;cases a;cases d
structure ni(w W:World)(p b g5:Nat)(v:Value)(ds:List (List UInt8))(n:Nat)(C:Nat->Nat->Prop)(lv idx:Nat)(T:Nat->Prop):Prop where
 fr:Fr T w W
 aF:aq W p 180 #[v, .map (some b)]
 row:W.ownsRow 0 38 32 v n (ds.flatMap aC)
 map:dY W b ds C
 cP:aq W g5 212 #[.int .i64 lv, .int .i64 idx]
section
variable{w W W':World}{p b g5 n lv idx:Nat}{v:Value}{ds:List (List UInt8)}{C C':Nat->Nat->Prop}{T:Nat->Prop}
theorem ni.Lv(h:ni w W p b g5 v ds n C lv idx T):Fr T w W:=h.fr
theorem ni.later(h:ni w W p b g5 v ds n C lv idx T)(a:Fr Nothing W W'):ni w W' p b g5 v ds n C lv idx T:=
 ⟨h.fr.trans a.bR,h.aF.fr a id,aP h.row a (λ_ _ x=>x),h.map.fr a id,h.cP.fr a id⟩
theorem ni.Gu{d a:Nat}(h:ni w W p b g5 v ds n C lv idx T)(f:Fr (λk=>k=g5) W W')(g:aq W' g5 212 #[.int .i64 d, .int .i64 a])(l:w.heap.size<=g5):ni w W' p b g5 v ds n C d a T:=
  ⟨h.fr.aw f (λi m e=>by have c:i=g5:=e;omega),h.aF.fr f (λe=>by have c:p=g5:=e;exact aq.qW h.aF h.cP (by decide) c),
   aP h.row f (λk j e=>by have c:k=g5:=e;exact bO h.row h.cP (by decide) (by rw[<-c];exact j)),
   h.map.fr f (λe=>by have c:b=g5:=e;exact h.map.oA h.cP c),g⟩
theorem ni.Gv(h:ni w W p b g5 v ds n C lv idx T)(c:Fr (λk=>k=b) W W')(f:dY W' b ds C')(g:b<w.heap.size->T b):ni w W' p b g5 v ds n C' lv idx T:=
  ⟨h.fr.aw c (λi d e=>by have a:i=b:=e;rw[a]at d⊢;exact g d),h.aF.fr c (λe=>by have a:p=b:=e;exact h.map.oA h.aF a.symm),
   aP h.row c (λk j e=>by have a:k=b:=e;exact h.map.zK h.row (by rw[<-a];exact j)),f,h.cP.fr c (λe=>by have a:g5=b:=e;exact h.map.oA h.cP a.symm)⟩
theorem ni.tree{A:Option Addr}{m c:Nat}(h:ni w W p b g5 (.slice A m c) ds m C lv idx T)(a:ds.length=m/\∀d∈ds,d.length=32):eU W p A m c (some b) ds C:=
 ⟨h.aF,h.row,a.1,a.2, .inl ⟨b,rfl,h.map⟩⟩
end
theorem eU.congr{w:World}{p:Nat}{A:Option Addr}{n c:Nat}{mb:Option Nat}{ds:List (List UInt8)}{C C':Nat->Nat->Prop}(h:eU w p A n c mb ds C)(a:∀l i,C l i↔C' l i):eU w p A n c mb ds C':=
 ⟨h.aF,h.row,h.len,h.each,by
  rcases h.parts with⟨b,f,j⟩|⟨d,e⟩;·exact .inl ⟨b,f,j.congr a⟩
  ·exact .inr ⟨d,λl i g=>e l i ((a l i).2 g)⟩⟩
def nH(w:World)(p:Nat)(A:Option Addr)(n c:Nat)(mb:Option Nat)(ds:List (List UInt8))(d:List UInt8)(e:Ending)(w':World):Prop:=
 e= .returned (.int .i64 0)/\∃b f a,eU w' p b (n+1) f a (ds++[d]) (bN (n+1))/\Fr (TB p A n c mb) w w'/\∀k,TB p b (n+1) f a k->TB p A n c mb k\/w.heap.size<=k
theorem tE(p:Nat)(A:Option Addr)(n c:Nat)(mb:Option Nat)(ds:List (List UInt8))(d:List UInt8)(w:World)(aa:eU w p A n c mb ds (bN n))(c3:d.length=32)(dn:n<1048576)(dj:bU w)(c2:∀k,k=1\/k=2->¬TB p A n c mb k):
    Calls prog 84 #[.pointer (some ⟨p,0,none⟩),bj d] w (nH w p A n c mb ds d):=by
  obtain⟨i0,cj,ck,cC,dr⟩:=info_parts uJ;have c7:Hid ((prog.info? 38).map (·.size)=some (aC d).length):=by rw[aC,List.length_map,c3];exact fC
  have dm:Hid (Instr.fill (λi=>some (i*32,32)) ((Array.range (1*32)).map (bp.cells[· %bp.cells.size]!)) [(0, .agg (aC d).toArray)]=some (aC d).toArray):=sN _ _ (by simp[aC,c3]) (by simp);have c8:Hid ((aC d).length=32):=by simp[Hid,aC,c3]
  have c9:Hid (∀u∈aC d,u.oneCell'=true):=λu hu=>j6 d u (by simpa[aC]using hu);have B:Hid ((ds++[d]).length=n+1/\∀x∈ds++[d],x.length=32):=by
    refine⟨by rw[aT,aa.len];rfl,λx dq=>?_⟩;rcases List.mem_append.1 dq with h|h;· exact aa.each x h
    · rw[List.mem_singleton.1 h];exact c3
  have DL:=af aa.len;have aW:Hid (n<=1048576):=Nat.le_of_lt dn;have da:=af dj;have NS:=af c2;have cK:Hid (∀k,(Value.slice A n c).ownBlock=some k->k<w.heap.size):=λk X=>by
    obtain⟨o,c5,_⟩:=cT aa.row X;exact(Array.getElem?_eq_some_iff.1 c5).1
  unfold bj;change Calls _ _ #[_, .agg (aC d).toArray] _ _;generalize c0:aC d=L at*;have cf:Hid (aC d=L):=c0;clear c0;have g1:Hid (¬1*i0.size>2^24):=by simp only[Hid];rw[cC];omega
  have g2:Hid (¬1*i0.size=0):=by simp only[Hid];rw[cC];omega
  have gf:Hid (Instr.fill (λi=>some (i*i0.size,i0.size)) ((Array.range (1*i0.size)).map (bp.cells[· %bp.cells.size]!)) [(0, .agg L.toArray)]=some L.toArray):=by simp only[Hid];rw[cC];exact dm.out
  have dv:∀(w:World)(r:Option Nat),(binOp .eql 178 (.map r) (.map none)).run prog w= .ok (.bool r.isNone) w:=λw r=>run_eql_map_nil w _ _ _ r underlying178;have dw:((n:Int)==1048576)=false:=by rw[beq_eq_false_iff_ne];omega
  have dp:n<=1048576:=by omega
  clear dj c2 c3;rcases aa.parts with⟨b,rfl,c1⟩|⟨rfl,c1⟩
  · have HB:=af aa.aF;have cO:=af c1;have bu:Hid (TB p A n c (some b) b\/w.heap.size<=b):= .inl (.inr (.inl rfl));have cF:Hid (b<w.heap.size->TB p A n c (some b) b):=λ_=> .inr (.inl rfl);obtain⟨mb,c4⟩:∃mb,mb=some b:=⟨_,rfl⟩;rw[<-c4]at bu cF NS⊢;clear c1 c4;go_enter func84,ntmps84;go_wp2_with(refine aD rfl 38 (.tmp 1) rfl _ rfl ?_);intro w1 n1;have cd:=af (aa.aF.fr n1.fr id);have cL:=af (aP aa.row n1.fr (λ_ _ x=>x));have cH:Hid (aq w1 w.heap.size 38 L.toArray):=n1.aF;have cG:=af n1.fr;have cM:Hid (w1.heap.size=w.heap.size+1):=n1.size;clear n1;have ci:w1.cell? ⟨p,0,none⟩=some (.slice A n c):=cd.out.cell 0;have cW:w1.cell? ⟨p,1,none⟩=some (.map (some b)):=cd.out.cell 1;have bt:=af (cO.out.fr cG.out id);go_upto_region 7 with fail;clear ci cW aa HB cO;obtain⟨g3,aR⟩:∃g3,g3=w.heap.size:=⟨_,rfl⟩;have cK:Hid (∀k,(Value.slice A n c).ownBlock=some k->k<g3):=by rw[aR];exact cK.out
    rw[<-aR]at cH⊢;have db:Hid (g3=w.heap.size):=aR;have ce:=cd;have cR:=cL;have cI:=cH;have cQ:=bt;have cl:Hid (Fr (TB p A n c mb) w w1):=cG.out.bR;clear cd cL cH bt cG aR cM;generalize w1=a0 at*;have ci:a0.cell? ⟨p,0,none⟩=some (.slice A n c):=ce.out.cell 0;go_upto_region 8 with fail;clear ci;have ch:Hid ((a0.alloc (.cells #[.int .i64 0, .int .i64 n] 212)).cell? ⟨p,0,none⟩=some (.slice A n c)):=(ce.out.alloc _).cell 0;have bz:=af (ce.out.alloc (.cells #[.int .i64 0, .int .i64 n] 212));have aL:=af (aP cR.out ((Fr.refl Nothing a0).alloc (.cells #[.int .i64 0, .int .i64 n] 212)) (λ_ _ x=>x));have bX:=af (cQ.out.fr ((Fr.refl Nothing a0).alloc (.cells #[.int .i64 0, .int .i64 n] 212)) id);have cg:=af (cI.out.alloc (.cells #[.int .i64 0, .int .i64 n] 212));have bA:=af (cl.out.alloc (.cells #[.int .i64 0, .int .i64 n] 212));have bL:=af (aq.new a0 212 #[.int .i64 0, .int .i64 n]);have cN:Hid (w.heap.size<=a0.heap.size):=cl.out.size;clear ce cR cQ cI cl;generalize a0.alloc (.cells #[.int .i64 0, .int .i64 n] 212)=bw at*;generalize a0.heap.size=g5 at*;have bc:Hid (∀k,(Value.slice A n c).ownBlock=some k->k<bw.heap.size):=λk X=>by
      obtain⟨o,c5,_⟩:=cT aL.out X;exact(Array.getElem?_eq_some_iff.1 c5).1
    by_cases K:n+1<=c
    · obtain⟨C,rfl,cv⟩:∃C,A=some ⟨C,0,none⟩/\C<g3:=by
        rcases aL.out.2 with⟨cA,_⟩|⟨cY,cX,cur,cA,_⟩;· injection cA with _ _ aY;omega
        · injection cA with ad _ _;subst ad;exact⟨cY,rfl,cK.out cY rfl⟩
      have NE:Hid ((p:Nat)≠C/\g3≠C/\C<bw.heap.size):=⟨λe=>bO aL.out bz.out (by decide) (by rw[e];rfl),by omega,bc.out C rfl⟩;have co:=af K;clear K cv;refine ay 8 (λk=>k=C) [Is (.pointer (some ⟨p,0,none⟩)),Is (.pointer (some ⟨p,0,none⟩)),Is (.pointer (some ⟨p,0,none⟩)),Is (.pointer (some ⟨p,0,none⟩)),Is (.slice (some ⟨C,0,none⟩) n c),Is (.agg L.toArray),λv W=>∃g,v= .slice (some ⟨g,0,none⟩) 1 1/\bw.heap.size<=g/\aq W g 38 L.toArray,Is (.slice (some ⟨C,0,none⟩) (n+1) c)] [(7,λW=>W.ownsRow 0 38 32 (.slice (some ⟨C,0,none⟩) (n+1) c) (n+1) (ds.flatMap aC++L))] (λW=>W.ownsRow 0 38 32 (.slice (some ⟨C,0,none⟩) n c) n (ds.flatMap aC)) (λ_ _=>false) (by kernel_rfl) (by kernel_rfl) (by kernel_rfl) (by kernel_rfl) ⟨Is.ag _,Is.ag _,Is.ag _,Is.ag _,Is.ag _,Is.ag _,λv w' aV _ f⟨g,h,l,b⟩=>⟨g,h,l,b.fr f (λe=>by have y:g=C:=e;have:=NE.out.2.2;omega)⟩,Is.ag _,trivial⟩ ⟨λ_ _ _ f h=>aP h f (λ_ _ x=>x),trivial⟩ (λ_ _ _ f h=>aP h f (λ_ _ x=>x)) (aP aL.out ((Fr.refl Nothing bw).drew) (λ_ _ x=>x)) ?_ ?_
      · refine⟨?_,?_,?_,?_,?_,?_,?_,?_,trivial⟩;all_goals intro u w' d f a s t m
        all_goals simp only[bC,bD,bE,bF,ar,Act.put,bG,bH,bI,Nat.reduceAdd,Nat.zero_add]
        · clear a s t m;refine aj ?_;go_simp;exact⟨_,rfl,al⟩
        · clear a s t m;refine aj ?_;go_simp;exact⟨_,rfl,al⟩
        · have ad:u 1=_:=a 1;clear a s t m;simp only[ad];refine aj ?_;go_simp;exact⟨_,rfl,al⟩
        · have ae:u 2=_:=a 2;clear a s t m;simp only[ae];refine aj ?_;go_simp;exact⟨_,rfl,al⟩
        · have aY:u 3=_:=a 3;clear a s t m;simp only[aY];refine aj ?_;have b9:=f.ak ch.out (λe=>NE.out.1 e);go_simp;exact⟨_,rfl,al⟩
        · clear a s t m;refine aj ?_;exact wp_load_mid _ _ rfl g3 0 rfl L _ (dE (cg.out.fr f (λe=>NE.out.2.1 e))) underlying38 rfl c7.out ⟨_,rfl,al⟩
        · have bm:u 5=_:=a 5;clear a s t m;simp only[bm];refine aj ?_;refine wp_buildSlice 31 38 1 #[(0, .tmp 38)] rfl L.toArray i0 bp underlying31 cj ck g1.out g2.out ?_ ?_;· simp only[List.map_toArray,List.map_cons,List.map_nil];exact gf.out
          · exact⟨_,rfl,aA.alloc _,⟨w'.heap.size,rfl,f.size,aq.new _ _ _⟩,trivial⟩
        · have bl:u 4=_:=a 4;obtain⟨g6,bn,dd,ct⟩:=a 6;clear a;simp only[bl,bn];refine aj ?_;have hN:w'.ownsRow 0 38 32 (.slice (some ⟨C,0,none⟩) n c) n (ds.flatMap aC):=by rw[dx,if_neg (by rw[t 7 (by kernel_rfl)];exact Bool.false_ne_true)]at m;exact m
          clear s t m;refine qG (.tmp 37) (.tmp 39) rfl C n c _ rfl hN co.out ⟨g6,0,none⟩ 1 L rfl c8.out (λj u hu=>by rw[Addr.add_mid,Nat.zero_add,ct.cell,bP];exact hu) c9.out ?_;intro aV bo aE;exact⟨_,rfl,bo,rfl,aE⟩
      · intro u w' f a m;have aI:u 7=_:=a 7 (by omega);have bk:u 0=_:=a 0 (by omega);have bv:w'.ownsRow 0 38 32 (.slice (some ⟨C,0,none⟩) (n+1) c) (n+1) (ds.flatMap aC++L):=m;have ah:=af (bz.out.fr f (λe=>NE.out.1 e));have be:=af (bX.out.fr f (λe=>by have y:b=C:=e;exact bX.out.zK aL.out (by rw[y];rfl)));have a9:=af (bL.out.fr f (λe=>by have y:g5=C:=e;exact bO aL.out bL.out (by decide) (by rw[y];rfl)));have cV:=af bv;have bB:Hid (Fr (TB p (some ⟨C,0,none⟩) n c mb) w w'):=bA.out.trans (f.mono (λi _ e=> .inr (.inr (by have y:i=C:=e;rw[y];rfl))));have aX:Hid (∀k,(Value.slice (some ⟨C,0,none⟩) (n+1) c).ownBlock=some k->TB p (some ⟨C,0,none⟩) n c mb k\/w.heap.size<=k):=λk X=> .inl (.inr (.inr X));clear a m bv f ch bz aL bX cg bA bL bc;obtain⟨E,J⟩:∃E,E=some (⟨C,0,none⟩:Addr):=⟨_,rfl⟩;obtain⟨G,aQ⟩:∃G,G=c:=⟨_,rfl⟩;have V:Hid (w'.ownsRow 0 38 32 (.slice E (n+1) G) (n+1) (ds.flatMap aC++L)):=by rw[J,aQ];exact cV.out
        have U:Hid (∀k,(Value.slice E (n+1) G).ownBlock=some k->TB p (some ⟨C,0,none⟩) n c mb k\/w.heap.size<=k):=by rw[J,aQ];exact aX.out
        rw[<-J,<-aQ]at aI;clear cV aX J aQ;simp only[bC,bD,bE,bF,ar,Act.put,bG,bH,bI,dt,du,Nat.reduceAdd,Nat.zero_add,bk,aI];generalize w'=df at*;go_wp2_with(refine aZ rfl 31 (.tmp 42) _ rfl p 0 (.slice E (n+1) G) rfl rfl rfl uK 180 #[.slice (some ⟨C,0,none⟩) n c, .map (some b)] #[.slice E (n+1) G, .map (some b)] ah.out (show 0<2 by decide) rfl ?_);intro aG iR f10;have bx:Hid (ni w aG p b g5 (.slice E (n+1) G) (ds++[d]) (n+1) (cU n 0) 0 n (TB p (some ⟨C,0,none⟩) n c mb)):=
          ⟨bB.out.trans (f10.mono (λi _ e=> .inl e)),iR,aP (by rw[List.flatMap_append,List.flatMap_singleton,cf.out];exact V.out) f10 (λk X e=>by have y:k=p:=e;exact bO V.out ah.out (by decide) (by rw[<-y];exact X)),
           ((be.out.fr f10 (λe=>by have y:b=p:=e;exact be.out.oA ah.out y)).more d (λl i h=>by rw[DL.out];exact h.2)).congr (lM n),a9.out.fr f10 (λe=>by have y:g5=p:=e;exact aq.qW a9.out ah.out (by decide) y)⟩;clear iR f10 ah be a9 bB V;generalize aG=dg at*;go_wp2;go_loopw[43](λ_ wr=>∃lv idx:Nat,(idx+1)*2^lv=n+1/\ni w wr p b g5 (.slice E (n+1) G) (ds++[d]) (n+1) (cU n lv) lv idx (TB p (some ⟨C,0,none⟩) n c mb))(λ_ wr=>(intOf ((wr.cell? ⟨g5,1,none⟩).getD undef)).toNat);case atStart=>exact⟨0,n,by simp,bx.out⟩
        case round=>
          obtain⟨lv,idx,he,aO⟩:=hrel;have ab:=af aO;have ac:=af he;have cb:1<=2^lv:=Nat.one_le_two_pow;have bq:(idx+1)*1<=(idx+1)*2^lv:=Nat.mul_le_mul_left _ cb;have cz:idx<=1048576:=by have:=aW.out;omega
          have aB:lv<=64:=by
            rcases Nat.lt_or_ge 64 lv with h|h;· have ad:2^64<=2^lv:=Nat.pow_le_pow_right (by omega) (by omega);have ae:1*2^lv<=(idx+1)*2^lv:=Nat.mul_le_mul_right _ (by omega);have:=aW.out;omega
            · exact h
          have F:wr.cell? ⟨g5,0,none⟩=some (.int .i64 lv):=aO.cP.cell 0;have c51:wr.cell? ⟨g5,1,none⟩=some (.int .i64 idx):=aO.cP.cell 1;clear aO he bx;by_cases ca:idx%2=1
          · obtain⟨q,br⟩:∃q,idx=2*q+1:=⟨idx/2,by omega⟩;obtain⟨k2,Y⟩:∃k2,k2=2*q:=⟨_,rfl⟩;have bZ:(idx:Int).tmod 2=1:=by rw[Int.tmod_eq_emod_of_nonneg (by omega)];omega
            have a2:(idx:Int)%2=1:=by omega
            have a3:(idx:Int)-1=(k2:Int):=by omega
            have a4:(idx:Int).tdiv 2=(q:Int):=by rw[Int.tdiv_eq_ediv_of_nonneg (by omega)];omega
            have a5:(idx:Int)/2=(q:Int):=by omega
            have cq:idx/2=q:=by omega
            obtain⟨l1,Z⟩:∃l1,l1=lv+1:=⟨_,rfl⟩;have cr:(lv:Int)+1=(l1:Int):=by omega
            have cs:l1<=65:=by omega
            have Q:Hid (l1=lv+1):=Z;have cD:IntKind.i64.wrap (q:Int)=(q:Int):=IntWalk.i64_in _ (by omega);have cm:Hid (idx=2*q+1/\k2=2*q):=⟨br,Y⟩;have b4:(q+1)*2^(lv+1)=n+1:=by rw[<-ac.out,show idx+1=2*(q+1)by omega,Nat.pow_succ,Nat.mul_comm (2^lv) 2,<-Nat.mul_assoc,Nat.mul_comm (q+1) 2]
            have a6:=af b4;have b5:(k2+1)*2^lv<=n:=by
              have ad:(idx+1)*2^lv=idx*2^lv+2^lv:=by rw[Nat.add_mul,Nat.one_mul]
              have ae:(k2+1)=idx:=by omega
              rw[ae];have:=ac.out;omega
            have CL:Hid (∀w',Fr Nothing wr w'->Calls prog 131 #[.pointer (some ⟨p,0,none⟩), .agg #[.int .i64 (lv:Int), .int .i64 (k2:Int)]] w' (aM w' (bj (aJ (ds++[d]) lv k2)))):=
              λw' f=>eN p E (n+1) G (some b) (ds++[d]) (cU n lv) lv k2 w' ((ab.out.tree B.out).ao f) (by omega) (λh=>⟨h, .inl b5⟩) aB (by have:=aW.out;omega);have aK:Hid (∀w',Fr Nothing wr w'->Calls prog 131 #[.pointer (some ⟨p,0,none⟩), .agg #[.int .i64 (lv:Int), .int .i64 (idx:Int)]] w' (aM w' (bj (aJ (ds++[d]) lv idx)))):=
              λw' f=>eN p E (n+1) G (some b) (ds++[d]) (cU n lv) lv idx w' ((ab.out.tree B.out).ao f) (by have:=ac.out;omega) (λh=>⟨h, .inr ⟨ac.out,Nat.le_refl _⟩⟩) aB (by have:=aW.out;omega);have aS:(aJ (ds++[d]) lv k2).length=32:=ef _ B.out.2 lv k2 (by rw[B.out.1];omega);have aU:(aJ (ds++[d]) lv idx).length=32:=ef _ B.out.2 lv idx (by rw[B.out.1];have:=ac.out;omega);have a1:Hid (∀w',Fr (TB p (some ⟨C,0,none⟩) n c mb) w w'->Calls prog 122 #[bj (aJ (ds++[d]) lv k2),bj (aJ (ds++[d]) lv idx)] w' (aM w' (bj (cS (aJ (ds++[d]) lv k2) (aJ (ds++[d]) lv idx))))):=λw' f=>lZ _ _ aS aU w' (da.out.fr f (NS.out _ (.inl rfl)) (NS.out _ (.inr rfl)));have bf:Hid (Value.agg (aC (cS (aJ (ds++[d]) lv k2) (aJ (ds++[d]) lv idx))).toArray=bj (aJ (ds++[d]) l1 q)):=by
              have:aJ (ds++[d]) l1 q=cS (aJ (ds++[d]) lv k2) (aJ (ds++[d]) lv idx):=by rw[Z,br,Y];rfl
              rw[this];rfl
            have M:Hid (dL (aC (aJ (ds++[d]) lv k2)).toArray):=dL.of aS;have N:Hid (dL (aC (aJ (ds++[d]) lv idx)).toArray):=dL.of aU;have ba:Hid ((prog.info? 38).map (·.size)=some (aC (aJ (ds++[d]) lv k2)).length):=by rw[aC,List.length_map,aS];exact fC
            have bb:Hid ((prog.info? 38).map (·.size)=some (aC (aJ (ds++[d]) lv idx)).length):=by rw[aC,List.length_map,aU];exact fC
            unfold bj at CL aK a1;simp only[show∀l:List UInt8,l.map bK=aC l fromλ_=>rfl]at CL aK a1;generalize aC (cS (aJ (ds++[d]) lv k2) (aJ (ds++[d]) lv idx))=NV at*;generalize aC (aJ (ds++[d]) lv k2)=bd at*;generalize aC (aJ (ds++[d]) lv idx)=bh at*;clear br Y Z b4 b5 aS aU bq cb;go_wp2_with fail;refine(CL.out _ aA).mono ?_;rintro e cc⟨rfl,bi⟩;have am:=af (ab.out.later bi);have bJ:=af bi;clear bi F c51;go_wp2_with(refine an rfl 38 rfl bp jn aH rfl ?_);intro dh nb;have bg:=af nb;clear nb;generalize ax:cc.heap.size=g6 at*;have P:=af ax;clear ax;go_wp2_with(refine ai rfl 38 (.tmp 6) _ rfl g6 bd.toArray rfl rfl _ _ (by have h:=bg.out.aF;rw[P.out]at h;exact h) M.out.info M.out.zero M.out.one ?_);intro wc b0 b6;have au:=af b0;have a7:Hid (Fr Nothing cc wc):=bg.out.fr.aw b6 (λi cx e=>by have y:i=g6:=e;have:=P.out;omega);have H:=af (am.out.later a7.out);clear b0 b6 bg am;have F:wc.cell? ⟨g5,0,none⟩=some (.int .i64 lv):=H.out.cP.cell 0;have c51:wc.cell? ⟨g5,1,none⟩=some (.int .i64 idx):=H.out.cP.cell 1;go_wp2_with fail;refine(aK.out _ (bJ.out.trans a7.out)).mono ?_;rintro e wd⟨rfl,fd⟩;have ap:=af (H.out.later fd);have R:=af (au.out.fr fd id);clear fd F c51 H au bJ a7 CL aK P;go_wp2_with(refine an rfl 38 rfl bp jn aH rfl ?_);intro di ne;have Ne:=af ne;clear ne;generalize az:wd.heap.size=g7 at*;have I:=af az;clear az;have cn:Hid (g6<g7):=by have:=R.out.lt;have:=I.out;simp only[Hid];omega
            go_wp2_with(refine ai rfl 38 (.tmp 7) _ rfl g7 bh.toArray rfl rfl _ _ (by have h:=Ne.out.aF;rw[I.out]at h;exact h) N.out.info N.out.zero N.out.one ?_);intro wf b1 b7;have T:=af b1;have a8:Hid (Fr Nothing wd wf):=Ne.out.fr.aw b7 (λi cx e=>by have y:i=g7:=e;have:=I.out;omega);have z:=af (ap.out.later a8.out);have S:=af (R.out.fr a8.out id);clear b1 b7 Ne ap R a8 I;have F:wf.cell? ⟨g5,0,none⟩=some (.int .i64 lv):=z.out.cP.cell 0;have c51:wf.cell? ⟨g5,1,none⟩=some (.int .i64 idx):=z.out.cP.cell 1;have bY:Hid ((#[Value.int .i64 (l1:Int),Value.int .i64 (q:Int)]:Array Value).all (·.oneCell')=true):=by simp[Hid,Value.oneCell']
            go_wp2_with(refine ai rfl 212 (.tmp 5) _ rfl g5 #[.int .i64 (l1:Int), .int .i64 (q:Int)] rfl rfl _ _ z.out.cP cy rfl bY.out ?_);intro bs b2 aN;have D:=af (z.out.Gu aN b2 cN.out);have bS:=af (S.out.fr aN (λe=>by have y:g6=g5:=e;exact aq.qW S.out z.out.cP (by decide) y));have bT:=af (T.out.fr aN (λe=>by have y:g7=g5:=e;exact aq.qW T.out z.out.cP (by decide) y));clear bY b2 aN z S T F c51;have bV:Hid (bs.cell? ⟨g5,0,none⟩=some (.int .i64 (l1:Int))):=D.out.cP.cell 0;have bW:Hid (bs.cell? ⟨g5,1,none⟩=some (.int .i64 q)):=D.out.cP.cell 1;have bt:Hid (bs.cell? ⟨p,1,none⟩=some (.map (some b))):=D.out.aF.cell 1;clear bZ a2 a3 a4 a5 cq cr cs cD;go_upto_region 13 with fail;refine ay 8 Nothing [Is (.pointer (some ⟨p,0,none⟩)),Is (.pointer (some ⟨p,0,none⟩)),Is (.pointer (some ⟨p,1,none⟩)),Is (.map (some b)),Is (gS l1 q),Is (.agg bd.toArray),Is (.agg bh.toArray),Is (.agg NV.toArray)] [] (λ_=>True) (λ_ _=>false) (by kernel_rfl) (by kernel_rfl) (by kernel_rfl) (by kernel_rfl) ⟨Is.ag _,Is.ag _,Is.ag _,Is.ag _,Is.ag _,Is.ag _,Is.ag _,Is.ag _,trivial⟩ trivial (λ_ _ _ _ h=>h) trivial ?_ ?_
            · refine⟨?_,?_,?_,?_,?_,?_,?_,?_,trivial⟩;all_goals intro u w' d f a s t m
              all_goals simp only[bC,bD,bE,bF,ar,Act.put,bG,bH,bI,Nat.reduceAdd,Nat.zero_add]
              · clear a s t m;refine aj ?_;go_simp;exact⟨_,rfl,al⟩
              · have bk:u 0=_:=a 0;clear a s t m;simp only[bk];refine aj ?_;go_simp;exact⟨_,rfl,al⟩
              · have ad:u 1=_:=a 1;clear a s t m;simp only[ad];refine aj ?_;go_simp;exact⟨_,rfl,al⟩
              · have ae:u 2=_:=a 2;clear a s t m;simp only[ae];refine aj ?_;have b9:=f.ak bt.out id;go_simp;exact⟨_,rfl,al⟩
              · clear a s t m;refine aj ?_;have b9:=f.ak bV.out id;have cu:=f.ak bW.out id;go_simp;exact⟨_,rfl,al⟩
              · clear a s t m;refine aj ?_;exact wp_load_mid _ _ rfl g6 0 rfl bd _ (dE (bS.out.fr f id)) underlying38 rfl ba.out ⟨_,rfl,al⟩
              · clear a s t m;refine aj ?_;exact wp_load_mid _ _ rfl g7 0 rfl bh _ (dE (bT.out.fr f id)) underlying38 rfl bb.out ⟨_,rfl,al⟩
              · have bm:u 5=_:=a 5;have bn:u 6=_:=a 6;clear a s t m;simp only[bm,bn];refine aj ?_;go_simp;refine(a1.out _ (D.out.Lv.trans f.bR)).mono ?_;rintro e de⟨rfl,f4⟩;exact⟨_,rfl,f4.bR,rfl,trivial⟩
            · intro u w' f a m;have aY:u 3=_:=a 3 (by omega);have bl:u 4=_:=a 4 (by omega);have aI:u 7=_:=a 7 (by omega);have O:=af (D.out.later f);clear a m f bV bW bt bS bT D;simp only[bC,bD,bE,bF,ar,Act.put,bG,bH,bI,dt,du,Nat.reduceAdd,Nat.zero_add,aY,bl,aI];refine jE rfl (.tmp 68) (.tmp 69) (.tmp 72) rfl O.out.map l1 q rfl rfl rfl (by rw[Q.out];exact oi n lv q a6.out) bf.out (cU n l1) (λl i=>by rw[Q.out];exact mO n lv q l i a6.out) ?_;intro cE av b8;have bQ:=af (O.out.Gv b8 av cF.out);clear av b8 O;simp only[Act.put];go_wp2;go_roundw;case rel=>exact⟨l1,q,by rw[Q.out];exact a6.out,bQ.out⟩
              case measure=>
                have s:cE.cell? ⟨g5,1,none⟩=some (.int .i64 q):=bQ.out.cP.cell 1;have k2:wr.cell? ⟨g5,1,none⟩=some (.int .i64 idx):=ab.out.cP.cell 1;have:=cm.out;rw[s,k2];simp[intOf];omega
          · have bZ:(idx:Int).tmod 2=0:=by rw[Int.tmod_eq_emod_of_nonneg (by omega)];omega
            have a2:(idx:Int)%2=0:=by omega
            have cp:Hid (∀l i,cU n lv l i↔bN (n+1) l i):=λl i=>oh n lv idx ac.out (by omega) l i;go_wp2;go_ret;exact⟨rfl,E,G,some b,(ab.out.tree B.out).congr cp.out,ab.out.fr,λk X=>by
              rcases X with h|h|h;· exact .inl (.inl h)
              · have e:b=k:=Option.some.inj h;rw[<-e];exact bu.out
              · exact U.out k h⟩
    · have co:=af K;clear K;refine ay 8 Nothing [Is (.pointer (some ⟨p,0,none⟩)),Is (.pointer (some ⟨p,0,none⟩)),Is (.pointer (some ⟨p,0,none⟩)),Is (.pointer (some ⟨p,0,none⟩)),Is (.slice A n c),Is (.agg L.toArray),λv W=>∃g,v= .slice (some ⟨g,0,none⟩) 1 1/\bw.heap.size<=g/\aq W g 38 L.toArray,λv W=>∃g cap,v= .slice (some ⟨g,0,none⟩) (n+1) cap/\bw.heap.size<=g/\W.ownsRow 0 38 32 v (n+1) (ds.flatMap aC++L)] [] (λ_=>True) (λ_ _=>false) (by kernel_rfl) (by kernel_rfl) (by kernel_rfl) (by kernel_rfl) ⟨Is.ag _,Is.ag _,Is.ag _,Is.ag _,Is.ag _,Is.ag _,λv w' aV _ f⟨g,h,l,b⟩=>⟨g,h,l,b.fr f id⟩,λv w' aV _ f⟨g,cap,h,l,b⟩=>⟨g,cap,h,l,aP b f (λ_ _ x=>x)⟩,trivial⟩ trivial (λ_ _ _ _ h=>h) trivial ?_ ?_
      · refine⟨?_,?_,?_,?_,?_,?_,?_,?_,trivial⟩;all_goals intro u w' d f a s t m
        all_goals simp only[bC,bD,bE,bF,ar,Act.put,bG,bH,bI,Nat.reduceAdd,Nat.zero_add]
        · clear a s t m;refine aj ?_;go_simp;exact⟨_,rfl,al⟩
        · clear a s t m;refine aj ?_;go_simp;exact⟨_,rfl,al⟩
        · have ad:u 1=_:=a 1;clear a s t m;simp only[ad];refine aj ?_;go_simp;exact⟨_,rfl,al⟩
        · have ae:u 2=_:=a 2;clear a s t m;simp only[ae];refine aj ?_;go_simp;exact⟨_,rfl,al⟩
        · have aY:u 3=_:=a 3;clear a s t m;simp only[aY];refine aj ?_;have b9:=f.ak ch.out id;go_simp;exact⟨_,rfl,al⟩
        · clear a s t m;refine aj ?_;exact wp_load_mid _ _ rfl g3 0 rfl L _ (dE (cg.out.fr f id)) underlying38 rfl c7.out ⟨_,rfl,al⟩
        · have bm:u 5=_:=a 5;clear a s t m;simp only[bm];refine aj ?_;refine wp_buildSlice 31 38 1 #[(0, .tmp 38)] rfl L.toArray i0 bp underlying31 cj ck g1.out g2.out ?_ ?_;· simp only[List.map_toArray,List.map_cons,List.map_nil];exact gf.out
          · exact⟨_,rfl,aA.alloc _,⟨w'.heap.size,rfl,f.size,aq.new _ _ _⟩,trivial⟩
        · have bl:u 4=_:=a 4;obtain⟨g6,bn,dd,ct⟩:=a 6;clear a s t m;simp only[bl,bn];refine aj ?_;refine sh (.tmp 37) (.tmp 39) rfl A n c _ rfl (aP aL.out f (λ_ _ x=>x)) co.out aW.out ⟨g6,0,none⟩ 1 L rfl c8.out (λj u hu=>by rw[Addr.add_mid,Nat.zero_add,ct.cell,bP];exact hu) c9.out ?_;intro g cap aV bo dc aE;exact⟨_,rfl,bo,⟨g,cap,rfl,Nat.le_trans f.size dc,aE⟩,trivial⟩
      · intro u w' f a m;obtain⟨cZ,G,aI,cw,bv⟩:=a 7 (by omega);have bk:u 0=_:=a 0 (by omega);rw[aI]at bv;have ah:=af (bz.out.fr f id);have be:=af (bX.out.fr f id);have a9:=af (bL.out.fr f id);have bB:Hid (Fr (TB p A n c mb) w w'):=bA.out.trans f.bR;have cB:=bA.out.size;obtain⟨E,J⟩:∃E,E=some (⟨cZ,0,none⟩:Addr):=⟨_,rfl⟩;have V:Hid (w'.ownsRow 0 38 32 (.slice E (n+1) G) (n+1) (ds.flatMap aC++L)):=by rw[J];exact bv
        have U:Hid (∀k,(Value.slice E (n+1) G).ownBlock=some k->TB p A n c mb k\/w.heap.size<=k):=by
          rw[J];intro k X;have:cZ=k:=by simpa[Value.ownBlock]using X
          exact .inr (by omega)
        rw[<-J]at aI;clear a m bv f ch bz aL bX cg bA bL bc cB J cw;simp only[bC,bD,bE,bF,ar,Act.put,bG,bH,bI,dt,du,Nat.reduceAdd,Nat.zero_add,bk,aI];generalize w'=df at*;go_wp2_with(refine aZ rfl 31 (.tmp 42) _ rfl p 0 (.slice E (n+1) G) rfl rfl rfl uK 180 #[.slice A n c, .map (some b)] #[.slice E (n+1) G, .map (some b)] ah.out (show 0<2 by decide) rfl ?_);intro aG iR f10;have bx:Hid (ni w aG p b g5 (.slice E (n+1) G) (ds++[d]) (n+1) (cU n 0) 0 n (TB p A n c mb)):=
          ⟨bB.out.trans (f10.mono (λi _ e=> .inl e)),iR,aP (by rw[List.flatMap_append,List.flatMap_singleton,cf.out];exact V.out) f10 (λk X e=>by have y:k=p:=e;exact bO V.out ah.out (by decide) (by rw[<-y];exact X)),
           ((be.out.fr f10 (λe=>by have y:b=p:=e;exact be.out.oA ah.out y)).more d (λl i h=>by rw[DL.out];exact h.2)).congr (lM n),a9.out.fr f10 (λe=>by have y:g5=p:=e;exact aq.qW a9.out ah.out (by decide) y)⟩;clear iR f10 ah be a9 bB V;generalize aG=dg at*;go_wp2;go_loopw[43](λ_ wr=>∃lv idx:Nat,(idx+1)*2^lv=n+1/\ni w wr p b g5 (.slice E (n+1) G) (ds++[d]) (n+1) (cU n lv) lv idx (TB p A n c mb))(λ_ wr=>(intOf ((wr.cell? ⟨g5,1,none⟩).getD undef)).toNat);case atStart=>exact⟨0,n,by simp,bx.out⟩
        case round=>
          obtain⟨lv,idx,he,aO⟩:=hrel;have ab:=af aO;have ac:=af he;have cb:1<=2^lv:=Nat.one_le_two_pow;have bq:(idx+1)*1<=(idx+1)*2^lv:=Nat.mul_le_mul_left _ cb;have cz:idx<=1048576:=by have:=aW.out;omega
          have aB:lv<=64:=by
            rcases Nat.lt_or_ge 64 lv with h|h;· have ad:2^64<=2^lv:=Nat.pow_le_pow_right (by omega) (by omega);have ae:1*2^lv<=(idx+1)*2^lv:=Nat.mul_le_mul_right _ (by omega);have:=aW.out;omega
            · exact h
          have F:wr.cell? ⟨g5,0,none⟩=some (.int .i64 lv):=aO.cP.cell 0;have c51:wr.cell? ⟨g5,1,none⟩=some (.int .i64 idx):=aO.cP.cell 1;clear aO he bx;by_cases ca:idx%2=1
          · obtain⟨q,br⟩:∃q,idx=2*q+1:=⟨idx/2,by omega⟩;obtain⟨k2,Y⟩:∃k2,k2=2*q:=⟨_,rfl⟩;have bZ:(idx:Int).tmod 2=1:=by rw[Int.tmod_eq_emod_of_nonneg (by omega)];omega
            have a2:(idx:Int)%2=1:=by omega
            have a3:(idx:Int)-1=(k2:Int):=by omega
            have a4:(idx:Int).tdiv 2=(q:Int):=by rw[Int.tdiv_eq_ediv_of_nonneg (by omega)];omega
            have a5:(idx:Int)/2=(q:Int):=by omega
            have cq:idx/2=q:=by omega
            obtain⟨l1,Z⟩:∃l1,l1=lv+1:=⟨_,rfl⟩;have cr:(lv:Int)+1=(l1:Int):=by omega
            have cs:l1<=65:=by omega
            have Q:Hid (l1=lv+1):=Z;have cD:IntKind.i64.wrap (q:Int)=(q:Int):=IntWalk.i64_in _ (by omega);have cm:Hid (idx=2*q+1/\k2=2*q):=⟨br,Y⟩;have b4:(q+1)*2^(lv+1)=n+1:=by rw[<-ac.out,show idx+1=2*(q+1)by omega,Nat.pow_succ,Nat.mul_comm (2^lv) 2,<-Nat.mul_assoc,Nat.mul_comm (q+1) 2]
            have a6:=af b4;have b5:(k2+1)*2^lv<=n:=by
              have ad:(idx+1)*2^lv=idx*2^lv+2^lv:=by rw[Nat.add_mul,Nat.one_mul]
              have ae:(k2+1)=idx:=by omega
              rw[ae];have:=ac.out;omega
            have CL:Hid (∀w',Fr Nothing wr w'->Calls prog 131 #[.pointer (some ⟨p,0,none⟩), .agg #[.int .i64 (lv:Int), .int .i64 (k2:Int)]] w' (aM w' (bj (aJ (ds++[d]) lv k2)))):=
              λw' f=>eN p E (n+1) G (some b) (ds++[d]) (cU n lv) lv k2 w' ((ab.out.tree B.out).ao f) (by omega) (λh=>⟨h, .inl b5⟩) aB (by have:=aW.out;omega);have aK:Hid (∀w',Fr Nothing wr w'->Calls prog 131 #[.pointer (some ⟨p,0,none⟩), .agg #[.int .i64 (lv:Int), .int .i64 (idx:Int)]] w' (aM w' (bj (aJ (ds++[d]) lv idx)))):=
              λw' f=>eN p E (n+1) G (some b) (ds++[d]) (cU n lv) lv idx w' ((ab.out.tree B.out).ao f) (by have:=ac.out;omega) (λh=>⟨h, .inr ⟨ac.out,Nat.le_refl _⟩⟩) aB (by have:=aW.out;omega);have aS:(aJ (ds++[d]) lv k2).length=32:=ef _ B.out.2 lv k2 (by rw[B.out.1];omega);have aU:(aJ (ds++[d]) lv idx).length=32:=ef _ B.out.2 lv idx (by rw[B.out.1];have:=ac.out;omega);have a1:Hid (∀w',Fr (TB p A n c mb) w w'->Calls prog 122 #[bj (aJ (ds++[d]) lv k2),bj (aJ (ds++[d]) lv idx)] w' (aM w' (bj (cS (aJ (ds++[d]) lv k2) (aJ (ds++[d]) lv idx))))):=λw' f=>lZ _ _ aS aU w' (da.out.fr f (NS.out _ (.inl rfl)) (NS.out _ (.inr rfl)));have bf:Hid (Value.agg (aC (cS (aJ (ds++[d]) lv k2) (aJ (ds++[d]) lv idx))).toArray=bj (aJ (ds++[d]) l1 q)):=by
              have:aJ (ds++[d]) l1 q=cS (aJ (ds++[d]) lv k2) (aJ (ds++[d]) lv idx):=by rw[Z,br,Y];rfl
              rw[this];rfl
            have M:Hid (dL (aC (aJ (ds++[d]) lv k2)).toArray):=dL.of aS;have N:Hid (dL (aC (aJ (ds++[d]) lv idx)).toArray):=dL.of aU;have ba:Hid ((prog.info? 38).map (·.size)=some (aC (aJ (ds++[d]) lv k2)).length):=by rw[aC,List.length_map,aS];exact fC
            have bb:Hid ((prog.info? 38).map (·.size)=some (aC (aJ (ds++[d]) lv idx)).length):=by rw[aC,List.length_map,aU];exact fC
            unfold bj at CL aK a1;simp only[show∀l:List UInt8,l.map bK=aC l fromλ_=>rfl]at CL aK a1;generalize aC (cS (aJ (ds++[d]) lv k2) (aJ (ds++[d]) lv idx))=NV at*;generalize aC (aJ (ds++[d]) lv k2)=bd at*;generalize aC (aJ (ds++[d]) lv idx)=bh at*;clear br Y Z b4 b5 aS aU bq cb;go_wp2_with fail;refine(CL.out _ aA).mono ?_;rintro e cc⟨rfl,bi⟩;have am:=af (ab.out.later bi);have bJ:=af bi;clear bi F c51;go_wp2_with(refine an rfl 38 rfl bp jn aH rfl ?_);intro dh nb;have bg:=af nb;clear nb;generalize ax:cc.heap.size=g6 at*;have P:=af ax;clear ax;go_wp2_with(refine ai rfl 38 (.tmp 6) _ rfl g6 bd.toArray rfl rfl _ _ (by have h:=bg.out.aF;rw[P.out]at h;exact h) M.out.info M.out.zero M.out.one ?_);intro wc b0 b6;have au:=af b0;have a7:Hid (Fr Nothing cc wc):=bg.out.fr.aw b6 (λi cx e=>by have y:i=g6:=e;have:=P.out;omega);have H:=af (am.out.later a7.out);clear b0 b6 bg am;have F:wc.cell? ⟨g5,0,none⟩=some (.int .i64 lv):=H.out.cP.cell 0;have c51:wc.cell? ⟨g5,1,none⟩=some (.int .i64 idx):=H.out.cP.cell 1;go_wp2_with fail;refine(aK.out _ (bJ.out.trans a7.out)).mono ?_;rintro e wd⟨rfl,fd⟩;have ap:=af (H.out.later fd);have R:=af (au.out.fr fd id);clear fd F c51 H au bJ a7 CL aK P;go_wp2_with(refine an rfl 38 rfl bp jn aH rfl ?_);intro di ne;have Ne:=af ne;clear ne;generalize az:wd.heap.size=g7 at*;have I:=af az;clear az;have cn:Hid (g6<g7):=by have:=R.out.lt;have:=I.out;simp only[Hid];omega
            go_wp2_with(refine ai rfl 38 (.tmp 7) _ rfl g7 bh.toArray rfl rfl _ _ (by have h:=Ne.out.aF;rw[I.out]at h;exact h) N.out.info N.out.zero N.out.one ?_);intro wf b1 b7;have T:=af b1;have a8:Hid (Fr Nothing wd wf):=Ne.out.fr.aw b7 (λi cx e=>by have y:i=g7:=e;have:=I.out;omega);have z:=af (ap.out.later a8.out);have S:=af (R.out.fr a8.out id);clear b1 b7 Ne ap R a8 I;have F:wf.cell? ⟨g5,0,none⟩=some (.int .i64 lv):=z.out.cP.cell 0;have c51:wf.cell? ⟨g5,1,none⟩=some (.int .i64 idx):=z.out.cP.cell 1;have bY:Hid ((#[Value.int .i64 (l1:Int),Value.int .i64 (q:Int)]:Array Value).all (·.oneCell')=true):=by simp[Hid,Value.oneCell']
            go_wp2_with(refine ai rfl 212 (.tmp 5) _ rfl g5 #[.int .i64 (l1:Int), .int .i64 (q:Int)] rfl rfl _ _ z.out.cP cy rfl bY.out ?_);intro bs b2 aN;have D:=af (z.out.Gu aN b2 cN.out);have bS:=af (S.out.fr aN (λe=>by have y:g6=g5:=e;exact aq.qW S.out z.out.cP (by decide) y));have bT:=af (T.out.fr aN (λe=>by have y:g7=g5:=e;exact aq.qW T.out z.out.cP (by decide) y));clear bY b2 aN z S T F c51;have bV:Hid (bs.cell? ⟨g5,0,none⟩=some (.int .i64 (l1:Int))):=D.out.cP.cell 0;have bW:Hid (bs.cell? ⟨g5,1,none⟩=some (.int .i64 q)):=D.out.cP.cell 1;have bt:Hid (bs.cell? ⟨p,1,none⟩=some (.map (some b))):=D.out.aF.cell 1;clear bZ a2 a3 a4 a5 cq cr cs cD;go_upto_region 13 with fail;refine ay 8 Nothing [Is (.pointer (some ⟨p,0,none⟩)),Is (.pointer (some ⟨p,0,none⟩)),Is (.pointer (some ⟨p,1,none⟩)),Is (.map (some b)),Is (gS l1 q),Is (.agg bd.toArray),Is (.agg bh.toArray),Is (.agg NV.toArray)] [] (λ_=>True) (λ_ _=>false) (by kernel_rfl) (by kernel_rfl) (by kernel_rfl) (by kernel_rfl) ⟨Is.ag _,Is.ag _,Is.ag _,Is.ag _,Is.ag _,Is.ag _,Is.ag _,Is.ag _,trivial⟩ trivial (λ_ _ _ _ h=>h) trivial ?_ ?_
            · refine⟨?_,?_,?_,?_,?_,?_,?_,?_,trivial⟩;all_goals intro u w' d f a s t m
              all_goals simp only[bC,bD,bE,bF,ar,Act.put,bG,bH,bI,Nat.reduceAdd,Nat.zero_add]
              · clear a s t m;refine aj ?_;go_simp;exact⟨_,rfl,al⟩
              · have bk:u 0=_:=a 0;clear a s t m;simp only[bk];refine aj ?_;go_simp;exact⟨_,rfl,al⟩
              · have ad:u 1=_:=a 1;clear a s t m;simp only[ad];refine aj ?_;go_simp;exact⟨_,rfl,al⟩
              · have ae:u 2=_:=a 2;clear a s t m;simp only[ae];refine aj ?_;have b9:=f.ak bt.out id;go_simp;exact⟨_,rfl,al⟩
              · clear a s t m;refine aj ?_;have b9:=f.ak bV.out id;have cu:=f.ak bW.out id;go_simp;exact⟨_,rfl,al⟩
              · clear a s t m;refine aj ?_;exact wp_load_mid _ _ rfl g6 0 rfl bd _ (dE (bS.out.fr f id)) underlying38 rfl ba.out ⟨_,rfl,al⟩
              · clear a s t m;refine aj ?_;exact wp_load_mid _ _ rfl g7 0 rfl bh _ (dE (bT.out.fr f id)) underlying38 rfl bb.out ⟨_,rfl,al⟩
              · have bm:u 5=_:=a 5;have bn:u 6=_:=a 6;clear a s t m;simp only[bm,bn];refine aj ?_;go_simp;refine(a1.out _ (D.out.Lv.trans f.bR)).mono ?_;rintro e de⟨rfl,f4⟩;exact⟨_,rfl,f4.bR,rfl,trivial⟩
            · intro u w' f a m;have aY:u 3=_:=a 3 (by omega);have bl:u 4=_:=a 4 (by omega);have aI:u 7=_:=a 7 (by omega);have O:=af (D.out.later f);clear a m f bV bW bt bS bT D;simp only[bC,bD,bE,bF,ar,Act.put,bG,bH,bI,dt,du,Nat.reduceAdd,Nat.zero_add,aY,bl,aI];refine jE rfl (.tmp 68) (.tmp 69) (.tmp 72) rfl O.out.map l1 q rfl rfl rfl (by rw[Q.out];exact oi n lv q a6.out) bf.out (cU n l1) (λl i=>by rw[Q.out];exact mO n lv q l i a6.out) ?_;intro cE av b8;have bQ:=af (O.out.Gv b8 av cF.out);clear av b8 O;simp only[Act.put];go_wp2;go_roundw;case rel=>exact⟨l1,q,by rw[Q.out];exact a6.out,bQ.out⟩
              case measure=>
                have s:cE.cell? ⟨g5,1,none⟩=some (.int .i64 q):=bQ.out.cP.cell 1;have k2:wr.cell? ⟨g5,1,none⟩=some (.int .i64 idx):=ab.out.cP.cell 1;have:=cm.out;rw[s,k2];simp[intOf];omega
          · have bZ:(idx:Int).tmod 2=0:=by rw[Int.tmod_eq_emod_of_nonneg (by omega)];omega
            have a2:(idx:Int)%2=0:=by omega
            have cp:Hid (∀l i,cU n lv l i↔bN (n+1) l i):=λl i=>oh n lv idx ac.out (by omega) l i;go_wp2;go_ret;exact⟨rfl,E,G,some b,(ab.out.tree B.out).congr cp.out,ab.out.fr,λk X=>by
              rcases X with h|h|h;· exact .inl (.inl h)
              · have e:b=k:=Option.some.inj h;rw[<-e];exact bu.out
              · exact U.out k h⟩
  · have HB:=af aa.aF;have cO:=af c1;clear c1;go_enter func84,ntmps84;go_wp2_with(refine aD rfl 38 (.tmp 1) rfl _ rfl ?_);intro w1 n1;have cd:=af (aa.aF.fr n1.fr id);have cL:=af (aP aa.row n1.fr (λ_ _ x=>x));have cH:Hid (aq w1 w.heap.size 38 L.toArray):=n1.aF;have cG:=af n1.fr;have cM:Hid (w1.heap.size=w.heap.size+1):=n1.size;clear n1;have ci:w1.cell? ⟨p,0,none⟩=some (.slice A n c):=cd.out.cell 0;have cW:w1.cell? ⟨p,1,none⟩=some (.map none):=cd.out.cell 1;have PL:Hid (p<w.heap.size):=aa.aF.lt;clear aa;go_wp2_with(refine uz rfl 178 rfl ?_);intro w2 dl;have cJ:=af dl;clear dl ci cW;have c6:=af (cd.out.fr cJ.out.fr id);have ci:w2.cell? ⟨p,0,none⟩=some (.slice A n c):=c6.out.cell 0;have cW:w2.cell? ⟨p,1,none⟩=some (.map none):=c6.out.cell 1;generalize dk:w1.heap.size=b at*;have bM:=af dk;clear dk;go_wp2_with(refine aZ rfl 178 (.tmp 26) _ rfl p 1 (.map (some b)) rfl rfl rfl LQ 180 #[.slice A n c, .map none] #[.slice A n c, .map (some b)] c6.out (show 1<2 by decide) rfl ?_);intro w3 b3 f3;have ce:=af b3;have cR:=af (aP (aP cL.out cJ.out.fr (λ_ _ x=>x)) f3 (λk X e=>by have y:k=p:=e;exact bO cL.out cd.out (by decide) (by rw[<-y];exact X)));have cI:=af ((cH.out.fr cJ.out.fr id).fr f3 (λe=>by have y:w.heap.size=p:=e;have:=PL.out;omega));have cQ:Hid (dY w3 b ds (bN n)):=by
      refine⟨#[],0,?_,λe he=>(by simp at he),λl i h=>absurd h (cO.out l i),pb.empty _⟩;have h:=cJ.out.map;rw[bM.out]at h;exact(f3.block b (Array.getElem?_eq_some_iff.1 h).1 (λe=>by have y:b=p:=e;have:=PL.out;have:=cM.out;have:=bM.out;omega)).trans h
    have cl:Hid (Fr (TB p A n c none) w w3):=((cG.out.trans cJ.out.fr).bR).trans (f3.mono (λi _ e=> .inl e));have bu:Hid (TB p A n c none b\/w.heap.size<=b):= .inr (by have:=cM.out;have:=bM.out;omega);have cF:Hid (b<w.heap.size->TB p A n c none b):=λh=>by have:=cM.out;have:=bM.out;omega
    clear ci cW b3 f3 cd c6 cL cH HB cO cJ cG;go_upto_region 7 with fail;obtain⟨g3,aR⟩:∃g3,g3=w.heap.size:=⟨_,rfl⟩;have cK:Hid (∀k,(Value.slice A n c).ownBlock=some k->k<g3):=by rw[aR];exact cK.out
    rw[<-aR]at cI⊢;have db:Hid (g3=w.heap.size):=aR;clear aR cM bM PL;generalize w3=a0 at*;have ci:a0.cell? ⟨p,0,none⟩=some (.slice A n c):=ce.out.cell 0;go_upto_region 8 with fail;clear ci;have ch:Hid ((a0.alloc (.cells #[.int .i64 0, .int .i64 n] 212)).cell? ⟨p,0,none⟩=some (.slice A n c)):=(ce.out.alloc _).cell 0;have bz:=af (ce.out.alloc (.cells #[.int .i64 0, .int .i64 n] 212));have aL:=af (aP cR.out ((Fr.refl Nothing a0).alloc (.cells #[.int .i64 0, .int .i64 n] 212)) (λ_ _ x=>x));have bX:=af (cQ.out.fr ((Fr.refl Nothing a0).alloc (.cells #[.int .i64 0, .int .i64 n] 212)) id);have cg:=af (cI.out.alloc (.cells #[.int .i64 0, .int .i64 n] 212));have bA:=af (cl.out.alloc (.cells #[.int .i64 0, .int .i64 n] 212));have bL:=af (aq.new a0 212 #[.int .i64 0, .int .i64 n]);have cN:Hid (w.heap.size<=a0.heap.size):=cl.out.size;clear ce cR cQ cI cl;generalize a0.alloc (.cells #[.int .i64 0, .int .i64 n] 212)=bw at*;generalize a0.heap.size=g5 at*;have bc:Hid (∀k,(Value.slice A n c).ownBlock=some k->k<bw.heap.size):=λk X=>by
      obtain⟨o,c5,_⟩:=cT aL.out X;exact(Array.getElem?_eq_some_iff.1 c5).1
    by_cases K:n+1<=c
    · obtain⟨C,rfl,cv⟩:∃C,A=some ⟨C,0,none⟩/\C<g3:=by
        rcases aL.out.2 with⟨cA,_⟩|⟨cY,cX,cur,cA,_⟩;· injection cA with _ _ aY;omega
        · injection cA with ad _ _;subst ad;exact⟨cY,rfl,cK.out cY rfl⟩
      have NE:Hid ((p:Nat)≠C/\g3≠C/\C<bw.heap.size):=⟨λe=>bO aL.out bz.out (by decide) (by rw[e];rfl),by omega,bc.out C rfl⟩;have co:=af K;clear K cv;refine ay 8 (λk=>k=C) [Is (.pointer (some ⟨p,0,none⟩)),Is (.pointer (some ⟨p,0,none⟩)),Is (.pointer (some ⟨p,0,none⟩)),Is (.pointer (some ⟨p,0,none⟩)),Is (.slice (some ⟨C,0,none⟩) n c),Is (.agg L.toArray),λv W=>∃g,v= .slice (some ⟨g,0,none⟩) 1 1/\bw.heap.size<=g/\aq W g 38 L.toArray,Is (.slice (some ⟨C,0,none⟩) (n+1) c)] [(7,λW=>W.ownsRow 0 38 32 (.slice (some ⟨C,0,none⟩) (n+1) c) (n+1) (ds.flatMap aC++L))] (λW=>W.ownsRow 0 38 32 (.slice (some ⟨C,0,none⟩) n c) n (ds.flatMap aC)) (λ_ _=>false) (by kernel_rfl) (by kernel_rfl) (by kernel_rfl) (by kernel_rfl) ⟨Is.ag _,Is.ag _,Is.ag _,Is.ag _,Is.ag _,Is.ag _,λv w' aV _ f⟨g,h,l,b⟩=>⟨g,h,l,b.fr f (λe=>by have y:g=C:=e;have:=NE.out.2.2;omega)⟩,Is.ag _,trivial⟩ ⟨λ_ _ _ f h=>aP h f (λ_ _ x=>x),trivial⟩ (λ_ _ _ f h=>aP h f (λ_ _ x=>x)) (aP aL.out ((Fr.refl Nothing bw).drew) (λ_ _ x=>x)) ?_ ?_
      · refine⟨?_,?_,?_,?_,?_,?_,?_,?_,trivial⟩;all_goals intro u w' d f a s t m
        all_goals simp only[bC,bD,bE,bF,ar,Act.put,bG,bH,bI,Nat.reduceAdd,Nat.zero_add]
        · clear a s t m;refine aj ?_;go_simp;exact⟨_,rfl,al⟩
        · clear a s t m;refine aj ?_;go_simp;exact⟨_,rfl,al⟩
        · have ad:u 1=_:=a 1;clear a s t m;simp only[ad];refine aj ?_;go_simp;exact⟨_,rfl,al⟩
        · have ae:u 2=_:=a 2;clear a s t m;simp only[ae];refine aj ?_;go_simp;exact⟨_,rfl,al⟩
        · have aY:u 3=_:=a 3;clear a s t m;simp only[aY];refine aj ?_;have b9:=f.ak ch.out (λe=>NE.out.1 e);go_simp;exact⟨_,rfl,al⟩
        · clear a s t m;refine aj ?_;exact wp_load_mid _ _ rfl g3 0 rfl L _ (dE (cg.out.fr f (λe=>NE.out.2.1 e))) underlying38 rfl c7.out ⟨_,rfl,al⟩
        · have bm:u 5=_:=a 5;clear a s t m;simp only[bm];refine aj ?_;refine wp_buildSlice 31 38 1 #[(0, .tmp 38)] rfl L.toArray i0 bp underlying31 cj ck g1.out g2.out ?_ ?_;· simp only[List.map_toArray,List.map_cons,List.map_nil];exact gf.out
          · exact⟨_,rfl,aA.alloc _,⟨w'.heap.size,rfl,f.size,aq.new _ _ _⟩,trivial⟩
        · have bl:u 4=_:=a 4;obtain⟨g6,bn,dd,ct⟩:=a 6;clear a;simp only[bl,bn];refine aj ?_;have hN:w'.ownsRow 0 38 32 (.slice (some ⟨C,0,none⟩) n c) n (ds.flatMap aC):=by rw[dx,if_neg (by rw[t 7 (by kernel_rfl)];exact Bool.false_ne_true)]at m;exact m
          clear s t m;refine qG (.tmp 37) (.tmp 39) rfl C n c _ rfl hN co.out ⟨g6,0,none⟩ 1 L rfl c8.out (λj u hu=>by rw[Addr.add_mid,Nat.zero_add,ct.cell,bP];exact hu) c9.out ?_;intro aV bo aE;exact⟨_,rfl,bo,rfl,aE⟩
      · intro u w' f a m;have aI:u 7=_:=a 7 (by omega);have bk:u 0=_:=a 0 (by omega);have bv:w'.ownsRow 0 38 32 (.slice (some ⟨C,0,none⟩) (n+1) c) (n+1) (ds.flatMap aC++L):=m;have ah:=af (bz.out.fr f (λe=>NE.out.1 e));have be:=af (bX.out.fr f (λe=>by have y:b=C:=e;exact bX.out.zK aL.out (by rw[y];rfl)));have a9:=af (bL.out.fr f (λe=>by have y:g5=C:=e;exact bO aL.out bL.out (by decide) (by rw[y];rfl)));have cV:=af bv;have bB:Hid (Fr (TB p (some ⟨C,0,none⟩) n c none) w w'):=bA.out.trans (f.mono (λi _ e=> .inr (.inr (by have y:i=C:=e;rw[y];rfl))));have aX:Hid (∀k,(Value.slice (some ⟨C,0,none⟩) (n+1) c).ownBlock=some k->TB p (some ⟨C,0,none⟩) n c none k\/w.heap.size<=k):=λk X=> .inl (.inr (.inr X));clear a m bv f ch bz aL bX cg bA bL bc;obtain⟨E,J⟩:∃E,E=some (⟨C,0,none⟩:Addr):=⟨_,rfl⟩;obtain⟨G,aQ⟩:∃G,G=c:=⟨_,rfl⟩;have V:Hid (w'.ownsRow 0 38 32 (.slice E (n+1) G) (n+1) (ds.flatMap aC++L)):=by rw[J,aQ];exact cV.out
        have U:Hid (∀k,(Value.slice E (n+1) G).ownBlock=some k->TB p (some ⟨C,0,none⟩) n c none k\/w.heap.size<=k):=by rw[J,aQ];exact aX.out
        rw[<-J,<-aQ]at aI;clear cV aX J aQ;simp only[bC,bD,bE,bF,ar,Act.put,bG,bH,bI,dt,du,Nat.reduceAdd,Nat.zero_add,bk,aI];generalize w'=df at*;go_wp2_with(refine aZ rfl 31 (.tmp 42) _ rfl p 0 (.slice E (n+1) G) rfl rfl rfl uK 180 #[.slice (some ⟨C,0,none⟩) n c, .map (some b)] #[.slice E (n+1) G, .map (some b)] ah.out (show 0<2 by decide) rfl ?_);intro aG iR f10;have bx:Hid (ni w aG p b g5 (.slice E (n+1) G) (ds++[d]) (n+1) (cU n 0) 0 n (TB p (some ⟨C,0,none⟩) n c none)):=
          ⟨bB.out.trans (f10.mono (λi _ e=> .inl e)),iR,aP (by rw[List.flatMap_append,List.flatMap_singleton,cf.out];exact V.out) f10 (λk X e=>by have y:k=p:=e;exact bO V.out ah.out (by decide) (by rw[<-y];exact X)),
           ((be.out.fr f10 (λe=>by have y:b=p:=e;exact be.out.oA ah.out y)).more d (λl i h=>by rw[DL.out];exact h.2)).congr (lM n),a9.out.fr f10 (λe=>by have y:g5=p:=e;exact aq.qW a9.out ah.out (by decide) y)⟩;clear iR f10 ah be a9 bB V;generalize aG=dg at*;go_wp2;go_loopw[43](λ_ wr=>∃lv idx:Nat,(idx+1)*2^lv=n+1/\ni w wr p b g5 (.slice E (n+1) G) (ds++[d]) (n+1) (cU n lv) lv idx (TB p (some ⟨C,0,none⟩) n c none))(λ_ wr=>(intOf ((wr.cell? ⟨g5,1,none⟩).getD undef)).toNat);case atStart=>exact⟨0,n,by simp,bx.out⟩
        case round=>
          obtain⟨lv,idx,he,aO⟩:=hrel;have ab:=af aO;have ac:=af he;have cb:1<=2^lv:=Nat.one_le_two_pow;have bq:(idx+1)*1<=(idx+1)*2^lv:=Nat.mul_le_mul_left _ cb;have cz:idx<=1048576:=by have:=aW.out;omega
          have aB:lv<=64:=by
            rcases Nat.lt_or_ge 64 lv with h|h;· have ad:2^64<=2^lv:=Nat.pow_le_pow_right (by omega) (by omega);have ae:1*2^lv<=(idx+1)*2^lv:=Nat.mul_le_mul_right _ (by omega);have:=aW.out;omega
            · exact h
          have F:wr.cell? ⟨g5,0,none⟩=some (.int .i64 lv):=aO.cP.cell 0;have c51:wr.cell? ⟨g5,1,none⟩=some (.int .i64 idx):=aO.cP.cell 1;clear aO he bx;by_cases ca:idx%2=1
          · obtain⟨q,br⟩:∃q,idx=2*q+1:=⟨idx/2,by omega⟩;obtain⟨k2,Y⟩:∃k2,k2=2*q:=⟨_,rfl⟩;have bZ:(idx:Int).tmod 2=1:=by rw[Int.tmod_eq_emod_of_nonneg (by omega)];omega
            have a2:(idx:Int)%2=1:=by omega
            have a3:(idx:Int)-1=(k2:Int):=by omega
            have a4:(idx:Int).tdiv 2=(q:Int):=by rw[Int.tdiv_eq_ediv_of_nonneg (by omega)];omega
            have a5:(idx:Int)/2=(q:Int):=by omega
            have cq:idx/2=q:=by omega
            obtain⟨l1,Z⟩:∃l1,l1=lv+1:=⟨_,rfl⟩;have cr:(lv:Int)+1=(l1:Int):=by omega
            have cs:l1<=65:=by omega
            have Q:Hid (l1=lv+1):=Z;have cD:IntKind.i64.wrap (q:Int)=(q:Int):=IntWalk.i64_in _ (by omega);have cm:Hid (idx=2*q+1/\k2=2*q):=⟨br,Y⟩;have b4:(q+1)*2^(lv+1)=n+1:=by rw[<-ac.out,show idx+1=2*(q+1)by omega,Nat.pow_succ,Nat.mul_comm (2^lv) 2,<-Nat.mul_assoc,Nat.mul_comm (q+1) 2]
            have a6:=af b4;have b5:(k2+1)*2^lv<=n:=by
              have ad:(idx+1)*2^lv=idx*2^lv+2^lv:=by rw[Nat.add_mul,Nat.one_mul]
              have ae:(k2+1)=idx:=by omega
              rw[ae];have:=ac.out;omega
            have CL:Hid (∀w',Fr Nothing wr w'->Calls prog 131 #[.pointer (some ⟨p,0,none⟩), .agg #[.int .i64 (lv:Int), .int .i64 (k2:Int)]] w' (aM w' (bj (aJ (ds++[d]) lv k2)))):=
              λw' f=>eN p E (n+1) G (some b) (ds++[d]) (cU n lv) lv k2 w' ((ab.out.tree B.out).ao f) (by omega) (λh=>⟨h, .inl b5⟩) aB (by have:=aW.out;omega);have aK:Hid (∀w',Fr Nothing wr w'->Calls prog 131 #[.pointer (some ⟨p,0,none⟩), .agg #[.int .i64 (lv:Int), .int .i64 (idx:Int)]] w' (aM w' (bj (aJ (ds++[d]) lv idx)))):=
              λw' f=>eN p E (n+1) G (some b) (ds++[d]) (cU n lv) lv idx w' ((ab.out.tree B.out).ao f) (by have:=ac.out;omega) (λh=>⟨h, .inr ⟨ac.out,Nat.le_refl _⟩⟩) aB (by have:=aW.out;omega);have aS:(aJ (ds++[d]) lv k2).length=32:=ef _ B.out.2 lv k2 (by rw[B.out.1];omega);have aU:(aJ (ds++[d]) lv idx).length=32:=ef _ B.out.2 lv idx (by rw[B.out.1];have:=ac.out;omega);have a1:Hid (∀w',Fr (TB p (some ⟨C,0,none⟩) n c none) w w'->Calls prog 122 #[bj (aJ (ds++[d]) lv k2),bj (aJ (ds++[d]) lv idx)] w' (aM w' (bj (cS (aJ (ds++[d]) lv k2) (aJ (ds++[d]) lv idx))))):=λw' f=>lZ _ _ aS aU w' (da.out.fr f (NS.out _ (.inl rfl)) (NS.out _ (.inr rfl)));have bf:Hid (Value.agg (aC (cS (aJ (ds++[d]) lv k2) (aJ (ds++[d]) lv idx))).toArray=bj (aJ (ds++[d]) l1 q)):=by
              have:aJ (ds++[d]) l1 q=cS (aJ (ds++[d]) lv k2) (aJ (ds++[d]) lv idx):=by rw[Z,br,Y];rfl
              rw[this];rfl
            have M:Hid (dL (aC (aJ (ds++[d]) lv k2)).toArray):=dL.of aS;have N:Hid (dL (aC (aJ (ds++[d]) lv idx)).toArray):=dL.of aU;have ba:Hid ((prog.info? 38).map (·.size)=some (aC (aJ (ds++[d]) lv k2)).length):=by rw[aC,List.length_map,aS];exact fC
            have bb:Hid ((prog.info? 38).map (·.size)=some (aC (aJ (ds++[d]) lv idx)).length):=by rw[aC,List.length_map,aU];exact fC
            unfold bj at CL aK a1;simp only[show∀l:List UInt8,l.map bK=aC l fromλ_=>rfl]at CL aK a1;generalize aC (cS (aJ (ds++[d]) lv k2) (aJ (ds++[d]) lv idx))=NV at*;generalize aC (aJ (ds++[d]) lv k2)=bd at*;generalize aC (aJ (ds++[d]) lv idx)=bh at*;clear br Y Z b4 b5 aS aU bq cb;go_wp2_with fail;refine(CL.out _ aA).mono ?_;rintro e cc⟨rfl,bi⟩;have am:=af (ab.out.later bi);have bJ:=af bi;clear bi F c51;go_wp2_with(refine an rfl 38 rfl bp jn aH rfl ?_);intro dh nb;have bg:=af nb;clear nb;generalize ax:cc.heap.size=g6 at*;have P:=af ax;clear ax;go_wp2_with(refine ai rfl 38 (.tmp 6) _ rfl g6 bd.toArray rfl rfl _ _ (by have h:=bg.out.aF;rw[P.out]at h;exact h) M.out.info M.out.zero M.out.one ?_);intro wc b0 b6;have au:=af b0;have a7:Hid (Fr Nothing cc wc):=bg.out.fr.aw b6 (λi cx e=>by have y:i=g6:=e;have:=P.out;omega);have H:=af (am.out.later a7.out);clear b0 b6 bg am;have F:wc.cell? ⟨g5,0,none⟩=some (.int .i64 lv):=H.out.cP.cell 0;have c51:wc.cell? ⟨g5,1,none⟩=some (.int .i64 idx):=H.out.cP.cell 1;go_wp2_with fail;refine(aK.out _ (bJ.out.trans a7.out)).mono ?_;rintro e wd⟨rfl,fd⟩;have ap:=af (H.out.later fd);have R:=af (au.out.fr fd id);clear fd F c51 H au bJ a7 CL aK P;go_wp2_with(refine an rfl 38 rfl bp jn aH rfl ?_);intro di ne;have Ne:=af ne;clear ne;generalize az:wd.heap.size=g7 at*;have I:=af az;clear az;have cn:Hid (g6<g7):=by have:=R.out.lt;have:=I.out;simp only[Hid];omega
            go_wp2_with(refine ai rfl 38 (.tmp 7) _ rfl g7 bh.toArray rfl rfl _ _ (by have h:=Ne.out.aF;rw[I.out]at h;exact h) N.out.info N.out.zero N.out.one ?_);intro wf b1 b7;have T:=af b1;have a8:Hid (Fr Nothing wd wf):=Ne.out.fr.aw b7 (λi cx e=>by have y:i=g7:=e;have:=I.out;omega);have z:=af (ap.out.later a8.out);have S:=af (R.out.fr a8.out id);clear b1 b7 Ne ap R a8 I;have F:wf.cell? ⟨g5,0,none⟩=some (.int .i64 lv):=z.out.cP.cell 0;have c51:wf.cell? ⟨g5,1,none⟩=some (.int .i64 idx):=z.out.cP.cell 1;have bY:Hid ((#[Value.int .i64 (l1:Int),Value.int .i64 (q:Int)]:Array Value).all (·.oneCell')=true):=by simp[Hid,Value.oneCell']
            go_wp2_with(refine ai rfl 212 (.tmp 5) _ rfl g5 #[.int .i64 (l1:Int), .int .i64 (q:Int)] rfl rfl _ _ z.out.cP cy rfl bY.out ?_);intro bs b2 aN;have D:=af (z.out.Gu aN b2 cN.out);have bS:=af (S.out.fr aN (λe=>by have y:g6=g5:=e;exact aq.qW S.out z.out.cP (by decide) y));have bT:=af (T.out.fr aN (λe=>by have y:g7=g5:=e;exact aq.qW T.out z.out.cP (by decide) y));clear bY b2 aN z S T F c51;have bV:Hid (bs.cell? ⟨g5,0,none⟩=some (.int .i64 (l1:Int))):=D.out.cP.cell 0;have bW:Hid (bs.cell? ⟨g5,1,none⟩=some (.int .i64 q)):=D.out.cP.cell 1;have bt:Hid (bs.cell? ⟨p,1,none⟩=some (.map (some b))):=D.out.aF.cell 1;clear bZ a2 a3 a4 a5 cq cr cs cD;go_upto_region 13 with fail;refine ay 8 Nothing [Is (.pointer (some ⟨p,0,none⟩)),Is (.pointer (some ⟨p,0,none⟩)),Is (.pointer (some ⟨p,1,none⟩)),Is (.map (some b)),Is (gS l1 q),Is (.agg bd.toArray),Is (.agg bh.toArray),Is (.agg NV.toArray)] [] (λ_=>True) (λ_ _=>false) (by kernel_rfl) (by kernel_rfl) (by kernel_rfl) (by kernel_rfl) ⟨Is.ag _,Is.ag _,Is.ag _,Is.ag _,Is.ag _,Is.ag _,Is.ag _,Is.ag _,trivial⟩ trivial (λ_ _ _ _ h=>h) trivial ?_ ?_
            · refine⟨?_,?_,?_,?_,?_,?_,?_,?_,trivial⟩;all_goals intro u w' d f a s t m
              all_goals simp only[bC,bD,bE,bF,ar,Act.put,bG,bH,bI,Nat.reduceAdd,Nat.zero_add]
              · clear a s t m;refine aj ?_;go_simp;exact⟨_,rfl,al⟩
              · have bk:u 0=_:=a 0;clear a s t m;simp only[bk];refine aj ?_;go_simp;exact⟨_,rfl,al⟩
              · have ad:u 1=_:=a 1;clear a s t m;simp only[ad];refine aj ?_;go_simp;exact⟨_,rfl,al⟩
              · have ae:u 2=_:=a 2;clear a s t m;simp only[ae];refine aj ?_;have b9:=f.ak bt.out id;go_simp;exact⟨_,rfl,al⟩
              · clear a s t m;refine aj ?_;have b9:=f.ak bV.out id;have cu:=f.ak bW.out id;go_simp;exact⟨_,rfl,al⟩
              · clear a s t m;refine aj ?_;exact wp_load_mid _ _ rfl g6 0 rfl bd _ (dE (bS.out.fr f id)) underlying38 rfl ba.out ⟨_,rfl,al⟩
              · clear a s t m;refine aj ?_;exact wp_load_mid _ _ rfl g7 0 rfl bh _ (dE (bT.out.fr f id)) underlying38 rfl bb.out ⟨_,rfl,al⟩
              · have bm:u 5=_:=a 5;have bn:u 6=_:=a 6;clear a s t m;simp only[bm,bn];refine aj ?_;go_simp;refine(a1.out _ (D.out.Lv.trans f.bR)).mono ?_;rintro e de⟨rfl,f4⟩;exact⟨_,rfl,f4.bR,rfl,trivial⟩
            · intro u w' f a m;have aY:u 3=_:=a 3 (by omega);have bl:u 4=_:=a 4 (by omega);have aI:u 7=_:=a 7 (by omega);have O:=af (D.out.later f);clear a m f bV bW bt bS bT D;simp only[bC,bD,bE,bF,ar,Act.put,bG,bH,bI,dt,du,Nat.reduceAdd,Nat.zero_add,aY,bl,aI];refine jE rfl (.tmp 68) (.tmp 69) (.tmp 72) rfl O.out.map l1 q rfl rfl rfl (by rw[Q.out];exact oi n lv q a6.out) bf.out (cU n l1) (λl i=>by rw[Q.out];exact mO n lv q l i a6.out) ?_;intro cE av b8;have bQ:=af (O.out.Gv b8 av cF.out);clear av b8 O;simp only[Act.put];go_wp2;go_roundw;case rel=>exact⟨l1,q,by rw[Q.out];exact a6.out,bQ.out⟩
              case measure=>
                have s:cE.cell? ⟨g5,1,none⟩=some (.int .i64 q):=bQ.out.cP.cell 1;have k2:wr.cell? ⟨g5,1,none⟩=some (.int .i64 idx):=ab.out.cP.cell 1;have:=cm.out;rw[s,k2];simp[intOf];omega
          · have bZ:(idx:Int).tmod 2=0:=by rw[Int.tmod_eq_emod_of_nonneg (by omega)];omega
            have a2:(idx:Int)%2=0:=by omega
            have cp:Hid (∀l i,cU n lv l i↔bN (n+1) l i):=λl i=>oh n lv idx ac.out (by omega) l i;go_wp2;go_ret;exact⟨rfl,E,G,some b,(ab.out.tree B.out).congr cp.out,ab.out.fr,λk X=>by
              rcases X with h|h|h;· exact .inl (.inl h)
              · have e:b=k:=Option.some.inj h;rw[<-e];exact bu.out
              · exact U.out k h⟩
    · have co:=af K;clear K;refine ay 8 Nothing [Is (.pointer (some ⟨p,0,none⟩)),Is (.pointer (some ⟨p,0,none⟩)),Is (.pointer (some ⟨p,0,none⟩)),Is (.pointer (some ⟨p,0,none⟩)),Is (.slice A n c),Is (.agg L.toArray),λv W=>∃g,v= .slice (some ⟨g,0,none⟩) 1 1/\bw.heap.size<=g/\aq W g 38 L.toArray,λv W=>∃g cap,v= .slice (some ⟨g,0,none⟩) (n+1) cap/\bw.heap.size<=g/\W.ownsRow 0 38 32 v (n+1) (ds.flatMap aC++L)] [] (λ_=>True) (λ_ _=>false) (by kernel_rfl) (by kernel_rfl) (by kernel_rfl) (by kernel_rfl) ⟨Is.ag _,Is.ag _,Is.ag _,Is.ag _,Is.ag _,Is.ag _,λv w' aV _ f⟨g,h,l,b⟩=>⟨g,h,l,b.fr f id⟩,λv w' aV _ f⟨g,cap,h,l,b⟩=>⟨g,cap,h,l,aP b f (λ_ _ x=>x)⟩,trivial⟩ trivial (λ_ _ _ _ h=>h) trivial ?_ ?_
      · refine⟨?_,?_,?_,?_,?_,?_,?_,?_,trivial⟩;all_goals intro u w' d f a s t m
        all_goals simp only[bC,bD,bE,bF,ar,Act.put,bG,bH,bI,Nat.reduceAdd,Nat.zero_add]
        · clear a s t m;refine aj ?_;go_simp;exact⟨_,rfl,al⟩
        · clear a s t m;refine aj ?_;go_simp;exact⟨_,rfl,al⟩
        · have ad:u 1=_:=a 1;clear a s t m;simp only[ad];refine aj ?_;go_simp;exact⟨_,rfl,al⟩
        · have ae:u 2=_:=a 2;clear a s t m;simp only[ae];refine aj ?_;go_simp;exact⟨_,rfl,al⟩
        · have aY:u 3=_:=a 3;clear a s t m;simp only[aY];refine aj ?_;have b9:=f.ak ch.out id;go_simp;exact⟨_,rfl,al⟩
        · clear a s t m;refine aj ?_;exact wp_load_mid _ _ rfl g3 0 rfl L _ (dE (cg.out.fr f id)) underlying38 rfl c7.out ⟨_,rfl,al⟩
        · have bm:u 5=_:=a 5;clear a s t m;simp only[bm];refine aj ?_;refine wp_buildSlice 31 38 1 #[(0, .tmp 38)] rfl L.toArray i0 bp underlying31 cj ck g1.out g2.out ?_ ?_;· simp only[List.map_toArray,List.map_cons,List.map_nil];exact gf.out
          · exact⟨_,rfl,aA.alloc _,⟨w'.heap.size,rfl,f.size,aq.new _ _ _⟩,trivial⟩
        · have bl:u 4=_:=a 4;obtain⟨g6,bn,dd,ct⟩:=a 6;clear a s t m;simp only[bl,bn];refine aj ?_;refine sh (.tmp 37) (.tmp 39) rfl A n c _ rfl (aP aL.out f (λ_ _ x=>x)) co.out aW.out ⟨g6,0,none⟩ 1 L rfl c8.out (λj u hu=>by rw[Addr.add_mid,Nat.zero_add,ct.cell,bP];exact hu) c9.out ?_;intro g cap aV bo dc aE;exact⟨_,rfl,bo,⟨g,cap,rfl,Nat.le_trans f.size dc,aE⟩,trivial⟩
      · intro u w' f a m;obtain⟨cZ,G,aI,cw,bv⟩:=a 7 (by omega);have bk:u 0=_:=a 0 (by omega);rw[aI]at bv;have ah:=af (bz.out.fr f id);have be:=af (bX.out.fr f id);have a9:=af (bL.out.fr f id);have bB:Hid (Fr (TB p A n c none) w w'):=bA.out.trans f.bR;have cB:=bA.out.size;obtain⟨E,J⟩:∃E,E=some (⟨cZ,0,none⟩:Addr):=⟨_,rfl⟩;have V:Hid (w'.ownsRow 0 38 32 (.slice E (n+1) G) (n+1) (ds.flatMap aC++L)):=by rw[J];exact bv
        have U:Hid (∀k,(Value.slice E (n+1) G).ownBlock=some k->TB p A n c none k\/w.heap.size<=k):=by
          rw[J];intro k X;have:cZ=k:=by simpa[Value.ownBlock]using X
          exact .inr (by omega)
        rw[<-J]at aI;clear a m bv f ch bz aL bX cg bA bL bc cB J cw;simp only[bC,bD,bE,bF,ar,Act.put,bG,bH,bI,dt,du,Nat.reduceAdd,Nat.zero_add,bk,aI];generalize w'=df at*;go_wp2_with(refine aZ rfl 31 (.tmp 42) _ rfl p 0 (.slice E (n+1) G) rfl rfl rfl uK 180 #[.slice A n c, .map (some b)] #[.slice E (n+1) G, .map (some b)] ah.out (show 0<2 by decide) rfl ?_);intro aG iR f10;have bx:Hid (ni w aG p b g5 (.slice E (n+1) G) (ds++[d]) (n+1) (cU n 0) 0 n (TB p A n c none)):=
          ⟨bB.out.trans (f10.mono (λi _ e=> .inl e)),iR,aP (by rw[List.flatMap_append,List.flatMap_singleton,cf.out];exact V.out) f10 (λk X e=>by have y:k=p:=e;exact bO V.out ah.out (by decide) (by rw[<-y];exact X)),
           ((be.out.fr f10 (λe=>by have y:b=p:=e;exact be.out.oA ah.out y)).more d (λl i h=>by rw[DL.out];exact h.2)).congr (lM n),a9.out.fr f10 (λe=>by have y:g5=p:=e;exact aq.qW a9.out ah.out (by decide) y)⟩;clear iR f10 ah be a9 bB V;generalize aG=dg at*;go_wp2;go_loopw[43](λ_ wr=>∃lv idx:Nat,(idx+1)*2^lv=n+1/\ni w wr p b g5 (.slice E (n+1) G) (ds++[d]) (n+1) (cU n lv) lv idx (TB p A n c none))(λ_ wr=>(intOf ((wr.cell? ⟨g5,1,none⟩).getD undef)).toNat);case atStart=>exact⟨0,n,by simp,bx.out⟩
        case round=>
          obtain⟨lv,idx,he,aO⟩:=hrel;have ab:=af aO;have ac:=af he;have cb:1<=2^lv:=Nat.one_le_two_pow;have bq:(idx+1)*1<=(idx+1)*2^lv:=Nat.mul_le_mul_left _ cb;have cz:idx<=1048576:=by have:=aW.out;omega
          have aB:lv<=64:=by
            rcases Nat.lt_or_ge 64 lv with h|h;· have ad:2^64<=2^lv:=Nat.pow_le_pow_right (by omega) (by omega);have ae:1*2^lv<=(idx+1)*2^lv:=Nat.mul_le_mul_right _ (by omega);have:=aW.out;omega
            · exact h
          have F:wr.cell? ⟨g5,0,none⟩=some (.int .i64 lv):=aO.cP.cell 0;have c51:wr.cell? ⟨g5,1,none⟩=some (.int .i64 idx):=aO.cP.cell 1;clear aO he bx;by_cases ca:idx%2=1
          · obtain⟨q,br⟩:∃q,idx=2*q+1:=⟨idx/2,by omega⟩;obtain⟨k2,Y⟩:∃k2,k2=2*q:=⟨_,rfl⟩;have bZ:(idx:Int).tmod 2=1:=by rw[Int.tmod_eq_emod_of_nonneg (by omega)];omega
            have a2:(idx:Int)%2=1:=by omega
            have a3:(idx:Int)-1=(k2:Int):=by omega
            have a4:(idx:Int).tdiv 2=(q:Int):=by rw[Int.tdiv_eq_ediv_of_nonneg (by omega)];omega
            have a5:(idx:Int)/2=(q:Int):=by omega
            have cq:idx/2=q:=by omega
            obtain⟨l1,Z⟩:∃l1,l1=lv+1:=⟨_,rfl⟩;have cr:(lv:Int)+1=(l1:Int):=by omega
            have cs:l1<=65:=by omega
            have Q:Hid (l1=lv+1):=Z;have cD:IntKind.i64.wrap (q:Int)=(q:Int):=IntWalk.i64_in _ (by omega);have cm:Hid (idx=2*q+1/\k2=2*q):=⟨br,Y⟩;have b4:(q+1)*2^(lv+1)=n+1:=by rw[<-ac.out,show idx+1=2*(q+1)by omega,Nat.pow_succ,Nat.mul_comm (2^lv) 2,<-Nat.mul_assoc,Nat.mul_comm (q+1) 2]
            have a6:=af b4;have b5:(k2+1)*2^lv<=n:=by
              have ad:(idx+1)*2^lv=idx*2^lv+2^lv:=by rw[Nat.add_mul,Nat.one_mul]
              have ae:(k2+1)=idx:=by omega
              rw[ae];have:=ac.out;omega
            have CL:Hid (∀w',Fr Nothing wr w'->Calls prog 131 #[.pointer (some ⟨p,0,none⟩), .agg #[.int .i64 (lv:Int), .int .i64 (k2:Int)]] w' (aM w' (bj (aJ (ds++[d]) lv k2)))):=
              λw' f=>eN p E (n+1) G (some b) (ds++[d]) (cU n lv) lv k2 w' ((ab.out.tree B.out).ao f) (by omega) (λh=>⟨h, .inl b5⟩) aB (by have:=aW.out;omega);have aK:Hid (∀w',Fr Nothing wr w'->Calls prog 131 #[.pointer (some ⟨p,0,none⟩), .agg #[.int .i64 (lv:Int), .int .i64 (idx:Int)]] w' (aM w' (bj (aJ (ds++[d]) lv idx)))):=
              λw' f=>eN p E (n+1) G (some b) (ds++[d]) (cU n lv) lv idx w' ((ab.out.tree B.out).ao f) (by have:=ac.out;omega) (λh=>⟨h, .inr ⟨ac.out,Nat.le_refl _⟩⟩) aB (by have:=aW.out;omega);have aS:(aJ (ds++[d]) lv k2).length=32:=ef _ B.out.2 lv k2 (by rw[B.out.1];omega);have aU:(aJ (ds++[d]) lv idx).length=32:=ef _ B.out.2 lv idx (by rw[B.out.1];have:=ac.out;omega);have a1:Hid (∀w',Fr (TB p A n c none) w w'->Calls prog 122 #[bj (aJ (ds++[d]) lv k2),bj (aJ (ds++[d]) lv idx)] w' (aM w' (bj (cS (aJ (ds++[d]) lv k2) (aJ (ds++[d]) lv idx))))):=λw' f=>lZ _ _ aS aU w' (da.out.fr f (NS.out _ (.inl rfl)) (NS.out _ (.inr rfl)));have bf:Hid (Value.agg (aC (cS (aJ (ds++[d]) lv k2) (aJ (ds++[d]) lv idx))).toArray=bj (aJ (ds++[d]) l1 q)):=by
              have:aJ (ds++[d]) l1 q=cS (aJ (ds++[d]) lv k2) (aJ (ds++[d]) lv idx):=by rw[Z,br,Y];rfl
              rw[this];rfl
            have M:Hid (dL (aC (aJ (ds++[d]) lv k2)).toArray):=dL.of aS;have N:Hid (dL (aC (aJ (ds++[d]) lv idx)).toArray):=dL.of aU;have ba:Hid ((prog.info? 38).map (·.size)=some (aC (aJ (ds++[d]) lv k2)).length):=by rw[aC,List.length_map,aS];exact fC
            have bb:Hid ((prog.info? 38).map (·.size)=some (aC (aJ (ds++[d]) lv idx)).length):=by rw[aC,List.length_map,aU];exact fC
            unfold bj at CL aK a1;simp only[show∀l:List UInt8,l.map bK=aC l fromλ_=>rfl]at CL aK a1;generalize aC (cS (aJ (ds++[d]) lv k2) (aJ (ds++[d]) lv idx))=NV at*;generalize aC (aJ (ds++[d]) lv k2)=bd at*;generalize aC (aJ (ds++[d]) lv idx)=bh at*;clear br Y Z b4 b5 aS aU bq cb;go_wp2_with fail;refine(CL.out _ aA).mono ?_;rintro e cc⟨rfl,bi⟩;have am:=af (ab.out.later bi);have bJ:=af bi;clear bi F c51;go_wp2_with(refine an rfl 38 rfl bp jn aH rfl ?_);intro dh nb;have bg:=af nb;clear nb;generalize ax:cc.heap.size=g6 at*;have P:=af ax;clear ax;go_wp2_with(refine ai rfl 38 (.tmp 6) _ rfl g6 bd.toArray rfl rfl _ _ (by have h:=bg.out.aF;rw[P.out]at h;exact h) M.out.info M.out.zero M.out.one ?_);intro wc b0 b6;have au:=af b0;have a7:Hid (Fr Nothing cc wc):=bg.out.fr.aw b6 (λi cx e=>by have y:i=g6:=e;have:=P.out;omega);have H:=af (am.out.later a7.out);clear b0 b6 bg am;have F:wc.cell? ⟨g5,0,none⟩=some (.int .i64 lv):=H.out.cP.cell 0;have c51:wc.cell? ⟨g5,1,none⟩=some (.int .i64 idx):=H.out.cP.cell 1;go_wp2_with fail;refine(aK.out _ (bJ.out.trans a7.out)).mono ?_;rintro e wd⟨rfl,fd⟩;have ap:=af (H.out.later fd);have R:=af (au.out.fr fd id);clear fd F c51 H au bJ a7 CL aK P;go_wp2_with(refine an rfl 38 rfl bp jn aH rfl ?_);intro di ne;have Ne:=af ne;clear ne;generalize az:wd.heap.size=g7 at*;have I:=af az;clear az;have cn:Hid (g6<g7):=by have:=R.out.lt;have:=I.out;simp only[Hid];omega
            go_wp2_with(refine ai rfl 38 (.tmp 7) _ rfl g7 bh.toArray rfl rfl _ _ (by have h:=Ne.out.aF;rw[I.out]at h;exact h) N.out.info N.out.zero N.out.one ?_);intro wf b1 b7;have T:=af b1;have a8:Hid (Fr Nothing wd wf):=Ne.out.fr.aw b7 (λi cx e=>by have y:i=g7:=e;have:=I.out;omega);have z:=af (ap.out.later a8.out);have S:=af (R.out.fr a8.out id);clear b1 b7 Ne ap R a8 I;have F:wf.cell? ⟨g5,0,none⟩=some (.int .i64 lv):=z.out.cP.cell 0;have c51:wf.cell? ⟨g5,1,none⟩=some (.int .i64 idx):=z.out.cP.cell 1;have bY:Hid ((#[Value.int .i64 (l1:Int),Value.int .i64 (q:Int)]:Array Value).all (·.oneCell')=true):=by simp[Hid,Value.oneCell']
            go_wp2_with(refine ai rfl 212 (.tmp 5) _ rfl g5 #[.int .i64 (l1:Int), .int .i64 (q:Int)] rfl rfl _ _ z.out.cP cy rfl bY.out ?_);intro bs b2 aN;have D:=af (z.out.Gu aN b2 cN.out);have bS:=af (S.out.fr aN (λe=>by have y:g6=g5:=e;exact aq.qW S.out z.out.cP (by decide) y));have bT:=af (T.out.fr aN (λe=>by have y:g7=g5:=e;exact aq.qW T.out z.out.cP (by decide) y));clear bY b2 aN z S T F c51;have bV:Hid (bs.cell? ⟨g5,0,none⟩=some (.int .i64 (l1:Int))):=D.out.cP.cell 0;have bW:Hid (bs.cell? ⟨g5,1,none⟩=some (.int .i64 q)):=D.out.cP.cell 1;have bt:Hid (bs.cell? ⟨p,1,none⟩=some (.map (some b))):=D.out.aF.cell 1;clear bZ a2 a3 a4 a5 cq cr cs cD;go_upto_region 13 with fail;refine ay 8 Nothing [Is (.pointer (some ⟨p,0,none⟩)),Is (.pointer (some ⟨p,0,none⟩)),Is (.pointer (some ⟨p,1,none⟩)),Is (.map (some b)),Is (gS l1 q),Is (.agg bd.toArray),Is (.agg bh.toArray),Is (.agg NV.toArray)] [] (λ_=>True) (λ_ _=>false) (by kernel_rfl) (by kernel_rfl) (by kernel_rfl) (by kernel_rfl) ⟨Is.ag _,Is.ag _,Is.ag _,Is.ag _,Is.ag _,Is.ag _,Is.ag _,Is.ag _,trivial⟩ trivial (λ_ _ _ _ h=>h) trivial ?_ ?_
            · refine⟨?_,?_,?_,?_,?_,?_,?_,?_,trivial⟩;all_goals intro u w' d f a s t m
              all_goals simp only[bC,bD,bE,bF,ar,Act.put,bG,bH,bI,Nat.reduceAdd,Nat.zero_add]
              · clear a s t m;refine aj ?_;go_simp;exact⟨_,rfl,al⟩
              · have bk:u 0=_:=a 0;clear a s t m;simp only[bk];refine aj ?_;go_simp;exact⟨_,rfl,al⟩
              · have ad:u 1=_:=a 1;clear a s t m;simp only[ad];refine aj ?_;go_simp;exact⟨_,rfl,al⟩
              · have ae:u 2=_:=a 2;clear a s t m;simp only[ae];refine aj ?_;have b9:=f.ak bt.out id;go_simp;exact⟨_,rfl,al⟩
              · clear a s t m;refine aj ?_;have b9:=f.ak bV.out id;have cu:=f.ak bW.out id;go_simp;exact⟨_,rfl,al⟩
              · clear a s t m;refine aj ?_;exact wp_load_mid _ _ rfl g6 0 rfl bd _ (dE (bS.out.fr f id)) underlying38 rfl ba.out ⟨_,rfl,al⟩
              · clear a s t m;refine aj ?_;exact wp_load_mid _ _ rfl g7 0 rfl bh _ (dE (bT.out.fr f id)) underlying38 rfl bb.out ⟨_,rfl,al⟩
              · have bm:u 5=_:=a 5;have bn:u 6=_:=a 6;clear a s t m;simp only[bm,bn];refine aj ?_;go_simp;refine(a1.out _ (D.out.Lv.trans f.bR)).mono ?_;rintro e de⟨rfl,f4⟩;exact⟨_,rfl,f4.bR,rfl,trivial⟩
            · intro u w' f a m;have aY:u 3=_:=a 3 (by omega);have bl:u 4=_:=a 4 (by omega);have aI:u 7=_:=a 7 (by omega);have O:=af (D.out.later f);clear a m f bV bW bt bS bT D;simp only[bC,bD,bE,bF,ar,Act.put,bG,bH,bI,dt,du,Nat.reduceAdd,Nat.zero_add,aY,bl,aI];refine jE rfl (.tmp 68) (.tmp 69) (.tmp 72) rfl O.out.map l1 q rfl rfl rfl (by rw[Q.out];exact oi n lv q a6.out) bf.out (cU n l1) (λl i=>by rw[Q.out];exact mO n lv q l i a6.out) ?_;intro cE av b8;have bQ:=af (O.out.Gv b8 av cF.out);clear av b8 O;simp only[Act.put];go_wp2;go_roundw;case rel=>exact⟨l1,q,by rw[Q.out];exact a6.out,bQ.out⟩
              case measure=>
                have s:cE.cell? ⟨g5,1,none⟩=some (.int .i64 q):=bQ.out.cP.cell 1;have k2:wr.cell? ⟨g5,1,none⟩=some (.int .i64 idx):=ab.out.cP.cell 1;have:=cm.out;rw[s,k2];simp[intOf];omega
          · have bZ:(idx:Int).tmod 2=0:=by rw[Int.tmod_eq_emod_of_nonneg (by omega)];omega
            have a2:(idx:Int)%2=0:=by omega
            have cp:Hid (∀l i,cU n lv l i↔bN (n+1) l i):=λl i=>oh n lv idx ac.out (by omega) l i;go_wp2;go_ret;exact⟨rfl,E,G,some b,(ab.out.tree B.out).congr cp.out,ab.out.fr,λk X=>by
              rcases X with h|h|h;· exact .inl (.inl h)
              · have e:b=k:=Option.some.inj h;rw[<-e];exact bu.out
              · exact U.out k h⟩
end Go.Proofs.YtphjagkehiklkaaGreatDoor.Lt
