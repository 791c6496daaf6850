/- Texts. -/
import Derived.Test.YtphjagkehiklkaaGreatDoorUK22
set_option linter.unusedVariables false
set_option linter.unusedSimpArgs false
set_option maxRecDepth 100000
set_option maxHeartbeats 8000000
namespace Go.Proofs.YtphjagkehiklkaaGreatDoor
open Go.RowKit Go.Shelf
structure Ri(a W:World)(g:Nat)(S:Nat→Prop)(st:dP):Prop where
 fr:Fr af a W
 rr:Rr W g S st.1 st.2.1 st.2.2
 new:a.heap.size≤g
 sn:∀k,S k→a.heap.size≤k∧k<W.heap.size
theorem Rr.az{W:World}{g:Nat}{S:Nat→Prop}{l:List UInt8}{p:Nat}{f:Int}(h:Rr W g S l p f):∃A n c,ak W g 193 #[.slice A n c, .int .i64 p, .int .i64 f]:=by
 obtain⟨A,n,c,a,_⟩:=h.ex;exact⟨A,n,c,a⟩
theorem Ri.step{c W W':World}{g:Nat}{S:Nat→Prop}{st a:dP}(h:Ri c W g S st)(k:fi W g S W' a.1 a.2.1 a.2.2):Ri c W' g S a:=
 ⟨h.fr.ao k.fr (fun i b e=>by have d:i=g:=e;have:=h.new;omega),k.rr,h.new,fun i b=>⟨(h.sn i b).1,Nat.lt_of_lt_of_le (h.sn i b).2 k.fr.size⟩⟩
theorem Ri.later{b W W':World}{g:Nat}{S:Nat→Prop}{st:dP}(h:Ri b W g S st)(f:Fr af W W'):Ri b W' g S st:=
 ⟨h.fr.trans f,h.rr.jH f,h.new,fun i a=>⟨(h.sn i a).1,Nat.lt_of_lt_of_le (h.sn i a).2 f.size⟩⟩
theorem Ri.tp{j l W W':World}{g b:Nat}{S:Nat→Prop}{d st:dP}(a:Ri j l g S d)(h:Ri j W g S st)(f:Fr (fun k=>k=b) W W')(q:l.heap.size≤b):Ri j W' g S st:=by
 have o:=a.rr.lt;have p:=a.fr.size;refine⟨h.fr.ao f (fun i c e=>by have m:i=b:=e;omega),h.rr.jQ f (fun e=>by have m:g=b:=e;omega) (fun k n e=>by
  have m:k=b:=e;have:=(a.sn k n).2;omega),h.new,fun i c=>⟨(h.sn i c).1,Nat.lt_of_lt_of_le (h.sn i c).2 f.size⟩⟩
def pC(a W:World)(g:Nat)(S:Nat→Prop)(v:Value)(st:dP)(e:Ending)(W':World):Prop:=e= .returned v∧Ri a W' g S st∧Fr (dJ g) W W'
theorem Ri.number{b W:World}{g:Nat}{S:Nat→Prop}{st:dP}(h:Ri b W g S st)(aJ:Int):
  Calls Tryz.prog 107 #[.pointer (some ⟨g,0,none⟩), .int .i64 aJ] W (pC b W g S (.int .i64 (aF 0 (aT aJ) st).1) (aF 0 (aT aJ) st).2):=by
 obtain⟨l,p,f⟩:=st;refine(jq g S l p f aJ W h.rr).mono ?_;rintro e w'⟨rfl,a⟩;exact⟨rfl,h.step a,a.fr⟩
theorem Ri.text{b W:World}{g:Nat}{S:Nat→Prop}{st:dP}(h:Ri b W g S st)(aJ:Int):
  Calls Tryz.prog 104 #[.pointer (some ⟨g,0,none⟩), .int .i64 aJ] W (pC b W g S (.string ⟨(aF [] (bJ aJ) st).1.toArray⟩) (aF [] (bJ aJ) st).2):=by
 obtain⟨l,p,f⟩:=st;refine(mC g S l p f aJ W h.rr).mono ?_;rintro e w'⟨rfl,a⟩;exact⟨rfl,h.step a,a.fr⟩
theorem Ri.flag{b W:World}{g:Nat}{S:Nat→Prop}{st:dP}(h:Ri b W g S st):
  Calls Tryz.prog 119 #[.pointer (some ⟨g,0,none⟩)] W (pC b W g S (.bool (aF false bH st).1) (aF false bH st).2):=by
 obtain⟨l,p,f⟩:=st;refine(Az g S l p f W h.rr).mono ?_;rintro e w'⟨rfl,a⟩;exact⟨rfl,h.step a,a.fr⟩
theorem Ri.rest{a W:World}{g:Nat}{S:Nat→Prop}{st:dP}(h:Ri a W g S st):
  Calls Tryz.prog 117 #[.pointer (some ⟨g,0,none⟩)] W (bj W (.int .i64 (st.1.length:Nat))):=by
 obtain⟨l,p,f⟩:=st;exact AD g S l p f W h.rr
theorem Ri.close{a W:World}{g:Nat}{S:Nat→Prop}{st:dP}(h:Ri a W g S st):
  Calls Tryz.prog 72 #[.pointer (some ⟨g,0,none⟩)] W (bj W (.int .i64 (eK st))):=by
 obtain⟨l,p,f⟩:=st;exact rI g S l p f W h.rr
theorem ak.only{W W':World}{g b:Nat}{S:Nat→Prop}{j:World}{st:dP}{t:TypeId}{cs:Array Value}(h:ak W b t cs)(f:Ri j W g S st)(d:Fr (dJ g) W W')(i:t≠193):ak W' b t cs:=
 h.fr d (fun e=>by
  obtain⟨A,n,c,a⟩:=f.rr.az;exact dB h a i e)
theorem dh.only{W W' f:World}{g:Nat}{S:Nat→Prop}{st:dP}{v:Value}{l:List CV}(h:dh W v l)(e:Ri f W g S st)(b:Fr (dJ g) W W'):dh W' v l:=
 h.bV b (fun k d=>by
  obtain rfl:k=g:=d;obtain⟨A,n,c,a⟩:=e.rr.az;exact⟨fun x=>absurd (x.one a.ty) (by decide),fun x=>absurd (x.one a.ty) (by decide),fun x=>absurd (x.one a.ty) (by decide)⟩)
def xt:Value:= .agg #[.int .i64 0, .int .i64 0, .int .i64 0, .string ByteArray.empty]
theorem Bb(w:World):(zeroValue 43).run Tryz.prog w= .ok xt w:=by kernel_rfl
theorem dV.one(k:dV):k.cells.toArray.all (·.oneCell')=true:=by simp[dV.cells,Value.oneCell']
theorem xh(o W:World)(g:Nat)(S:Nat→Prop)(l:List UInt8)(h:Ri o W g S (l,0,0)):
  Calls Tryz.prog 70 #[.pointer (some ⟨g,0,none⟩)] W (pC o W g S (.agg (fo l).1.cells.toArray) (fo l).2):=by
 have z:=Lib.hid h;have K:Hid ((fo l)=(⟨(fj l).1,(gG l).1,(rdNum l).1,⟨(fI l).1.toArray⟩⟩,(fI l).2)):=rfl;have R:Hid (∀W',Ri o W' g S (l,0,0)→Calls Tryz.prog 107 #[.pointer (some ⟨g,0,none⟩), .int .i64 1073741824] W' (pC o W' g S (.int .i64 (fj l).1) (fj l).2)):=fun W' h=>h.number _;have T:Hid (∀W',Ri o W' g S (fj l).2→Calls Tryz.prog 107 #[.pointer (some ⟨g,0,none⟩), .int .i64 2] W' (pC o W' g S (.int .i64 (gG l).1) (gG l).2)):=fun W' h=>h.number _;have U:Hid (∀W',Ri o W' g S (gG l).2→Calls Tryz.prog 107 #[.pointer (some ⟨g,0,none⟩), .int .i64 999999] W' (pC o W' g S (.int .i64 (rdNum l).1) (rdNum l).2)):=fun W' h=>h.number _;have V:Hid (∀W',Ri o W' g S (rdNum l).2→Calls Tryz.prog 104 #[.pointer (some ⟨g,0,none⟩), .int .i64 16777216] W' (pC o W' g S (.string ⟨(fI l).1.toArray⟩) (fI l).2)):=fun W' h=>h.text _;rw[K.out];simp only[dV.cells];generalize(fj l).1=n at*;generalize(fj l).2=s1 at*;generalize(gG l).1=q at*;generalize(gG l).2=s2 at*;generalize(rdNum l).1=t at*;generalize(rdNum l).2=ae at*;generalize(fI l).2=H at*;generalize(⟨(fI l).1.toArray⟩:ByteArray)=u at*;have w:Hid (∀W',Ri o W' g S H→Fr (dJ g) W W'→pC o W g S (.agg [Value.int .i64 n, .int .i64 q, .int .i64 t, .string u].toArray) H (.returned (.agg [Value.int .i64 n, .int .i64 q, .int .i64 t, .string u].toArray)) W'):=fun W' a b=>⟨rfl,a,b⟩;clear h K;generalize pC o W g S (.agg [Value.int .i64 n, .int .i64 q, .int .i64 t, .string u].toArray) H=PP at*;go_enter Tryz.func70,Tryz.ntmps70;go_wp2_with(refine ai rfl 43 rfl xt Bb #[.int .i64 0, .int .i64 0, .int .i64 0, .string ByteArray.empty] rfl ?_);intro w1 n1;have D:=Lib.hid n1;clear n1;generalize y:W.heap.size=g2 at*;have A:Hid (ak w1 g2 43 #[.int .i64 0, .int .i64 0, .int .i64 0, .string ByteArray.empty]):=by have h:=D.out.az;rw[y]at h;exact h
 have B:=Lib.hid y;clear y;go_wp2_with(refine ai rfl 43 rfl xt Bb #[.int .i64 0, .int .i64 0, .int .i64 0, .string ByteArray.empty] rfl ?_);intro w2 M;have E:=Lib.hid M;clear M;generalize F:w1.heap.size=g3 at*;have k:Hid (ak w2 g3 43 #[.int .i64 0, .int .i64 0, .int .i64 0, .string ByteArray.empty]):=by have h:=E.out.az;rw[F]at h;exact h
 have r:Hid (g2<g3):=by have:=D.out.size;have:=B.out;simp only[Hid];omega
 have d:Hid (W.heap.size≤g2∧W.heap.size≤g3):=by have:=B.out;have:=r.out;exact⟨by omega,by omega⟩
 clear F;have f:=Lib.hid (A.out.fr E.out.fr (fun x=>x));have m:Hid (Fr (dJ g) W w2):=(D.out.fr.trans E.out.fr).bA;have c:=Lib.hid (z.out.later (D.out.fr.trans E.out.fr));clear D E A;go_wp2_with fail;refine(R.out _ c.out).mono ?_;rintro e ab⟨rfl,s,f3⟩;have f:=Lib.hid (f.out.only c.out f3 (by decide));have k:=Lib.hid (k.out.only c.out f3 (by decide));have m:Hid (Fr (dJ g) W ab):=m.out.trans f3;have c:=Lib.hid s;clear s f3;go_wp2_with(refine aM rfl 3 (.tmp 6) (.tmp 5) rfl g3 0 (.int .i64 n) rfl rfl rfl lP _ _ #[.int .i64 n, .int .i64 0, .int .i64 0, .string ByteArray.empty] k.out (show 0<4 by decide) rfl ?_);intro N b3 f3;have k:Hid (ak N g3 43 #[.int .i64 n, .int .i64 0, .int .i64 0, .string ByteArray.empty]):=b3;have f:=Lib.hid (f.out.fr f3 (fun e=>by have v:g2=g3:=e;have:=r.out;omega));have c:=Lib.hid (z.out.tp c.out f3 d.out.2);have m:Hid (Fr (dJ g) W N):=m.out.ao f3 (fun i G e=>by have v:i=g3:=e;have:=d.out;omega);clear b3 f3;go_wp2_with fail;refine(T.out _ c.out).mono ?_;rintro e ac⟨rfl,s,f3⟩;have f:=Lib.hid (f.out.only c.out f3 (by decide));have k:=Lib.hid (k.out.only c.out f3 (by decide));have m:Hid (Fr (dJ g) W ac):=m.out.trans f3;have c:=Lib.hid s;clear s f3;go_wp2_with(refine aM rfl 3 (.tmp 9) (.tmp 8) rfl g3 1 (.int .i64 q) rfl rfl rfl lP _ _ #[.int .i64 n, .int .i64 q, .int .i64 0, .string ByteArray.empty] k.out (show 1<4 by decide) rfl ?_);intro O b3 f3;have k:Hid (ak O g3 43 #[.int .i64 n, .int .i64 q, .int .i64 0, .string ByteArray.empty]):=b3;have f:=Lib.hid (f.out.fr f3 (fun e=>by have v:g2=g3:=e;have:=r.out;omega));have c:=Lib.hid (z.out.tp c.out f3 d.out.2);have m:Hid (Fr (dJ g) W O):=m.out.ao f3 (fun i G e=>by have v:i=g3:=e;have:=d.out;omega);clear b3 f3;go_wp2_with fail;refine(U.out _ c.out).mono ?_;rintro e ad⟨rfl,s,f3⟩;have f:=Lib.hid (f.out.only c.out f3 (by decide));have k:=Lib.hid (k.out.only c.out f3 (by decide));have m:Hid (Fr (dJ g) W ad):=m.out.trans f3;have c:=Lib.hid s;clear s f3;go_wp2_with(refine aM rfl 3 (.tmp 12) (.tmp 11) rfl g3 2 (.int .i64 t) rfl rfl rfl lP _ _ #[.int .i64 n, .int .i64 q, .int .i64 t, .string ByteArray.empty] k.out (show 2<4 by decide) rfl ?_);intro P b3 f3;have k:Hid (ak P g3 43 #[.int .i64 n, .int .i64 q, .int .i64 t, .string ByteArray.empty]):=b3;have f:=Lib.hid (f.out.fr f3 (fun e=>by have v:g2=g3:=e;have:=r.out;omega));have c:=Lib.hid (z.out.tp c.out f3 d.out.2);have m:Hid (Fr (dJ g) W P):=m.out.ao f3 (fun i G e=>by have v:i=g3:=e;have:=d.out;omega);clear b3 f3;go_wp2_with fail;refine(V.out _ c.out).mono ?_;rintro e x3⟨rfl,s,f3⟩;have f:=Lib.hid (f.out.only c.out f3 (by decide));have k:=Lib.hid (k.out.only c.out f3 (by decide));have m:Hid (Fr (dJ g) W x3):=m.out.trans f3;have c:=Lib.hid s;clear s f3;go_wp2_with(refine aM rfl 41 (.tmp 15) (.tmp 14) rfl g3 3 (.string u) rfl rfl rfl tg _ _ #[.int .i64 n, .int .i64 q, .int .i64 t, .string u] k.out (show 3<4 by decide) rfl ?_);intro y3 b3 f3;have k:Hid (ak y3 g3 43 #[.int .i64 n, .int .i64 q, .int .i64 t, .string u]):=b3;have f:=Lib.hid (f.out.fr f3 (fun e=>by have v:g2=g3:=e;have:=r.out;omega));have c:=Lib.hid (z.out.tp c.out f3 d.out.2);have m:Hid (Fr (dJ g) W y3):=m.out.ao f3 (fun i G e=>by have v:i=g3:=e;have:=d.out;omega);clear b3 f3;go_wp2_with(refine aw rfl 43 (.tmp 3) rfl ⟨g3,0,none⟩ rfl [Value.int .i64 n, .int .i64 q, .int .i64 t, .string u] _ ?zA Tryz.underlying43 rfl eM (aR.go ?zB));case zA=>
  intro j x aa;rw[Addr.add_mid,Nat.zero_add,k.out.cell j,List.getElem?_toArray];exact aa
 unfold aR;have C:Hid ([Value.int .i64 n, .int .i64 q, .int .i64 t, .string u].toArray.all (·.oneCell')=true):=by simp[Hid,Value.oneCell']
 go_wp2_with(refine ah rfl 43 (.tmp 2) _ rfl g2 [Value.int .i64 n, .int .i64 q, .int .i64 t, .string u].toArray rfl rfl _ _ f.out eM rfl C.out ?_);intro I L J;have Q:=Lib.hid L;have Z:Hid (Ri o I g S H):=z.out.tp c.out J d.out.1;have X:Hid (Fr (dJ g) W I):=m.out.ao J (fun i G e=>by have v:i=g2:=e;have:=d.out;omega);have Y:=Lib.hid (w.out I Z.out X.out);clear L J;go_wp2;exact bodyPost_ret (results_cell_row (fn:=Tryz.f70) (p:=2) (ty:=43) Tryz.results70 _ I _ 43 _ (0,0) _ rfl Q.out Tryz.underlying43 rfl eM) rfl Y.out
theorem GX(st:dP):(gv st).1.length≤16777216:=by
 unfold gv aF;split;·simp
 ·split;·simp
  next h=>
   simp only[bJ]at h⊢;split;·simp
   ·split;·simp
    ·split;·simp
     next a b c=>
      simp only[List.length_take];omega
theorem yM(st:dP):(aF 0 (aT (st.1.length:Int)) st).1≤(st.1.length:Int)∧0≤(aF 0 (aT (st.1.length:Int)) st).1:=by
 unfold aF;split;·simp
 ·split;·simp
  next h=>
   simp only[ne_eq,Decidable.not_not,aT]at h⊢;by_cases c:(pn st.1 9).2.2=0∧(st.1.length:Int)<((pn st.1 9).1:Int);·rw[if_pos c]at h;cases h
   ·rw[if_neg c]at h;have a:(pn st.1 9).2.2=0:=by omega
    have:¬(st.1.length:Int)<((pn st.1 9).1:Int):=fun x=>c ⟨a,x⟩;omega
def Ij(c W:World)(g:Nat)(S:Nat→Prop)(a:Option (List CV×dP))(e:Ending)(W':World):Prop:=
 ∃v b,e= .returned (.tuple #[v, .bool b])∧Fr (dJ g) W W'∧((b=true∧∃L st,a=some (L,st)∧dh W' v L∧L.length≤1099511627776∧Ri c W' g S st∧∀k,v.ownBlock=some k→W.heap.size≤k)∨(b=false∧a=none∧v= .slice none 0 0∧c.heap.size≤W'.heap.size∧Fr af c W'))
def Ii(c W:World)(g:Nat)(S:Nat→Prop)(N:Nat)(a:Option (List CV×dP))(v i:Value)(wr:World):Prop:=
 ∃(k:Nat)(st:dP)(L:List CV),k≤N∧i= .int .i64 (k:Int)∧iU (N-k) st L=a∧L.length=k∧dh wr v L∧(∀b,v.ownBlock=some b→W.heap.size≤b)∧Ri c wr g S st∧Fr (dJ g) W wr
theorem Cq(n:aD)(s:ByteArray)(b:Bool):Tryz.prog.built 119 [(0, .agg n.cells.toArray),(2, .bool b),(1, .string s)]=some (CV.cells ⟨n,s,b⟩).toArray:=by kernel_rfl
theorem EZ(n:aD):(Tryz.prog.info? 106).map (·.size)=some n.cells.toArray.size:=aX
theorem Gg(w:World):(zeroValue 106).run Tryz.prog w= .ok (.agg (aD.cells ⟨0,ByteArray.empty,0,0,ByteArray.empty⟩).toArray) w:=by kernel_rfl
theorem qH(q W:World)(g:Nat)(S:Nat→Prop)(st:dP)(h:Ri q W g S st)(bF:dy q):
  Calls Tryz.prog 71 #[.pointer (some ⟨g,0,none⟩)] W (Ij q W g S (fH st)):=by
 have aw:=Lib.hid h;have bR:=Lib.hid bF;have D:Hid (fH st=iU (aF 0 (aT (st.1.length:Int)) st).1.toNat (aF 0 (aT (st.1.length:Int)) st).2 []):=rfl;obtain⟨N,a4⟩:∃N:Nat,(aF 0 (aT (st.1.length:Int)) st).1=(N:Int):=⟨_,(Int.toNat_of_nonneg (yM st).2).symm⟩;have K:Hid (N≤1099511627776):=by
  have bU:=(yM st).1;have bV:=h.rr.small;simp only[Hid];omega
 rw[a4,Int.toNat_natCast]at D;have bp:Hid (∀W',Ri q W' g S st→Calls Tryz.prog 107 #[.pointer (some ⟨g,0,none⟩), .int .i64 (st.1.length:Nat)] W' (pC q W' g S (.int .i64 (N:Int)) (aF 0 (aT (st.1.length:Int)) st).2)):=fun W' h=>by
  rw[←a4];exact h.number _
 have bq:Hid (Calls Tryz.prog 117 #[.pointer (some ⟨g,0,none⟩)] W (bj W (.int .i64 (st.1.length:Nat)))):=h.rest;obtain⟨r,a5⟩:∃O,fH st=O:=⟨_,rfl⟩;rw[a5]at D;rw[a5];generalize(aF 0 (aT (st.1.length:Int)) st).2=s1 at*;obtain⟨i0,aj,am,E,a7⟩:=info_parts nS;have a0:Hid (¬1*i0.size>2^24):=by simp only[Hid];rw[E];omega
 have a1:Hid (¬1*i0.size=0):=by simp only[Hid];rw[E];omega
 have a2:Hid (∀c:CV,Instr.fill (fun i=>some (i*i0.size,i0.size)) ((Array.range (1*i0.size)).map (cE.cells[· %cE.cells.size]!)) [(0, .agg c.cells.toArray)]=some c.cells.toArray):=fun c=>by rw[E];exact kV _ _ rfl (by simp[cE,Value.cells])
 clear h bF a4 a5;go_enter Tryz.func71,Tryz.ntmps71;go_wp2_with fail;refine bq.out.mono ?_;rintro e w1⟨rfl,rfl⟩;go_wp2_with fail;refine(bp.out _ aw.out).mono ?_;rintro e w1⟨rfl,bK,f1⟩;have aa:Hid (Ii q W g S N r (.slice none 0 0) (.int .i64 0) w1):=⟨0,s1,[],Nat.zero_le _,rfl,D.out.symm,rfl,dh.nil _,(fun b ac=>by simp[Value.ownBlock]at ac),bK,f1⟩;clear bK f1 bp bq D;go_wp2;go_loopw[4,12](fun v i wr=>Ii q W g S N r v i wr)(fun _ i _=>N-(intOf i).toNat);case atStart=>exact aa.out
 case round=>
  obtain⟨k,l,L,b3,rfl,bD,Q,bC,aE,a,hF⟩:=hrel;have ax:=Lib.hid a;have aP:=Lib.hid hF;have aU:=Lib.hid Q;have bh:=Lib.hid aE;obtain⟨aq,n4,ay,rfl,M⟩:=bC.form;have aK:=Lib.hid M;have b1:Hid (n4=k):=by
   obtain⟨A,n,c,e,bX,_⟩:=M.cl;cases e;rw[Hid,bX,Q]
  have au:=Lib.hid bD;clear a hF Q aE bC M bD aa;by_cases bW:k<N
  ·have bE:(k:Int)<(N:Int):=by omega
   have t1:decide ((k:Int)<(N:Int))=true:=decide_eq_true bE;have bt:Hid (iU (N-k-1+1) l L=r):=by rw[Hid,show N-k-1+1=N-k by omega];exact au.out
   have aS:Hid ((gv l).1.length≤16777216):=GX l;have br:Hid (∀W',Ri q W' g S l→Calls Tryz.prog 104 #[.pointer (some ⟨g,0,none⟩), .int .i64 16777216] W' (pC q W' g S (.string ⟨(gv l).1.toArray⟩) (gv l).2)):=fun W' h=>h.text _;have o:Hid (iU (N-k-1+1) l L=if(eL (gv l).1).2≠0 then none else iU (N-k-1) (cY (aF false bH (gv l).2).2).2 (L++[⟨(eL (gv l).1).1,⟨(cY (aF false bH (gv l).2).2).1.toArray⟩,(aF false bH (gv l).2).1⟩])):=rfl;rw[bt.out]at o;generalize(gv l).1=V at*;generalize(gv l).2=s2 at*;clear au bt;go_wp2_with fail;refine(br.out _ ax.out).mono ?_;rintro e w2⟨rfl,bL,f2⟩;have aW:=Lib.hid bL;have bu:Hid (Fr (dJ g) W w2):=aP.out.trans f2;have bi:=Lib.hid (aK.out.only ax.out f2);clear bL f2 br;obtain⟨m,hm⟩:∃m,eL V=m:=⟨_,rfl⟩;have aJ:Hid (∀w',Fr af q w'→Calls Tryz.prog 118 #[.string ⟨V.toArray⟩] w' (fun e z=>e= .returned (.tuple #[.agg m.1.cells.toArray, .int .i64 m.2])∧Fr af w' z)):=fun w' f=>by
    have h:=Ce ⟨V.toArray⟩ w' (bR.out.al f) (by have:=aS.out;simp[ByteArray.size];omega);unfold sx at h;rw[show aC ⟨V.toArray⟩=V from ox V,hm]at h;exact h
   rw[hm]at o;clear hm ax aP aK;obtain⟨nm,aY⟩:=m;simp only at aJ o;go_wp2_with fail;refine(aJ.out _ aW.out.fr).mono ?_;rintro e a9⟨rfl,f3⟩;have bw:=Lib.hid (aW.out.later f3);have aL:Hid (Fr (dJ g) W a9):=bu.out.trans f3.bA;have bk:=Lib.hid (bi.out.al f3);clear f3 aJ aW bu bi;go_wp2_with(refine ai rfl 106 rfl (.agg (aD.cells ⟨0,ByteArray.empty,0,0,ByteArray.empty⟩).toArray) Gg (aD.cells ⟨0,ByteArray.empty,0,0,ByteArray.empty⟩).toArray rfl ?_);intro bZ bJ;have aV:=Lib.hid bJ;clear bJ;generalize ae:a9.heap.size=g5 at*;have I:=Lib.hid ae;clear ae;have bg:Hid (ak bZ g5 106 (aD.cells ⟨0,ByteArray.empty,0,0,ByteArray.empty⟩).toArray):=by have h:=aV.out.az;rw[I.out]at h;exact h
   have bQ:Hid (W.heap.size≤g5):=by have:=aL.out.size;have:=I.out;simp only[Hid];omega
   go_wp2_with(refine ah rfl 106 (.tmp 5) _ rfl g5 nm.cells.toArray rfl rfl _ _ bg.out (EZ nm) rfl nm.one ?_);intro bd bb bB;have be:Hid (ak bd g5 106 nm.cells.toArray):=bb;have av:Hid (Fr af a9 bd):=aV.out.fr.ao bB (fun i y e=>by have bT:i=g5:=e;have:=I.out;omega);have T:=Lib.hid (bw.out.later av.out);have aM:Hid (Fr (dJ g) W bd):=aL.out.trans av.out.bA;have bl:=Lib.hid (bk.out.al av.out);clear bb bB aV bg av bw aL bk;by_cases s:aY=0;case neg=>
    have t2:(aY !=0)=true:=by rw[bne_iff_ne];exact s
    have t:Hid (r=none):=by rw[Hid,o.out,if_pos s]
    clear s o;go_wp2;go_ret2;exact⟨_,_,rfl,aM.out, .inr ⟨rfl,t.out,rfl,T.out.fr.size,T.out.fr⟩⟩
   have t2:(aY !=0)=false:=by rw[bne_eq_false_iff_eq];exact s
   have ab:Hid (r=iU (N-k-1) (cY (aF false bH s2).2).2 (L++[⟨nm,⟨(cY (aF false bH s2).2).1.toArray⟩,(aF false bH s2).1⟩])):=by rw[Hid,o.out,if_neg (by simp[s])]
   clear s o;have bo:Hid (∀W',Ri q W' g S s2→Calls Tryz.prog 119 #[.pointer (some ⟨g,0,none⟩)] W' (pC q W' g S (.bool (aF false bH s2).1) (aF false bH s2).2)):=fun W' h=>h.flag;generalize(aF false bH s2).1=aB at*;generalize(aF false bH s2).2=p at*;go_wp2_with fail;refine(bo.out _ T.out).mono ?_;rintro e ba⟨rfl,bM,f5⟩;have B:=Lib.hid bM;have aN:Hid (Fr (dJ g) W ba):=aM.out.trans f5;have bm:=Lib.hid (bl.out.only T.out f5);have Y:=Lib.hid (be.out.only T.out f5 (by decide));clear bM f5 bo T aM bl be;have bs:Hid (∀W',Rr W' g S p.1 p.2.1 p.2.2→Calls Tryz.prog 104 #[.pointer (some ⟨g,0,none⟩), .int .i64 65536] W' (fun e z=>e= .returned (.string ⟨(cY p).1.toArray⟩)∧Fr (dJ g) W' z∧Rr z g S (cY p).2.1 (cY p).2.2.1 (cY p).2.2.2)):=fun W' h=>by
    refine(mC g S _ _ _ 65536 W' h).mono ?_;rintro e z⟨rfl,bG⟩;exact⟨rfl,bG.fr,bG.rr⟩
   generalize(⟨(cY p).1.toArray⟩:ByteArray)=aG at*;generalize(cY p).2=G at*;have aH:=Lib.hid (Cq nm aG aB);have Z:=Lib.hid (CV.one ⟨nm,aG,aB⟩);obtain⟨cv,R⟩:∃cv:CV,cv=⟨nm,aG,aB⟩:=⟨_,rfl⟩;rw[←R]at aH Z ab;have aQ:Hid (cv.cells.length=7):=by rw[R];rfl
   clear R;have aR:Hid (g<ba.heap.size):=B.out.rr.lt;go_upto_region 8 with fail;refine aA 7 (dJ g) [Is (.slice aq n4 ay),Is (.agg nm.cells.toArray),Is (.bool aB),Is (.pointer (some ⟨g,0,none⟩)),Is (.string aG),Is (.agg cv.cells.toArray),fun x X=>∃b,x= .slice (some ⟨b,0,none⟩) 1 1∧ak X b 119 cv.cells.toArray∧b≠g∧ba.heap.size≤b] [(4,fun X=>Rr X g S G.1 G.2.1 G.2.2)] (fun X=>Rr X g S p.1 p.2.1 p.2.2) (fun _ _=>false) (by kernel_rfl) (by kernel_rfl) (by kernel_rfl) (by kernel_rfl) ⟨Is.ag _,Is.ag _,Is.ag _,Is.ag _,Is.ag _,Is.ag _,fun _ _ _ _ w⟨b,h,k,n,m⟩=>⟨b,h,k.fr w n,n,m⟩,trivial⟩ ⟨fun _ _ _ h a3=>a3.jH h,trivial⟩ (fun _ _ _ h a3=>a3.jH h) (B.out.rr.jH (Fr.refl _ _).drew) ?_ ?_
   ·refine⟨?zE,?zA,?zF,?zG,?zB,?zC,?zD,trivial⟩;all_goals intro u w' d w a ap F C
    all_goals simp only[List.take_succ_cons,List.take_zero,List.map_cons,List.map_nil,an,Act.put,List.setIfInBounds_toArray,List.set_cons_zero,List.set_cons_succ,Nat.reduceAdd,Nat.zero_add]
    case zA=>
     clear a ap F C;refine .inl ⟨by kernel_rfl,?_⟩;exact ar _ _ rfl ⟨g5,0,none⟩ rfl nm.cells _ (fun j x a6=>by rw[Addr.add_mid,Nat.zero_add,(Y.out.only B.out w (by decide)).cell j,List.getElem?_toArray];exact a6) Tryz.underlying106 rfl aX ⟨_,rfl,Fr.refl _ _,rfl,trivial⟩
    case zB=>
     simp only[show u 3=_ from a 3 (by kernel_rfl)];clear a;refine .inl ⟨by kernel_rfl,?_⟩;have aE:Rr w' g S p.1 p.2.1 p.2.2:=by rw[cI,if_neg (by rw[F 4 (by kernel_rfl)];exact Bool.false_ne_true)]at C;exact C
     clear ap F C;go_simp;refine(bs.out _ aE).mono ?_;rintro e b5⟨rfl,f4,bY⟩;exact⟨_,rfl,f4,rfl,bY⟩
    case zC=>
     simp only[show u 1=_ from a 1 (by kernel_rfl),show u 2=_ from a 2 (by kernel_rfl),show u 4=_ from a 4 (by kernel_rfl)];clear a ap F C;refine .inl ⟨by kernel_rfl,?_⟩;exact iu 119 _ rfl _ _ (by simp only[List.map_toArray,List.map_cons,List.map_nil];rfl) aH.out ⟨_,rfl,Fr.refl _ _,rfl,trivial⟩
    case zD=>
     simp only[show u 5=_ from a 5 (by kernel_rfl)];clear a ap F C;refine .inl ⟨by kernel_rfl,?_⟩;refine wp_buildSlice 44 119 1 #[(0, .tmp 29)] rfl cv.cells.toArray i0 cE Tryz.underlying44 aj am a0.out a1.out ?_ ?_;·simp only[List.map_toArray,List.map_cons,List.map_nil];exact a2.out cv
     ·exact⟨_,rfl,(Fr.refl _ _).alloc _,⟨w'.heap.size,rfl,ak.new _ _ _,by have:=aR.out;have:=w.size;omega,w.size⟩,trivial⟩
    all_goals
     clear a ap F C;refine .inl ⟨by kernel_rfl,?_⟩;go_simp;exact⟨_,rfl,Fr.refl _ _,rfl,trivial⟩
   intro u w' w a C;obtain⟨bx,bz,ad,a8,aZ⟩:=a 6 (by omega);have F:u 0=_:=a 0 (by omega);have bI:Rr w' g S G.1 G.2.1 G.2.2:=C;have aO:Hid (Fr (dJ g) W w'):=aN.out.trans w;have bn:=Lib.hid (bm.out.only B.out w);have bf:=Lib.hid ad;have b0:Hid (W.heap.size≤bx):=by have:=aN.out.size;simp only[Hid];omega
   have U:Hid (Ri q w' g S G):=⟨B.out.fr.ao w (fun i y e=>by have bT:i=g:=e;have:=B.out.new;omega),bI,B.out.new,fun i y=>⟨(B.out.sn i y).1,Nat.lt_of_lt_of_le (B.out.sn i y).2 w.size⟩⟩;simp only[List.take_succ_cons,List.take_zero,List.map_cons,List.map_nil,an,Act.put,List.setIfInBounds_toArray,List.set_cons_zero,List.set_cons_succ,List.drop_succ_cons,List.drop_zero,Nat.reduceAdd,Nat.zero_add,F,bz];clear w a C bI ad a8 aZ F bz B aN bm Y bs aH;have bv:Hid (w'.ownsRow 0 119 7 (.slice aq n4 ay) L.length (L.flatMap CV.cells)):=bn.out;refine gK _ rfl _ _ 44 rfl 119 i0 cE 7 80 Tryz.underlying44 aj am E a7 rfl (by decide) _ _ _ rfl bv.out (fun _=>True) (some ⟨bx,0,none⟩) 1 1 cv.cells rfl ⟨aQ.out,fun _=>⟨_,rfl,trivial,fun j x a6=>by rw[Addr.add_mid,Nat.zero_add,bf.out.cell,List.getElem?_toArray];exact a6⟩⟩ (fun u hu=>by
    have h:=Z.out;rw[Array.all_eq_true_iff_forall_mem]at h;exact h u (by simpa using hu)) (by have:=K.out;have:=aU.out;omega) (by decide) ?_;intro bN bc P;have bO:Hid (dh bc bN (L++[cv])):=by
    rw[Hid,dh,List.length_append,List.flatMap_append,List.flatMap_cons,List.flatMap_nil,List.append_nil];exact P.own
   have H:Hid (∀b,(Value.slice aq n4 ay).ownBlock=some b→W.heap.size≤b):=bh.out;have aI:Hid (∀b,bN.ownBlock=some b→W.heap.size≤b):=fun b ac=>by
    rcases P.dD b ac with h|h;·exact H.out b h
    ·have:=aO.out.size;omega
   have J:Hid (∀b,(Value.slice aq n4 ay).ownBlock=some b→b≠g∧¬S b∧q.heap.size≤b):=fun b ac=>by
    have bU:=H.out b ac;have bV:=aw.out.rr.lt;have b2:=aw.out.fr.size;exact⟨by omega,fun h=>by have:=(aw.out.sn b h).2;omega,by omega⟩
   have bP:Hid (Fr (dJ g) W bc):=aO.out.ao P.fr (fun i y e=>by have:=H.out i e;omega);have bS:Hid (Ri q bc g S G):=⟨U.out.fr.ao P.fr (fun i y e=>by have:=(J.out i e).2.2;omega),U.out.rr.jQ P.fr (fun e=>(J.out g e).1 rfl) (fun i y e=>(J.out i e).2.1 y),U.out.new,fun i y=>⟨(U.out.sn i y).1,Nat.lt_of_lt_of_le (U.out.sn i y).2 P.fr.size⟩⟩;clear P bv U aO bn bf;have b4:N≤1099511627776:=K.out;go_wp2;go_roundw;case rel=>exact⟨k+1,G,L++[cv],by omega,by go_num,by rw[ab.out,show N-(k+1)=N-k-1 by omega],by rw[List.length_append,aU.out];rfl,bO.out,aI.out,bS.out,bP.out⟩
   case measure=>simp[intOf];omega
  ·obtain rfl:k=N:=by omega
   have bE:¬(k:Int)<(k:Int):=by omega
   have t:Hid (r=some (L,l)):=by
    rw[Hid,←au.out,Nat.sub_self,iU]
   clear au;go_wp2;go_ret2;exact⟨_,_,rfl,aP.out, .inl ⟨rfl,L,l,t.out,aK.out,by rw[aU.out];exact K.out,ax.out,bh.out⟩⟩
end Go.Proofs.YtphjagkehiklkaaGreatDoor
namespace Go.Proofs.YtphjagkehiklkaaGreatDoor
open Go.RowKit
theorem uc{P:Program}{ops:Array Oper}{rest:List Oper}{p:Oper}{a:Act}{w:World}{Q:Exit→Act→World→Prop}(e:p.guard=none)(ty:TypeId)(x:Operand)(m:p.op= .load ty x)
  (b f:Nat)(o:a.eval x= .pointer (some ⟨b,f,none⟩))(i:TypeInfo)(g:P.info? ty=some i)(c:∀w,(isAgg ty).run P w= .ok true w)(d:List Value)(n:d.length=i.size)
  (l:∀k v,d[k]? =some v→w.cell? ⟨b,f+k,none⟩=some v)
  (h:wpList P ops Q rest (a.put p.dst (.agg d.toArray)) w):wpList P ops Q (p::rest) a w:=by
 refine wpList_plain e fun K j=>?_;unfold Oper.wp execOp;simp only[m,o,Instr.loadAt,Instr.sureAddr,Sem.run_bind,Sem.run_pure,Result.andThen_ok,Lib.rl_loadVar_cells ty i g c b f d n w l];exact j _ _ h
theorem rS{P:Program}{ops:Array Oper}{rest:List Oper}{u:Oper}{a:Act}{w:World}{Q:Exit→Act→World→Prop}(g:u.guard=none)(ty:TypeId)(x y:Operand)(o:u.op= .store ty x y)
  (b f:Nat)(q:a.eval x= .pointer (some ⟨b,f,none⟩))(j:TypeInfo)(i:P.info? ty=some j)(c:List Value)(r:a.eval y= .agg c.toArray)(p:c.length=j.size)(l:∀v∈c,v.oneCell'=true)
  (t:TypeId)(cs:List Value)(e:ak w b t cs.toArray)(n:f+c.length≤cs.length)
  (h:∀w',ak w' b t (cs.take f++c++cs.drop (f+c.length)).toArray→Fr (fun k=>k=b) w w'→wpList P ops Q rest (a.put u.dst undef) w'):wpList P ops Q (u::rest) a w:=by
 refine wpList_plain g fun K m=>?_;have d:=Lib.rl_storeVar_cells (P:=P) ty j i b f c p l w (fun k s=>by
  rw[e.cell,List.getElem?_toArray,List.getElem?_eq_getElem (by omega)];rfl) (fun k _=>e.frozen _);unfold Oper.wp execOp;simp only[o,q,r,Instr.storeAt,Instr.sureAddr,Sem.run_bind,Sem.run_pure,Result.andThen_ok,d];exact m _ _ (h _ (ak.setCells c f w cs e n) (Fr.setCells (T:=fun k=>k=b) (fun _=>rfl) c f w (Fr.refl _ w)))
structure bp(w:World):Prop where
 init:∀j u,(eB dn)[j]? =some u→w.cell? ⟨1,j,none⟩=some u
 kk:∀j,j<64→w.cell? ⟨2,j,none⟩=some (iK (rz[j]?.getD 0))
theorem bp.fr{w w':World}{T:Nat→Prop}(h:bp w)(a:Fr T w w')(b:¬T 1)(c:¬T 2):bp w':=
 ⟨fun j u hu=>a.aj (h.init j u hu) b,fun j d=>a.aj (h.kk j d) c⟩
theorem bp.al{w w':World}(h:bp w)(a:Fr af w w'):bp w':=h.fr a (fun x=>x) (fun x=>x)
def fF(n:Nat)(st:cm)(rest:List UInt8):List Value:=[.int .i64 n]++eB st++rest.map aU
theorem oF(n:Nat)(st:cm)(rest:List UInt8)(h:rest.length=64):(fF n st rest).length=73:=by simp[fF,eB,h]
theorem wL(n:Nat)(st a:cm)(rest:List UInt8):(fF n st rest).take 1++eB a++(fF n st rest).drop (1+(eB a).length)=fF n a rest:=rfl
theorem wK(n m:Nat)(st:cm)(rest:List UInt8):(fF n st rest).set 0 (.int .i64 m)=fF m st rest:=rfl
theorem x9(n:Nat)(st:cm)(rest:List UInt8)(a:Nat)(Y:List UInt8):(fF n st rest).take (9+a)++Y.map aU++(fF n st rest).drop (9+a+(Y.map aU).length)=fF n st (bW rest a Y):=by
 have b:([Value.int .i64 n]++eB st).length=9:=rfl;unfold fF bW;generalize[Value.int .i64 n]++eB st=pre at*;rw[←b,List.take_length_add_append,Nat.add_assoc,List.drop_length_add_append];simp[List.map_take,List.map_drop,List.append_assoc]
theorem oX{w:World}{g n:Nat}{st:cm}{rest:List UInt8}(h:ak w g 144 (fF n st rest).toArray)(c:rest.length=64)(j:Nat)(b:j<64):w.cell? ⟨g,9+j,none⟩=some (aU (rest[j]?.getD 0)):=by
 have a:([Value.int .i64 n]++eB st).length=9:=rfl;rw[h.cell,List.getElem?_toArray,fF,List.getElem?_append_right (by omega),a,Nat.add_sub_cancel_left,List.getElem?_map,List.getElem?_eq_getElem (by omega)];rfl
theorem Ga(w:World):(Go.sizeOf 5).run Tryz.prog w= .ok 1 w:=by kernel_rfl
theorem Gd(t:ByteArray)(n:Nat):dM (t.extract n t.size)=(dM t).drop n:=by
 simp[dM];exact List.take_of_length_le (by rw[List.length_drop];exact Nat.le_refl _)
def strSize:Value→Nat
 | .string t=>t.size
 |_=>0
structure lW(w:World)(g:Nat)(M rest:List UInt8):Prop where
 az:ak w g 144 (fF M.length (fp dn M (M.length/64)) rest).toArray
 ok:jS M rest
def Hv(w:World)(g:Nat)(M:List UInt8)(e:Ending)(w':World):Prop:=e= .returned (.int .i64 0)∧Fr (fun k=>k=g) w w'∧∃rest,lW w' g M rest
theorem GB:(Tryz.prog.info? 141).map (fun i=>(i.zero,i.size,i.bytes))=some (some (.agg (eB ⟨0,0,0,0,0,0,0,0⟩).toArray),8,32):=by kernel_rfl
theorem isAgg8(w:World):(isAgg 141).run Tryz.prog w= .ok true w:=by kernel_rfl
theorem zu(s:ByteArray)(g:Nat)(st:cm)(rest:List UInt8)(f:rest.length=64)(w:World)(ae:ak w g 144 (fF 0 st rest).toArray)(ap:bp w)(E:g≠1)(zA:g≠2)(aP:s.size≤1099511627776)(aI:1≤s.size):
  Calls Tryz.prog 79 #[.pointer (some ⟨g,0,none⟩), .string s] w (Hv w g (dM s)):=by
 obtain⟨i8,I,_,K,_⟩:=info_parts GB;have ao:=Lib.hid ae;have Z:=Lib.hid ap;have V:=Lib.hid f;have m:Hid (g≠1∧g≠2):=⟨E,zA⟩;have aa:=Lib.hid (dc s);have ad:w.cell? ⟨g,0,none⟩=some (.int .i64 0):=ae.cell 0;clear ae ap f E zA;generalize F:dM s=N at*;have B:Hid (N=dM s):=F.symm;clear F;go_enter Tryz.func79,Tryz.ntmps79;go_wp2_with(first|(refine uc rfl 141 (.global 1) rfl 1 0 rfl i8 I isAgg8 (eB dn) K.symm (fun k v Q=>by rw[Nat.zero_add];exact Z.out.init k v Q) ?_)|(refine rS rfl 141 _ _ rfl g 1 rfl i8 I (eB dn) rfl K.symm ?zA _ (fF 0 st rest) ao.out ?zB ?_));case zA=>intro v Q;simp only[eB,List.mem_cons,List.not_mem_nil,or_false]at Q;rcases Q with rfl|rfl|rfl|rfl|rfl|rfl|rfl|rfl<;>rfl
 case zB=>rw[oF _ _ _ V.out];simp[eB]
 intro w1 b1 f1;rw[←List.append_assoc,wL]at b1;have aj:Hid (lW w1 g [] rest):=⟨b1,Dk rest V.out⟩;have am:=Lib.hid f1;clear b1 f1 ad ao V;go_wp2;go_loopw[1](fun v wr=>∃t X rest,v= .string t∧Hid (N=X++dM t)∧t.size≤s.size∧lW wr g X rest∧Fr (fun k=>k=g) w wr)(fun v _=>strSize v);case atStart=>exact⟨s,[],rest,rfl,B.out,Nat.le_refl _,aj.out,am.out⟩
 case round=>
  obtain⟨t,X,rest,rfl,d,aK,O,hF⟩:=hrel;have i:=Lib.hid O;have ab:=Lib.hid hF;have C:Hid (X.length+t.size=s.size):=by
   have h:=congrArg List.length d.out;rw[List.length_append,dc,aa.out]at h;simp only[Hid];omega
  have aD:X.length≤1099511627776:=by have:=C.out;omega
  have ad:wr.cell? ⟨g,0,none⟩=some (.int .i64 (X.length:Nat)):=O.az.cell 0;have f0:wr.frozen? ⟨g,0,none⟩=false:=O.az.frozen 0;have ay:=Lib.hid (yN dn X IL (X.length/64));clear O hF aj am;by_cases aQ:1≤t.size
  ·obtain⟨a,af⟩:∃a,a=X.length%64:=⟨_,rfl⟩;obtain⟨n,ah⟩:∃n,n=Nat.min t.size (64-a):=⟨_,rfl⟩;have aH:n≤t.size∧n≤64-a∧(n=t.size∨n=64-a):=by
    rw[ah];rcases Nat.le_total t.size (64-a)with h|h;·rw[show Nat.min t.size (64-a)=t.size from Nat.min_eq_left h];exact⟨Nat.le_refl _,h, .inl rfl⟩
    ·rw[show Nat.min t.size (64-a)=64-a from Nat.min_eq_right h];exact⟨h,Nat.le_refl _, .inr rfl⟩
   have ar:a<64:=by omega
   have G:((dM t).take n).length=n:=by rw[List.length_take,dc];omega
   have H:=uC (P:=Tryz.prog) wr 61 9 3 5 g (9+a) (64-a) (64-a) t Tryz.underlying61 Ga n ah.symm
    (fun j ag=>by rw[show 9+a+j=9+(a+j)by omega,oX i.out.az i.out.ok.1 (a+j) (by omega)];rfl) (fun j ag=>i.out.az.frozen _);have J:(t.data.toList.map fun x=>Value.int .u8 (x.toNat:Int)).take n=((dM t).take n).map aU:=by
    rw[←List.map_take];rfl
   rw[J]at H;have R:=ak.setCells (((dM t).take n).map aU) (9+a) wr _ i.out.az (by rw[oF _ _ _ i.out.ok.1,List.length_map,G];omega);rw[x9]at R;have an:=Fr.setCells (T:=fun k=>k=g) (a:=w) (fun _=>rfl) (((dM t).take n).map aU) (9+a) wr ab.out;have q:=Lib.hid R;have z:=Lib.hid an;have M:=Lib.hid af;have D:=Lib.hid G;have A:Hid (N=(X++(dM t).take n)++dM (t.extract n t.size)):=by
    simp only[Hid];rw[Gd,List.append_assoc,List.take_append_drop];exact d.out
   have o:Hid ((t.extract n t.size).size=t.size-n):=by simp only[Hid];simp
   generalize wr.setCells g (9+a) (((dM t).take n).map aU)=w2 at*;generalize aE:(dM t).take n=Y at*;clear R an J aE;have aA:Hid (bp w2):=Z.out.fr z.out (fun e=>m.out.1 e.symm) (fun e=>m.out.2 e.symm);have d0:w2.cell? ⟨g,0,none⟩=some (.int .i64 (X.length:Nat)):=q.out.cell 0;have aB:w2.frozen? ⟨g,0,none⟩=false:=q.out.frozen 0;have l:Hid (ak (w2.setCell ⟨g,0,none⟩ (.int .i64 ((X.length+n:Nat):Int))) g 144 (fF (X.length+n) (fp dn X (X.length/64)) (bW rest a Y)).toArray):=by
    have h:=q.out.iV 0 (.int .i64 ((X.length+n:Nat):Int));rw[List.setIfInBounds_toArray,wK]at h;exact h
   have r:Hid (Fr (fun k=>k=g) w (w2.setCell ⟨g,0,none⟩ (.int .i64 ((X.length+n:Nat):Int)))):=z.out.setCell (p:=⟨g,0,none⟩) (fun _=>rfl) _;have aM:((X.length:Nat):Int)%64=(a:Int):=by rw[af];omega
   have ai:((X.length:Nat):Int).tmod 64=(a:Int):=by rw[Int.tmod_eq_emod_of_nonneg (by omega)];exact aM
   have aR:(a:Int)≤64:=by omega
   have aS:(n:Int)≤(t.size:Int):=by omega
   have aT:IntKind.i64.wrap (((X.length:Nat):Int)+(n:Int))=((X.length+n:Nat):Int):=(IntWalk.i64_in _ (by omega)).trans (by omega);have aN:((X.length:Nat):Int)+(n:Int)=((X.length+n:Nat):Int):=by omega
   have aJ:(0:Int)<(t.size:Int):=by omega
   have c:Hid (a+n<64→lW (w2.setCell ⟨g,0,none⟩ (.int .i64 ((X.length+n:Nat):Int))) g (X++Y) (bW rest a Y)):=by
    intro h;obtain⟨zA,zB⟩:=zS (X:=Y) i.out.ok (by rw[D.out,←M.out];exact h);rw[←M.out]at zA;refine⟨?_,zA⟩;rw[zB,List.length_append,D.out];exact l.out
   have b:Hid (a+n=64→jS (X++Y) (bW rest a Y)∧fp dn (X++Y) ((X++Y).length/64)=eJ (fp dn X (X.length/64)) (bW rest a Y)∧(X++Y).length=X.length+n):=by
    intro h;obtain⟨zA,zB⟩:=zR (X:=Y) i.out.ok (by rw[D.out,←M.out];exact h);rw[←M.out]at zA zB;exact⟨zA,zB,by rw[List.length_append,D.out]⟩
   have W:Hid ((bW rest a Y).length=64):=jd i.out.ok.1 (by rw[D.out];omega);generalize bW rest a Y=y at*;generalize fp dn X (X.length/64)=ST at*;generalize X.length=L at*;clear i ab Z ah af C ai aN;by_cases u:a+n=64
   ·have aL:(((a:Int)+(n:Int))==64)=true:=by rw[beq_iff_eq];omega
    have aw:=Lib.hid (b.out u);have ac:Hid (bp (w2.setCell ⟨g,0,none⟩ (.int .i64 ((L+n:Nat):Int)))):=aA.out.fr ((Fr.refl (fun k=>k=g) w2).setCell (p:=⟨g,0,none⟩) (fun _=>rfl) _) (fun e=>m.out.1 e.symm) (fun e=>m.out.2 e.symm);clear c b;go_wp2;rw[show(L:Int)+(n:Int)=((L+n:Nat):Int)by omega];generalize w2.setCell ⟨g,0,none⟩ (.int .i64 ((L+n:Nat):Int))=au at*;have al:=Lib.hid (lA g 1 g 9 144 [.int .i64 (L+n:Nat)] (y.map aU) ST ay.out y au.drew l.out.drew rfl (fun j ag=>oX l.out.drew W.out j ag) ac.out.kk);generalize eJ ST y=aO at*;clear ad f0 d0 aB H;go_still_tail 6,(by kernel_rfl);change wpList _ _ _ _ _ au.drew;go_wp2_with fail;refine al.out.mono ?_;rintro e av⟨rfl,f4,b4⟩;have U:Hid (lW av g (X++Y) y):=by
     obtain⟨zA,zB,aC⟩:=aw.out;refine⟨?_,zA⟩;rw[zB,aC];exact b4
    have S:Hid (Fr (fun k=>k=g) w av):=r.out.drew.trans f4;clear f4 b4 al l r;go_wp2;go_roundw;case rel=>exact⟨t.extract n t.size,X++Y,y,rfl,A.out,by have:=o.out;omega,U.out,S.out⟩
    case measure=>have:=o.out;simp only[strSize];omega
   ·have aL:(((a:Int)+(n:Int))==64)=false:=by rw[beq_eq_false_iff_ne];omega
    have U:=Lib.hid (c.out (by omega));clear c b;go_wp2;go_roundw;case rel=>exact⟨t.extract n t.size,X++Y,y,rfl,A.out,by have:=o.out;omega,U.out,r.out⟩
    case measure=>have:=o.out;simp only[strSize];omega
  ·have E:t.size=0:=by omega
   have aG:decide ((0:Int)<(t.size:Int))=false:=decide_eq_false (by omega);have aF:decide (0<t.size)=false:=decide_eq_false (by omega);have aq:N=X:=by
    rw[d.out];have:dM t=[]:=List.eq_nil_of_length_eq_zero (by rw[dc];exact E);rw[this,List.append_nil]
   have ax:=Lib.hid aq;clear aq E;go_wp2;go_ret;refine⟨rfl,ab.out,rest,?_⟩;rw[ax.out];exact i.out
end Go.Proofs.YtphjagkehiklkaaGreatDoor
namespace Go.Proofs.YtphjagkehiklkaaGreatDoor
open Go.RowKit
theorem AN{w:World}{g:Nat}{t:TypeId}{s:cm}(h:ak w g t (eB s).toArray):
  w.cell? ⟨g,0,none⟩=some (.int .u32 s.a)∧w.cell? ⟨g,1,none⟩=some (.int .u32 s.b)∧w.cell? ⟨g,2,none⟩=some (.int .u32 s.c)∧w.cell? ⟨g,3,none⟩=some (.int .u32 s.d)∧
  w.cell? ⟨g,4,none⟩=some (.int .u32 s.e)∧w.cell? ⟨g,5,none⟩=some (.int .u32 s.f)∧w.cell? ⟨g,6,none⟩=some (.int .u32 s.g)∧w.cell? ⟨g,7,none⟩=some (.int .u32 s.h):=
 ⟨h.cell 0,h.cell 1,h.cell 2,h.cell 3,h.cell 4,h.cell 5,h.cell 6,h.cell 7⟩
end Go.Proofs.YtphjagkehiklkaaGreatDoor
