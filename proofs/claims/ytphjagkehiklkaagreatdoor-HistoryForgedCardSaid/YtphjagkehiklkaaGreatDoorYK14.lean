/- Texts. -/
import Derived.Test.YtphjagkehiklkaaGreatDoorYK13
set_option linter.unusedVariables false
set_option linter.unusedSimpArgs false
set_option maxRecDepth 100000
set_option maxHeartbeats 8000000
namespace Go.Proofs.YtphjagkehiklkaaGreatDoor
open Go.RowKit Go.Shelf
structure Ri(a W:World)(g:Nat)(S:Nat→Prop)(st:fC):Prop where
 fr:Fr ag a W
 rr:Rr W g S st.1 st.2.1 st.2.2
 new:a.heap.size≤g
 sn:∀k,S k→a.heap.size≤k∧k<W.heap.size
theorem Rr.aF{W:World}{g:Nat}{S:Nat→Prop}{l:List UInt8}{p:Nat}{f:Int}(h:Rr W g S l p f):∃A n c,ao W g 193 #[.slice A n c, .int .i64 p, .int .i64 f]:=by
 obtain⟨A,n,c,a,_⟩:=h.ex;exact⟨A,n,c,a⟩
theorem Ri.step{c W W':World}{g:Nat}{S:Nat→Prop}{st a:fC}(h:Ri c W g S st)(k:gd W g S W' a.1 a.2.1 a.2.2):Ri c W' g S a:=
 ⟨h.fr.aw k.fr (fun i b e=>by have d:i=g:=e;have:=h.new;omega),k.rr,h.new,fun i b=>⟨(h.sn i b).1,Nat.lt_of_lt_of_le (h.sn i b).2 k.fr.size⟩⟩
theorem Ri.later{b W W':World}{g:Nat}{S:Nat→Prop}{st:fC}(h:Ri b W g S st)(f:Fr ag W W'):Ri b W' g S st:=
 ⟨h.fr.trans f,h.rr.kq f,h.new,fun i a=>⟨(h.sn i a).1,Nat.lt_of_lt_of_le (h.sn i a).2 f.size⟩⟩
theorem Ri.uX{j l W W':World}{g b:Nat}{S:Nat→Prop}{d st:fC}(a:Ri j l g S d)(h:Ri j W g S st)(f:Fr (fun k=>k=b) W W')(q:l.heap.size≤b):Ri j W' g S st:=by
 have o:=a.rr.lt;have p:=a.fr.size;refine⟨h.fr.aw f (fun i c e=>by have m:i=b:=e;omega),h.rr.kF f (fun e=>by have m:g=b:=e;omega) (fun k n e=>by
  have m:k=b:=e;have:=(a.sn k n).2;omega),h.new,fun i c=>⟨(h.sn i c).1,Nat.lt_of_lt_of_le (h.sn i c).2 f.size⟩⟩
def qL(a W:World)(g:Nat)(S:Nat→Prop)(v:Value)(st:fC)(e:Ending)(W':World):Prop:=e= .returned v∧Ri a W' g S st∧Fr (eF g) W W'
theorem Ri.number{b W:World}{g:Nat}{S:Nat→Prop}{st:fC}(h:Ri b W g S st)(aO:Int):
  Calls Tryz.prog 107 #[.pointer (some ⟨g,0,none⟩), .int .i64 aO] W (qL b W g S (.int .i64 (aN 0 (aZ aO) st).1) (aN 0 (aZ aO) st).2):=by
 obtain⟨l,p,f⟩:=st;refine(j5 g S l p f aO W h.rr).mono ?_;rintro e w'⟨rfl,a⟩;exact⟨rfl,h.step a,a.fr⟩
theorem Ri.text{b W:World}{g:Nat}{S:Nat→Prop}{st:fC}(h:Ri b W g S st)(aO:Int):
  Calls Tryz.prog 104 #[.pointer (some ⟨g,0,none⟩), .int .i64 aO] W (qL b W g S (.string ⟨(aN [] (cj aO) st).1.toArray⟩) (aN [] (cj aO) st).2):=by
 obtain⟨l,p,f⟩:=st;refine(nO g S l p f aO W h.rr).mono ?_;rintro e w'⟨rfl,a⟩;exact⟨rfl,h.step a,a.fr⟩
theorem Ri.flag{b W:World}{g:Nat}{S:Nat→Prop}{st:fC}(h:Ri b W g S st):
  Calls Tryz.prog 119 #[.pointer (some ⟨g,0,none⟩)] W (qL b W g S (.bool (aN false cZ st).1) (aN false cZ st).2):=by
 obtain⟨l,p,f⟩:=st;refine(Dq g S l p f W h.rr).mono ?_;rintro e w'⟨rfl,a⟩;exact⟨rfl,h.step a,a.fr⟩
theorem Ri.rest{a W:World}{g:Nat}{S:Nat→Prop}{st:fC}(h:Ri a W g S st):
  Calls Tryz.prog 117 #[.pointer (some ⟨g,0,none⟩)] W (bG W (.int .i64 (st.1.length:Nat))):=by
 obtain⟨l,p,f⟩:=st;exact Ds g S l p f W h.rr
theorem Ri.close{a W:World}{g:Nat}{S:Nat→Prop}{st:fC}(h:Ri a W g S st):
  Calls Tryz.prog 72 #[.pointer (some ⟨g,0,none⟩)] W (bG W (.int .i64 (gh st))):=by
 obtain⟨l,p,f⟩:=st;exact tf g S l p f W h.rr
theorem ao.only{W W':World}{g b:Nat}{S:Nat→Prop}{j:World}{st:fC}{t:TypeId}{cs:Array Value}(h:ao W b t cs)(f:Ri j W g S st)(d:Fr (eF g) W W')(i:t≠193):ao W' b t cs:=
 h.fr d (fun e=>by
  obtain⟨A,n,c,a⟩:=f.rr.aF;exact ev h a i e)
theorem dU.only{W W' f:World}{g:Nat}{S:Nat→Prop}{st:fC}{v:Value}{l:List CV}(h:dU W v l)(e:Ri f W g S st)(b:Fr (eF g) W W'):dU W' v l:=
 h.cC b (fun k d=>by
  obtain rfl:k=g:=d;obtain⟨A,n,c,a⟩:=e.rr.aF;exact⟨fun x=>absurd (x.one a.ty) (by decide),fun x=>absurd (x.one a.ty) (by decide),fun x=>absurd (x.one a.ty) (by decide)⟩)
def y9:Value:= .agg #[.int .i64 0, .int .i64 0, .int .i64 0, .string ByteArray.empty]
theorem D3(w:World):(zeroValue 43).run Tryz.prog w= .ok y9 w:=by kernel_rfl
theorem eE.one(k:eE):k.cells.toArray.all (·.oneCell')=true:=by simp[eE.cells,Value.oneCell']
theorem yQ(o W:World)(g:Nat)(S:Nat→Prop)(l:List UInt8)(h:Ri o W g S (l,0,0)):
  Calls Tryz.prog 70 #[.pointer (some ⟨g,0,none⟩)] W (qL o W g S (.agg (iB l).1.cells.toArray) (iB l).2):=by
 have z:=af h;have K:Hid ((iB l)=(⟨(jb l).1,(jU l).1,(rdNum l).1,⟨(iT l).1.toArray⟩⟩,(iT l).2)):=rfl;have R:Hid (∀W',Ri o W' g S (l,0,0)→Calls Tryz.prog 107 #[.pointer (some ⟨g,0,none⟩), .int .i64 1073741824] W' (qL o W' g S (.int .i64 (jb l).1) (jb l).2)):=fun W' h=>h.number _;have T:Hid (∀W',Ri o W' g S (jb l).2→Calls Tryz.prog 107 #[.pointer (some ⟨g,0,none⟩), .int .i64 2] W' (qL o W' g S (.int .i64 (jU l).1) (jU l).2)):=fun W' h=>h.number _;have U:Hid (∀W',Ri o W' g S (jU l).2→Calls Tryz.prog 107 #[.pointer (some ⟨g,0,none⟩), .int .i64 999999] W' (qL o W' g S (.int .i64 (rdNum l).1) (rdNum l).2)):=fun W' h=>h.number _;have V:Hid (∀W',Ri o W' g S (rdNum l).2→Calls Tryz.prog 104 #[.pointer (some ⟨g,0,none⟩), .int .i64 16777216] W' (qL o W' g S (.string ⟨(iT l).1.toArray⟩) (iT l).2)):=fun W' h=>h.text _;rw[K.out];simp only[eE.cells];generalize(jb l).1=n at*;generalize(jb l).2=s1 at*;generalize(jU l).1=q at*;generalize(jU l).2=s2 at*;generalize(rdNum l).1=t at*;generalize(rdNum l).2=ae at*;generalize(iT l).2=H at*;generalize(⟨(iT l).1.toArray⟩:ByteArray)=u at*;have w:Hid (∀W',Ri o W' g S H→Fr (eF g) W W'→qL o W g S (.agg [Value.int .i64 n, .int .i64 q, .int .i64 t, .string u].toArray) H (.returned (.agg [Value.int .i64 n, .int .i64 q, .int .i64 t, .string u].toArray)) W'):=fun W' a b=>⟨rfl,a,b⟩;clear h K;generalize qL o W g S (.agg [Value.int .i64 n, .int .i64 q, .int .i64 t, .string u].toArray) H=PP at*;go_enter Tryz.func70,Tryz.ntmps70;go_wp2_with(refine ak rfl 43 rfl y9 D3 #[.int .i64 0, .int .i64 0, .int .i64 0, .string ByteArray.empty] rfl ?_);intro w1 n1;have D:=af n1;clear n1;generalize y:W.heap.size=g2 at*;have A:Hid (ao w1 g2 43 #[.int .i64 0, .int .i64 0, .int .i64 0, .string ByteArray.empty]):=by have h:=D.out.aF;rw[y]at h;exact h
 have B:=af y;clear y;go_wp2_with(refine ak rfl 43 rfl y9 D3 #[.int .i64 0, .int .i64 0, .int .i64 0, .string ByteArray.empty] rfl ?_);intro w2 M;have E:=af M;clear M;generalize F:w1.heap.size=g3 at*;have k:Hid (ao w2 g3 43 #[.int .i64 0, .int .i64 0, .int .i64 0, .string ByteArray.empty]):=by have h:=E.out.aF;rw[F]at h;exact h
 have r:Hid (g2<g3):=by have:=D.out.size;have:=B.out;simp only[Hid];omega
 have d:Hid (W.heap.size≤g2∧W.heap.size≤g3):=by have:=B.out;have:=r.out;exact⟨by omega,by omega⟩
 clear F;have f:=af (A.out.fr E.out.fr (fun x=>x));have m:Hid (Fr (eF g) W w2):=(D.out.fr.trans E.out.fr).bI;have c:=af (z.out.later (D.out.fr.trans E.out.fr));clear D E A;go_wp2_with fail;refine(R.out _ c.out).mono ?_;rintro e ab⟨rfl,s,f3⟩;have f:=af (f.out.only c.out f3 (by decide));have k:=af (k.out.only c.out f3 (by decide));have m:Hid (Fr (eF g) W ab):=m.out.trans f3;have c:=af s;clear s f3;go_wp2_with(refine aS rfl 3 (.tmp 6) (.tmp 5) rfl g3 0 (.int .i64 n) rfl rfl rfl mS _ _ #[.int .i64 n, .int .i64 0, .int .i64 0, .string ByteArray.empty] k.out (show 0<4 by decide) rfl ?_);intro N b3 f3;have k:Hid (ao N g3 43 #[.int .i64 n, .int .i64 0, .int .i64 0, .string ByteArray.empty]):=b3;have f:=af (f.out.fr f3 (fun e=>by have v:g2=g3:=e;have:=r.out;omega));have c:=af (z.out.uX c.out f3 d.out.2);have m:Hid (Fr (eF g) W N):=m.out.aw f3 (fun i G e=>by have v:i=g3:=e;have:=d.out;omega);clear b3 f3;go_wp2_with fail;refine(T.out _ c.out).mono ?_;rintro e ac⟨rfl,s,f3⟩;have f:=af (f.out.only c.out f3 (by decide));have k:=af (k.out.only c.out f3 (by decide));have m:Hid (Fr (eF g) W ac):=m.out.trans f3;have c:=af s;clear s f3;go_wp2_with(refine aS rfl 3 (.tmp 9) (.tmp 8) rfl g3 1 (.int .i64 q) rfl rfl rfl mS _ _ #[.int .i64 n, .int .i64 q, .int .i64 0, .string ByteArray.empty] k.out (show 1<4 by decide) rfl ?_);intro O b3 f3;have k:Hid (ao O g3 43 #[.int .i64 n, .int .i64 q, .int .i64 0, .string ByteArray.empty]):=b3;have f:=af (f.out.fr f3 (fun e=>by have v:g2=g3:=e;have:=r.out;omega));have c:=af (z.out.uX c.out f3 d.out.2);have m:Hid (Fr (eF g) W O):=m.out.aw f3 (fun i G e=>by have v:i=g3:=e;have:=d.out;omega);clear b3 f3;go_wp2_with fail;refine(U.out _ c.out).mono ?_;rintro e ad⟨rfl,s,f3⟩;have f:=af (f.out.only c.out f3 (by decide));have k:=af (k.out.only c.out f3 (by decide));have m:Hid (Fr (eF g) W ad):=m.out.trans f3;have c:=af s;clear s f3;go_wp2_with(refine aS rfl 3 (.tmp 12) (.tmp 11) rfl g3 2 (.int .i64 t) rfl rfl rfl mS _ _ #[.int .i64 n, .int .i64 q, .int .i64 t, .string ByteArray.empty] k.out (show 2<4 by decide) rfl ?_);intro P b3 f3;have k:Hid (ao P g3 43 #[.int .i64 n, .int .i64 q, .int .i64 t, .string ByteArray.empty]):=b3;have f:=af (f.out.fr f3 (fun e=>by have v:g2=g3:=e;have:=r.out;omega));have c:=af (z.out.uX c.out f3 d.out.2);have m:Hid (Fr (eF g) W P):=m.out.aw f3 (fun i G e=>by have v:i=g3:=e;have:=d.out;omega);clear b3 f3;go_wp2_with fail;refine(V.out _ c.out).mono ?_;rintro e x3⟨rfl,s,f3⟩;have f:=af (f.out.only c.out f3 (by decide));have k:=af (k.out.only c.out f3 (by decide));have m:Hid (Fr (eF g) W x3):=m.out.trans f3;have c:=af s;clear s f3;go_wp2_with(refine aS rfl 41 (.tmp 15) (.tmp 14) rfl g3 3 (.string u) rfl rfl rfl uS _ _ #[.int .i64 n, .int .i64 q, .int .i64 t, .string u] k.out (show 3<4 by decide) rfl ?_);intro y3 b3 f3;have k:Hid (ao y3 g3 43 #[.int .i64 n, .int .i64 q, .int .i64 t, .string u]):=b3;have f:=af (f.out.fr f3 (fun e=>by have v:g2=g3:=e;have:=r.out;omega));have c:=af (z.out.uX c.out f3 d.out.2);have m:Hid (Fr (eF g) W y3):=m.out.aw f3 (fun i G e=>by have v:i=g3:=e;have:=d.out;omega);clear b3 f3;go_wp2_with(refine aB rfl 43 (.tmp 3) rfl ⟨g3,0,none⟩ rfl [Value.int .i64 n, .int .i64 q, .int .i64 t, .string u] _ ?zA Tryz.underlying43 rfl fO (bh.go ?zB));case zA=>
  intro j x aa;rw[Addr.add_mid,Nat.zero_add,k.out.cell j,bD];exact aa
 unfold bh;have C:Hid ([Value.int .i64 n, .int .i64 q, .int .i64 t, .string u].toArray.all (·.oneCell')=true):=by simp[Hid,Value.oneCell']
 go_wp2_with(refine ai rfl 43 (.tmp 2) _ rfl g2 [Value.int .i64 n, .int .i64 q, .int .i64 t, .string u].toArray rfl rfl _ _ f.out fO rfl C.out ?_);intro I L J;have Q:=af L;have Z:Hid (Ri o I g S H):=z.out.uX c.out J d.out.1;have X:Hid (Fr (eF g) W I):=m.out.aw J (fun i G e=>by have v:i=g2:=e;have:=d.out;omega);have Y:=af (w.out I Z.out X.out);clear L J;go_wp2;exact bodyPost_ret (results_cell_row (fn:=Tryz.f70) (p:=2) (ty:=43) Tryz.results70 _ I _ 43 _ (0,0) _ rfl Q.out Tryz.underlying43 rfl fO) rfl Y.out
theorem Ke(st:fC):(jX st).1.length≤16777216:=by
 unfold jX aN;split;·simp
 ·split;·simp
  next h=>
   simp only[cj]at h⊢;split;·simp
   ·split;·simp
    ·split;·simp
     next a b c=>
      simp only[List.length_take];omega
theorem AM(st:fC):(aN 0 (aZ (st.1.length:Int)) st).1≤(st.1.length:Int)∧0≤(aN 0 (aZ (st.1.length:Int)) st).1:=by
 unfold aN;split;·simp
 ·split;·simp
  next h=>
   simp only[ne_eq,Decidable.not_not,aZ]at h⊢;by_cases c:(pn st.1 9).2.2=0∧(st.1.length:Int)<((pn st.1 9).1:Int);·rw[if_pos c]at h;cases h
   ·rw[if_neg c]at h;have a:(pn st.1 9).2.2=0:=by omega
    have:¬(st.1.length:Int)<((pn st.1 9).1:Int):=fun x=>c ⟨a,x⟩;omega
def Ld(c W:World)(g:Nat)(S:Nat→Prop)(a:Option (List CV×fC))(e:Ending)(W':World):Prop:=
 ∃v b,e= .returned (.tuple #[v, .bool b])∧Fr (eF g) W W'∧((b=true∧∃L st,a=some (L,st)∧dU W' v L∧L.length≤1099511627776∧Ri c W' g S st∧∀k,v.ownBlock=some k→W.heap.size≤k)∨(b=false∧a=none∧v= .slice none 0 0∧c.heap.size≤W'.heap.size∧Fr ag c W'))
def Lc(c W:World)(g:Nat)(S:Nat→Prop)(N:Nat)(a:Option (List CV×fC))(v i:Value)(wr:World):Prop:=
 ∃(k:Nat)(st:fC)(L:List CV),k≤N∧i= .int .i64 (k:Int)∧lQ (N-k) st L=a∧L.length=k∧dU wr v L∧(∀b,v.ownBlock=some b→W.heap.size≤b)∧Ri c wr g S st∧Fr (eF g) W wr
theorem Fg(n:aI)(s:ByteArray)(b:Bool):Tryz.prog.built 119 [(0, .agg n.cells.toArray),(2, .bool b),(1, .string s)]=some (CV.cells ⟨n,s,b⟩).toArray:=by kernel_rfl
theorem Iz(n:aI):(Tryz.prog.info? 106).map (·.size)=some n.cells.toArray.size:=bB
theorem Jo(w:World):(zeroValue 106).run Tryz.prog w= .ok (.agg (aI.cells ⟨0,ByteArray.empty,0,0,ByteArray.empty⟩).toArray) w:=by kernel_rfl
theorem se(q W:World)(g:Nat)(S:Nat→Prop)(st:fC)(h:Ri q W g S st)(bR:eG q):
  Calls Tryz.prog 71 #[.pointer (some ⟨g,0,none⟩)] W (Ld q W g S (jm st)):=by
 have ay:=af h;have b2:=af bR;have D:Hid (jm st=lQ (aN 0 (aZ (st.1.length:Int)) st).1.toNat (aN 0 (aZ (st.1.length:Int)) st).2 []):=rfl;obtain⟨N,a8⟩:∃N:Nat,(aN 0 (aZ (st.1.length:Int)) st).1=(N:Int):=⟨_,(Int.toNat_of_nonneg (AM st).2).symm⟩;have K:Hid (N≤1099511627776):=by
  have b5:=(AM st).1;have b6:=h.rr.small;simp only[Hid];omega
 rw[a8,Int.toNat_natCast]at D;have br:Hid (∀W',Ri q W' g S st→Calls Tryz.prog 107 #[.pointer (some ⟨g,0,none⟩), .int .i64 (st.1.length:Nat)] W' (qL q W' g S (.int .i64 (N:Int)) (aN 0 (aZ (st.1.length:Int)) st).2)):=fun W' h=>by
  rw[←a8];exact h.number _
 have bs:Hid (Calls Tryz.prog 117 #[.pointer (some ⟨g,0,none⟩)] W (bG W (.int .i64 (st.1.length:Nat)))):=h.rest;obtain⟨r,a9⟩:∃O,jm st=O:=⟨_,rfl⟩;rw[a9]at D;rw[a9];generalize(aN 0 (aZ (st.1.length:Int)) st).2=s1 at*;obtain⟨i0,am,an,E,ba⟩:=info_parts o3;have a4:Hid (¬1*i0.size>2^24):=by simp only[Hid];rw[E];omega
 have a5:Hid (¬1*i0.size=0):=by simp only[Hid];rw[E];omega
 have a6:Hid (∀c:CV,Instr.fill (fun i=>some (i*i0.size,i0.size)) ((Array.range (1*i0.size)).map (dj.cells[· %dj.cells.size]!)) [(0, .agg c.cells.toArray)]=some c.cells.toArray):=fun c=>by rw[E];exact mi _ _ rfl (by simp[dj,Value.cells])
 clear h bR a8 a9;go_enter Tryz.func71,Tryz.ntmps71;go_wp2_with fail;refine bs.out.mono ?_;rintro e w1⟨rfl,rfl⟩;go_wp2_with fail;refine(br.out _ ay.out).mono ?_;rintro e w1⟨rfl,bV,f1⟩;have aa:Hid (Lc q W g S N r (.slice none 0 0) (.int .i64 0) w1):=⟨0,s1,[],Nat.zero_le _,rfl,D.out.symm,rfl,dU.nil _,(fun b ac=>by simp[Value.ownBlock]at ac),bV,f1⟩;clear bV f1 br bs D;go_wp2;go_loopw[4,12](fun v i wr=>Lc q W g S N r v i wr)(fun _ i _=>N-(intOf i).toNat);case atStart=>exact aa.out
 case round=>
  obtain⟨k,l,L,cf,rfl,bH,Q,bF,aG,a,hF⟩:=hrel;have aB:=af a;have aT:=af hF;have aX:=af Q;have bk:=af aG;obtain⟨ar,n4,aC,rfl,M⟩:=bF.form;have aO:=af M;have cd:Hid (n4=k):=by
   obtain⟨A,n,c,e,b8,_⟩:=M.cl;cases e;rw[Hid,b8,Q]
  have av:=af bH;clear a hF Q aG bF M bH aa;by_cases b7:k<N
  ·have bQ:(k:Int)<(N:Int):=by omega
   have t1:decide ((k:Int)<(N:Int))=true:=decide_eq_true bQ;have bv:Hid (lQ (N-k-1+1) l L=r):=by rw[Hid,show N-k-1+1=N-k by omega];exact av.out
   have aW:Hid ((jX l).1.length≤16777216):=Ke l;have bt:Hid (∀W',Ri q W' g S l→Calls Tryz.prog 104 #[.pointer (some ⟨g,0,none⟩), .int .i64 16777216] W' (qL q W' g S (.string ⟨(jX l).1.toArray⟩) (jX l).2)):=fun W' h=>h.text _;have o:Hid (lQ (N-k-1+1) l L=if(gz (jX l).1).2≠0 then none else lQ (N-k-1) (dF (aN false cZ (jX l).2).2).2 (L++[⟨(gz (jX l).1).1,⟨(dF (aN false cZ (jX l).2).2).1.toArray⟩,(aN false cZ (jX l).2).1⟩])):=rfl;rw[bv.out]at o;generalize(jX l).1=V at*;generalize(jX l).2=s2 at*;clear av bv;go_wp2_with fail;refine(bt.out _ aB.out).mono ?_;rintro e w2⟨rfl,bW,f2⟩;have a1:=af bW;have bw:Hid (Fr (eF g) W w2):=aT.out.trans f2;have bl:=af (aO.out.only aB.out f2);clear bW f2 bt;obtain⟨m,hm⟩:∃m,gz V=m:=⟨_,rfl⟩;have aM:Hid (∀w',Fr ag q w'→Calls Tryz.prog 118 #[.string ⟨V.toArray⟩] w' (fun e z=>e= .returned (.tuple #[.agg m.1.cells.toArray, .int .i64 m.2])∧Fr ag w' z)):=fun w' f=>by
    have h:=ER ⟨V.toArray⟩ w' (b2.out.aq f) (by have:=aW.out;simp[ByteArray.size];omega);unfold ud at h;rw[show aJ ⟨V.toArray⟩=V from sq V,hm]at h;exact h
   rw[hm]at o;clear hm aB aT aO;obtain⟨nm,a2⟩:=m;simp only at aM o;go_wp2_with fail;refine(aM.out _ a1.out.fr).mono ?_;rintro e bd⟨rfl,f3⟩;have bz:=af (a1.out.later f3);have aP:Hid (Fr (eF g) W bd):=bw.out.trans f3.bI;have bm:=af (bl.out.aq f3);clear f3 aM a1 bw bl;go_wp2_with(refine ak rfl 106 rfl (.agg (aI.cells ⟨0,ByteArray.empty,0,0,ByteArray.empty⟩).toArray) Jo (aI.cells ⟨0,ByteArray.empty,0,0,ByteArray.empty⟩).toArray rfl ?_);intro cb bU;have a0:=af bU;clear bU;generalize ae:bd.heap.size=g5 at*;have I:=af ae;clear ae;have bj:Hid (ao cb g5 106 (aI.cells ⟨0,ByteArray.empty,0,0,ByteArray.empty⟩).toArray):=by have h:=a0.out.aF;rw[I.out]at h;exact h
   have b1:Hid (W.heap.size≤g5):=by have:=aP.out.size;have:=I.out;simp only[Hid];omega
   go_wp2_with(refine ai rfl 106 (.tmp 5) _ rfl g5 nm.cells.toArray rfl rfl _ _ bj.out (Iz nm) rfl nm.one ?_);intro bg bb bE;have bh:Hid (ao bg g5 106 nm.cells.toArray):=bb;have ax:Hid (Fr ag bd bg):=a0.out.fr.aw bE (fun i y e=>by have b4:i=g5:=e;have:=I.out;omega);have T:=af (bz.out.later ax.out);have aQ:Hid (Fr (eF g) W bg):=aP.out.trans ax.out.bI;have bn:=af (bm.out.aq ax.out);clear bb bE a0 bj ax bz aP bm;by_cases s:a2=0;case neg=>
    have t2:(a2 !=0)=true:=by rw[bne_iff_ne];exact s
    have t:Hid (r=none):=by rw[Hid,o.out,if_pos s]
    clear s o;go_wp2;go_ret2;exact⟨_,_,rfl,aQ.out, .inr ⟨rfl,t.out,rfl,T.out.fr.size,T.out.fr⟩⟩
   have t2:(a2 !=0)=false:=by rw[bne_eq_false_iff_eq];exact s
   have ab:Hid (r=lQ (N-k-1) (dF (aN false cZ s2).2).2 (L++[⟨nm,⟨(dF (aN false cZ s2).2).1.toArray⟩,(aN false cZ s2).1⟩])):=by rw[Hid,o.out,if_neg (by simp[s])]
   clear s o;have bq:Hid (∀W',Ri q W' g S s2→Calls Tryz.prog 119 #[.pointer (some ⟨g,0,none⟩)] W' (qL q W' g S (.bool (aN false cZ s2).1) (aN false cZ s2).2)):=fun W' h=>h.flag;generalize(aN false cZ s2).1=aD at*;generalize(aN false cZ s2).2=p at*;go_wp2_with fail;refine(bq.out _ T.out).mono ?_;rintro e be⟨rfl,bX,f5⟩;have B:=af bX;have aR:Hid (Fr (eF g) W be):=aQ.out.trans f5;have bo:=af (bn.out.only T.out f5);have Y:=af (bh.out.only T.out f5 (by decide));clear bX f5 bq T aQ bn bh;have bu:Hid (∀W',Rr W' g S p.1 p.2.1 p.2.2→Calls Tryz.prog 104 #[.pointer (some ⟨g,0,none⟩), .int .i64 65536] W' (fun e z=>e= .returned (.string ⟨(dF p).1.toArray⟩)∧Fr (eF g) W' z∧Rr z g S (dF p).2.1 (dF p).2.2.1 (dF p).2.2.2)):=fun W' h=>by
    refine(nO g S _ _ _ 65536 W' h).mono ?_;rintro e z⟨rfl,bS⟩;exact⟨rfl,bS.fr,bS.rr⟩
   generalize(⟨(dF p).1.toArray⟩:ByteArray)=aH at*;generalize(dF p).2=G at*;have aK:=af (Fg nm aH aD);have Z:=af (CV.one ⟨nm,aH,aD⟩);obtain⟨cv,R⟩:∃cv:CV,cv=⟨nm,aH,aD⟩:=⟨_,rfl⟩;rw[←R]at aK Z ab;have aU:Hid (cv.cells.length=7):=by rw[R];rfl
   clear R;have aV:Hid (g<be.heap.size):=B.out.rr.lt;go_upto_region 8 with fail;refine aE 7 (eF g) [Is (.slice ar n4 aC),Is (.agg nm.cells.toArray),Is (.bool aD),Is (.pointer (some ⟨g,0,none⟩)),Is (.string aH),Is (.agg cv.cells.toArray),fun x X=>∃b,x= .slice (some ⟨b,0,none⟩) 1 1∧ao X b 119 cv.cells.toArray∧b≠g∧be.heap.size≤b] [(4,fun X=>Rr X g S G.1 G.2.1 G.2.2)] (fun X=>Rr X g S p.1 p.2.1 p.2.2) (fun _ _=>false) (by kernel_rfl) (by kernel_rfl) (by kernel_rfl) (by kernel_rfl) ⟨Is.ah _,Is.ah _,Is.ah _,Is.ah _,Is.ah _,Is.ah _,fun _ _ _ _ w⟨b,h,k,n,m⟩=>⟨b,h,k.fr w n,n,m⟩,trivial⟩ ⟨fun _ _ _ h a7=>a7.kq h,trivial⟩ (fun _ _ _ h a7=>a7.kq h) (B.out.rr.kq aA.drew) ?_ ?_
   ·refine⟨?zE,?zA,?zF,?zG,?zB,?zC,?zD,trivial⟩;all_goals intro u w' d w a ap F C
    all_goals simp only[bJ,bK,bL,bM,au,Act.put,bN,bO,bP,Nat.reduceAdd,Nat.zero_add]
    case zA=>
     clear a ap F C;refine aj ?_;exact az _ _ rfl ⟨g5,0,none⟩ rfl nm.cells _ (kH (Y.out.only B.out w (by decide))) Tryz.underlying106 rfl bB ⟨_,rfl,al⟩
    case zB=>
     simp only[show u 3=_ from a 3];clear a;refine aj ?_;have aG:Rr w' g S p.1 p.2.1 p.2.2:=by rw[dn,if_neg (by rw[F 4 (by kernel_rfl)];exact Bool.false_ne_true)]at C;exact C
     clear ap F C;go_simp;refine(bu.out _ aG).mono ?_;rintro e ch⟨rfl,f4,ca⟩;exact⟨_,rfl,f4,rfl,ca⟩
    case zC=>
     simp only[show u 1=_ from a 1,show u 2=_ from a 2,show u 4=_ from a 4];clear a ap F C;refine aj ?_;exact jY 119 _ rfl _ _ (by simp only[List.map_toArray,List.map_cons,List.map_nil];rfl) aK.out ⟨_,rfl,al⟩
    case zD=>
     simp only[show u 5=_ from a 5];clear a ap F C;refine aj ?_;refine wp_buildSlice 44 119 1 #[(0, .tmp 29)] rfl cv.cells.toArray i0 dj Tryz.underlying44 am an a4.out a5.out ?_ ?_;·simp only[List.map_toArray,List.map_cons,List.map_nil];exact a6.out cv
     ·exact⟨_,rfl,aA.alloc _,⟨w'.heap.size,rfl,ao.new _ _ _,by have:=aV.out;have:=w.size;omega,w.size⟩,trivial⟩
    all_goals
     clear a ap F C;refine aj ?_;go_simp;exact⟨_,rfl,al⟩
   intro u w' w a C;obtain⟨bA,bC,ad,bc,a3⟩:=a 6 (by omega);have F:u 0=_:=a 0 (by omega);have bT:Rr w' g S G.1 G.2.1 G.2.2:=C;have aS:Hid (Fr (eF g) W w'):=aR.out.trans w;have bp:=af (bo.out.only B.out w);have bi:=af ad;have cc:Hid (W.heap.size≤bA):=by have:=aR.out.size;simp only[Hid];omega
   have U:Hid (Ri q w' g S G):=⟨B.out.fr.aw w (fun i y e=>by have b4:i=g:=e;have:=B.out.new;omega),bT,B.out.new,fun i y=>⟨(B.out.sn i y).1,Nat.lt_of_lt_of_le (B.out.sn i y).2 w.size⟩⟩;simp only[bJ,bK,bL,bM,au,Act.put,bN,bO,bP,dL,dM,Nat.reduceAdd,Nat.zero_add,F,bC];clear w a C bT ad bc a3 F bC B aR bo Y bu aK;have bx:Hid (w'.ownsRow 0 119 7 (.slice ar n4 aC) L.length (L.flatMap CV.cells)):=bp.out;refine iF _ rfl _ _ 44 rfl 119 i0 dj 7 80 Tryz.underlying44 am an E ba rfl (by decide) _ _ _ rfl bx.out (fun _=>True) (some ⟨bA,0,none⟩) 1 1 cv.cells rfl ⟨aU.out,fun _=>⟨_,rfl,trivial,fun j x b9=>by rw[Addr.add_mid,Nat.zero_add,bi.out.cell,bD];exact b9⟩⟩ (fun u hu=>by
    have h:=Z.out;rw[Array.all_eq_true_iff_forall_mem]at h;exact h u (by simpa using hu)) (by have:=K.out;have:=aX.out;omega) (by decide) ?_;intro bY bf P;have bZ:Hid (dU bf bY (L++[cv])):=by
    rw[Hid,dU,aY,List.flatMap_append,List.flatMap_cons,List.flatMap_nil,List.append_nil];exact P.own
   have H:Hid (∀b,(Value.slice ar n4 aC).ownBlock=some b→W.heap.size≤b):=bk.out;have aL:Hid (∀b,bY.ownBlock=some b→W.heap.size≤b):=fun b ac=>by
    rcases P.ez b ac with h|h;·exact H.out b h
    ·have:=aS.out.size;omega
   have J:Hid (∀b,(Value.slice ar n4 aC).ownBlock=some b→b≠g∧¬S b∧q.heap.size≤b):=fun b ac=>by
    have b5:=H.out b ac;have b6:=ay.out.rr.lt;have ce:=ay.out.fr.size;exact⟨by omega,fun h=>by have:=(ay.out.sn b h).2;omega,by omega⟩
   have b0:Hid (Fr (eF g) W bf):=aS.out.aw P.fr (fun i y e=>by have:=H.out i e;omega);have b3:Hid (Ri q bf g S G):=⟨U.out.fr.aw P.fr (fun i y e=>by have:=(J.out i e).2.2;omega),U.out.rr.kF P.fr (fun e=>(J.out g e).1 rfl) (fun i y e=>(J.out i e).2.1 y),U.out.new,fun i y=>⟨(U.out.sn i y).1,Nat.lt_of_lt_of_le (U.out.sn i y).2 P.fr.size⟩⟩;clear P bx U aS bp bi;have cg:N≤1099511627776:=K.out;go_wp2;go_roundw;case rel=>exact⟨k+1,G,L++[cv],by omega,by go_num,by rw[ab.out,show N-(k+1)=N-k-1 by omega],by rw[aY,aX.out];rfl,bZ.out,aL.out,b3.out,b0.out⟩
   case measure=>simp[intOf];omega
  ·obtain rfl:k=N:=by omega
   have bQ:¬(k:Int)<(k:Int):=by omega
   have t:Hid (r=some (L,l)):=by
    rw[Hid,←av.out,Nat.sub_self,lQ]
   clear av;go_wp2;go_ret2;exact⟨_,_,rfl,aT.out, .inl ⟨rfl,L,l,t.out,aO.out,by rw[aX.out];exact K.out,aB.out,bk.out⟩⟩
end Go.Proofs.YtphjagkehiklkaaGreatDoor
namespace Go.Proofs.YtphjagkehiklkaaGreatDoor
open Go.RowKit
theorem fV(w:World):(zeroValue 38).run Tryz.prog w= .ok aR w:=by kernel_rfl
theorem KY(V:cU):(Tryz.prog.info? 141).map (·.size)=some (fA V).length:=by kernel_rfl
theorem Iy:(Tryz.prog.info? 142).map (·.size)=some 64:=by kernel_rfl
theorem ef:(Tryz.prog.info? 38).map (·.size)=some 32:=by kernel_rfl
theorem Lr(w:World):(zeroValue 5).run Tryz.prog w= .ok (.int .u8 0) w:=by kernel_rfl
def mQ(rest:List UInt8)(a:Nat):List UInt8:=rest.take a++128::List.replicate (63-a) 0
theorem ju(rest:List UInt8)(a:Nat)(b:rest.length=64)(c:a<64):(mQ rest a).length=64:=by simp[mQ,b];omega
theorem zM(rest:List UInt8)(a:Nat)(b:rest.length=64)(c:a<64):cL (rest.set a 128) (a+1) (List.replicate (63-a) 0)=mQ rest a:=by
 unfold cL mQ;rw[List.drop_of_length_le (by simp[b];omega),List.append_nil,List.take_set,List.take_succ_eq_append_getElem (by omega:a<rest.length),List.set_append_right _ _ (by simp;omega)];simp[b];rw[show a-min a 64=0 by omega];rfl
theorem Ir(rest:List UInt8)(a:rest.length=64):rest.set 63 128=mQ rest 63:=by
 rw[←zM rest 63 a (by omega),cL];simp
def jH(B:List UInt8)(L k:Nat):List UInt8:=B.take (64-k)++(len8 L).drop (8-k)
theorem fP(B:List UInt8)(L k:Nat)(a:B.length=64)(b:k≤8):(jH B L k).length=64:=by simp[jH,a,iJ];omega
theorem Cy(B:List UInt8)(L:Nat)(a:B.length=64):jH B L 0=B:=by
 unfold jH;rw[List.take_of_length_le (by omega),List.drop_of_length_le (by rw[iJ];omega),List.append_nil]
theorem jo(B:List UInt8)(L k:Nat)(d:B.length=64)(e:k<8)(x:UInt8)(c:(len8 L)[7-k]? =some x):(jH B L k).set (63-k) x=jH B L (k+1):=by
 unfold jH;rw[show 64-k=(63-k)+1 by omega,List.take_succ_eq_append_getElem (by omega:63-k<B.length),List.set_append_left _ _ (by simp;omega),List.set_append_right _ _ (by simp;omega)];obtain⟨a,b⟩:=List.getElem?_eq_some_iff.1 c;rw[show 64-(k+1)=63-k by omega,show 8-(k+1)=7-k by omega,List.drop_eq_getElem_cons a,b,show 7-k+1=8-k by omega];rw[show 63-k-(B.take (63-k)).length=0 by simp;omega];simp
theorem Jf(M rest:List UInt8)(h:kJ M rest)(a:Nat)(i:a=M.length%64):
  (a<56→dY (fN (gB dP M (M.length/64)) ((mQ rest a).take 56++len8 M.length))=dt M)∧
  (56≤a→dY (fN (fN (gB dP M (M.length/64)) (mQ rest a)) ((List.replicate 64 0).take 56++len8 M.length))=dt M):=by
 have e:=Ix M rest h;obtain⟨q,g⟩:∃q,q=M.length/64:=⟨_,rfl⟩;have c:(M.take (64*q)).length=64*q:=by rw[List.length_take,g];omega
 rw[←i,←g]at e;have b:(rest.take a).length=a:=by rw[List.length_take,h.1,i];omega
 have j:M.length=64*q+a:=by omega
 have k:gB dP M q=gB dP (M.take (64*q)) q:=by
  rw(occs:= .pos [1])[e];exact jz dP _ _ q (by omega)
 rw[←g,k,j];constructor;·intro f;have d:=Dz (M.take (64*q)) (rest.take a) q c (by omega);rw[←e,b]at d;rw[d];congr 2;unfold mQ;rw[show 63-a=(55-a)+8 by omega,←List.replicate_append_replicate,←List.cons_append,←List.append_assoc,List.take_left' (by simp[b];omega)];simp
 ·intro f;have d:=GS (M.take (64*q)) (rest.take a) q c (by omega) (by omega);rw[←e,b]at d;rw[d];congr 2
structure eM(w w':World)(gs a:Nat)(s:cU)(B:List UInt8):Prop where
 fr:Fr ag w w'
 ss:ao w' gs 141 (fA s).toArray
 bb:ao w' a 142 (B.map aT).toArray
 os:w.heap.size≤gs
 ob:w.heap.size≤a
theorem eM.ne{w w':World}{gs a:Nat}{s:cU}{B:List UInt8}(h:eM w w' gs a s B):gs≠a:=h.ss.oi h.bb (by decide)
theorem eM.put{w w':World}{gs a:Nat}{s:cU}{B:List UInt8}(h:eM w w' gs a s B)(i:Nat)(x:UInt8):eM w (w'.setCell ⟨a,i,none⟩ (aT x)) gs a s (B.set i x):=by
 refine⟨h.fr.setCell (fun b=>absurd b (by have:=h.ob;simp only;omega)) _,h.ss.cC (p:=⟨a,i,none⟩) h.ne _,?_,h.os,h.ob⟩;have:=h.bb.jI i (aT x);rwa[List.setIfInBounds_toArray,←List.map_set]at this
theorem eM.val{w w':World}{gs a:Nat}{s:cU}{B:List UInt8}{p:Addr}{x y:Int}(e:x=y)(h:eM w (w'.setCell p (.int .u8 y)) gs a s B):eM w (w'.setCell p (.int .u8 x)) gs a s B:=e▸h
theorem eM.GP{w w':World}{gs a:Nat}{s:cU}{B:List UInt8}(h:eM w w' gs a s B)(d:Nat)(X:List UInt8)(c:d+X.length≤B.length):eM w (w'.setCells a d (X.map aT)) gs a s (cL B d X):=by
 refine⟨Fr.setCells (fun b=>absurd b (by have:=h.ob;omega)) _ _ _ h.fr,h.ss.fr (Fr.setCells (T:=fun k=>k=a) (fun _=>rfl) _ _ _ aA) h.ne,?_,h.os,h.ob⟩;have:=ao.setCells (X.map aT) d _ _ h.bb (by simpa using c);unfold cL;simpa[List.map_take,List.map_drop]using this
theorem eM.clear{w w':World}{gs a:Nat}{s:cU}{B:List UInt8}(h:eM w w' gs a s B)(c n:Nat)(b:c+n≤B.length):eM w (w'.setCells a c (List.replicate n (.int .u8 0))) gs a s (cL B c (List.replicate n 0)):=by
 have:=h.GP c (List.replicate n 0) (by simpa using b);rwa[List.map_replicate]at this
theorem eM.ED{w w' a:World}{gs b:Nat}{s d:cU}{B:List UInt8}(h:eM w w' gs b s B)(c:Fr (fun k=>k=gs) w' a)(f:ao a gs 141 ([]++fA d++[]).toArray):eM w a gs b d B:=
 ⟨h.fr.aw c (fun i j e=>by have g:i=gs:=e;have:=h.os;omega),by rwa[List.nil_append,List.append_nil]at f,h.bb.fr c (fun e=>h.ne (Eq.symm e)),h.os,h.ob⟩
theorem eM.state{w w':World}{gs a:Nat}{s:cU}{B:List UInt8}(h:eM w w' gs a s B):ao w' gs 141 ([]++fA s++[]).toArray:=by rw[List.nil_append,List.append_nil];exact h.ss
theorem eM.cell{w w':World}{gs a:Nat}{s:cU}{B:List UInt8}(h:eM w w' gs a s B)(b:B.length=64)(j:Nat)(c:j<64):w'.cell? ⟨a,j,none⟩=some (aT (B[j]?.getD 0)):=by
 rw[h.bb.cell,bD,List.getElem?_map,List.getElem?_eq_getElem (by omega)];rfl
theorem eM.cell0{w w':World}{gs a:Nat}{s:cU}{B:List UInt8}(h:eM w w' gs a s B)(b:B.length=64)(j:Nat)(c:j<64):w'.cell? ⟨a,0+j,none⟩=some (aT (B[j]?.getD 0)):=by
 rw[Nat.zero_add];exact h.cell b j c
theorem tg{w w':World}{gs a:Nat}{s:cU}{B:List UInt8}(h:eM w w' gs a s B)(b:B.length=64)(g n c:Nat)(d:0<n)(f:g+n≤64)(ty:TypeId):
  (Builtin.clear_ #[61] ty #[.slice (some ⟨a,g,none⟩) n c]).run Tryz.prog w'= .ok (.tuple #[]) (w'.setCells a g (List.replicate n (.int .u8 0))):=
 Lib.run_clear_slice w' 61 5 ty (.int .u8 0) Tryz.underlying61 Lr rfl rfl a g n c d (fun j e=>by rw[h.cell b (g+j) (by omega)];rfl) (fun _ _=>h.bb.frozen _)
theorem AQ(w:World)(A:Option Addr)(c:Nat)(ty:TypeId):(Builtin.clear_ #[61] ty #[.slice A 0 c]).run Tryz.prog w= .ok (.tuple #[]) w:=by
 cases A<;>simp[Builtin.clear_,run_underlying Tryz.underlying61]
theorem lS{w:World}{g:Nat}{t:TypeId}{cs:Array Value}(h:ao w g t cs){n:Nat}(b:cs.size=n):w.there g 0 n:=fun j a=>by
 rw[Nat.zero_add,h.cell,h.frozen];rw[Array.getElem?_eq_getElem (by omega)];exact⟨rfl,rfl⟩
theorem ma{w:World}{g x:Nat}{c d:Obj}{a:List Value}{i:Nat}{v:Value}(h:w.cell? ⟨g,i,none⟩=some v)(e:w.heap.size≤x):(((w.alloc c).alloc d).drew.setCells x 0 a).cell? ⟨g,i,none⟩=some v:=by
 rw[World.cell?_setCells_out _ _ _ _ _ (fun b _=>absurd b (by have:=World.block_lt_of_cell? w _ h;simp only at this⊢;omega))];exact Lib.cell?_alloc_some _ (Lib.cell?_alloc_some _ h)
theorem qm{w:World}{g x f:Nat}{d e:Obj}{a CV:List Value}(h:w.rangeAt g f CV)(c:w.heap.size≤x):(((w.alloc d).alloc e).drew.setCells x 0 a).rangeAt g f CV:=fun j v b=>ma (h j v b) c
theorem rz{w:World}{g x:Nat}{c d:Obj}{b:List Value}(h:g<w.heap.size):g<(((w.alloc c).alloc d).drew.setCells x 0 b).heap.size:=by
 have:=(Fr.setCells (T:=fun _=>True) (a:=w) (g:=x) (fun _=>trivial) b 0 _ ((((Fr.refl _ w).alloc c).alloc d).drew)).size;omega
theorem xJ{w:World}(s:cU)(B:List UInt8)(d:B.length=64)(a:Array Value)(c:a.size=64):
  eM w (((w.alloc (.cells (fA s).toArray 141)).alloc (.cells a 142)).drew.setCells (w.heap.size+1) 0 (B.map aT)) w.heap.size (w.heap.size+1) s B∧
  eM w (((w.alloc (.cells a 142)).alloc (.cells (fA s).toArray 141)).drew.setCells w.heap.size 0 (B.map aT)) (w.heap.size+1) w.heap.size s B:=by
 have e:∀f:Obj,(w.alloc f).heap.size=w.heap.size+1:=fun f=>by simp
 have b:(B.map aT).length=64:=by rw[List.length_map,d]
 refine⟨⟨?_,?_,?_,Nat.le_refl _,by omega⟩,⟨?_,?_,?_,by omega,Nat.le_refl _⟩⟩;·exact Fr.setCells (fun h=>absurd h (by omega)) _ _ _ ((((Fr.refl _ w).alloc _).alloc _).drew)
 ·exact(((ao.new w _ _).alloc _).drew).fr (Fr.setCells (T:=fun k=>k=w.heap.size+1) (fun _=>rfl) _ _ _ aA) (by omega)
 ·have b0:ao ((w.alloc (.cells (fA s).toArray 141)).alloc (.cells a 142)).drew (w.heap.size+1) 142 a.toList.toArray:=by
   have:=ao.new (w.alloc (.cells (fA s).toArray 141)) 142 a;rw[e]at this;simpa using this.drew
  have:=ao.setCells (B.map aT) 0 _ _ b0 (by simp[b,c]);rw[Nat.zero_add,List.drop_of_length_le (by simp[b,c]),List.take_zero,List.nil_append,List.append_nil]at this;exact this
 ·exact Fr.setCells (fun h=>absurd h (by omega)) _ _ _ ((((Fr.refl _ w).alloc _).alloc _).drew)
 ·have b0:ao ((w.alloc (.cells a 142)).alloc (.cells (fA s).toArray 141)).drew (w.heap.size+1) 141 (fA s).toArray:=by
   have:=ao.new (w.alloc (.cells a 142)) 141 (fA s).toArray;rw[e]at this;exact this.drew
  exact b0.fr (Fr.setCells (T:=fun k=>k=w.heap.size) (fun _=>rfl) _ _ _ aA) (by omega)
 ·have b0:ao ((w.alloc (.cells a 142)).alloc (.cells (fA s).toArray 141)).drew w.heap.size 142 a.toList.toArray:=by
   have:=(ao.new w 142 a).alloc (.cells (fA s).toArray 141);simpa using this.drew
  have:=ao.setCells (B.map aT) 0 _ _ b0 (by simp[b,c]);rw[Nat.zero_add,List.drop_of_length_le (by simp[b,c]),List.take_zero,List.nil_append,List.append_nil]at this;exact this
structure Kx(M:List UInt8)(L:Nat)(B:List UInt8)(s:cU):Prop where
 len:B.length=64
 ok:s.ok
 eq:dY (fN s (B.take 56++len8 L))=dt M
theorem uq(s:cU)(b:List UInt8):(fN s b).ok:=zl _ _
theorem Gn(B:List UInt8)(h:B.length=64):cL B 0 (List.replicate 64 0)=List.replicate 64 0:=by
 unfold cL;rw[List.drop_of_length_le (by simp[h]),List.take_zero,List.nil_append,List.append_nil]
theorem Fy{w:World}{g:Nat}{t:TypeId}{V:cU}{k:Nat}(h:ao w g t ((mg V (4*k)).map aT).toArray)(a:k<8):
  ao ((((w.setCell ⟨g,4*k,none⟩ (.int .u8 ((fB V k/16777216%256:Nat):Int))).setCell ⟨g,4*k+1,none⟩ (.int .u8 ((fB V k/65536%256:Nat):Int))).setCell ⟨g,4*k+2,none⟩ (.int .u8 ((fB V k/256%256:Nat):Int))).setCell ⟨g,4*k+3,none⟩ (.int .u8 ((fB V k%256:Nat):Int))) g t ((mg V (4*k+4)).map aT).toArray:=by
 have f:(dY V)[4*k]? =some (ik (fB V k/16777216)):=by simpa using tJ V k 0 a (by omega)
 have i:(dY V)[4*k+1]? =some (ik (fB V k/65536)):=by simpa using tJ V k 1 a (by omega)
 have j:(dY V)[4*k+2]? =some (ik (fB V k/256)):=by simpa using tJ V k 2 a (by omega)
 have x3:(dY V)[4*k+3]? =some (ik (fB V k)):=by simpa using tJ V k 3 a (by omega)
 rw[←iZ,←iZ,←iZ,←iZ];have b:=h.jI (4*k) (aT (ik (fB V k/16777216)));rw[List.setIfInBounds_toArray,po V (4*k) _ (by omega) f]at b;have c:=b.jI (4*k+1) (aT (ik (fB V k/65536)));rw[List.setIfInBounds_toArray,po V (4*k+1) _ (by omega) i]at c;have d:=c.jI (4*k+2) (aT (ik (fB V k/256)));rw[List.setIfInBounds_toArray,po V (4*k+2) _ (by omega) j]at d;have e:=d.jI (4*k+3) (aT (ik (fB V k)));rw[List.setIfInBounds_toArray,po V (4*k+3) _ (by omega) x3]at e;exact e
theorem pt{w:World}{g:Nat}{t:TypeId}{V:cU}{k i:Nat}(h:ao w g t ((mg V k).map aT).toArray)(b:k≤32)(a:i<32):∃u,w.cell? ⟨g,i,none⟩=some u:=by
 have hlen:i<((mg V k).map aT).length:=by rw[List.length_map,yk V k b];exact a
 rw[h.cell,bD];exact⟨_,List.getElem?_eq_getElem hlen⟩
theorem JV(B:List UInt8)(L:Nat):jH B L 8=B.take 56++len8 L:=rfl
theorem EO(g:Nat)(M rest:List UInt8)(w:World)(H:nf w g M rest)(bj:bH w)(bU:M.length≤1099511627776)(a3:1≤M.length):
  Calls Tryz.prog 80 #[.pointer (some ⟨g,0,none⟩)] w (aK w (.agg ((dt M).map aT).toArray)):=by
 have bN:=af H.ok;have aH:=af (Jf M rest H.ok (M.length%64) rfl);have ah:=af (AN dP M xr (M.length/64));have R:=af bj;obtain⟨H,ab,a5⟩:=H;clear a5;generalize gB dP M (M.length/64)=ST at*;obtain⟨I,Y⟩:∃I,I=((dt M).map aT).toArray:=⟨_,rfl⟩;rw[←Y];have U:=af Y;obtain⟨L,N⟩:∃L,L=M.length:=⟨_,rfl⟩;have bM:=af N;obtain⟨a,aI⟩:∃a,a=L%64:=⟨_,rfl⟩;have s:a<64:=by omega
 rw[←N,←aI]at aH;rw[←N]at H bU a3;have b5:=af aI;have hm:((L:Nat):Int).tmod 64=(a:Int):=by rw[Int.tmod_eq_emod_of_nonneg (by omega),aI];omega
 clear Y bj N aI;have bg:w.cell? ⟨g,0,none⟩=some (.int .i64 (L:Nat)):=H.cell 0;have Q:w.rangeAt g 1 (fA ST):=by
  intro j v P;rw[←P];exact H.lI (pre:=[.int .i64 L]) (os:=1) rfl (List.getElem?_eq_some_iff.1 P).1
 have bt:w.rangeAt g 9 (rest.map aT):=by
  intro j v P;have b1:j<64:=by have:=(List.getElem?_eq_some_iff.1 P).1;simpa[ab]using this
  rw[qc H ab j b1,←P,List.getElem?_map,List.getElem?_eq_getElem (by omega)];rfl
 have HB:=af H;have r:=af ab;have a8:=Tryz.underlying141;have aC:=Tryz.underlying142;have i8:=KY ST;have i64:(Tryz.prog.info? 142).map (·.size)=some (rest.map aT).length:=by rw[List.length_map,ab];exact Iy
 have hlen:(rest.map aT).length=64:=by rw[List.length_map,ab]
 have av:∀v∈rest.map aT,v.oneCell'=true:=by
  intro v P;obtain⟨x,_,rfl⟩:=List.mem_map.1 P;rfl
 clear ab;generalize bi:rest.map aT=aQ at*;have W:Hid (aQ=rest.map aT):=bi.symm;clear bi H;go_enter Tryz.func80,Tryz.ntmps80;go_wp2_with(refine ak rfl 38 rfl aR fV aD rfl ?_);intro w1 n1;have aj:=af n1;have am:=n1.fr.an bg (fun x=>x);have bu:=n1.fr.an (Q 0 _ rfl) (fun x=>x);have s1:=n1.fr.an (Q 1 _ rfl) (fun x=>x);have s2:=n1.fr.an (Q 2 _ rfl) (fun x=>x);have bv:=n1.fr.an (Q 3 _ rfl) (fun x=>x);have bw:=n1.fr.an (Q 4 _ rfl) (fun x=>x);have bx:=n1.fr.an (Q 5 _ rfl) (fun x=>x);have bz:=n1.fr.an (Q 6 _ rfl) (fun x=>x);have bA:=n1.fr.an (Q 7 _ rfl) (fun x=>x);simp only[jC,Nat.reduceAdd]at bu s1 s2 bv bw bx bz bA;have a7:w1.rangeAt g 9 aQ:=fun j v P=>n1.fr.an (bt j v P) (fun x=>x);have aV:g<w1.heap.size:=Nat.lt_of_lt_of_le HB.out.lt n1.fr.size;have bK:Hid (g<w1.heap.size∧w.heap.size<w1.heap.size):=⟨aV,by have:=n1.size;omega⟩;clear n1 bg Q bt;go_upto_region 3 with fail;have t1:((w1.alloc (.cells #[.int .u32 (ST.a:Nat), .int .u32 (ST.b:Nat), .int .u32 (ST.c:Nat), .int .u32 (ST.d:Nat), .int .u32 (ST.e:Nat), .int .u32 (ST.f:Nat), .int .u32 (ST.g:Nat), .int .u32 (ST.h:Nat)] 141)).alloc (.cells #[.int .u8 0, .int .u8 0, .int .u8 0, .int .u8 0, .int .u8 0, .int .u8 0, .int .u8 0, .int .u8 0, .int .u8 0, .int .u8 0, .int .u8 0, .int .u8 0, .int .u8 0, .int .u8 0, .int .u8 0, .int .u8 0, .int .u8 0, .int .u8 0, .int .u8 0, .int .u8 0, .int .u8 0, .int .u8 0, .int .u8 0, .int .u8 0, .int .u8 0, .int .u8 0, .int .u8 0, .int .u8 0, .int .u8 0, .int .u8 0, .int .u8 0, .int .u8 0, .int .u8 0, .int .u8 0, .int .u8 0, .int .u8 0, .int .u8 0, .int .u8 0, .int .u8 0, .int .u8 0, .int .u8 0, .int .u8 0, .int .u8 0, .int .u8 0, .int .u8 0, .int .u8 0, .int .u8 0, .int .u8 0, .int .u8 0, .int .u8 0, .int .u8 0, .int .u8 0, .int .u8 0, .int .u8 0, .int .u8 0, .int .u8 0, .int .u8 0, .int .u8 0, .int .u8 0, .int .u8 0, .int .u8 0, .int .u8 0, .int .u8 0, .int .u8 0] 142)).drew.there (w1.heap.size+1) 0 64:=by
  have h:=(ao.new (w1.alloc (.cells #[.int .u32 (ST.a:Nat), .int .u32 (ST.b:Nat), .int .u32 (ST.c:Nat), .int .u32 (ST.d:Nat), .int .u32 (ST.e:Nat), .int .u32 (ST.f:Nat), .int .u32 (ST.g:Nat), .int .u32 (ST.h:Nat)] 141)) 142 #[.int .u8 0, .int .u8 0, .int .u8 0, .int .u8 0, .int .u8 0, .int .u8 0, .int .u8 0, .int .u8 0, .int .u8 0, .int .u8 0, .int .u8 0, .int .u8 0, .int .u8 0, .int .u8 0, .int .u8 0, .int .u8 0, .int .u8 0, .int .u8 0, .int .u8 0, .int .u8 0, .int .u8 0, .int .u8 0, .int .u8 0, .int .u8 0, .int .u8 0, .int .u8 0, .int .u8 0, .int .u8 0, .int .u8 0, .int .u8 0, .int .u8 0, .int .u8 0, .int .u8 0, .int .u8 0, .int .u8 0, .int .u8 0, .int .u8 0, .int .u8 0, .int .u8 0, .int .u8 0, .int .u8 0, .int .u8 0, .int .u8 0, .int .u8 0, .int .u8 0, .int .u8 0, .int .u8 0, .int .u8 0, .int .u8 0, .int .u8 0, .int .u8 0, .int .u8 0, .int .u8 0, .int .u8 0, .int .u8 0, .int .u8 0, .int .u8 0, .int .u8 0, .int .u8 0, .int .u8 0, .int .u8 0, .int .u8 0, .int .u8 0, .int .u8 0]).drew;rw[show(w1.alloc (.cells #[.int .u32 (ST.a:Nat), .int .u32 (ST.b:Nat), .int .u32 (ST.c:Nat), .int .u32 (ST.d:Nat), .int .u32 (ST.e:Nat), .int .u32 (ST.f:Nat), .int .u32 (ST.g:Nat), .int .u32 (ST.h:Nat)] 141)).heap.size=w1.heap.size+1 by simp]at h;exact lS h rfl
 have t2:((w1.alloc (.cells #[.int .u8 0, .int .u8 0, .int .u8 0, .int .u8 0, .int .u8 0, .int .u8 0, .int .u8 0, .int .u8 0, .int .u8 0, .int .u8 0, .int .u8 0, .int .u8 0, .int .u8 0, .int .u8 0, .int .u8 0, .int .u8 0, .int .u8 0, .int .u8 0, .int .u8 0, .int .u8 0, .int .u8 0, .int .u8 0, .int .u8 0, .int .u8 0, .int .u8 0, .int .u8 0, .int .u8 0, .int .u8 0, .int .u8 0, .int .u8 0, .int .u8 0, .int .u8 0, .int .u8 0, .int .u8 0, .int .u8 0, .int .u8 0, .int .u8 0, .int .u8 0, .int .u8 0, .int .u8 0, .int .u8 0, .int .u8 0, .int .u8 0, .int .u8 0, .int .u8 0, .int .u8 0, .int .u8 0, .int .u8 0, .int .u8 0, .int .u8 0, .int .u8 0, .int .u8 0, .int .u8 0, .int .u8 0, .int .u8 0, .int .u8 0, .int .u8 0, .int .u8 0, .int .u8 0, .int .u8 0, .int .u8 0, .int .u8 0, .int .u8 0, .int .u8 0] 142)).alloc (.cells #[.int .u32 (ST.a:Nat), .int .u32 (ST.b:Nat), .int .u32 (ST.c:Nat), .int .u32 (ST.d:Nat), .int .u32 (ST.e:Nat), .int .u32 (ST.f:Nat), .int .u32 (ST.g:Nat), .int .u32 (ST.h:Nat)] 141)).drew.there w1.heap.size 0 64:=
  lS ((ao.new w1 142 #[.int .u8 0, .int .u8 0, .int .u8 0, .int .u8 0, .int .u8 0, .int .u8 0, .int .u8 0, .int .u8 0, .int .u8 0, .int .u8 0, .int .u8 0, .int .u8 0, .int .u8 0, .int .u8 0, .int .u8 0, .int .u8 0, .int .u8 0, .int .u8 0, .int .u8 0, .int .u8 0, .int .u8 0, .int .u8 0, .int .u8 0, .int .u8 0, .int .u8 0, .int .u8 0, .int .u8 0, .int .u8 0, .int .u8 0, .int .u8 0, .int .u8 0, .int .u8 0, .int .u8 0, .int .u8 0, .int .u8 0, .int .u8 0, .int .u8 0, .int .u8 0, .int .u8 0, .int .u8 0, .int .u8 0, .int .u8 0, .int .u8 0, .int .u8 0, .int .u8 0, .int .u8 0, .int .u8 0, .int .u8 0, .int .u8 0, .int .u8 0, .int .u8 0, .int .u8 0, .int .u8 0, .int .u8 0, .int .u8 0, .int .u8 0, .int .u8 0, .int .u8 0, .int .u8 0, .int .u8 0, .int .u8 0, .int .u8 0, .int .u8 0, .int .u8 0]).alloc _).drew rfl;go_cut[0,2,3,4,5](fun ax ay az aB a6 aG=>∃gs m,ax= .pointer (some ⟨g,0,none⟩)∧ay= .pointer (some ⟨w.heap.size,0,none⟩)∧az= .pointer (some ⟨gs,0,none⟩)∧aB= .pointer (some ⟨m,0,none⟩)∧a6= .int .i64 a∧eM w1 aG gs m ST rest);case first=>
  go_region_held3(fun w'=>w'.cell? ⟨g,0,none⟩=some (.int .i64 (L:Nat))∧w'.cell? ⟨g,1,none⟩=some (.int .u32 (ST.a:Nat))∧w'.cell? ⟨g,2,none⟩=some (.int .u32 (ST.b:Nat))∧w'.cell? ⟨g,3,none⟩=some (.int .u32 (ST.c:Nat))∧w'.cell? ⟨g,4,none⟩=some (.int .u32 (ST.d:Nat))∧w'.cell? ⟨g,5,none⟩=some (.int .u32 (ST.e:Nat))∧w'.cell? ⟨g,6,none⟩=some (.int .u32 (ST.f:Nat))∧w'.cell? ⟨g,7,none⟩=some (.int .u32 (ST.g:Nat))∧w'.cell? ⟨g,8,none⟩=some (.int .u32 (ST.h:Nat))∧w'.rangeAt g 9 aQ∧g<w'.heap.size)((go_split_ands;(repeat' constructor)<;>first|assumption|(refine ma (by assumption) (by omega))|(refine qm (by assumption) (by omega))|(refine rz (by assumption))|((repeat refine Lib.cell?_alloc_some _ ?_);assumption)|((repeat refine World.rangeAt_alloc ?_ _);assumption)|(simp;omega)))(first|fail);·go_wp2_with fail;go_meet;have h:=(xJ (w:=w1) ST rest r.out #[.int .u8 0, .int .u8 0, .int .u8 0, .int .u8 0, .int .u8 0, .int .u8 0, .int .u8 0, .int .u8 0, .int .u8 0, .int .u8 0, .int .u8 0, .int .u8 0, .int .u8 0, .int .u8 0, .int .u8 0, .int .u8 0, .int .u8 0, .int .u8 0, .int .u8 0, .int .u8 0, .int .u8 0, .int .u8 0, .int .u8 0, .int .u8 0, .int .u8 0, .int .u8 0, .int .u8 0, .int .u8 0, .int .u8 0, .int .u8 0, .int .u8 0, .int .u8 0, .int .u8 0, .int .u8 0, .int .u8 0, .int .u8 0, .int .u8 0, .int .u8 0, .int .u8 0, .int .u8 0, .int .u8 0, .int .u8 0, .int .u8 0, .int .u8 0, .int .u8 0, .int .u8 0, .int .u8 0, .int .u8 0, .int .u8 0, .int .u8 0, .int .u8 0, .int .u8 0, .int .u8 0, .int .u8 0, .int .u8 0, .int .u8 0, .int .u8 0, .int .u8 0, .int .u8 0, .int .u8 0, .int .u8 0, .int .u8 0, .int .u8 0, .int .u8 0] rfl).1;rw[←W.out]at h;exact⟨_,_,rfl,rfl,rfl,rfl,rfl,h⟩
  ·go_wp2_with fail;go_meet;have h:=(xJ (w:=w1) ST rest r.out #[.int .u8 0, .int .u8 0, .int .u8 0, .int .u8 0, .int .u8 0, .int .u8 0, .int .u8 0, .int .u8 0, .int .u8 0, .int .u8 0, .int .u8 0, .int .u8 0, .int .u8 0, .int .u8 0, .int .u8 0, .int .u8 0, .int .u8 0, .int .u8 0, .int .u8 0, .int .u8 0, .int .u8 0, .int .u8 0, .int .u8 0, .int .u8 0, .int .u8 0, .int .u8 0, .int .u8 0, .int .u8 0, .int .u8 0, .int .u8 0, .int .u8 0, .int .u8 0, .int .u8 0, .int .u8 0, .int .u8 0, .int .u8 0, .int .u8 0, .int .u8 0, .int .u8 0, .int .u8 0, .int .u8 0, .int .u8 0, .int .u8 0, .int .u8 0, .int .u8 0, .int .u8 0, .int .u8 0, .int .u8 0, .int .u8 0, .int .u8 0, .int .u8 0, .int .u8 0, .int .u8 0, .int .u8 0, .int .u8 0, .int .u8 0, .int .u8 0, .int .u8 0, .int .u8 0, .int .u8 0, .int .u8 0, .int .u8 0, .int .u8 0, .int .u8 0] rfl).2;rw[←W.out]at h;exact⟨_,_,rfl,rfl,rfl,rfl,rfl,h⟩
 case rest=>
  clear t1 t2;obtain⟨gs,m,rfl,rfl,rfl,rfl,rfl,o⟩:=hcut;clear bu s1 s2 bv bw bx bz bA a7 i8 i64 hlen av hm a8 aC W;have bS:wc.cell? ⟨g,0,none⟩=some (.int .i64 (L:Nat)):=o.fr.an am (fun x=>x);have cg:((L:Int)==0)=false:=by rw[beq_eq_false_iff_ne];omega
  have bV:(a:Int)<64:=by omega
  have t:=o.cell r.out a s;have u:wc.frozen? ⟨m,a,none⟩=false:=o.bb.frozen a;have al:Hid (eM w1 (wc.setCell ⟨m,a,none⟩ (.int .u8 128)) gs m ST (rest.set a 128)):=o.put a 128;clear o;go_upto_region 7 with fail;clear bS t u;generalize wc.setCell ⟨m,a,none⟩ (.int .u8 128)=w2 at*;obtain⟨p,a4⟩:∃p,p=w.heap.size:=⟨_,rfl⟩;rw[←a4];have aO:=af a4;clear a4;go_cut[0,2,3,4,5](fun ax ay az aB a6 aG=>ax= .pointer (some ⟨g,0,none⟩)∧ay= .pointer (some ⟨p,0,none⟩)∧az= .pointer (some ⟨gs,0,none⟩)∧aB= .pointer (some ⟨m,0,none⟩)∧a6= .int .i64 a∧eM w1 aG gs m ST (mQ rest a));case first=>
   by_cases G:a=63
   ·have O:=fun A ty=>AQ w2 A 0 ty;rw[G,Ir rest r.out]at al;have bL:=af G;have bC:IntKind.i64.wrap ((a:Int)+1)=64:=by rw[G];rfl
    have bD:(a:Int)+1=64:=by omega
    clear G;go_wp2_with(simp only[O]);go_meet;exact⟨rfl,rfl,rfl,rfl,rfl,by rw[bL.out];exact al.out⟩
   ·obtain⟨C,Z⟩:∃C,C=a+1:=⟨_,rfl⟩;have O:=tg al.out (by simp[r.out]) C (64-C) (64-C) (by omega) (by omega);have q:Hid (eM w1 (w2.setCells m C (List.replicate (64-C) (.int .u8 0))) gs m ST (mQ rest a)):=by
     have h:=al.out.clear C (64-C) (by simp[r.out];omega);rw[Z,show 64-(a+1)=63-a by omega,zM rest a r.out s]at h;rw[Z,show 64-(a+1)=63-a by omega];exact h
    have bC:IntKind.i64.wrap ((a:Int)+1)=(C:Int):=(IntWalk.i64_in _ (by omega)).trans (by omega);have bD:(a:Int)+1=(C:Int):=by omega
    have x3:(C:Int)≤64:=by omega
    have cj:¬64=C:=by omega
    have ck:C≤64:=by omega
    clear Z G;go_wp2_with(simp only[O]);go_meet;exact⟨rfl,rfl,rfl,rfl,rfl,q.out⟩
  case rest=>
   obtain⟨rfl,rfl,rfl,rfl,rfl,o⟩:=hcut;have aa:=af o;clear o al;go_upto_if 39 with fail;go_cut[0,2,3,4](fun ax ay az aB aG=>ax= .pointer (some ⟨g,0,none⟩)∧ay= .pointer (some ⟨p,0,none⟩)∧az= .pointer (some ⟨gs,0,none⟩)∧aB= .pointer (some ⟨m,0,none⟩)∧∃y B,eM w1 aG gs m y B∧Kx M L B y);case first=>
    have z:Hid (bH wc):=R.out.aq (aj.out.fr.trans aa.out.fr);by_cases a2:56≤a
    ·have ad:=af (mC gs 0 m 0 141 [] [] ST ah.out (mQ rest a) wc aa.out.state rfl (aa.out.cell0 (ju rest a r.out s)) z.out.kk);have aL:=af (aH.out.2 a2);have aP:=af (uq ST (mQ rest a));generalize fN ST (mQ rest a)=bd at*;have bX:decide ((56:Int)≤(a:Int))=true:=by simp;omega
     go_wp2_with fail;refine ad.out.mono ?_;rintro e ac⟨rfl,f4,b4⟩;have be:=af (aa.out.ED f4 b4);have O:=tg be.out (ju rest a r.out s) 0 64 64 (by omega) (by omega);have bR:Hid (eM w1 (ac.setCells m 0 (List.replicate 64 (.int .u8 0))) gs m bd (List.replicate 64 0)):=by
      have h:=be.out.clear 0 64 (by rw[ju rest a r.out s];omega);rw[Gn _ (ju rest a r.out s)]at h;exact h
     clear f4 b4 ad;go_wp2;go_meet;exact⟨rfl,rfl,rfl,rfl,bd,_,bR.out,by simp,aP.out,aL.out⟩
    ·have aJ:=af (aH.out.1 (by omega));have bX:decide ((56:Int)≤(a:Int))=false:=by simp;omega
     go_wp2;go_meet;exact⟨rfl,rfl,rfl,rfl,ST,_,aa.out,ju rest a r.out s,ah.out,aJ.out⟩
   case rest=>
    clear aH aa;obtain⟨rfl,rfl,rfl,rfl,y,B,o,K⟩:=hcut;have bT:wc.cell? ⟨g,0,none⟩=some (.int .i64 (L:Nat)):=o.fr.an am (fun x=>x);have l:=af K.len;have ae:=af K;have bf:Hid (eM w1 wc gs m y (jH B L 0)):=by simp only[Hid];rw[Cy B L K.len];exact o
    clear o K;have b3:(8:Int)*(L:Int)≤8796093022208:=by omega
    go_wp2;go_loopw[48](fun i wr=>∃k:Nat,k≤8∧i= .int .i64 k∧eM w1 wr gs m y (jH B L k))(fun i _=>8-(intOf i).toNat);case atStart=>exact⟨0,by omega,rfl,bf.out⟩
    case round=>
    obtain⟨k,bm,rfl,o⟩:=hrel;have n:=af o;clear bf bT o;have bW:k=0∨k=1∨k=2∨k=3∨k=4∨k=5∨k=6∨k=7∨k=8:=by omega
    clear bm;rcases bW with rfl|rfl|rfl|rfl|rfl|rfl|rfl|rfl|rfl
    ·have h:=n.out.put (63-0) (ik (8*L));rw[jo B L 0 l.out (by omega) _ (by simp[len8]),iZ]at h;have q:Hid (eM w1 (wr.setCell ⟨m,63-0,none⟩ (.int .u8 ((8*L%256:Nat):Int))) gs m y (jH B L (0+1))):=h;have t:wr.cell? ⟨m,63-0,none⟩=some _:=n.out.cell (fP _ _ _ l.out (by omega)) (63-0) (by omega);have u:wr.frozen? ⟨m,63-0,none⟩=false:=n.out.bb.frozen _;simp only[Nat.reduceSub]at t u q;clear h n;go_wp2;go_roundw;case rel=>exact⟨1,by omega,by go_num,eM.val (by omega) q.out⟩
     case measure=>simp[intOf]
    ·have h:=n.out.put (63-1) (ik (8*L/256));rw[jo B L 1 l.out (by omega) _ (by simp[len8]),iZ]at h;have q:Hid (eM w1 (wr.setCell ⟨m,63-1,none⟩ (.int .u8 ((8*L/256%256:Nat):Int))) gs m y (jH B L (1+1))):=h;have t:wr.cell? ⟨m,63-1,none⟩=some _:=n.out.cell (fP _ _ _ l.out (by omega)) (63-1) (by omega);have u:wr.frozen? ⟨m,63-1,none⟩=false:=n.out.bb.frozen _;simp only[Nat.reduceSub]at t u q;clear h n;go_wp2;go_roundw;case rel=>exact⟨2,by omega,by go_num,eM.val (by omega) q.out⟩
     case measure=>simp[intOf]
    ·have h:=n.out.put (63-2) (ik (8*L/65536));rw[jo B L 2 l.out (by omega) _ (by simp[len8]),iZ]at h;have q:Hid (eM w1 (wr.setCell ⟨m,63-2,none⟩ (.int .u8 ((8*L/65536%256:Nat):Int))) gs m y (jH B L (2+1))):=h;have t:wr.cell? ⟨m,63-2,none⟩=some _:=n.out.cell (fP _ _ _ l.out (by omega)) (63-2) (by omega);have u:wr.frozen? ⟨m,63-2,none⟩=false:=n.out.bb.frozen _;simp only[Nat.reduceSub]at t u q;clear h n;go_wp2;go_roundw;case rel=>exact⟨3,by omega,by go_num,eM.val (by omega) q.out⟩
     case measure=>simp[intOf]
    ·have h:=n.out.put (63-3) (ik (8*L/16777216));rw[jo B L 3 l.out (by omega) _ (by simp[len8]),iZ]at h;have q:Hid (eM w1 (wr.setCell ⟨m,63-3,none⟩ (.int .u8 ((8*L/16777216%256:Nat):Int))) gs m y (jH B L (3+1))):=h;have t:wr.cell? ⟨m,63-3,none⟩=some _:=n.out.cell (fP _ _ _ l.out (by omega)) (63-3) (by omega);have u:wr.frozen? ⟨m,63-3,none⟩=false:=n.out.bb.frozen _;simp only[Nat.reduceSub]at t u q;clear h n;go_wp2;go_roundw;case rel=>exact⟨4,by omega,by go_num,eM.val (by omega) q.out⟩
     case measure=>simp[intOf]
    ·have h:=n.out.put (63-4) (ik (8*L/4294967296));rw[jo B L 4 l.out (by omega) _ (by simp[len8]),iZ]at h;have q:Hid (eM w1 (wr.setCell ⟨m,63-4,none⟩ (.int .u8 ((8*L/4294967296%256:Nat):Int))) gs m y (jH B L (4+1))):=h;have t:wr.cell? ⟨m,63-4,none⟩=some _:=n.out.cell (fP _ _ _ l.out (by omega)) (63-4) (by omega);have u:wr.frozen? ⟨m,63-4,none⟩=false:=n.out.bb.frozen _;simp only[Nat.reduceSub]at t u q;clear h n;go_wp2;go_roundw;case rel=>exact⟨5,by omega,by go_num,eM.val (by omega) q.out⟩
     case measure=>simp[intOf]
    ·have h:=n.out.put (63-5) (ik (8*L/1099511627776));rw[jo B L 5 l.out (by omega) _ (by simp[len8]),iZ]at h;have q:Hid (eM w1 (wr.setCell ⟨m,63-5,none⟩ (.int .u8 ((8*L/1099511627776%256:Nat):Int))) gs m y (jH B L (5+1))):=h;have t:wr.cell? ⟨m,63-5,none⟩=some _:=n.out.cell (fP _ _ _ l.out (by omega)) (63-5) (by omega);have u:wr.frozen? ⟨m,63-5,none⟩=false:=n.out.bb.frozen _;simp only[Nat.reduceSub]at t u q;clear h n;go_wp2;go_roundw;case rel=>exact⟨6,by omega,by go_num,eM.val (by omega) q.out⟩
     case measure=>simp[intOf]
    ·have h:=n.out.put (63-6) (ik (8*L/281474976710656));rw[jo B L 6 l.out (by omega) _ (by simp[len8]),iZ]at h;have q:Hid (eM w1 (wr.setCell ⟨m,63-6,none⟩ (.int .u8 ((8*L/281474976710656%256:Nat):Int))) gs m y (jH B L (6+1))):=h;have t:wr.cell? ⟨m,63-6,none⟩=some _:=n.out.cell (fP _ _ _ l.out (by omega)) (63-6) (by omega);have u:wr.frozen? ⟨m,63-6,none⟩=false:=n.out.bb.frozen _;simp only[Nat.reduceSub]at t u q;clear h n;go_wp2;go_roundw;case rel=>exact⟨7,by omega,by go_num,eM.val (by omega) q.out⟩
     case measure=>simp[intOf]
    ·have h:=n.out.put (63-7) (ik (8*L/72057594037927936));rw[jo B L 7 l.out (by omega) _ (by simp[len8]),iZ]at h;have q:Hid (eM w1 (wr.setCell ⟨m,63-7,none⟩ (.int .u8 ((8*L/72057594037927936%256:Nat):Int))) gs m y (jH B L (7+1))):=h;have t:wr.cell? ⟨m,63-7,none⟩=some _:=n.out.cell (fP _ _ _ l.out (by omega)) (63-7) (by omega);have u:wr.frozen? ⟨m,63-7,none⟩=false:=n.out.bb.frozen _;simp only[Nat.reduceSub]at t u q;clear h n;go_wp2;go_roundw;case rel=>exact⟨8,by omega,by go_num,eM.val (by omega) q.out⟩
     case measure=>simp[intOf]
    ·rw[JV]at n;have z:Hid (bH wr):=R.out.aq (aj.out.fr.trans n.out.fr);have ar:(B.take 56++len8 L).length=64:=by simp[l.out,iJ]
     have ad:=af (mC gs 0 m 0 141 [] [] y ae.out.ok (B.take 56++len8 L) wr n.out.state rfl (n.out.cell0 ar) z.out.kk);have S:=af ae.out.eq;have bO:=af (uq y (B.take 56++len8 L));generalize fN y (B.take 56++len8 L)=V at*;clear ar;go_wp2_with fail;refine ad.out.mono ?_;rintro e ac⟨rfl,f4,b4⟩;have J:=af (n.out.ED f4 b4);clear f4 b4 ad n;go_wp2_with(refine ak rfl 38 rfl aR fV aD rfl ?_);intro aE n5;have aS:Hid (eM w1 aE gs m V (B.take 56++len8 L)):=⟨J.out.fr.trans n5.fr,J.out.ss.fr n5.fr (fun x=>x),J.out.bb.fr n5.fr (fun x=>x),J.out.os,J.out.ob⟩;have ba:=af n5.aF;have a9:Hid (ao aE p 38 aD):=by rw[aO.out];exact aj.out.aF.fr aS.out.fr (fun x=>x)
     have bc:Hid (Fr ag w aE):=aj.out.fr.trans aS.out.fr;have T:Hid (p<ac.heap.size∧gs<ac.heap.size∧w.heap.size≤ac.heap.size∧w.heap.size≤p):=⟨by have:=J.out.fr.size;have:=bK.out;have:=aO.out;omega,J.out.ss.lt,(aj.out.fr.trans J.out.fr).size,by have:=aO.out;omega⟩;clear n5 J z;generalize ac.heap.size=g6 at*;obtain⟨aU,ap,aW,aX,aY,aZ,a0,a1⟩:=DG aS.out.ss;go_wp2;go_loopw[62](fun i wr=>∃k:Nat,k≤8∧i= .int .i64 k∧ao wr g6 38 ((mg V (4*k)).map aT).toArray∧Fr (fun k=>k=g6) aE wr)(fun i _=>8-(intOf i).toNat);case atStart=>exact⟨0,by omega,rfl,by rw[Nat.mul_zero,Ci];exact ba.out,aA⟩
     case round=>
     obtain⟨k,bm,rfl,bk,bl⟩:=hrel;have E:=af bk;have F:=af bl;clear bk bl ba aU ap aW aX aY aZ a0 a1;by_cases au:k<8
     ·have b0:=xp wr V k au;have ca:=Kg V bO.out k;have D:=Fy E.out au;have bE:Hid (Fr (fun k=>k=g6) aE ((((wr.setCell ⟨g6,4*k,none⟩ (.int .u8 ((fB V k/16777216%256:Nat):Int))).setCell ⟨g6,4*k+1,none⟩ (.int .u8 ((fB V k/65536%256:Nat):Int))).setCell ⟨g6,4*k+2,none⟩ (.int .u8 ((fB V k/256%256:Nat):Int))).setCell ⟨g6,4*k+3,none⟩ (.int .u8 ((fB V k%256:Nat):Int)))):=
       (((F.out.setCell (p:=⟨g6,4*k,none⟩) (fun _=>rfl) _).setCell (p:=⟨g6,4*k+1,none⟩) (fun _=>rfl) _).setCell (p:=⟨g6,4*k+2,none⟩) (fun _=>rfl) _).setCell (p:=⟨g6,4*k+3,none⟩) (fun _=>rfl) _;have bJ:=af D;obtain⟨v0,b6⟩:=pt E.out (i:=4*k) (by omega) (by omega);obtain⟨v1,b7⟩:=pt E.out (i:=4*k+1) (by omega) (by omega);obtain⟨v2,b8⟩:=pt E.out (i:=4*k+2) (by omega) (by omega);obtain⟨v3,b9⟩:=pt E.out (i:=4*k+3) (by omega) (by omega);have f0:=E.out.frozen (4*k);have f1:=E.out.frozen (4*k+1);have f2:=E.out.frozen (4*k+2);have f3:=E.out.frozen (4*k+3);have m0:IntKind.i64.wrap (4*(k:Int))=((4*k:Nat):Int):=(IntWalk.i64_in _ (by omega)).trans (by omega);have m1:IntKind.i64.wrap (((4*k:Nat):Int)+1)=((4*k+1:Nat):Int):=(IntWalk.i64_in _ (by omega)).trans (by omega);have m2:IntKind.i64.wrap (((4*k:Nat):Int)+2)=((4*k+2:Nat):Int):=(IntWalk.i64_in _ (by omega)).trans (by omega);have m3:IntKind.i64.wrap (((4*k:Nat):Int)+3)=((4*k+3:Nat):Int):=(IntWalk.i64_in _ (by omega)).trans (by omega);have n0:4*(k:Int)=((4*k:Nat):Int):=by omega
      have n1:((4*k:Nat):Int)+1=((4*k+1:Nat):Int):=by omega
      have cb:((4*k:Nat):Int)+2=((4*k+2:Nat):Int):=by omega
      have n3:((4*k:Nat):Int)+3=((4*k+3:Nat):Int):=by omega
      have cc:((4*k:Nat):Int)<32:=by omega
      have cd:((4*k+1:Nat):Int)<32:=by omega
      have ce:((4*k+2:Nat):Int)<32:=by omega
      have cf:((4*k+3:Nat):Int)<32:=by omega
      have bn:¬4*k=4*k+1:=by omega
      have bo:¬4*k=4*k+2:=by omega
      have bp:¬4*k=4*k+3:=by omega
      have bq:¬4*k+1=4*k+2:=by omega
      have br:¬4*k+1=4*k+3:=by omega
      have bs:¬4*k+2=4*k+3:=by omega
      have z0:((fB V k:Nat):Int)/16777216=((fB V k/16777216%256:Nat):Int):=by omega
      have z1:((fB V k:Nat):Int)/65536%256=((fB V k/65536%256:Nat):Int):=by omega
      have z2:((fB V k:Nat):Int)/256%256=((fB V k/256%256:Nat):Int):=by omega
      have z3:((fB V k:Nat):Int)%256=((fB V k%256:Nat):Int):=by omega
      have aN:Hid (4*(k+1)=4*k+4):=by simp only[Hid];omega
      have b2:(k:Int)<8:=by omega
      clear D E F;generalize fB V k/16777216%256=ci at*;generalize fB V k/65536%256=bC at*;generalize fB V k/256%256=bD at*;generalize fB V k%256=x3 at*;generalize fB V k=ch at*;generalize 4*k+1=i1 at*;generalize 4*k+2=i2 at*;generalize 4*k+3=i3 at*;generalize 4*k=i0 at*;go_wp2;go_roundw;case rel=>exact⟨k+1,by omega,by go_num,by rw[aN.out];exact bJ.out,bE.out⟩
      case measure=>simp[intOf];omega
     ·have bY:decide ((k:Int)<8)=false:=by simp;omega
      have bG:Hid (ao wr g6 38 I):=by
       have h:=E.out;rw[show k=8 by omega,Il,S.out,←U.out]at h;exact h
      have bF:Hid (ao wr p 38 aD):=a9.out.fr F.out (fun e=>by have bh:p=g6:=e;have:=T.out;omega);have bI:Hid (Fr ag w wr):=bc.out.aw F.out (fun i bZ e=>by have bh:i=g6:=e;have:=T.out;omega);have X:Hid (I.size=32∧I.all (·.oneCell')=true):=by
       simp only[Hid];rw[U.out];refine⟨by rw[List.size_toArray,List.length_map,←S.out,iY],lk _⟩
      have aM:Hid ((Tryz.prog.info? 38).map (·.size)=some I.size):=by
       rw[X.out.1];exact ef
      clear E F a9 bc U S;go_wp2_with(first|(refine wpList_load_row rfl 38 (.tmp 8) rfl g6 rfl _ I _ _ bG.out Tryz.underlying38 rfl aM.out ?_)|(refine ai rfl 38 (.tmp 2) _ rfl p I rfl rfl _ _ bF.out aM.out (by rw[X.out.1];rfl) X.out.2 ?_));intro bB b4 f4;have bP:=af b4;have bQ:Hid (Fr ag w bB):=bI.out.aw f4 (fun i bZ e=>by have bh:i=p:=e;have:=T.out;omega);clear b4 f4;go_wp2;exact bodyPost_ret (results_cell_row (fn:=Tryz.f80) (p:=2) (ty:=38) Tryz.results80 _ bB p 38 I (0,0) _ rfl bP.out Tryz.underlying38 rfl aM.out) rfl ⟨rfl,bQ.out⟩
def DY:cU:=⟨0,0,0,0,0,0,0,0⟩
def y8:Array Value:=(gN 0 DY (List.replicate 64 0)).toArray
theorem LI(w:World):(zeroValue 144).run Tryz.prog w= .ok (.agg y8) w:=by kernel_rfl
theorem bH.Gr{w:World}(h:bH w):1<w.heap.size:=World.block_lt_of_cell? w ⟨1,0,none⟩ (h.init 0 _ rfl)
theorem bH.Gs{w:World}(h:bH w):2<w.heap.size:=World.block_lt_of_cell? w ⟨2,0,none⟩ (h.kk 0 (by omega))
theorem dK{P:Program}{fn:Func}{p q:Tmp}{ty:TypeId}(h:fn.results=#[.cell p ty, .tmp q])(tmps:Array Value)(w:World)(g:Nat)(t:TypeId)(cs:Array Value)(fr:Nat×Nat)(d:TypeDesc)
  (i:tmps.getD p undef= .pointer (some ⟨g,0,none⟩))(e:w.heap[g]? =some (.cells cs t fr))
  (hu:P.underlying ty=some d)(c:(match d with| .struct _| .array _ _=>true|_=>false)=true)(f:(P.info? ty).map (·.size)=some cs.size)(v:Value)(j:tmps.getD q undef=v):
  (results fn tmps).run P w= .ok (.tuple #[.agg cs,v]) w:=by
 have a:tmps[p]?.getD undef= .pointer (some ⟨g,0,none⟩):=by simpa using i
 have b:tmps[q]?.getD undef=v:=by simpa using j
 simp[results,h,a,b,asAddr,run_loadVar_row w g t ty cs fr d e hu c f]
theorem qN(s:ByteArray)(w:World)(E:bH w)(F:s.size≤1099511627776)(k:1≤s.size):
  Calls Tryz.prog 27 #[.string s] w (aK w (aP (dt (dG s)))):=by
 have q:=af E;have J:=af (cW s);have v:=af (fun g w'(b:ao w' g 144 (gN 0 DY (List.replicate 64 0)).toArray)t N O=>BF s g DY (List.replicate 64 0) (List.length_replicate ..) w' b t N O F k);have u:=af (fun g rest w'(h:nf w' g (dG s) rest)t=>EO g (dG s) rest w' h t (by rw[cW];exact F) (by rw[cW];exact k));have a:=eZ (dG s);unfold aP;generalize dt (dG s)=j at*;have o:Hid ((j.map aT).toArray.size=32∧(j.map aT).toArray.all (·.oneCell')=true):=⟨by simp[a],lk j⟩;have z:Hid ((Tryz.prog.info? 38).map (·.size)=some (j.map aT).toArray.size):=by
  rw[o.out.1];exact ef
 generalize(j.map aT).toArray=B at*;clear E a;go_enter Tryz.func27,Tryz.ntmps27;go_wp2_with(refine ak rfl 38 rfl aR fV aD rfl ?_);intro w1 n1;have l:=af n1;clear n1;go_wp2_with(refine ak rfl 144 rfl (.agg y8) LI y8 rfl ?_);intro w2 n;have A:=af n;have C:=af (q.out.aq (l.out.fr.trans n.fr));have c:Hid (w.heap.size<w1.heap.size∧1<w.heap.size∧2<w.heap.size):=⟨by have:=l.out.size;omega,q.out.Gr,q.out.Gs⟩;have f:=af (v.out w1.heap.size w2 n.aF C.out (by have:=c.out;omega) (by have:=c.out;omega));clear n v;go_wp2_with fail;refine f.out.mono ?_;rintro e Q⟨rfl,f3,rest,D⟩;have M:=af (C.out.fr f3 (fun e=>by have m:1=w1.heap.size:=e;have:=c.out;omega) (fun e=>by have m:2=w1.heap.size:=e;have:=c.out;omega));have d:=af (u.out _ _ _ D M.out);have r:=af ((l.out.aF.fr A.out.fr (fun x=>x)).fr f3 (fun e=>by have m:w.heap.size=w1.heap.size:=e;have:=c.out;omega));have y:Hid (Fr ag w Q):=(l.out.fr.trans A.out.fr).aw f3 (fun i P e=>by have m:i=w1.heap.size:=e;have:=c.out;omega);clear f3 D u f;go_wp2_with fail;refine d.out.mono ?_;rintro e R⟨rfl,f4⟩;have H:=af (r.out.fr f4 (fun x=>x));have I:=af (y.out.trans f4);clear f4 d r y;go_wp2_with(refine ai rfl 38 (.tmp 2) _ rfl w.heap.size B rfl rfl _ _ H.out z.out (by rw[o.out.1];rfl) o.out.2 ?_);intro G b5 f5;have K:=af b5;have L:Hid (Fr ag w G):=I.out.aw f5 (fun i P e=>by have m:i=w.heap.size:=e;omega);clear b5 f5;go_wp2;exact bodyPost_ret (results_cell_row (fn:=Tryz.f27) (p:=2) (ty:=38) Tryz.results27 _ G _ 38 B (0,0) _ rfl K.out Tryz.underlying38 rfl z.out) rfl ⟨rfl,L.out⟩
theorem ov(tag:UInt8)(a:List ByteArray)(A:Option Addr)(n c:Nat)(S:Nat→Prop)(w:World)(C:bH w)(s:Rd w S 1 A n (a.map mX))(D:n≤255)(r:∀k,(ee tag a k).length≤1099511627776)(B:∀p∈a,p.size<4294967296):
  Calls Tryz.prog 120 #[aT tag, .slice A n c] w (aK w (.tuple #[aP (dt (dc tag (a.map dG))), .int .i64 0])):=by
 have u:=af (fun w'(t:Fr ag w w')=>wX tag a A n c S w' (s.aq t) D r B);have m:a.length=n:=by have:=s.1;simpa using this
 have g:(dc tag (a.map dG)).length≤1099511627776:=by
  rw[←ua tag a n (by omega)];exact r n
 have d:1≤(dc tag (a.map dG)).length:=by simp[dc]
 have j:=af (fun w'(t:Fr ag w w')=>qN ⟨(dc tag (a.map dG)).toArray⟩ w' (C.aq t) (by simp only[ByteArray.size,List.size_toArray];exact g) (by simp only[ByteArray.size,List.size_toArray];exact d));have b:=eZ (dc tag (a.map dG));have z:dG ⟨(dc tag (a.map dG)).toArray⟩=dc tag (a.map dG):=by simp[dG]
 rw[z]at j;unfold aP at*;generalize(⟨(dc tag (a.map dG)).toArray⟩:ByteArray)=RS at*;generalize dt (dc tag (a.map dG))=f at*;have o:Hid ((f.map aT).toArray.size=32∧(f.map aT).toArray.all (·.oneCell')=true):=⟨by simp[b],lk f⟩;have v:Hid ((Tryz.prog.info? 38).map (·.size)=some (f.map aT).toArray.size):=by
  rw[o.out.1];exact ef
 generalize(f.map aT).toArray=y at*;clear s D r B m g d b z C;unfold aT at*;go_enter Tryz.func120,Tryz.ntmps120;go_wp2_with(refine ak rfl 38 rfl aR fV aD rfl ?_);intro w1 n1;have h:=af n1;clear n1;go_wp2_with fail;refine(u.out _ h.out.fr).mono ?_;rintro e w2⟨rfl,f2⟩;have l:Hid (Fr ag w w2):=h.out.fr.trans f2;have F:=af (h.out.aF.fr f2 (fun x=>x));clear f2 u;go_wp2_with fail;refine(j.out _ l.out).mono ?_;rintro e K⟨rfl,f3⟩;have G:=af (F.out.fr f3 (fun x=>x));have H:Hid (Fr ag w K):=l.out.trans f3;clear f3 j l h;go_wp2_with(refine ai rfl 38 (.tmp 4) _ rfl w.heap.size y rfl rfl _ _ G.out v.out (by rw[o.out.1];rfl) o.out.2 ?_);intro E b4 f4;have I:=af b4;have J:Hid (Fr ag w E):=H.out.aw f4 (fun i M e=>by have L:i=w.heap.size:=e;omega);clear b4 f4;go_wp2;exact bodyPost_ret (dK (fn:=Tryz.f120) (p:=4) (q:=5) (ty:=38) Tryz.results120 _ E _ 38 y (0,0) _ rfl I.out Tryz.underlying38 rfl v.out _ rfl) rfl ⟨rfl,J.out⟩
end Go.Proofs.YtphjagkehiklkaaGreatDoor
namespace Go.Proofs.YtphjagkehiklkaaGreatDoor.Lt
open Go.RowKit
def rW(s:List UInt8):List UInt8:=dt (dc 0 [s])
def cF(l r:List UInt8):List UInt8:=dt (dc 1 [l,r])
def qZ:List UInt8:=dt (dc 2 [])
theorem mE(s:List UInt8):(rW s).length=32:=eZ _
theorem eC(l r:List UInt8):(cF l r).length=32:=eZ _
theorem oE:qZ.length=32:=eZ _
theorem Bo(tag:UInt8)(k:Nat):(ee tag [] k).length≤1099511627776:=by simp[ee]
theorem Bp(tag:UInt8)(s:ByteArray)(a:s.size<4294967296)(k:Nat):(ee tag [s] k).length≤1099511627776:=by
 have hw:(de s.size).length=4:=rfl;rcases k with _|k<;>simp[ee,cW,hw]<;>omega
theorem uc(tag:UInt8)(s t:ByteArray)(b:s.size<4294967296)(c:t.size<4294967296)(k:Nat):(ee tag [s,t] k).length≤1099511627776:=by
 have hw:(de s.size).length=4:=rfl;have a:(de t.size).length=4:=rfl;rcases k with _|_|k<;>simp[ee,cW,hw,a]<;>omega
theorem IX(w:World)(cs:List Value)(n:Nat)(a:cs.length=n)(t:TypeId):Rd (w.alloc (.cells cs.toArray t)) (fun k=>k=w.heap.size) 1 (some ⟨w.heap.size,0,none⟩) n cs:=by
 refine⟨by rw[a,Nat.mul_one],fun _=>⟨_,rfl,rfl,fun j u hu=>?_⟩⟩;have:(⟨w.heap.size,0,none⟩:Addr).add j=⟨w.heap.size,j,none⟩:=by rw[Addr.add_mid,Nat.zero_add]
 rw[this,(ao.new w t cs.toArray).cell,bD];exact hu
theorem Ez{w:World}{g:Nat}{t:TypeId}{cs:List Value}(h:ao w g t cs.toArray){n:Nat}(a:cs.length=n):Rd w (fun k=>k=g) 1 (some ⟨g,0,none⟩) n cs:=by
 refine⟨by rw[a,Nat.mul_one],fun _=>⟨_,rfl,rfl,fun j u hu=>?_⟩⟩;rw[Addr.add_mid,Nat.zero_add,h.cell,bD];exact hu
structure cX(a:Array Value):Prop where
 size:a.size=32
 one:a.all (·.oneCell')=true
theorem cX.of{l:List UInt8}(h:l.length=32):cX (l.map aT).toArray:=⟨by simp[h],lk l⟩
theorem cX.info{a:Array Value}(h:cX a):(Tryz.prog.info? 38).map (·.size)=some a.size:=by rw[h.size];exact ef
theorem cX.KW{a:Array Value}(h:cX a):(Tryz.prog.info? 37).map (·.size)=some a.size:=by rw[h.size];exact En
theorem cX.zero{a:Array Value}(h:cX a):aD.size=a.size:=by rw[h.size];rfl
theorem rJ(s:ByteArray)(w:World)(n:bH w)(q:s.size<4294967296):Calls Tryz.prog 76 #[.string s] w (aK w (aP (rW (dG s)))):=by
 have j:Hid (∀w',bH w'→Calls Tryz.prog 120 #[.int .u8 0, .slice (some ⟨w'.heap.size,0,none⟩) 1 1] (w'.alloc (.cells #[.string s] 9)) (aK (w'.alloc (.cells #[.string s] 9)) (.tuple #[aP (rW (dG s)), .int .i64 0]))):=
  fun w' C=>ov 0 [s] (some ⟨w'.heap.size,0,none⟩) 1 1 _ _ (C.aq (aA.alloc _)) (IX w' [.string s] 1 rfl 9) (by omega) (Bp 0 s q) (by simpa using q);have v:=af n;have a:=af (cX.of (mE (dG s)));unfold aP at*;generalize((rW (dG s)).map aT).toArray=f at*;clear n;go_enter Tryz.func76,Tryz.ntmps76;go_wp2_with(refine ak rfl 38 rfl aR fV aD rfl ?_);intro w1 n1;have c:=af n1;clear n1;go_wp2_with fail;refine(j.out _ (v.out.aq c.out.fr)).mono ?_;rintro e w2⟨rfl,f2⟩;have d:Hid (Fr ag w1 w2):=((Fr.refl _ w1).alloc _).trans f2;clear f2 j;go_wp2_with(refine ak rfl 38 rfl aR fV aD rfl ?_);intro D n3;have h:=af n3.aF;have k:Hid (Fr ag w D):=c.out.fr.trans (d.out.trans n3.fr);have l:=af (c.out.aF.fr (d.out.trans n3.fr) (fun x=>x));have b:Hid (w.heap.size<w2.heap.size):=by have:=d.out.size;have:=c.out.size;simp only[Hid];omega
 clear n3 c d;generalize o:w2.heap.size=g at*;have F:=af o;clear o;go_wp2_with(refine ai rfl 38 (.tmp 3) _ rfl g f rfl rfl _ _ h.out a.out.info a.out.zero a.out.one ?_);intro E b4 f4;have t:=af b4;have u:Hid (Fr ag w E):=k.out.aw f4 (fun i B e=>by have m:i=g:=e;have:=b.out;omega);have A:=af (l.out.fr f4 (fun e=>by have m:w.heap.size=g:=e;have:=b.out;omega));clear b4 f4 k l h;go_wp2_with(first|(refine wpList_load_row rfl 38 (.tmp 3) rfl g rfl _ f _ _ t.out Tryz.underlying38 rfl a.out.info ?_)|(refine ai rfl 38 (.tmp 2) _ rfl w.heap.size f rfl rfl _ _ A.out a.out.info a.out.zero a.out.one ?_));intro r b5 f5;have y:=af b5;have z:Hid (Fr ag w r):=u.out.aw f5 (fun i B e=>by have m:i=w.heap.size:=e;omega);clear b5 f5;go_wp2;exact bodyPost_ret (results_cell_row (fn:=Tryz.f76) (p:=2) (ty:=38) Tryz.results76 _ r _ 38 f (0,0) _ rfl y.out Tryz.underlying38 rfl a.out.info) rfl ⟨rfl,z.out⟩
theorem Bj(w:World)(n:bH w):Calls Tryz.prog 73 #[] w (aK w (aP qZ)):=by
 have j:Hid (∀w',bH w'→Calls Tryz.prog 120 #[.int .u8 2, .slice none 0 0] w' (aK w' (.tuple #[aP qZ, .int .i64 0]))):=
  fun w' A=>ov 2 [] none 0 0 (fun _=>False) _ A Rd.none_ (by omega) (Bo 2) (by simp);have t:=af n;have a:=af (cX.of oE);unfold aP at*;generalize(qZ.map aT).toArray=f at*;clear n;go_enter Tryz.func73,Tryz.ntmps73;go_wp2_with(refine ak rfl 38 rfl aR fV aD rfl ?_);intro w1 n1;have c:=af n1;clear n1;go_wp2_with fail;refine(j.out _ (t.out.aq c.out.fr)).mono ?_;rintro e w2⟨rfl,f2⟩;have d:Hid (Fr ag w1 w2):=f2;clear f2 j;go_wp2_with(refine ak rfl 38 rfl aR fV aD rfl ?_);intro B n3;have h:=af n3.aF;have k:Hid (Fr ag w B):=c.out.fr.trans (d.out.trans n3.fr);have l:=af (c.out.aF.fr (d.out.trans n3.fr) (fun x=>x));have b:Hid (w.heap.size<w2.heap.size):=by have:=d.out.size;have:=c.out.size;simp only[Hid];omega
 clear n3 c d;generalize o:w2.heap.size=g at*;have D:=af o;clear o;go_wp2_with(refine ai rfl 38 (.tmp 1) _ rfl g f rfl rfl _ _ h.out a.out.info a.out.zero a.out.one ?_);intro C b4 f4;have r:=af b4;have s:Hid (Fr ag w C):=k.out.aw f4 (fun i z e=>by have m:i=g:=e;have:=b.out;omega);have y:=af (l.out.fr f4 (fun e=>by have m:w.heap.size=g:=e;have:=b.out;omega));clear b4 f4 k l h;go_wp2_with(first|(refine wpList_load_row rfl 38 (.tmp 1) rfl g rfl _ f _ _ r.out Tryz.underlying38 rfl a.out.info ?_)|(refine ai rfl 38 (.tmp 0) _ rfl w.heap.size f rfl rfl _ _ y.out a.out.info a.out.zero a.out.one ?_));intro q b5 f5;have u:=af b5;have v:Hid (Fr ag w q):=s.out.aw f5 (fun i z e=>by have m:i=w.heap.size:=e;omega);clear b5 f5;go_wp2;exact bodyPost_ret (results_cell_row (fn:=Tryz.f73) (p:=0) (ty:=38) Tryz.results73 _ q _ 38 f (0,0) _ rfl u.out Tryz.underlying38 rfl a.out.info) rfl ⟨rfl,v.out⟩
end Go.Proofs.YtphjagkehiklkaaGreatDoor.Lt
namespace Go.Proofs
open Go.Shelf
def Tryz.yD:Go.Shelf.Ren:=⟨fun|125=>150|128=>172|129=>173|n=>n,fun|46=>205|3=>3|51=>140|53=>187|4=>4|5=>5|9=>9|n=>n,fun|n=>n⟩
theorem Tryz.IF:Go.Proofs.Lays.n125 Tryz.prog Tryz.yD:={
 mixed:=by kernel_rfl
 f125:=Tryz.func150.trans (congrArg some (by kernel_rfl))
 f128:=Tryz.func172.trans (congrArg some (by kernel_rfl))
 f129:=Tryz.func173.trans (congrArg some (by kernel_rfl))
 t3:=Tryz.underlying3
 a3:=Tryz.isAgg3
 z3:=Tryz.sizeOf3
 v3:=Tryz.zeroValue3
 t4:=Tryz.underlying4
 a4:=Tryz.isAgg4
 z4:=Tryz.sizeOf4
 v4:=Tryz.zeroValue4
 t5:=Tryz.underlying5
 a5:=Tryz.isAgg5
 z5:=Tryz.sizeOf5
 v5:=Tryz.zeroValue5
 t9:=Tryz.underlying9
 a9:=Tryz.isAgg9
 z9:=Tryz.sizeOf9
 v9:=Tryz.zeroValue9
 t46:=Tryz.underlying205
 a46:=Tryz.isAgg205
 z46:=Tryz.sizeOf205
 v46:=Tryz.zeroValue205
 t51:=Tryz.underlying140
 a51:=Tryz.isAgg140
 z51:=Tryz.sizeOf140
 v51:=Tryz.zeroValue140
 t53:=Tryz.underlying187
 a53:=Tryz.isAgg187
 z53:=Tryz.sizeOf187
 v53:=Tryz.zeroValue187}
theorem Tryz.bits_Len(x:Int)(w:World)(a:0≤x)(b:x≤18446744073709551615):
  Calls Tryz.prog 150 #[.int .u64 x] w fun e w'=>e= .returned (.int .i64 (Lib.bitLen x.toNat))∧w'=w:=Any.bits_Len Tryz.IF x w a b
end Go.Proofs
namespace Go.Proofs.YtphjagkehiklkaaGreatDoor
open Go.RowKit Go.Shelf
structure RE(w W:World)(a:Nat)(nm:Array Value)(v:Value)(l:List UInt8):Prop where
 LQ:gW w (.slice none 0 0) W v l
 nb:ao W a 245 nm
end Go.Proofs.YtphjagkehiklkaaGreatDoor
