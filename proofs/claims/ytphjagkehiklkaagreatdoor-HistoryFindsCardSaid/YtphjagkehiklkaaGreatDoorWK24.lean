/- Texts. -/
import Derived.Test.YtphjagkehiklkaaGreatDoorWK23
set_option linter.unusedVariables false
set_option linter.unusedSimpArgs false
set_option maxRecDepth 100000
set_option maxHeartbeats 8000000
namespace Go.Proofs.YtphjagkehiklkaaGreatDoor
open Go.RowKit Go.Shelf
structure Ri(a W:World)(g:Nat)(S:Nat→Prop)(st:fp):Prop where
 fr:Fr ag a W
 rr:Rr W g S st.1 st.2.1 st.2.2
 new:a.heap.size≤g
 sn:∀k,S k→a.heap.size≤k∧k<W.heap.size
theorem Rr.aH{W:World}{g:Nat}{S:Nat→Prop}{l:List UInt8}{p:Nat}{f:Int}(h:Rr W g S l p f):∃A n c,aq W g 193 #[.slice A n c, .int .i64 p, .int .i64 f]:=by
 obtain⟨A,n,c,a,_⟩:=h.ex;exact⟨A,n,c,a⟩
theorem Ri.step{c W W':World}{g:Nat}{S:Nat→Prop}{st a:fp}(h:Ri c W g S st)(k:fY W g S W' a.1 a.2.1 a.2.2):Ri c W' g S a:=
 ⟨h.fr.aw k.fr (fun i b e=>by have d:i=g:=e;have:=h.new;omega),k.rr,h.new,fun i b=>⟨(h.sn i b).1,Nat.lt_of_lt_of_le (h.sn i b).2 k.fr.size⟩⟩
theorem Ri.later{b W W':World}{g:Nat}{S:Nat→Prop}{st:fp}(h:Ri b W g S st)(f:Fr ag W W'):Ri b W' g S st:=
 ⟨h.fr.trans f,h.rr.kh f,h.new,fun i a=>⟨(h.sn i a).1,Nat.lt_of_lt_of_le (h.sn i a).2 f.size⟩⟩
theorem Ri.uF{j l W W':World}{g b:Nat}{S:Nat→Prop}{d st:fp}(a:Ri j l g S d)(h:Ri j W g S st)(f:Fr (fun k=>k=b) W W')(q:l.heap.size≤b):Ri j W' g S st:=by
 have o:=a.rr.lt;have p:=a.fr.size;refine⟨h.fr.aw f (fun i c e=>by have m:i=b:=e;omega),h.rr.ks f (fun e=>by have m:g=b:=e;omega) (fun k n e=>by
  have m:k=b:=e;have:=(a.sn k n).2;omega),h.new,fun i c=>⟨(h.sn i c).1,Nat.lt_of_lt_of_le (h.sn i c).2 f.size⟩⟩
def qF(a W:World)(g:Nat)(S:Nat→Prop)(v:Value)(st:fp)(e:Ending)(W':World):Prop:=e= .returned v∧Ri a W' g S st∧Fr (eC g) W W'
theorem Ri.number{b W:World}{g:Nat}{S:Nat→Prop}{st:fp}(h:Ri b W g S st)(aP:Int):
  Calls Tryz.prog 107 #[.pointer (some ⟨g,0,none⟩), .int .i64 aP] W (qF b W g S (.int .i64 (aN 0 (bp aP) st).1) (aN 0 (bp aP) st).2):=by
 obtain⟨l,p,f⟩:=st;refine(jW g S l p f aP W h.rr).mono ?_;rintro e w'⟨rfl,a⟩;exact⟨rfl,h.step a,a.fr⟩
theorem Ri.text{b W:World}{g:Nat}{S:Nat→Prop}{st:fp}(h:Ri b W g S st)(aP:Int):
  Calls Tryz.prog 104 #[.pointer (some ⟨g,0,none⟩), .int .i64 aP] W (qF b W g S (.string ⟨(aN [] (cq aP) st).1.toArray⟩) (aN [] (cq aP) st).2):=by
 obtain⟨l,p,f⟩:=st;refine(nQ g S l p f aP W h.rr).mono ?_;rintro e w'⟨rfl,a⟩;exact⟨rfl,h.step a,a.fr⟩
theorem Ri.flag{b W:World}{g:Nat}{S:Nat→Prop}{st:fp}(h:Ri b W g S st):
  Calls Tryz.prog 119 #[.pointer (some ⟨g,0,none⟩)] W (qF b W g S (.bool (aN false cY st).1) (aN false cY st).2):=by
 obtain⟨l,p,f⟩:=st;refine(Cn g S l p f W h.rr).mono ?_;rintro e w'⟨rfl,a⟩;exact⟨rfl,h.step a,a.fr⟩
theorem Ri.rest{a W:World}{g:Nat}{S:Nat→Prop}{st:fp}(h:Ri a W g S st):
  Calls Tryz.prog 117 #[.pointer (some ⟨g,0,none⟩)] W (aY W (.int .i64 (st.1.length:Nat))):=by
 obtain⟨l,p,f⟩:=st;exact Cp g S l p f W h.rr
theorem Ri.close{a W:World}{g:Nat}{S:Nat→Prop}{st:fp}(h:Ri a W g S st):
  Calls Tryz.prog 72 #[.pointer (some ⟨g,0,none⟩)] W (aY W (.int .i64 (fZ st))):=by
 obtain⟨l,p,f⟩:=st;exact sL g S l p f W h.rr
theorem aq.only{W W':World}{g b:Nat}{S:Nat→Prop}{j:World}{st:fp}{t:TypeId}{cs:Array Value}(h:aq W b t cs)(f:Ri j W g S st)(d:Fr (eC g) W W')(i:t≠193):aq W' b t cs:=
 h.fr d (fun e=>by
  obtain⟨A,n,c,a⟩:=f.rr.aH;exact eo h a i e)
theorem dO.only{W W' f:World}{g:Nat}{S:Nat→Prop}{st:fp}{v:Value}{l:List CV}(h:dO W v l)(e:Ri f W g S st)(b:Fr (eC g) W W'):dO W' v l:=
 h.cN b (fun k d=>by
  obtain rfl:k=g:=d;obtain⟨A,n,c,a⟩:=e.rr.aH;exact⟨fun x=>absurd (x.one a.ty) (by decide),fun x=>absurd (x.one a.ty) (by decide),fun x=>absurd (x.one a.ty) (by decide)⟩)
def yz:Value:= .agg #[.int .i64 0, .int .i64 0, .int .i64 0, .string ByteArray.empty]
theorem Dk(w:World):(zeroValue 43).run Tryz.prog w= .ok yz w:=by kernel_rfl
theorem eN.one(k:eN):k.cells.toArray.all (·.oneCell')=true:=by simp[eN.cells,Value.oneCell']
theorem ym(o W:World)(g:Nat)(S:Nat→Prop)(l:List UInt8)(h:Ri o W g S (l,0,0)):
  Calls Tryz.prog 70 #[.pointer (some ⟨g,0,none⟩)] W (qF o W g S (.agg (iz l).1.cells.toArray) (iz l).2):=by
 have z:=af h;have K:Hid ((iz l)=(⟨(ja l).1,(jO l).1,(rdNum l).1,⟨(iP l).1.toArray⟩⟩,(iP l).2)):=rfl;have R:Hid (∀W',Ri o W' g S (l,0,0)→Calls Tryz.prog 107 #[.pointer (some ⟨g,0,none⟩), .int .i64 1073741824] W' (qF o W' g S (.int .i64 (ja l).1) (ja l).2)):=fun W' h=>h.number _;have T:Hid (∀W',Ri o W' g S (ja l).2→Calls Tryz.prog 107 #[.pointer (some ⟨g,0,none⟩), .int .i64 2] W' (qF o W' g S (.int .i64 (jO l).1) (jO l).2)):=fun W' h=>h.number _;have U:Hid (∀W',Ri o W' g S (jO l).2→Calls Tryz.prog 107 #[.pointer (some ⟨g,0,none⟩), .int .i64 999999] W' (qF o W' g S (.int .i64 (rdNum l).1) (rdNum l).2)):=fun W' h=>h.number _;have V:Hid (∀W',Ri o W' g S (rdNum l).2→Calls Tryz.prog 104 #[.pointer (some ⟨g,0,none⟩), .int .i64 16777216] W' (qF o W' g S (.string ⟨(iP l).1.toArray⟩) (iP l).2)):=fun W' h=>h.text _;rw[K.out];simp only[eN.cells];generalize(ja l).1=n at*;generalize(ja l).2=s1 at*;generalize(jO l).1=q at*;generalize(jO l).2=s2 at*;generalize(rdNum l).1=t at*;generalize(rdNum l).2=ae at*;generalize(iP l).2=H at*;generalize(⟨(iP l).1.toArray⟩:ByteArray)=u at*;have w:Hid (∀W',Ri o W' g S H→Fr (eC g) W W'→qF o W g S (.agg [Value.int .i64 n, .int .i64 q, .int .i64 t, .string u].toArray) H (.returned (.agg [Value.int .i64 n, .int .i64 q, .int .i64 t, .string u].toArray)) W'):=fun W' a b=>⟨rfl,a,b⟩;clear h K;generalize qF o W g S (.agg [Value.int .i64 n, .int .i64 q, .int .i64 t, .string u].toArray) H=PP at*;go_enter Tryz.func70,Tryz.ntmps70;go_wp2_with(refine ak rfl 43 rfl yz Dk #[.int .i64 0, .int .i64 0, .int .i64 0, .string ByteArray.empty] rfl ?_);intro w1 n1;have D:=af n1;clear n1;generalize y:W.heap.size=g2 at*;have A:Hid (aq w1 g2 43 #[.int .i64 0, .int .i64 0, .int .i64 0, .string ByteArray.empty]):=by have h:=D.out.aH;rw[y]at h;exact h
 have B:=af y;clear y;go_wp2_with(refine ak rfl 43 rfl yz Dk #[.int .i64 0, .int .i64 0, .int .i64 0, .string ByteArray.empty] rfl ?_);intro w2 M;have E:=af M;clear M;generalize F:w1.heap.size=g3 at*;have k:Hid (aq w2 g3 43 #[.int .i64 0, .int .i64 0, .int .i64 0, .string ByteArray.empty]):=by have h:=E.out.aH;rw[F]at h;exact h
 have r:Hid (g2<g3):=by have:=D.out.size;have:=B.out;simp only[Hid];omega
 have d:Hid (W.heap.size≤g2∧W.heap.size≤g3):=by have:=B.out;have:=r.out;exact⟨by omega,by omega⟩
 clear F;have f:=af (A.out.fr E.out.fr (fun x=>x));have m:Hid (Fr (eC g) W w2):=(D.out.fr.trans E.out.fr).bP;have c:=af (z.out.later (D.out.fr.trans E.out.fr));clear D E A;go_wp2_with fail;refine(R.out _ c.out).mono ?_;rintro e ab⟨rfl,s,f3⟩;have f:=af (f.out.only c.out f3 (by decide));have k:=af (k.out.only c.out f3 (by decide));have m:Hid (Fr (eC g) W ab):=m.out.trans f3;have c:=af s;clear s f3;go_wp2_with(refine aT rfl 3 (.tmp 6) (.tmp 5) rfl g3 0 (.int .i64 n) rfl rfl rfl mO _ _ #[.int .i64 n, .int .i64 0, .int .i64 0, .string ByteArray.empty] k.out (show 0<4 by decide) rfl ?_);intro N b3 f3;have k:Hid (aq N g3 43 #[.int .i64 n, .int .i64 0, .int .i64 0, .string ByteArray.empty]):=b3;have f:=af (f.out.fr f3 (fun e=>by have v:g2=g3:=e;have:=r.out;omega));have c:=af (z.out.uF c.out f3 d.out.2);have m:Hid (Fr (eC g) W N):=m.out.aw f3 (fun i G e=>by have v:i=g3:=e;have:=d.out;omega);clear b3 f3;go_wp2_with fail;refine(T.out _ c.out).mono ?_;rintro e ac⟨rfl,s,f3⟩;have f:=af (f.out.only c.out f3 (by decide));have k:=af (k.out.only c.out f3 (by decide));have m:Hid (Fr (eC g) W ac):=m.out.trans f3;have c:=af s;clear s f3;go_wp2_with(refine aT rfl 3 (.tmp 9) (.tmp 8) rfl g3 1 (.int .i64 q) rfl rfl rfl mO _ _ #[.int .i64 n, .int .i64 q, .int .i64 0, .string ByteArray.empty] k.out (show 1<4 by decide) rfl ?_);intro O b3 f3;have k:Hid (aq O g3 43 #[.int .i64 n, .int .i64 q, .int .i64 0, .string ByteArray.empty]):=b3;have f:=af (f.out.fr f3 (fun e=>by have v:g2=g3:=e;have:=r.out;omega));have c:=af (z.out.uF c.out f3 d.out.2);have m:Hid (Fr (eC g) W O):=m.out.aw f3 (fun i G e=>by have v:i=g3:=e;have:=d.out;omega);clear b3 f3;go_wp2_with fail;refine(U.out _ c.out).mono ?_;rintro e ad⟨rfl,s,f3⟩;have f:=af (f.out.only c.out f3 (by decide));have k:=af (k.out.only c.out f3 (by decide));have m:Hid (Fr (eC g) W ad):=m.out.trans f3;have c:=af s;clear s f3;go_wp2_with(refine aT rfl 3 (.tmp 12) (.tmp 11) rfl g3 2 (.int .i64 t) rfl rfl rfl mO _ _ #[.int .i64 n, .int .i64 q, .int .i64 t, .string ByteArray.empty] k.out (show 2<4 by decide) rfl ?_);intro P b3 f3;have k:Hid (aq P g3 43 #[.int .i64 n, .int .i64 q, .int .i64 t, .string ByteArray.empty]):=b3;have f:=af (f.out.fr f3 (fun e=>by have v:g2=g3:=e;have:=r.out;omega));have c:=af (z.out.uF c.out f3 d.out.2);have m:Hid (Fr (eC g) W P):=m.out.aw f3 (fun i G e=>by have v:i=g3:=e;have:=d.out;omega);clear b3 f3;go_wp2_with fail;refine(V.out _ c.out).mono ?_;rintro e x3⟨rfl,s,f3⟩;have f:=af (f.out.only c.out f3 (by decide));have k:=af (k.out.only c.out f3 (by decide));have m:Hid (Fr (eC g) W x3):=m.out.trans f3;have c:=af s;clear s f3;go_wp2_with(refine aT rfl 41 (.tmp 15) (.tmp 14) rfl g3 3 (.string u) rfl rfl rfl uA _ _ #[.int .i64 n, .int .i64 q, .int .i64 t, .string u] k.out (show 3<4 by decide) rfl ?_);intro y3 b3 f3;have k:Hid (aq y3 g3 43 #[.int .i64 n, .int .i64 q, .int .i64 t, .string u]):=b3;have f:=af (f.out.fr f3 (fun e=>by have v:g2=g3:=e;have:=r.out;omega));have c:=af (z.out.uF c.out f3 d.out.2);have m:Hid (Fr (eC g) W y3):=m.out.aw f3 (fun i G e=>by have v:i=g3:=e;have:=d.out;omega);clear b3 f3;go_wp2_with(refine aF rfl 43 (.tmp 3) rfl ⟨g3,0,none⟩ rfl [Value.int .i64 n, .int .i64 q, .int .i64 t, .string u] _ ?zA Tryz.underlying43 rfl fP (bj.go ?zB));case zA=>
  intro j x aa;rw[Addr.add_mid,Nat.zero_add,k.out.cell j,bR];exact aa
 unfold bj;have C:Hid ([Value.int .i64 n, .int .i64 q, .int .i64 t, .string u].toArray.all (·.oneCell')=true):=by simp[Hid,Value.oneCell']
 go_wp2_with(refine ai rfl 43 (.tmp 2) _ rfl g2 [Value.int .i64 n, .int .i64 q, .int .i64 t, .string u].toArray rfl rfl _ _ f.out fP rfl C.out ?_);intro I L J;have Q:=af L;have Z:Hid (Ri o I g S H):=z.out.uF c.out J d.out.1;have X:Hid (Fr (eC g) W I):=m.out.aw J (fun i G e=>by have v:i=g2:=e;have:=d.out;omega);have Y:=af (w.out I Z.out X.out);clear L J;go_wp2;exact bodyPost_ret (results_cell_row (fn:=Tryz.f70) (p:=2) (ty:=43) Tryz.results70 _ I _ 43 _ (0,0) _ rfl Q.out Tryz.underlying43 rfl fP) rfl Y.out
theorem Jj(st:fp):(jR st).1.length≤16777216:=by
 unfold jR aN;split;·simp
 ·split;·simp
  next h=>
   simp only[cq]at h⊢;split;·simp
   ·split;·simp
    ·split;·simp
     next a b c=>
      simp only[List.length_take];omega
theorem Aa(st:fp):(aN 0 (bp (st.1.length:Int)) st).1≤(st.1.length:Int)∧0≤(aN 0 (bp (st.1.length:Int)) st).1:=by
 unfold aN;split;·simp
 ·split;·simp
  next h=>
   simp only[ne_eq,Decidable.not_not,bp]at h⊢;by_cases c:(pn st.1 9).2.2=0∧(st.1.length:Int)<((pn st.1 9).1:Int);·rw[if_pos c]at h;cases h
   ·rw[if_neg c]at h;have a:(pn st.1 9).2.2=0:=by omega
    have:¬(st.1.length:Int)<((pn st.1 9).1:Int):=fun x=>c ⟨a,x⟩;omega
def JX(c W:World)(g:Nat)(S:Nat→Prop)(a:Option (List CV×fp))(e:Ending)(W':World):Prop:=
 ∃v b,e= .returned (.tuple #[v, .bool b])∧Fr (eC g) W W'∧((b=true∧∃L st,a=some (L,st)∧dO W' v L∧L.length≤1099511627776∧Ri c W' g S st∧∀k,v.ownBlock=some k→W.heap.size≤k)∨(b=false∧a=none∧v= .slice none 0 0∧c.heap.size≤W'.heap.size∧Fr ag c W'))
def JV(c W:World)(g:Nat)(S:Nat→Prop)(N:Nat)(a:Option (List CV×fp))(v i:Value)(wr:World):Prop:=
 ∃(k:Nat)(st:fp)(L:List CV),k≤N∧i= .int .i64 (k:Int)∧lH (N-k) st L=a∧L.length=k∧dO wr v L∧(∀b,v.ownBlock=some b→W.heap.size≤b)∧Ri c wr g S st∧Fr (eC g) W wr
theorem Ep(n:aK)(s:ByteArray)(b:Bool):Tryz.prog.built 119 [(0, .agg n.cells.toArray),(2, .bool b),(1, .string s)]=some (CV.cells ⟨n,s,b⟩).toArray:=by kernel_rfl
theorem Hf(n:aK):(Tryz.prog.info? 106).map (·.size)=some n.cells.toArray.size:=bD
theorem Iw(w:World):(zeroValue 106).run Tryz.prog w= .ok (.agg (aK.cells ⟨0,ByteArray.empty,0,0,ByteArray.empty⟩).toArray) w:=by kernel_rfl
theorem rS(q W:World)(g:Nat)(S:Nat→Prop)(st:fp)(h:Ri q W g S st)(bO:eE q):
  Calls Tryz.prog 71 #[.pointer (some ⟨g,0,none⟩)] W (JX q W g S (jk st)):=by
 have ax:=af h;have b2:=af bO;have D:Hid (jk st=lH (aN 0 (bp (st.1.length:Int)) st).1.toNat (aN 0 (bp (st.1.length:Int)) st).2 []):=rfl;obtain⟨N,a7⟩:∃N:Nat,(aN 0 (bp (st.1.length:Int)) st).1=(N:Int):=⟨_,(Int.toNat_of_nonneg (Aa st).2).symm⟩;have K:Hid (N≤1099511627776):=by
  have b5:=(Aa st).1;have b6:=h.rr.small;simp only[Hid];omega
 rw[a7,Int.toNat_natCast]at D;have br:Hid (∀W',Ri q W' g S st→Calls Tryz.prog 107 #[.pointer (some ⟨g,0,none⟩), .int .i64 (st.1.length:Nat)] W' (qF q W' g S (.int .i64 (N:Int)) (aN 0 (bp (st.1.length:Int)) st).2)):=fun W' h=>by
  rw[←a7];exact h.number _
 have bs:Hid (Calls Tryz.prog 117 #[.pointer (some ⟨g,0,none⟩)] W (aY W (.int .i64 (st.1.length:Nat)))):=h.rest;obtain⟨r,a8⟩:∃O,jk st=O:=⟨_,rfl⟩;rw[a8]at D;rw[a8];generalize(aN 0 (bp (st.1.length:Int)) st).2=s1 at*;obtain⟨i0,am,an,E,a9⟩:=info_parts pc;have a3:Hid (¬1*i0.size>2^24):=by simp only[Hid];rw[E];omega
 have a4:Hid (¬1*i0.size=0):=by simp only[Hid];rw[E];omega
 have a5:Hid (∀c:CV,Instr.fill (fun i=>some (i*i0.size,i0.size)) ((Array.range (1*i0.size)).map (di.cells[· %di.cells.size]!)) [(0, .agg c.cells.toArray)]=some c.cells.toArray):=fun c=>by rw[E];exact mc _ _ rfl (by simp[di,Value.cells])
 clear h bO a7 a8;go_enter Tryz.func71,Tryz.ntmps71;go_wp2_with fail;refine bs.out.mono ?_;rintro e w1⟨rfl,rfl⟩;go_wp2_with fail;refine(br.out _ ax.out).mono ?_;rintro e w1⟨rfl,bU,f1⟩;have aa:Hid (JV q W g S N r (.slice none 0 0) (.int .i64 0) w1):=⟨0,s1,[],Nat.zero_le _,rfl,D.out.symm,rfl,dO.nil _,(fun b ac=>by simp[Value.ownBlock]at ac),bU,f1⟩;clear bU f1 br bs D;go_wp2;go_loopw[4,12](fun v i wr=>JV q W g S N r v i wr)(fun _ i _=>N-(intOf i).toNat);case atStart=>exact aa.out
 case round=>
  obtain⟨k,l,L,cf,rfl,bF,Q,bE,aF,a,hF⟩:=hrel;have aA:=af a;have aT:=af hF;have aX:=af Q;have bj:=af aF;obtain⟨ap,n4,aB,rfl,M⟩:=bE.form;have aM:=af M;have cd:Hid (n4=k):=by
   obtain⟨A,n,c,e,b8,_⟩:=M.cl;cases e;rw[Hid,b8,Q]
  have au:=af bF;clear a hF Q aF bE M bF aa;by_cases b7:k<N
  ·have bG:(k:Int)<(N:Int):=by omega
   have t1:decide ((k:Int)<(N:Int))=true:=decide_eq_true bG;have bv:Hid (lH (N-k-1+1) l L=r):=by rw[Hid,show N-k-1+1=N-k by omega];exact au.out
   have aW:Hid ((jR l).1.length≤16777216):=Jj l;have bt:Hid (∀W',Ri q W' g S l→Calls Tryz.prog 104 #[.pointer (some ⟨g,0,none⟩), .int .i64 16777216] W' (qF q W' g S (.string ⟨(jR l).1.toArray⟩) (jR l).2)):=fun W' h=>h.text _;have o:Hid (lH (N-k-1+1) l L=if(gh (jR l).1).2≠0 then none else lH (N-k-1) (dG (aN false cY (jR l).2).2).2 (L++[⟨(gh (jR l).1).1,⟨(dG (aN false cY (jR l).2).2).1.toArray⟩,(aN false cY (jR l).2).1⟩])):=rfl;rw[bv.out]at o;generalize(jR l).1=V at*;generalize(jR l).2=s2 at*;clear au bv;go_wp2_with fail;refine(bt.out _ aA.out).mono ?_;rintro e w2⟨rfl,bV,f2⟩;have a0:=af bV;have bw:Hid (Fr (eC g) W w2):=aT.out.trans f2;have bk:=af (aM.out.only aA.out f2);clear bV f2 bt;obtain⟨m,hm⟩:∃m,gh V=m:=⟨_,rfl⟩;have aL:Hid (∀w',Fr ag q w'→Calls Tryz.prog 118 #[.string ⟨V.toArray⟩] w' (fun e z=>e= .returned (.tuple #[.agg m.1.cells.toArray, .int .i64 m.2])∧Fr ag w' z)):=fun w' f=>by
    have h:=Ed ⟨V.toArray⟩ w' (b2.out.ar f) (by have:=aW.out;simp[ByteArray.size];omega);unfold tH at h;rw[show aR ⟨V.toArray⟩=V from rY V,hm]at h;exact h
   rw[hm]at o;clear hm aA aT aM;obtain⟨nm,a1⟩:=m;simp only at aL o;go_wp2_with fail;refine(aL.out _ a0.out.fr).mono ?_;rintro e w3⟨rfl,f3⟩;have bz:=af (a0.out.later f3);have aO:Hid (Fr (eC g) W w3):=bw.out.trans f3.bP;have bl:=af (bk.out.ar f3);clear f3 aL a0 bw bk;go_wp2_with(refine ak rfl 106 rfl (.agg (aK.cells ⟨0,ByteArray.empty,0,0,ByteArray.empty⟩).toArray) Iw (aK.cells ⟨0,ByteArray.empty,0,0,ByteArray.empty⟩).toArray rfl ?_);intro cb bT;have aZ:=af bT;clear bT;generalize ae:w3.heap.size=g5 at*;have I:=af ae;clear ae;have bi:Hid (aq cb g5 106 (aK.cells ⟨0,ByteArray.empty,0,0,ByteArray.empty⟩).toArray):=by have h:=aZ.out.aH;rw[I.out]at h;exact h
   have b1:Hid (W.heap.size≤g5):=by have:=aO.out.size;have:=I.out;simp only[Hid];omega
   go_wp2_with(refine ai rfl 106 (.tmp 5) _ rfl g5 nm.cells.toArray rfl rfl _ _ bi.out (Hf nm) rfl nm.one ?_);intro be bb bC;have bf:Hid (aq be g5 106 nm.cells.toArray):=bb;have av:Hid (Fr ag w3 be):=aZ.out.fr.aw bC (fun i y e=>by have b4:i=g5:=e;have:=I.out;omega);have T:=af (bz.out.later av.out);have aP:Hid (Fr (eC g) W be):=aO.out.trans av.out.bP;have bm:=af (bl.out.ar av.out);clear bb bC aZ bi av bz aO bl;by_cases s:a1=0;case neg=>
    have t2:(a1 !=0)=true:=by rw[bne_iff_ne];exact s
    have t:Hid (r=none):=by rw[Hid,o.out,if_pos s]
    clear s o;go_wp2;go_ret2;exact⟨_,_,rfl,aP.out, .inr ⟨rfl,t.out,rfl,T.out.fr.size,T.out.fr⟩⟩
   have t2:(a1 !=0)=false:=by rw[bne_eq_false_iff_eq];exact s
   have ab:Hid (r=lH (N-k-1) (dG (aN false cY s2).2).2 (L++[⟨nm,⟨(dG (aN false cY s2).2).1.toArray⟩,(aN false cY s2).1⟩])):=by rw[Hid,o.out,if_neg (by simp[s])]
   clear s o;have bq:Hid (∀W',Ri q W' g S s2→Calls Tryz.prog 119 #[.pointer (some ⟨g,0,none⟩)] W' (qF q W' g S (.bool (aN false cY s2).1) (aN false cY s2).2)):=fun W' h=>h.flag;generalize(aN false cY s2).1=aE at*;generalize(aN false cY s2).2=p at*;go_wp2_with fail;refine(bq.out _ T.out).mono ?_;rintro e bc⟨rfl,bW,f5⟩;have B:=af bW;have aQ:Hid (Fr (eC g) W bc):=aP.out.trans f5;have bn:=af (bm.out.only T.out f5);have Y:=af (bf.out.only T.out f5 (by decide));clear bW f5 bq T aP bm bf;have bu:Hid (∀W',Rr W' g S p.1 p.2.1 p.2.2→Calls Tryz.prog 104 #[.pointer (some ⟨g,0,none⟩), .int .i64 65536] W' (fun e z=>e= .returned (.string ⟨(dG p).1.toArray⟩)∧Fr (eC g) W' z∧Rr z g S (dG p).2.1 (dG p).2.2.1 (dG p).2.2.2)):=fun W' h=>by
    refine(nQ g S _ _ _ 65536 W' h).mono ?_;rintro e z⟨rfl,bQ⟩;exact⟨rfl,bQ.fr,bQ.rr⟩
   generalize(⟨(dG p).1.toArray⟩:ByteArray)=aG at*;generalize(dG p).2=G at*;have aI:=af (Ep nm aG aE);have Z:=af (CV.one ⟨nm,aG,aE⟩);obtain⟨cv,R⟩:∃cv:CV,cv=⟨nm,aG,aE⟩:=⟨_,rfl⟩;rw[←R]at aI Z ab;have aU:Hid (cv.cells.length=7):=by rw[R];rfl
   clear R;have aV:Hid (g<bc.heap.size):=B.out.rr.lt;go_upto_region 8 with fail;refine aC 7 (eC g) [Is (.slice ap n4 aB),Is (.agg nm.cells.toArray),Is (.bool aE),Is (.pointer (some ⟨g,0,none⟩)),Is (.string aG),Is (.agg cv.cells.toArray),fun x X=>∃b,x= .slice (some ⟨b,0,none⟩) 1 1∧aq X b 119 cv.cells.toArray∧b≠g∧bc.heap.size≤b] [(4,fun X=>Rr X g S G.1 G.2.1 G.2.2)] (fun X=>Rr X g S p.1 p.2.1 p.2.2) (fun _ _=>false) (by kernel_rfl) (by kernel_rfl) (by kernel_rfl) (by kernel_rfl) ⟨Is.ah _,Is.ah _,Is.ah _,Is.ah _,Is.ah _,Is.ah _,fun _ _ _ _ w⟨b,h,k,n,m⟩=>⟨b,h,k.fr w n,n,m⟩,trivial⟩ ⟨fun _ _ _ h a6=>a6.kh h,trivial⟩ (fun _ _ _ h a6=>a6.kh h) (B.out.rr.kh aD.drew) ?_ ?_
   ·refine⟨?zE,?zA,?zF,?zG,?zB,?zC,?zD,trivial⟩;all_goals intro u w' d w a ao F C
    all_goals simp only[bH,bI,bJ,bK,ay,Act.put,bL,bM,bN,Nat.reduceAdd,Nat.zero_add]
    case zA=>
     clear a ao F C;refine aj ?_;exact az _ _ rfl ⟨g5,0,none⟩ rfl nm.cells _ (fE (Y.out.only B.out w (by decide))) Tryz.underlying106 rfl bD ⟨_,rfl,al⟩
    case zB=>
     simp only[show u 3=_ from a 3];clear a;refine aj ?_;have aF:Rr w' g S p.1 p.2.1 p.2.2:=by rw[bX,if_neg (by rw[F 4 (by kernel_rfl)];exact Bool.false_ne_true)]at C;exact C
     clear ao F C;go_simp;refine(bu.out _ aF).mono ?_;rintro e ch⟨rfl,f4,ca⟩;exact⟨_,rfl,f4,rfl,ca⟩
    case zC=>
     simp only[show u 1=_ from a 1,show u 2=_ from a 2,show u 4=_ from a 4];clear a ao F C;refine aj ?_;exact iF 119 _ rfl _ _ (by simp only[List.map_toArray,List.map_cons,List.map_nil];rfl) aI.out ⟨_,rfl,al⟩
    case zD=>
     simp only[show u 5=_ from a 5];clear a ao F C;refine aj ?_;refine wp_buildSlice 44 119 1 #[(0, .tmp 29)] rfl cv.cells.toArray i0 di Tryz.underlying44 am an a3.out a4.out ?_ ?_;·simp only[List.map_toArray,List.map_cons,List.map_nil];exact a5.out cv
     ·exact⟨_,rfl,aD.alloc _,⟨w'.heap.size,rfl,aq.new _ _ _,by have:=aV.out;have:=w.size;omega,w.size⟩,trivial⟩
    all_goals
     clear a ao F C;refine aj ?_;go_simp;exact⟨_,rfl,al⟩
   intro u w' w a C;obtain⟨bA,bB,ad,ba,a2⟩:=a 6 (by omega);have F:u 0=_:=a 0 (by omega);have bS:Rr w' g S G.1 G.2.1 G.2.2:=C;have aS:Hid (Fr (eC g) W w'):=aQ.out.trans w;have bo:=af (bn.out.only B.out w);have bg:=af ad;have cc:Hid (W.heap.size≤bA):=by have:=aQ.out.size;simp only[Hid];omega
   have U:Hid (Ri q w' g S G):=⟨B.out.fr.aw w (fun i y e=>by have b4:i=g:=e;have:=B.out.new;omega),bS,B.out.new,fun i y=>⟨(B.out.sn i y).1,Nat.lt_of_lt_of_le (B.out.sn i y).2 w.size⟩⟩;simp only[bH,bI,bJ,bK,ay,Act.put,bL,bM,bN,dD,dE,Nat.reduceAdd,Nat.zero_add,F,bB];clear w a C bS ad ba a2 F bB B aQ bn Y bu aI;have bx:Hid (w'.ownsRow 0 119 7 (.slice ap n4 aB) L.length (L.flatMap CV.cells)):=bo.out;refine iE _ rfl _ _ 44 rfl 119 i0 di 7 80 Tryz.underlying44 am an E a9 rfl (by decide) _ _ _ rfl bx.out (fun _=>True) (some ⟨bA,0,none⟩) 1 1 cv.cells rfl ⟨aU.out,fun _=>⟨_,rfl,trivial,fun j x b9=>by rw[Addr.add_mid,Nat.zero_add,bg.out.cell,bR];exact b9⟩⟩ (fun u hu=>by
    have h:=Z.out;rw[Array.all_eq_true_iff_forall_mem]at h;exact h u (by simpa using hu)) (by have:=K.out;have:=aX.out;omega) (by decide) ?_;intro bY bd P;have bZ:Hid (dO bd bY (L++[cv])):=by
    rw[Hid,dO,bh,List.flatMap_append,List.flatMap_cons,List.flatMap_nil,List.append_nil];exact P.own
   have H:Hid (∀b,(Value.slice ap n4 aB).ownBlock=some b→W.heap.size≤b):=bj.out;have aJ:Hid (∀b,bY.ownBlock=some b→W.heap.size≤b):=fun b ac=>by
    rcases P.ew b ac with h|h;·exact H.out b h
    ·have:=aS.out.size;omega
   have J:Hid (∀b,(Value.slice ap n4 aB).ownBlock=some b→b≠g∧¬S b∧q.heap.size≤b):=fun b ac=>by
    have b5:=H.out b ac;have b6:=ax.out.rr.lt;have ce:=ax.out.fr.size;exact⟨by omega,fun h=>by have:=(ax.out.sn b h).2;omega,by omega⟩
   have b0:Hid (Fr (eC g) W bd):=aS.out.aw P.fr (fun i y e=>by have:=H.out i e;omega);have b3:Hid (Ri q bd g S G):=⟨U.out.fr.aw P.fr (fun i y e=>by have:=(J.out i e).2.2;omega),U.out.rr.ks P.fr (fun e=>(J.out g e).1 rfl) (fun i y e=>(J.out i e).2.1 y),U.out.new,fun i y=>⟨(U.out.sn i y).1,Nat.lt_of_lt_of_le (U.out.sn i y).2 P.fr.size⟩⟩;clear P bx U aS bo bg;have cg:N≤1099511627776:=K.out;go_wp2;go_roundw;case rel=>exact⟨k+1,G,L++[cv],by omega,by go_num,by rw[ab.out,show N-(k+1)=N-k-1 by omega],by rw[bh,aX.out];rfl,bZ.out,aJ.out,b3.out,b0.out⟩
   case measure=>simp[intOf];omega
  ·obtain rfl:k=N:=by omega
   have bG:¬(k:Int)<(k:Int):=by omega
   have t:Hid (r=some (L,l)):=by
    rw[Hid,←au.out,Nat.sub_self,lH]
   clear au;go_wp2;go_ret2;exact⟨_,_,rfl,aT.out, .inl ⟨rfl,L,l,t.out,aM.out,by rw[aX.out];exact K.out,aA.out,bj.out⟩⟩
theorem vw{P:Program}{ops:Array Oper}{rest:List Oper}{b c:Oper}{a:Act}{w:World}{Q:Exit→Act→World→Prop}(j:b.guard=none)(k:c.guard=none)(t:TypeId)(d:Tmp)(l:b.op= .alloc t)(v:b.dst=some d)(y:Operand)(m:c.op= .store t (.tmp d) y)
  (z:Value)(s:∀w,(zeroValue t).run P w= .ok z w)(f:Array Value)(n:z.cells=f)(cells:Array Value)
  (q:∀g,(a.put b.dst (.pointer (some ⟨g,0,none⟩))).eval (.tmp d)= .pointer (some ⟨g,0,none⟩))(r:∀g,(a.put b.dst (.pointer (some ⟨g,0,none⟩))).eval y= .agg cells)
  (o:(P.info? t).map (·.size)=some cells.size)(hold:f.size=cells.size)(p:cells.all (·.oneCell')=true)
  (h:∀w' g,w.heap.size≤g→g<w'.heap.size→aq w' g t cells→Fr ag w w'→wpList P ops Q rest ((a.put b.dst (.pointer (some ⟨g,0,none⟩))).put c.dst undef) w'):wpList P ops Q (b::c::rest) a w:=by
 refine ak j t l z s f n fun w1 n1=>?_;refine ai k t (.tmp d) y m w.heap.size cells (q _) (r _) t f n1.aH o hold p fun w2 b2 f2=>?_;exact h w2 w.heap.size (Nat.le_refl _) b2.lt b2 (n1.fr.aw f2 (fun i o e=>by have u:i=w.heap.size:=e;omega))
theorem Ak{P:Program}{ops:Array Oper}{rest:List Oper}{b F c:Oper}{a:Act}{w:World}{Q:Exit→Act→World→Prop}(j:b.guard=none)(r:F.guard=none)(k:c.guard=none)(t:TypeId)(d:Tmp)(l:b.op= .alloc t)(E:b.dst=some d)(x:Operand)(s:F.op= .assign x)(y:Operand)(m:c.op= .store t (.tmp d) y)
  (z:Value)(C:∀w,(zeroValue t).run P w= .ok z w)(f:Array Value)(n:z.cells=f)(v:Value)(cells:Array Value)
  (u:∀g,(a.put b.dst (.pointer (some ⟨g,0,none⟩))).eval x=v)
  (A:∀g,((a.put b.dst (.pointer (some ⟨g,0,none⟩))).put F.dst v).eval (.tmp d)= .pointer (some ⟨g,0,none⟩))(B:∀g,((a.put b.dst (.pointer (some ⟨g,0,none⟩))).put F.dst v).eval y= .agg cells)
  (o:(P.info? t).map (·.size)=some cells.size)(hold:f.size=cells.size)(p:cells.all (·.oneCell')=true)
  (h:∀w' g,w.heap.size≤g→g<w'.heap.size→aq w' g t cells→Fr ag w w'→wpList P ops Q rest (((a.put b.dst (.pointer (some ⟨g,0,none⟩))).put F.dst v).put c.dst undef) w'):wpList P ops Q (b::F::c::rest) a w:=by
 refine ak j t l z C f n fun w1 n1=>?_;refine wpList_plain r fun K q=>?_;unfold Oper.wp execOp;simp only[s,Sem.run_pure,u];refine q _ _ ?_;refine ai k t (.tmp d) y m w.heap.size cells (A _) (B _) t f n1.aH o hold p fun w2 b2 f2=>?_;exact h w2 w.heap.size (Nat.le_refl _) b2.lt b2 (n1.fr.aw f2 (fun i o e=>by have D:i=w.heap.size:=e;omega))
end Go.Proofs.YtphjagkehiklkaaGreatDoor
