/- Texts. -/
import Derived.Test.YtphjagkehiklkaaGreatDoorWK30
import Derived.Test.YtphjagkehiklkaaGreatDoorWK40
set_option linter.unusedVariables false
set_option linter.unusedSimpArgs false
set_option maxRecDepth 100000
set_option maxHeartbeats 4000000
namespace Go.Proofs.YtphjagkehiklkaaGreatDoor.Lt
open Go.RowKit
theorem eM.cut{w:World}{S:Nat→Prop}{A:Option Addr}{n k cap:Nat}{ds:List (List UInt8)}(h:eM w S A n ds)(c:k≤n)(a:n≤cap):eM w S (if cap=k then A else A.map (·.add (k*32))) (n-k) (ds.drop k):=by
 have:=h.rd.cut c a;rw[nC ds h.each]at this;exact⟨this,by rw[List.length_drop,h.len],fun d b=>h.each d (List.mem_of_mem_drop b)⟩
end Go.Proofs.YtphjagkehiklkaaGreatDoor.Lt
namespace Go.Proofs.YtphjagkehiklkaaGreatDoor
open Go.RowKit Go.Shelf
def Mp(w:World)(E:List Ent)(L:List ActV)(n:Int)(e:Ending)(w':World):Prop:=
 Fr ag w w'∧((0≤n∧n≤L.length∧∃s,e= .returned (.tuple #[.pointer (some ⟨s,0,none⟩), .int .i64 0])∧ft w' s (fT (L.take n.toNat) E))∨(¬(0≤n∧n≤L.length)∧e= .returned (.tuple #[.pointer none, .int .i64 2])))
theorem Mw(h:Nat)(E:List Ent)(L:List ActV)(T:Nat→Prop)(n:Int)(w:World)(ap:fK w h E L T)(aq:eE w)(ao:cW 24 E)(ae:iH L):
  Calls Tryz.prog 38 #[.pointer (some ⟨h,0,none⟩), .int .i64 n] w (Mp w E L n):=by
 by_cases g:n=L.length;·subst g;refine(xn h E L T w ap).mono ?_;rintro e w'⟨s,rfl,rfl,W⟩;exact⟨aD, .inl ⟨by omega,by omega,s,rfl,by rw[Int.toNat_natCast,List.take_of_length_le (Nat.le_refl _)];exact W⟩⟩
 obtain⟨b,s,g0,va,vk,K,A,c,mb,D,rfl⟩:=ap;obtain⟨aJ,o,P⟩:=D.kW;obtain⟨X,n1,N,rfl,H1,H⟩:=aU o;have I:Hid (∀j,j<L.length→∃r k a,X=some r∧L[j]? =some a∧df w k a∧k.length=6∧∀i x,k[i]? =some x→w.cell? ((r.add (j*6)).add i)=some x):=fun j V=>xz o P H1.out V;have Z:Hid (n1=L.length∧n1≤16∧n1≤N):=by have:=H1.out;have:=ae.len;have:=H.out;exact⟨by assumption,by omega,by assumption⟩
 have aj:=af (kQ w h b (D.aH.cell 0));have aY:w.cell? ⟨h,0,none⟩=some (.pointer (some ⟨b,0,none⟩)):=D.aH.cell 0;have aZ:w.cell? ⟨h,1,none⟩=some (.slice X n1 N):=D.aH.cell 1;have HB:=af D.base;have aC:=af aq;have az:=af ao;have M:=af ae;have J:=af g;clear D o P H1 H aq ao ae g;go_enter Tryz.func38,Tryz.ntmps38;go_wp2_with fail;refine aj.out.mono ?_;rintro e w'⟨rfl,rfl⟩;clear aj;by_cases O:n<0
 ·have t1:decide (n<0)=true:=decide_eq_true O;have ab:Hid (¬(0≤n∧n≤L.length)):=by simp only[Hid];omega
  clear O;go_wp2;go_ret2;exact⟨aD, .inr ⟨ab.out,rfl⟩⟩
 have t1:decide (n<0)=false:=decide_eq_false O;by_cases v:(n1:Int)<n
 ·have t2:decide ((n1:Int)<n)=true:=decide_eq_true v;have ab:Hid (¬(0≤n∧n≤L.length)):=by have:=Z.out;simp only[Hid];omega
  clear O v;go_wp2;go_ret2;exact⟨aD, .inr ⟨ab.out,rfl⟩⟩
 obtain⟨m,rfl⟩:∃m:Nat,n=m:=⟨n.toNat,by omega⟩;have d:Hid (m<n1∧n1=L.length∧n1≤16∧n1≤N):=by have v:=Z.out;have aW:=J.out;exact⟨by omega,v.1,v.2⟩
 have t1:decide ((m:Int)<0)=false:=ct (by omega);have t2:decide ((n1:Int)<(m:Int))=false:=decide_eq_false v;have aM:¬(n1:Int)<(m:Int):=v;have aN:¬n1<m:=by omega
 have t3:((m:Int)==(n1:Int))=false:=ku (by have:=d.out;omega);have aO:(m==n1)=false:=ku (by have:=d.out;omega);have t4:decide ((16:Int)≤(m:Int))=false:=ct (by have:=d.out;omega);have aP:¬(16:Int)≤(m:Int):=by have:=d.out;omega
 have aQ:¬16≤m:=by have:=d.out;omega
 have aR:(m:Int).tmod 16=(m:Int):=by rw[Int.tmod_eq_emod_of_nonneg (by omega)];have:=d.out;omega
 have aS:IntKind.i64.wrap ((m:Int)-(m:Int))=0:=by rw[Int.sub_self];rfl
 obtain⟨r,aK⟩:∃r,X=some r:=by
  obtain⟨r,_,_,h,_⟩:=I.out 0 (by have:=d.out;omega);exact⟨r,h⟩
 subst aK;have aT:¬N=0:=by have:=d.out;omega
 have aV:(m:Int)≤(N:Int):=by have:=d.out;omega
 clear O v Z J;go_wp2;go_loopw[6,61](fun s i wr=>∃(j U:Nat),j≤m∧s= .pointer (some ⟨U,0,none⟩)∧i= .int .i64 (j:Int)∧ft wr U (fT (L.take j) E)∧Fr ag w wr)(fun _ i _=>m-(intOf i).toNat);case atStart=>exact⟨0,b,Nat.zero_le _,rfl,rfl,by rw[List.take_zero];exact HB.out,aD⟩
 case round=>
  obtain⟨j,s1,V,rfl,rfl,W,au⟩:=hrel;have aA:=af V;have am:=af W;have G:=af au;clear V W au;by_cases aL:j<m
  ·have t0:decide ((j:Int)<(m:Int))=true:=dh (by omega);obtain⟨aI,k,a,B,z,y,t,l⟩:=I.out j (by have:=d.out;omega);injection B with B;subst B;have i0:(j:Int)<(m:Int):=by omega
   have i1:(0:Int)≤(j:Int):=by omega
   have al:Hid ((Tryz.prog.info? 46).map (·.size)=some k.length):=by rw[Hid,t];exact bZ
   have ad:Hid ((Tryz.prog.info? 46).map (·.size)=some k.toArray.size):=by rw[Hid,List.size_toArray,t];exact bZ
   have ac:Hid (6=k.toArray.size):=by rw[Hid,List.size_toArray,t]
   have aE:=af (ActV.one y);have Y:Hid (∀i x,k[i]? =some x→wr.cell? ((r.add (j*6)).add i)=some x):=fun i x R=>G.out.an (l i x R) (fun x=>x);have ay:Hid (cW (24+6*j) (fT (L.take j) E)):=by
    have:=lI (L.take j) E 24 az.out (fun a ah=>M.out.ok a (List.mem_of_mem_take ah)) (fun a ah=>M.out.small a (List.mem_of_mem_take ah));rw[List.length_take,Nat.min_eq_left (by have:=d.out;omega)]at this;exact this
   have u:=List.mem_of_getElem? z;have ai:Hid (∀w',Fr ag wr w'→Calls Tryz.prog 86 #[.agg k.toArray, .pointer (some ⟨s1,0,none⟩)] w' (mF w' (fT (L.take j) E) a.writes)):=fun w' f=>lQ _ a k _ s1 w' (y.ar (G.out.trans f)) (am.out.ar f) (aC.out.ar (G.out.trans f)) ay.out (M.out.small a u).writes (by have:=(M.out.small a u).nw;have:=d.out;omega);have aB:=af (Cu z E);have aa:=af (qh (M.out.ok a u));have aX:IntKind.i64.wrap ((j:Int)+1)=(j:Int)+1:=IntWalk.i64_in _ (by have:=d.out;omega);clear l z y t u;go_wp2_with(refine aF rfl 46 (.tmp 63) rfl (r.add (j*6)) rfl k _ ?zA Tryz.underlying46 rfl al.out (bj.go ?zC));case zA=>exact Y.out
   unfold bj;go_wp2_with(refine vw rfl rfl 46 8 rfl rfl _ rfl fH oc #[.int .i64 0, .int .i64 0, .int .i64 0, .string ByteArray.empty, .slice none 0 0, .slice none 0 0] rfl k.toArray (fun _=>rfl) (fun _=>rfl) ad.out ac.out aE.out ?_);intro av g4 _ _ b4 f4;have aw:=af b4;have ak:=af f4;clear b4 f4;have F:Hid (∀j x,k[j]? =some x→av.cell? ((⟨g4,0,none⟩:Addr).add j)=some x):=fE aw.out;go_wp2_with(refine aF rfl 46 (.tmp 8) rfl ⟨g4,0,none⟩ rfl k _ ?zB Tryz.underlying46 rfl al.out (bj.go ?zD));case zB=>first|exact F.out|exact fun j x R=>by have q:=F.out j x R;rw[Addr.add_mid,Nat.zero_add]at q;exact q
   unfold bj;go_wp2_with fail;refine(ai.out av ak.out).mono ?_;rintro e w3⟨p,q,rfl,f3,C⟩;rcases C with⟨_,rfl,U,rfl,Q⟩|⟨⟨x,R,S⟩,_⟩
   ·have ax:=af (G.out.trans (ak.out.trans f3));have aG:Hid (ft w3 U (fT (L.take (j+1)) E)):=by rw[Hid,aB.out];exact Q
    clear f3 Q ai;go_wp2;go_roundw;case rel=>exact⟨j+1,U,by omega,rfl,by go_num,aG.out,ax.out⟩
    case measure=>simp[intOf];omega
   ·rw[aa.out x R]at S;cases S
  ·obtain rfl:j=m:=by have:=aA.out;omega
   have t0:decide ((j:Int)<(j:Int))=false:=ct (by omega);go_wp2;go_ret2;exact⟨G.out, .inl ⟨by have:=d.out;omega,by have:=d.out;omega,s1,rfl,am.out⟩⟩
def Ml(w:World)(L:List ActV)(i:Int)(e:Ending)(w':World):Prop:=
 Fr ag w w'∧((∃(k:Nat)(a:ActV)(cs:List Value),i=(k:Int)∧L[k]? =some a∧e= .returned (.tuple #[.agg cs.toArray, .int .i64 0])∧df w' cs a)∨(¬(0≤i∧i<L.length)∧e= .returned (.tuple #[.agg ca.toArray, .int .i64 2])))
theorem Ms(h:Nat)(E:List Ent)(L:List ActV)(T:Nat→Prop)(i:Int)(w:World)(aG:fK w h E L T)(aI:L.length≤65536)(ap:∀a∈L,a.reads.length≤1099511627776∧a.writes.length≤1099511627776):
  Calls Tryz.prog 37 #[.pointer (some ⟨h,0,none⟩), .int .i64 i] w (Ml w L i):=by
 obtain⟨b,s,g,va,vk,K,A,c,mb,U,rfl⟩:=aG;obtain⟨aC,r,P⟩:=U.kW;obtain⟨ah,n1,aA,rfl,H1,_⟩:=aU r;have aq:Hid (∀w',Fr ag w w'→Calls Tryz.prog 55 #[.pointer (some ⟨h,0,none⟩)] w' (aY w' (.bool false))):=fun w' f=>kQ w' h b ((U.aH.fr f (fun x=>x)).cell 0);have Z:Hid (∀k,k<L.length→∃M v a,ah=some M∧L[k]? =some a∧df w v a∧v.length=6∧∀j x,v[j]? =some x→w.cell? ((M.add (k*6)).add j)=some x):=fun k aK=>xz r P H1.out aK;have ab:Hid (n1=L.length∧n1≤65536):=by have:=H1.out;exact⟨this,by omega⟩
 have aB:Hid (∀W,Fr ag w W→W.cell? {block:=h,off:=1}=some (.slice ah n1 aA)):=fun W f=>(U.aH.fr f (fun x=>x)).cell 1;have al:=af ap;have l:Hid (¬(0≤i∧i<n1)→∀w',Fr ag w w'→Ml w L i (.returned (.tuple #[.agg ca.toArray, .int .i64 2])) w'):=fun t w' f=>⟨f, .inr ⟨by rw[←H1.out];exact t,rfl⟩⟩;have d:Hid (∀(k:Nat)(a:ActV)(cs:List Value)w',i=(k:Int)→L[k]? =some a→df w' cs a→Fr ag w w'→Ml w L i (.returned (.tuple #[.agg cs.toArray, .int .i64 0])) w'):=fun k a cs w' t ad aD aE=>⟨aE, .inl ⟨k,a,cs,t,ad,rfl,aD⟩⟩;generalize Ml w L i=PP at*;clear U r P H1 aI ap;go_enter Tryz.func37,Tryz.ntmps37;go_wp2_with(refine ak rfl 46 rfl fH oc ca.toArray rfl ?_);intro w1 F;have C:=af F.fr;have V:=af F.aH;clear F;generalize Q:w.heap.size=g6 at*;have D:Hid (w.heap.size≤g6):=by rw[Hid,Q];exact Nat.le_refl _
 clear Q;go_wp2_with fail;refine(aq.out _ C.out).mono ?_;rintro e w'⟨rfl,rfl⟩;have aM:=aB.out _ C.out;by_cases S:i<0;·have t1:decide (i<0)=true:=decide_eq_true S;have G:=af (l.out (by omega));clear l d S;go_wp2_with(first|(refine wpList_buildTo rfl 46 #[] rfl ca.toArray fO ?_)|(refine ai rfl 46 (.tmp 4) _ rfl g6 ca.toArray rfl rfl _ _ V.out bZ rfl fU ?_));intro u B y;have I:=af B;have J:Hid (Fr ag w u):=C.out.aw y (fun i ao e=>by have am:i=g6:=e;have:=D.out;omega);clear B y;go_wp2;exact bodyPost_ret (aZ (fn:=Tryz.f37) (p:=4) (q:=5) (ty:=46) Tryz.results37 _ u _ 46 ca.toArray (0,0) _ rfl I.out Tryz.underlying46 rfl bZ _ rfl) rfl (G.out _ J.out)
 obtain⟨m,rfl⟩:∃m:Nat,i=m:=⟨i.toNat,by omega⟩;have t1:decide ((m:Int)<0)=false:=decide_eq_false S;clear S;by_cases t:(n1:Int)≤m
 ·have t2:decide ((n1:Int)≤m)=true:=decide_eq_true t;have ae:n1≤m:=by omega
  have G:=af (l.out (by omega));clear l d t;go_wp2_with(first|(refine wpList_buildTo rfl 46 #[] rfl ca.toArray fO ?_)|(refine ai rfl 46 (.tmp 4) _ rfl g6 ca.toArray rfl rfl _ _ V.out bZ rfl fU ?_));intro u B y;have I:=af B;have J:Hid (Fr ag w u):=C.out.aw y (fun i ao e=>by have am:i=g6:=e;have:=D.out;omega);clear B y;go_wp2;exact bodyPost_ret (aZ (fn:=Tryz.f37) (p:=4) (q:=5) (ty:=46) Tryz.results37 _ u _ 46 ca.toArray (0,0) _ rfl I.out Tryz.underlying46 rfl bZ _ rfl) rfl (G.out _ J.out)
 have t2:decide ((n1:Int)≤m)=false:=decide_eq_false t;have ae:¬n1≤m:=by omega
 have i0:(m:Int)<(n1:Int):=by omega
 have i1:(0:Int)≤(m:Int):=by omega
 obtain⟨M,v,a,rfl,z,N,O,o⟩:=Z.out m (by have:=ab.out;omega);have ax:Hid ((Tryz.prog.info? 46).map (·.size)=some v.length):=by rw[Hid,O];exact bZ
 have Y:Hid (∀i x,v[i]? =some x→w1.cell? ((M.add (m*6)).add i)=some x):=fun i x aL=>C.out.an (o i x aL) (fun x=>x);have X:Hid (Calls Tryz.prog 87 #[.agg v.toArray] w1 (qu w1 a)):=sw a v w1 (N.ar C.out) (al.out a (List.mem_of_getElem? z)).1 (al.out a (List.mem_of_getElem? z)).2;have aa:=af (fun cs w'(t:df w' cs a)ad=>d.out m a cs w' rfl z t ad);clear l d t z N O o;go_wp2_with(refine aF rfl 46 (.tmp 26) rfl (M.add (m*6)) rfl v _ ?zA Tryz.underlying46 rfl ax.out (bj.go ?zB));case zA=>exact Y.out
 unfold bj;go_wp2_with fail;refine X.out.mono ?_;rintro e w3⟨cs,rfl,n,f3,R⟩;have av:=af n;have au:=af (C.out.trans f3);have aj:=af (V.out.fr f3 (fun x=>x));have H:Hid ((Tryz.prog.info? 46).map (·.size)=some cs.toArray.size):=by rw[Hid,List.size_toArray,n.len];exact bZ
 have ac:Hid (ca.toArray.size=cs.toArray.size):=by rw[Hid,List.size_toArray,List.size_toArray,n.len];rfl
 have az:=af (ActV.one n);clear n f3 R;go_wp2_with(refine ai rfl 46 (.tmp 4) _ rfl g6 cs.toArray rfl rfl _ _ aj.out H.out ac.out az.out ?_);intro u B y;have I:=af B;have J:Hid (Fr ag w u):=au.out.aw y (fun i ao e=>by have am:i=g6:=e;have:=D.out;omega);have ay:Hid (df u cs a):=av.out.cN y (fJ.of (fun j aJ=>⟨46,(show j=g6 from aJ)▸aj.out.ty,by decide,by decide,by decide⟩));have G:=af (aa.out cs u ay.out J.out);clear B y;go_wp2;exact bodyPost_ret (aZ (fn:=Tryz.f37) (p:=4) (q:=5) (ty:=46) Tryz.results37 _ u _ 46 cs.toArray (0,0) _ rfl I.out Tryz.underlying46 rfl H.out _ rfl) rfl G.out
theorem Mv(a:ActV)(cs:List Value)(k:eN)(w:World)(A:df w cs a)(m:a.key.fA.size≤1099511627776)(n:k.fA.size≤1099511627776):
  Calls Tryz.prog 93 #[.agg cs.toArray, .agg k.cells.toArray] w (aJ w (.int .i64 (gD a.key k))):=by
 have s:=af (fun w'=>od a.key k w' m n);obtain⟨C,D,rfl,_,_⟩:=A;generalize gD a.key k=E at*;have y:Hid (a.key.cells.length=4):=rfl;have z:Hid (k.cells.length=4):=rfl;have d:Hid ((Tryz.prog.info? 43).map (·.size)=some a.key.cells.length):=fP;have f:Hid ((Tryz.prog.info? 43).map (·.size)=some k.cells.length):=fP;generalize a.key.cells=g at*;generalize k.cells=h at*;clear m n;go_enter Tryz.func93,Tryz.ntmps93;go_wp2_with(refine aA rfl 46 (.tmp 0) rfl (g++[C,D]).toArray rfl ?_);intro w1 n1;have t:=af n1.fr;have p:=af n1.aH;clear n1;generalize w.heap.size=g1 at*;go_wp2_with(refine aA rfl 43 (.tmp 1) rfl h.toArray rfl ?_);intro w2 c;have u:=af (t.out.trans c.fr);have o:=af (p.out.fr c.fr (fun x=>x));have r:=af c.aH;clear c;generalize w1.heap.size=g2 at*;have i:Hid (∀j x,g[j]? =some x→w2.cell? ((⟨g1,0,none⟩:Addr).add j)=some x):=fun j x b=>by
  have B:=(List.getElem?_eq_some_iff.1 b).1;rw[Addr.add_mid,Nat.zero_add,o.out.cell j,bR,List.getElem?_append_left B];exact b
 have l:Hid (∀j x,h[j]? =some x→w2.cell? ((⟨g2,0,none⟩:Addr).add j)=some x):=fE r.out;go_wp2_with(refine aF rfl 43 (.tmp 5) rfl ⟨g1,0,none⟩ rfl g _ ?zA Tryz.underlying43 rfl d.out (bj.go ?zC));case zA=>first|exact i.out|exact fun j x b=>by have q:=i.out j x b;rw[Addr.add_mid,Nat.zero_add]at q;exact q
 unfold bj;go_wp2_with(refine aF rfl 43 (.tmp 3) rfl ⟨g2,0,none⟩ rfl h _ ?zB Tryz.underlying43 rfl f.out (bj.go ?zD));case zB=>first|exact l.out|exact fun j x b=>by have q:=l.out j x b;rw[Addr.add_mid,Nat.zero_add]at q;exact q
 unfold bj;go_wp2_with fail;refine(s.out w2).mono ?_;rintro e w3⟨rfl,f3⟩;have v:=af (u.out.trans f3);clear f3;go_wp2;go_ret;exact⟨rfl,v.out⟩
theorem Mu:∀args w,(callFunc 93 args).run Tryz.prog w= .ok (.enter 93 args) w:=fun _ _=>by kernel_rfl
def Mh(L:List ActV)(k:eN)(i:Int)(b:Bool):Prop:=(b=true∧∃(j:Nat)(a:ActV),i=(j:Int)∧L[j]? =some a∧a.key=k)∨(b=false∧∀a∈L,a.key≠k)
def Mj(L:List ActV)(k:eN)(lo b:Nat):Prop:=(∀t a,t<lo→L[t]? =some a→gD a.key k<0)∧(∀t a,b≤t→L[t]? =some a→0≤gD a.key k)
open Classical in
noncomputable def Mo(L:List ActV)(k:eN):Nat:=if h:∃m,m≤L.length∧Mj L k m m then h.choose else 0
theorem MD{L:List ActV}{k:eN}{m n:Nat}(hm:m≤L.length)(b:Mj L k m m)(c:Mj L k n n):m≤n:=by
 rcases Nat.lt_or_ge n m with h|h
 ·have a:n<L.length:=by omega
  have:=b.1 n _ h (List.getElem?_eq_getElem a);have:=c.2 n _ (Nat.le_refl _) (List.getElem?_eq_getElem a);omega
 ·exact h
theorem MN{L:List ActV}{k:eN}{m:Nat}(hm:m≤L.length)(h:Mj L k m m):Mo L k=m:=by
 have a:∃m,m≤L.length∧Mj L k m m:=⟨m,hm,h⟩;unfold Mo;rw[dif_pos a];exact Nat.le_antisymm (MD a.choose_spec.1 a.choose_spec.2 h) (MD hm h a.choose_spec.2)
def Mm(L:List ActV)(k:eN):Bool:=L.any (fun a=>gD a.key k==0)
theorem MO{L:List ActV}{k:eN}{i:Int}{b:Bool}(h:Mh L k i b):Mm L k=b:=by
 rcases h with⟨rfl,j,a,_,d,rfl⟩|⟨rfl,h⟩;·exact List.any_eq_true.2 ⟨a,List.mem_of_getElem? d,beq_iff_eq.2 (tY.refl _)⟩
 ·rw[Mm,List.any_eq_false];intro a c e;exact h a c (tY.eq _ _ (beq_iff_eq.1 e))
def Mk(w:World)(L:List ActV)(k:eN)(e:Ending)(w':World):Prop:=e= .returned (.tuple #[.int .i64 (Mo L k:Int), .bool (Mm L k)])∧Fr ag w w'∧Mh L k (Mo L k) (Mm L k)
theorem Mk.of{w w':World}{L:List ActV}{k:eN}{m:Nat}{b:Bool}(hm:m≤L.length)(a:Mj L k m m)(c:Fr ag w w')(h:Mh L k (m:Int) b):Mk w L k (.returned (.tuple #[.int .i64 (m:Int), .bool b])) w':=by
 rw[Mk,MN hm a,MO h];exact⟨rfl,c,h⟩
theorem Mq{L:List ActV}(h:L.Pairwise (fun a b=>gD a.key b.key<0)){s t:Nat}{a b:ActV}(c:s<t)(f:L[s]? =some a)(g:L[t]? =some b):gD a.key b.key<0:=by
 obtain⟨d,rfl⟩:=List.getElem?_eq_some_iff.1 f;obtain⟨e,rfl⟩:=List.getElem?_eq_some_iff.1 g;exact List.pairwise_iff_getElem.1 h s t d e c
theorem MJ{L:List ActV}(h:L.Pairwise (fun a b=>gD a.key b.key<0)){k:eN}{lo f m:Nat}{a:ActV}(g:Mj L k lo f)(hm:L[m]? =some a)(e:gD a.key k<0):Mj L k (m+1) f:=by
 refine⟨fun t b i c=>?_,g.2⟩;rcases Nat.lt_or_ge t m with d|d;·exact tY.trans _ _ _ (Mq h d c hm) e
 ·obtain rfl:t=m:=by omega
  rw[hm]at c;injection c with c;subst c;exact e
theorem MF{L:List ActV}(h:L.Pairwise (fun a b=>gD a.key b.key<0)){k:eN}{lo i m:Nat}{a:ActV}(g:Mj L k lo i)(hm:L[m]? =some a)(f:¬gD a.key k<0):Mj L k lo m:=by
 refine⟨g.1,fun t b j c=>?_⟩;rcases Nat.lt_or_ge m t with d|d;·apply Int.not_lt.1;intro e;exact f (tY.trans _ _ _ (Mq h d hm c) e)
 ·obtain rfl:t=m:=by omega
  rw[hm]at c;injection c with c;subst c;omega
theorem Mz{L:List ActV}{k:eN}{m:Nat}{a:ActV}(hm:L[m]? =some a)(b:gD a.key k=0):Mh L k (m:Int) true:= .inl ⟨rfl,m,a,rfl,hm,tY.eq _ _ b⟩
theorem MH{L:List ActV}{k:eN}{m:Nat}(i:Int)(c:Mj L k m m)(hm:L.length≤m):Mh L k i false:=by
 refine .inr ⟨rfl,fun b a e=>?_⟩;obtain⟨t,d,rfl⟩:=List.getElem_of_mem a;have:=c.1 t _ (by omega) (List.getElem?_eq_getElem d);rw[e,tY.refl]at this;omega
theorem MG{L:List ActV}(h:L.Pairwise (fun a b=>gD a.key b.key<0)){k:eN}{m:Nat}{a:ActV}(i:Int)(g:Mj L k m m)(hm:L[m]? =some a)(l:¬gD a.key k=0):Mh L k i false:=by
 refine .inr ⟨rfl,fun b n e=>?_⟩;obtain⟨t,o,f⟩:=List.getElem_of_mem n;have c:L[t]? =some b:=by rw[List.getElem?_eq_getElem o,f]
 have p:gD b.key k=0:=by rw[e,tY.refl]
 rcases Nat.lt_trichotomy t m with d|rfl|d;·have:=g.1 t b d c;omega
 ·rw[hm]at c;injection c with c;subst c;exact l p
 ·have j:=Mq h d hm c;rw[e]at j;have:=g.2 m a (Nat.le_refl _) hm;omega
theorem Mx(L:List ActV)(aq:List (List Value))(k:eN)(A:Option Addr)(n c:Nat)(w:World)(am:n=L.length)(aw:n≤65536)(ao:L.Pairwise (fun a b=>gD a.key b.key<0))
  (X:∀j,j<L.length→∃y o a,A=some y∧L[j]? =some a∧df w o a∧o.length=6∧∀i x,o[i]? =some x→w.cell? ((y.add (j*6)).add i)=some x)
  (q:Nat)(H:∀args w,(callFunc q args).run Tryz.prog w= .ok (.enter q args) w)
  (ak:∀a cs w',a∈L→df w' cs a→Fr ag w w'→Calls Tryz.prog q #[.agg cs.toArray, .agg k.cells.toArray] w' (aJ w' (.int .i64 (gD a.key k)))):
  Calls Tryz.prog 92 #[.slice A n c, .agg k.cells.toArray, .func (.func q) #[] #[]] w (Mk w L k):=by
 have U:=af X;have aj:=af ak;have Y:=af ao;have HN:=af am;have W:Hid ((Tryz.prog.info? 43).map (·.size)=some k.cells.length):=fP;generalize ac:k.cells=F at*;clear X ak ao am ac;go_enter Tryz.func92,Tryz.ntmps92;go_wp2_with(refine aA rfl 43 (.tmp 1) rfl F.toArray rfl ?_);intro w1 n1;have ai:=af n1.fr;have ah:=af n1.aH;clear n1;generalize w.heap.size=g1 at*;go_wp2;go_loopw[9,10](fun s i wr=>∃lo z:Nat,s= .int .i64 (lo:Int)∧i= .int .i64 (z:Int)∧lo≤z∧z≤n∧Fr ag w1 wr∧Mj L k lo z)(fun s i _=>(intOf i-intOf s).toNat);case atStart=>exact⟨0,n,rfl,rfl,Nat.zero_le _,Nat.le_refl _,aD,fun t a ap _=>absurd ap (Nat.not_lt_zero _),fun t a ap h=>by have:=(List.getElem?_eq_some_iff.1 h).1;have:=HN.out;omega⟩
 case round=>
  obtain⟨lo,z,rfl,rfl,au,ad,l,hcut⟩:=hrel;have T:=af l;have P:=af hcut;clear l hcut;by_cases av:lo<z
  ·have t0:decide ((lo:Int)<(z:Int))=true:=dh (by omega);obtain⟨m,em⟩:∃m:Nat,((lo:Int)+(z:Int))/2=(m:Int):=⟨(lo+z)/2,by omega⟩;have V:Hid (lo≤m∧m<z):=⟨by omega,by omega⟩;have i0:(m:Int)<(n:Int):=by omega
   have i1:(0:Int)≤(m:Int):=by omega
   have aE:IntKind.i64.wrap ((m:Int)+1)=(m:Int)+1:=IntWalk.i64_in _ (by omega);obtain⟨y,o,a,rfl,r,G,I,g⟩:=U.out m (by have:=HN.out;omega);have aa:Hid ((Tryz.prog.info? 46).map (·.size)=some o.length):=by rw[Hid,I];exact bZ
   have K:=af (ai.out.trans T.out);have C:Hid (∀i x,o[i]? =some x→wr.cell? ((y.add (m*6)).add i)=some x):=fun i x J=>K.out.an (g i x J) (fun x=>x);have B:Hid (∀j x,F[j]? =some x→wr.cell? ((⟨g1,0,none⟩:Addr).add j)=some x):=fE (ah.out.fr T.out (fun x=>x));have S:Hid (∀w',Fr ag wr w'→Calls Tryz.prog q #[.agg o.toArray, .agg F.toArray] w' (aJ w' (.int .i64 (gD a.key k)))):=fun w' f=>aj.out a o w' (List.mem_of_getElem? r) (G.ar (K.out.trans f)) (K.out.trans f);have N:Hid (∀w',Fr ag wr w'→∀i x,o[i]? =some x→w'.cell? ((y.add (m*6)).add i)=some x):=fun w' f i x J=>f.an (C.out i x J) (fun x=>x);have M:Hid (∀w',Fr ag wr w'→∀j x,F[j]? =some x→w'.cell? ((⟨g1,0,none⟩:Addr).add j)=some x):=fun w' f i x J=>f.an (B.out i x J) (fun x=>x);have D:=af r;clear g r G I C B;obtain⟨R,v⟩:∃R,gD a.key k=R:=⟨_,rfl⟩;rw[v]at S;have E:=af v;clear v;go_upto_region 5 with fail;refine jS 8 [.func (.func q) #[] #[], .slice (some y) n c, .int .i64 (m:Int), .pointer (some (y.add (m*6))), .agg o.toArray, .agg F.toArray, .int .i64 R, .bool (decide (R<0))] ?zM ?_;case zM=>
    refine⟨?yI,?yJ,?yK,?zP,?zQ,?zR,?zS,?zT,trivial⟩;all_goals intro u w' l d
    all_goals simp only[z1,z2,z3,z4,ay,Act.put,z5,z6,z7,Nat.reduceAdd,Nat.zero_add]
    case zP=>
     simp only[show u 1=_ from d 1,show u 2=_ from d 2];refine aG ?_;have ax:=i1;have aB:=i0;go_simp;exact aM
    case zQ=>
     simp only[show u 3=_ from d 3];refine aG ?_;exact az _ _ rfl (y.add (m*6)) rfl o _ (N.out _ l) Tryz.underlying46 rfl aa.out aM
    case zR=>
     refine aG ?_;exact az _ _ rfl ⟨g1,0,none⟩ rfl F _ (M.out _ l) Tryz.underlying43 rfl W.out aM
    case zS=>
     simp only[show u 0=_ from d 0,show u 4=_ from d 4,show u 5=_ from d 5];refine aG ?_;have ae:=H;go_simp;refine(S.out _ l).mono ?_;rintro e aC⟨rfl,ab⟩;exact⟨rfl,ab⟩
    case zT=>
     simp only[show u 6=_ from d 6];refine aG ?_;go_simp;exact aM
    all_goals
     refine aG ?_;go_simp;exact aM
   intro w' l;simp only[z1,z2,z3,z4,ay,Act.put,z5,z6,z7,z8,z9,jx,jy,Nat.reduceAdd,Nat.zero_add];have Q:=af (T.out.trans l);clear l;by_cases p:R<0
   ·have t5:decide (R<0)=true:=decide_eq_true p;have O:=af (MJ Y.out P.out D.out (by rw[E.out];exact p));go_wp2;go_roundw;case rel=>exact⟨m+1,z,by go_num,rfl,by have:=V.out;omega,ad,Q.out,O.out⟩
    case measure=>simp[intOf];have:=V.out;omega
   ·have t5:decide (R<0)=false:=decide_eq_false p;have O:=af (MF Y.out P.out D.out (by rw[E.out];exact p));go_wp2;go_roundw;case rel=>exact⟨lo,m,rfl,rfl,by have:=V.out;omega,by have:=V.out;omega,Q.out,O.out⟩
    case measure=>simp[intOf];have:=V.out;omega
  ·obtain rfl:lo=z:=by omega
   have t0:decide ((lo:Int)<(lo:Int))=false:=ct (by omega);have K:=af (ai.out.trans T.out);by_cases al:lo<n
   ·have t1:decide ((lo:Int)<(n:Int))=true:=dh (by omega);have i0:(lo:Int)<(n:Int):=by omega
    have i1:(0:Int)≤(lo:Int):=by omega
    obtain⟨y,o,a,rfl,r,G,I,g⟩:=U.out lo (by have:=HN.out;omega);have aa:Hid ((Tryz.prog.info? 46).map (·.size)=some o.length):=by rw[Hid,I];exact bZ
    have C:Hid (∀i x,o[i]? =some x→wr.cell? ((y.add (lo*6)).add i)=some x):=fun i x J=>K.out.an (g i x J) (fun x=>x);have B:Hid (∀j x,F[j]? =some x→wr.cell? ((⟨g1,0,none⟩:Addr).add j)=some x):=fE (ah.out.fr T.out (fun x=>x));have S:Hid (∀w',Fr ag wr w'→Calls Tryz.prog q #[.agg o.toArray, .agg F.toArray] w' (aJ w' (.int .i64 (gD a.key k)))):=fun w' f=>aj.out a o w' (List.mem_of_getElem? r) (G.ar (K.out.trans f)) (K.out.trans f);have N:Hid (∀w',Fr ag wr w'→∀i x,o[i]? =some x→w'.cell? ((y.add (lo*6)).add i)=some x):=fun w' f i x J=>f.an (C.out i x J) (fun x=>x);have M:Hid (∀w',Fr ag wr w'→∀j x,F[j]? =some x→w'.cell? ((⟨g1,0,none⟩:Addr).add j)=some x):=fun w' f i x J=>f.an (B.out i x J) (fun x=>x);have D:=af r;clear g r G I C B;obtain⟨R,v⟩:∃R,gD a.key k=R:=⟨_,rfl⟩;rw[v]at S;have E:=af v;clear v;go_upto_region 8 with fail;refine jS 16 [.int .i64 (lo:Int), .int .i64 (lo:Int), .int .i64 (n:Int), .bool true, .bool true, .func (.func q) #[] #[], .slice (some y) n c, .int .i64 (lo:Int), .pointer (some (y.add (lo*6))), .agg o.toArray, .agg F.toArray, .int .i64 R, .bool (R==0), .bool (R==0), .int .i64 (lo:Int), .bool (R==0)] ?zN ?_;case zN=>
     refine⟨?yL,?yM,?yN,?zU,?zV,?zW,?zX,?zY,?zZ,?yA,?zA,?zB,?zC,?zD,?zE,?zF,trivial⟩;all_goals intro u w' l d
     all_goals simp only[z1,z2,z3,z4,ay,Act.put,z5,z6,z7,Nat.reduceAdd,Nat.zero_add]
     case zU=>
      simp only[show u 1=_ from d 1,show u 2=_ from d 2];refine aG ?_;have ae:=t1;go_simp;exact aM
     case' zV=>simp only[show u 3=_ from d 3]
     case' zW=>simp only[show u 4=_ from d 4]
     case' zX=>simp only[show u 4=_ from d 4]
     case' zY=>simp only[show u 4=_ from d 4]
     case zZ=>
      simp only[show u 6=_ from d 6,show u 7=_ from d 7,show u 4=_ from d 4];refine aG ?_;have ax:=i1;have aB:=i0;go_simp;exact aM
     case yA=>
      simp only[show u 8=_ from d 8,show u 4=_ from d 4];refine aG ?_;exact az _ _ rfl (y.add (lo*6)) rfl o _ (N.out _ l) Tryz.underlying46 rfl aa.out aM
     case zA=>
      simp only[show u 4=_ from d 4];refine aG ?_;exact az _ _ rfl ⟨g1,0,none⟩ rfl F _ (M.out _ l) Tryz.underlying43 rfl W.out aM
     case zB=>
      simp only[show u 5=_ from d 5,show u 9=_ from d 9,show u 10=_ from d 10,show u 4=_ from d 4];refine aG ?_;have ae:=H;go_simp;refine(S.out _ l).mono ?_;rintro e aC⟨rfl,ab⟩;exact⟨rfl,ab⟩
     case zC=>
      simp only[show u 11=_ from d 11,show u 4=_ from d 4];refine aG ?_;go_simp;exact aM
     case' zD=>simp only[show u 4=_ from d 4,show u 12=_ from d 12]
     case' zE=>simp only[show u 0=_ from d 0]
     case' zF=>simp only[show u 13=_ from d 13]
     all_goals
      refine aG ?_;go_simp;exact aM
    intro w' l;simp only[z1,z2,z3,z4,ay,Act.put,z5,z6,z7,z8,z9,jx,jy,Nat.reduceAdd,Nat.zero_add];have Q:=af (K.out.trans l);clear l;have Z:Hid (Mh L k (lo:Int) (R==0)):=by
     by_cases p:R=0;·rw[Hid,show(R==0)=true from beq_iff_eq.2 p];exact Mz D.out (by rw[E.out];exact p)
     ·rw[Hid,show(R==0)=false from ku p];exact MG Y.out (lo:Int) P.out D.out (by rw[E.out];exact p)
    go_wp2;go_ret2;exact Mk.of (by have:=HN.out;omega) P.out Q.out Z.out
   ·have t1:decide ((lo:Int)<(n:Int))=false:=ct (by omega);have Z:=af (MH (lo:Int) P.out (by have:=HN.out;omega));go_upto_region 8 with fail;refine jS 16 [.int .i64 (lo:Int), .int .i64 (lo:Int), .int .i64 (n:Int), .bool false, .bool false,undef,undef,undef,undef,undef,undef,undef,undef, .bool false, .int .i64 (lo:Int), .bool false] ?zO ?_;case zO=>
     refine⟨?yO,?yP,?yQ,?yB,?yC,?yD,?yE,?yF,?yG,?yH,?zG,?zH,?zI,?zJ,?zK,?zL,trivial⟩;all_goals intro u w' l d
     all_goals simp only[z1,z2,z3,z4,ay,Act.put,z5,z6,z7,Nat.reduceAdd,Nat.zero_add]
     case yB=>
      simp only[show u 1=_ from d 1,show u 2=_ from d 2];refine aG ?_;have ae:=t1;go_simp;exact aM
     case' yC=>simp only[show u 3=_ from d 3]
     case yD=>simp only[show u 4=_ from d 4];exact bE
     case yE=>simp only[show u 4=_ from d 4];exact bE
     case yF=>simp only[show u 4=_ from d 4];exact bE
     case yG=>simp only[show u 4=_ from d 4];exact bE
     case yH=>simp only[show u 4=_ from d 4];exact bE
     case zG=>simp only[show u 4=_ from d 4];exact bE
     case zH=>simp only[show u 4=_ from d 4];exact bE
     case zI=>simp only[show u 4=_ from d 4];exact bE
     case' zJ=>simp only[show u 4=_ from d 4,show u 12=_ from d 12]
     case' zK=>simp only[show u 0=_ from d 0]
     case' zL=>simp only[show u 13=_ from d 13]
     all_goals
      refine aG ?_;go_simp;exact aM
    intro w' l;simp only[z1,z2,z3,z4,ay,Act.put,z5,z6,z7,z8,z9,jx,jy,Nat.reduceAdd,Nat.zero_add];have Q:=af (K.out.trans l);clear l;go_wp2;go_ret2;exact Mk.of (by have:=HN.out;omega) P.out Q.out Z.out
theorem My(h:Nat)(E:List Ent)(L:List ActV)(T:Nat→Prop)(k:eN)(w:World)(ae:fK w h E L T)(d:iH L)(Q:∀a∈L,a.key.fA.size≤1099511627776)(C:k.fA.size≤1099511627776):
  Calls Tryz.prog 39 #[.pointer (some ⟨h,0,none⟩), .agg k.cells.toArray] w (fun e w'=>∃i b,e= .returned (.tuple #[.int .i64 i, .bool b])∧Fr ag w w'∧Mh L k i b∧(b=false→i=0)):=by
 obtain⟨b,s,g,va,vk,K,A,c,mb,D,rfl⟩:=ae;obtain⟨I,l,t⟩:=D.kW;obtain⟨o,n1,B,rfl,H1,_⟩:=aU l;have S:Hid (∀w',Fr ag w w'→Calls Tryz.prog 55 #[.pointer (some ⟨h,0,none⟩)] w' (aY w' (.bool false))):=fun w' f=>kQ w' h b ((D.aH.fr f (fun x=>x)).cell 0);have G:Hid (∀k,k<L.length→∃z p a,o=some z∧L[k]? =some a∧df w p a∧p.length=6∧∀j x,p[j]? =some x→w.cell? ((z.add (k*6)).add j)=some x):=fun k C=>xz l t H1.out C;have X:Hid (∀W,Fr ag w W→W.cell? {block:=h,off:=1}=some (.slice o n1 B)):=fun W f=>(D.aH.fr f (fun x=>x)).cell 1;have U:Hid (∀w',Fr ag w w'→Calls Tryz.prog 92 #[.slice o n1 B, .agg k.cells.toArray, .func (.func 93) #[] #[]] w' (Mk w' L k)):=fun w' f=>by
  refine Mx L I k o n1 B w' H1.out (by have:=H1.out;have:=d.len;omega) d.ord (fun j aj=>?_) _ Mu (fun a cs w2 ah ad _=>Mv a cs k w2 ad (Q a ah) C);obtain⟨z,p,a,Z,aa,ab,ac,r⟩:=G.out j aj;exact⟨z,p,a,Z,aa,ab.ar f,ac,fun i x N=>f.an (r i x N) (fun x=>x)⟩
 have H:Hid ((Tryz.prog.info? 43).map (·.size)=some k.cells.length):=fP;generalize M:k.cells=y at*;clear D l t H1 Q C M;go_enter Tryz.func39,Tryz.ntmps39;go_wp2_with(refine aA rfl 43 (.tmp 1) rfl y.toArray rfl ?_);intro w1 m;have v:=af m.fr;have R:=af m.aH;clear m;generalize w.heap.size=g1 at*;go_wp2_with fail;refine(S.out _ v.out).mono ?_;rintro e w'⟨rfl,rfl⟩;have F:Hid (∀w',Fr ag w1 w'→∀j x,y[j]? =some x→w'.cell? ((⟨g1,0,none⟩:Addr).add j)=some x):=fun w' f j x N=>by rw[Addr.add_mid,Nat.zero_add,(R.out.fr f (fun x=>x)).cell j,bR];exact N
 go_upto_region 3 with fail;refine yw 11 [iS (.pointer (some ⟨h,0,none⟩)),iS (.pointer (some ⟨h,0,none⟩)),iS (.pointer (some ⟨h,1,none⟩)),iS (.slice o n1 B),iS (.agg y.toArray),⟨fun al _=>al= .tuple #[.int .i64 (Mo L k:Int), .bool (Mm L k)]∧Mh L k (Mo L k) (Mm L k),fun _ _ _ _ h=>h⟩,iS (.tuple #[.int .i64 (Mo L k:Int), .bool (Mm L k)]),iS (.int .i64 (Mo L k:Int)),iS (.bool (Mm L k)),iS (.int .i64 (Mo L k:Int)),iS (.bool (Mm L k))] ?zB ?_;case zB=>
  refine⟨?zL,?zC,?zD,?zE,?zF,?zG,?zH,?zI,?zJ,?zK,?zA,trivial⟩;all_goals intro u w' n d
  all_goals simp only[z1,z2,z3,z4,ay,Act.put,z5,z6,z7,Nat.reduceAdd,Nat.zero_add]
  case' zC=>simp only[show u 0=_ from d 0]
  case' zD=>simp only[show u 1=_ from d 1]
  case zE=>
   simp only[show u 2=_ from d 2];refine aG ?_;have q:_=some _:=X.out _ (v.out.trans n);go_simp;exact⟨_,rfl,aD,rfl⟩
  case zF=>
   refine aG ?_;exact az _ _ rfl ⟨g1,0,none⟩ rfl y _ (F.out _ n) Tryz.underlying43 rfl H.out ⟨_,rfl,aD,rfl⟩
  case zG=>
   simp only[show u 3=_ from d 3,show u 4=_ from d 4];refine aG ?_;go_simp;refine(U.out _ (v.out.trans n)).mono ?_;rintro e am⟨rfl,Y,ak⟩;exact⟨_,rfl,Y,⟨rfl,ak⟩⟩
  case zH=>
   obtain⟨J,r⟩:=d 5;simp only[J];refine aG ?_;go_simp;exact⟨_,rfl,aD,rfl⟩
  case zI=>
   simp only[show u 6=_ from d 6];refine aG ?_;go_simp;exact⟨_,rfl,aD,rfl⟩
  case zJ=>
   simp only[show u 6=_ from d 6];refine aG ?_;go_simp;exact⟨_,rfl,aD,rfl⟩
  case' zK=>simp only[show u 7=_ from d 7]
  case' zA=>simp only[show u 8=_ from d 8]
  all_goals
   refine aG ?_;go_simp;exact⟨_,rfl,aD,rfl⟩
 intro u w' n d;obtain⟨J,r⟩:=d 5 (by omega);simp only[z1,z2,z3,z4,ay,Act.put,z5,z6,z7,z8,z9,Nat.reduceAdd,Nat.zero_add,show u 9=_ from d 9 (by omega),show u 10=_ from d 10 (by omega)];clear d;have O:=af (v.out.trans n);have P:=af r;clear n r J d;generalize ai:Mm L k=b at*;clear ai;cases b with
 |false=>
  have V:Hid (Mh L k 0 false):=by
   rcases P.out with⟨h,_⟩|⟨_,h⟩;·cases h
   ·exact .inr ⟨rfl,h⟩
  go_wp2;go_ret2;exact⟨_,_,rfl,O.out,V.out,fun _=>rfl⟩
 |true=>
  go_wp2;go_ret2;exact⟨_,_,rfl,O.out,P.out,fun h=>by cases h⟩
end Go.Proofs.YtphjagkehiklkaaGreatDoor
