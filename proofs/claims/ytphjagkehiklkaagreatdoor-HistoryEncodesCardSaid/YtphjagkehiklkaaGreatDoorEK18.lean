/- Texts. -/
import Derived.Test.YtphjagkehiklkaaGreatDoorEK17
set_option linter.unusedVariables false
set_option linter.unusedSimpArgs false
set_option maxRecDepth 100000
set_option maxHeartbeats 4000000
namespace Go.Proofs.YtphjagkehiklkaaGreatDoor
open Proofs.Tryz Go.RowKit Go.Shelf
theorem yH{w:World}{p:Nat}{A:Option Addr}{n c:Nat}{mb:Option Nat}{ds:List (List UInt8)}(h:Lt.eU w p A n c mb ds (Lt.bN n)):Lt.pd {w with heap:=#[]} w p ds:=by
 have e:=h.len;subst e;exact⟨A,c,mb,h,⟨rfl,rfl,rfl,Nat.zero_le _,λk a=>absurd a (by simp)⟩,λk _=>Nat.zero_le _⟩
def yP(E:List Ent)(L:List ActV)(n:Int):Value:=if 0<=n/\n<=L.length then .tuple #[bj (Lt.gN (dD E (L.take n.toNat))), .int .i64 0]else .tuple #[.agg aH, .int .i64 2]
theorem xK(h:Nat)(E:List Ent)(L:List ActV)(T:Nat->Prop)(w:World)(m:dR w h E L T):Calls prog 46 #[.pointer (some ⟨h,0,none⟩)] w (bJ w (.int .i64 (L.length:Int))):=by
 obtain⟨b,s,g,va,vk,K,A,c,mb,d,rfl⟩:=m;obtain⟨l,a,f⟩:=d.iJ;obtain⟨n,n1,j,rfl,H1,_⟩:=aK a;have i:=d.aF.cell 0;have j:=d.aF.cell 1;simp only[bP,List.getElem?_cons_succ,List.getElem?_cons_zero]at i j;have k:=H1;clear d a f;go_enter func46,ntmps46;go_wp2_with fail;refine(jQ w h b i).mono ?_;rintro e w'⟨rfl,rfl⟩;go_wp2;go_ret;exact⟨by rw[k.out];rfl,rfl⟩
def Dj(w:World)(E:List Ent)(L:List ActV)(e:Ending)(w':World):Prop:=∃s,e= .returned (.tuple #[.pointer (some ⟨s,0,none⟩), .int .i64 0])/\w=w'/\dQ w' s (eY L E)
theorem rA(h:Nat)(E:List Ent)(L:List ActV)(T:Nat->Prop)(w:World)(m:dR w h E L T):Calls prog 38 #[.pointer (some ⟨h,0,none⟩), .int .i64 (L.length:Int)] w (Dj w E L):=by
 obtain⟨b,s,g,va,vk,K,A,c,mb,d,rfl⟩:=m;obtain⟨l,a,f⟩:=d.iJ;obtain⟨n,n1,j,rfl,H1,_⟩:=aK a;have i:=d.aF.cell 0;have j:=d.aF.cell 1;have c3:=d.aF.cell 3;simp only[bP,List.getElem?_cons_succ,List.getElem?_cons_zero]at i j c3;have k:=af d.last;obtain rfl:n1=L.length:=H1.out;clear d a f H1;generalize L.length=n1 at*;have t1:decide ((n1:Int)<0)=false:=ct (by omega);have t2:decide ((n1:Int)<(n1:Int))=false:=ct (by omega);have t3:((n1:Int)==(n1:Int))=true:=by rw[beq_iff_eq]
 go_enter func38,ntmps38;go_wp2_with fail;refine(jQ w h b i).mono ?_;rintro e w'⟨rfl,rfl⟩;go_wp2;go_ret2;exact⟨s,rfl,rfl,k.out⟩
theorem Dk(h:Nat)(E:List Ent)(L:List ActV)(T:Nat->Prop)(n:Int)(w:World)(ad:dR w h E L T)(hS:bU w)(Q:L.length<=65536):Calls prog 16 #[.pointer (some ⟨h,0,none⟩), .int .i64 n] w (aM w (yP E L n)):=by
 obtain⟨b,s,g,va,vk,K,A,c,mb,v,rfl⟩:=ad;obtain⟨ab,m,M⟩:=v.iJ;obtain⟨U,n1,Z,rfl,H1,_⟩:=aK m;have aj:=af v;have X:Hid (∀w',Fr Nothing w w'->Calls prog 55 #[.pointer (some ⟨h,0,none⟩)] w' (bJ w' (.bool false))):=λw' f=>jQ w' h b ((v.aF.fr f id).cell 0);have N:Hid (∀(k:Nat)w',Fr Nothing w w'->k<=L.length->Calls prog 57 #[.pointer (some ⟨g,0,none⟩), .int .i64 ((k:Int)+1)] w' (aM w' (.tuple #[bj (Lt.gN (dD E (L.take k))), .int .i64 0]))):=λk w' f ak=>by
  have h:=Lt.Jm _ w' g (dD E L) (k+1) (yH (v.ao f).log) (by rw[me];omega) (by rw[me];omega) (hS.ao f);rw[vZ]at h;exact h
 have I:Hid (∀k,(Lt.gN (dD E (L.take k))).length=32):=λk=>Lt.nF _ _ rfl (by rw[me,List.length_take];omega) (qV _ _);have d:Hid (n1=L.length):=H1.out;have H:=af Q;obtain⟨R,J⟩:∃R,yP E L n=R:=⟨_,rfl⟩;have a:Hid (R=if 0<=n/\n<=L.length then .tuple #[bj (Lt.gN (dD E (L.take n.toNat))), .int .i64 0]else .tuple #[.agg aH, .int .i64 2]):=J.symm;rw[J];have aa:Hid (∀W,Fr Nothing w W->W.cell? {block:=h,off:=1}=some (.slice U n1 Z)/\W.cell? {block:=h,off:=4}=some (.pointer (some ⟨g,0,none⟩))):=λW f=>⟨(v.aF.fr f id).cell 1,(v.aF.fr f id).cell 4⟩;clear v m M H1 hS Q J;go_enter func16,ntmps16;go_wp2_with(refine an rfl 38 rfl bp jn aH rfl ?_);intro w1 x;have t:=af x.fr;have D:=af x.aF;clear x;generalize C:w.heap.size=g4 at*;have u:Hid (w.heap.size<=g4):=by rw[Hid,C];exact Nat.le_refl _
 clear C;go_wp2_with fail;refine(X.out _ t.out).mono ?_;rintro e w'⟨rfl,rfl⟩;obtain⟨ag,ah⟩:=aa.out _ t.out;by_cases G:n<0
 ·have t1:decide (n<0)=true:=decide_eq_true G;have y:Hid (R= .tuple #[.agg aH, .int .i64 2]):=by rw[Hid,a.out,if_neg (by omega)]
  clear G;go_wp2_with(first|(refine wpList_buildTo rfl 38 #[] rfl aH Lt.rJ ?_)|(refine ai rfl 38 (.tmp 4) _ rfl g4 aH rfl rfl _ _ D.out Lt.zE rfl Lt.yJ ?_));intro o j l;have z:=af j;have B:Hid (Fr Nothing w o):=t.out.aw l (λi S e=>by have P:i=g4:=e;have:=u.out;omega);clear j l;go_wp2;rw[y.out];exact bodyPost_ret (dX (fn:=Tryz.f16) (p:=4) (q:=5) (ty:=38) results16 _ o _ 38 aH (0,0) _ rfl z.out underlying38 rfl Lt.zE _ rfl) rfl ⟨rfl,B.out⟩
 obtain⟨k,rfl⟩:∃k:Nat,n=k:=⟨n.toNat,by omega⟩;have t1:decide ((k:Int)<0)=false:=decide_eq_false G;clear G;by_cases ac:n1<k
 ·have t2:decide ((n1:Int)<(k:Int))=true:=cX (by omega);have y:Hid (R= .tuple #[.agg aH, .int .i64 2]):=by rw[Hid,a.out,if_neg (by have:=d.out;omega)]
  clear a;go_wp2_with(first|(refine wpList_buildTo rfl 38 #[] rfl aH Lt.rJ ?_)|(refine ai rfl 38 (.tmp 4) _ rfl g4 aH rfl rfl _ _ D.out Lt.zE rfl Lt.yJ ?_));intro o j l;have z:=af j;have B:Hid (Fr Nothing w o):=t.out.aw l (λi S e=>by have P:i=g4:=e;have:=u.out;omega);clear j l;go_wp2;rw[y.out];exact bodyPost_ret (dX (fn:=Tryz.f16) (p:=4) (q:=5) (ty:=38) results16 _ o _ 38 aH (0,0) _ rfl z.out underlying38 rfl Lt.zE _ rfl) rfl ⟨rfl,B.out⟩
 have t2:decide ((n1:Int)<(k:Int))=false:=ct (by omega);have ae:¬(n1:Int)<(k:Int):=by omega
 have y:Hid (R= .tuple #[bj (Lt.gN (dD E (L.take k))), .int .i64 0]):=by rw[Hid,a.out,if_pos (by have:=d.out;omega),Int.toNat_natCast]
 have r:=af (N.out k _ t.out (by have:=d.out;omega));have F:Hid (Lt.dL ((Lt.gN (dD E (L.take k))).map bK).toArray):=Lt.dL.of (I.out k);unfold bj at y r;generalize((Lt.gN (dD E (L.take k))).map bK).toArray=O at*;have al:k<=65536:=by have:=d.out;have:=H.out;omega
 have am:IntKind.i64.wrap ((k:Int)+1)=(k:Int)+1:=IntWalk.i64_in _ (by omega);clear a N ac;go_wp2_with fail;refine r.out.mono ?_;rintro e w2⟨rfl,f2⟩;have Y:=af (t.out.trans f2);have V:=af (D.out.fr f2 id);clear f2 r t D ag ah;go_wp2_with(refine ai rfl 38 (.tmp 4) _ rfl g4 O rfl rfl _ _ V.out F.out.info F.out.zero F.out.one ?_);intro o j l;have z:=af j;have B:Hid (Fr Nothing w o):=Y.out.aw l (λi S e=>by have P:i=g4:=e;have:=u.out;omega);clear j l;go_wp2;rw[y.out];exact bodyPost_ret (dX (fn:=Tryz.f16) (p:=4) (q:=5) (ty:=38) results16 _ o _ 38 O (0,0) _ rfl z.out underlying38 rfl F.out.info _ rfl) rfl ⟨rfl,B.out⟩
def dV:List Value:=[.int .i64 0, .int .i64 0, .string ByteArray.empty, .slice none 0 0]
theorem p9:prog.built 33 []=some dV.toArray:=by kernel_rfl
theorem Jz(i n:Int)(s:ByteArray)(A:Option Addr)(x y:Nat):prog.built 33 [(0, .int .i64 i),(1, .int .i64 n),(2, .string s),(3, .slice A x y)]=some [Value.int .i64 i, .int .i64 n, .string s, .slice A x y].toArray:=by kernel_rfl
theorem MD(w:World):(zeroValue 33).run prog w= .ok (.agg dV.toArray) w:=by kernel_rfl
theorem kT:(prog.info? 33).map (·.size)=some dV.toArray.size:=by kernel_rfl
theorem JX:(prog.info? 33).map (·.size)=some 4:=by kernel_rfl
theorem nh:dV.toArray.all (·.oneCell')=true:=by simp[dV,Value.oneCell']
def rz(w:World)(E:List Ent)(L:List ActV)(i n:Int)(e:Ending)(w':World):Prop:=
 (¬(0<=n/\n<=L.length/\0<=i/\i<n)/\e= .returned (.tuple #[.agg dV.toArray, .int .i64 2])/\Fr Nothing w w')\/
 ∃(k m:Nat)(a:ActV)(v:Value),i=(k:Int)/\n=(m:Int)/\k<m/\m<=L.length/\L[k]? =some a/\e= .returned (.tuple #[.agg [Value.int .i64 (k:Int), .int .i64 (m:Int), .string ⟨(bY a).toArray⟩,v].toArray, .int .i64 0])/\bT 38 32 w (.slice none 0 0) w' v (Lt.df (dD E (L.take m)) (k+1)).length ((Lt.df (dD E (L.take m)) (k+1)).flatMap Lt.aC)
theorem kQ{w:World}{A:Option Addr}{n c:Nat}{e:List (List Value)}{L:List ActV}(f:w.ownsRow 0 46 6 (.slice A n c) L.length e.flatten)(h:dJ w e L)(p:n=L.length){k:Nat}(o:k<L.length):
  ∃g d a,A=some g/\L[k]? =some a/\cL w d a/\d.length=6/\∀j x,d[j]? =some x->w.cell? ((g.add (k*6)).add j)=some x:=by
 subst p;obtain⟨d,l,_,r,i,s⟩:=dJ.at_ (k:=k) h o;obtain⟨g,m,_,b⟩:=(Rd.ia f).2 (by omega);refine⟨g,d,l,m,r,i,i.len,λj x q=>?_⟩;rw[iQ];exact b _ x (s j x q)
theorem Ao(h:Nat)(E:List Ent)(L:List ActV)(T:Nat->Prop)(i n:Int)(w:World)(a2:dR w h E L T)(aN:dO w)(aL:bU w)(a3:L.length<=65536)(ab:∀a∈L,fR a=true)(ac:∀a∈L,Dy a):
  Calls prog 15 #[.pointer (some ⟨h,0,none⟩), .int .i64 i, .int .i64 n] w (rz w E L i n):=by
 obtain⟨b,s,g,va,vk,K,A,c,mb,Q,rfl⟩:=a2;obtain⟨aY,C,Z⟩:=Q.iJ;obtain⟨az,n1,aW,rfl,H1,_⟩:=aK C;have aR:Hid (∀w',Fr Nothing w w'->Calls prog 55 #[.pointer (some ⟨h,0,none⟩)] w' (bJ w' (.bool false))):=λw' f=>jQ w' h b ((Q.aF.fr f id).cell 0);have aG:Hid (∀(k m:Nat)w',Fr Nothing w w'->k<m->m<=L.length->Calls prog 56 #[.pointer (some ⟨g,0,none⟩), .int .i64 ((k:Int)+1), .int .i64 ((m:Int)+1)] w' (Lt.sy w' (Lt.df (dD E (L.take m)) (k+1),0))):=λk m w' f aQ hm=>by
  have h:=Lt.yS _ w' g (dD E L) ((k:Int)+1) ((m:Int)+1) (yH (Q.ao f).log) (by rw[me];omega) (aL.ao f) (by omega) (by omega);have e:Lt.rU (dD E L) ((k:Int)+1) ((m:Int)+1)=(Lt.df (dD E (L.take m)) (k+1),0):=by
   unfold Lt.rU;rw[if_pos (by rw[me];omega),show((m:Int)+1).toNat=m+1 by omega,show((k:Int)+1).toNat=k+1 by omega,vZ]
  rw[e]at h;exact h
 have S:Hid (∀k,k<L.length->∃ag u a,az=some ag/\L[k]? =some a/\cL w u a/\u.length=6/\∀j x,u[j]? =some x->w.cell? ((ag.add (k*6)).add j)=some x):=λk aQ=>kQ C Z H1.out aQ;have aE:Hid (∀a u w',a∈L->cL w u a->Fr Nothing w w'->Calls prog 18 #[.agg u.toArray] w' (aM w' (.tuple #[.string ⟨(bY a).toArray⟩, .int .i64 0]))):=λa u w' aO a4 f=>by
  have h:=nG a u w' (aN.ao f) (a4.ao f) (ac a aO);unfold jO at h;rw[if_pos (ab a aO)]at h;exact h
 have F:Hid (n1=L.length/\n1<=65536):=by have:=H1.out;exact⟨this,by omega⟩
 have aI:Hid (∀W,Fr Nothing w W->W.cell? {block:=h,off:=1}=some (.slice az n1 aW)/\W.cell? {block:=h,off:=4}=some (.pointer (some ⟨g,0,none⟩))):=λW f=>⟨(Q.aF.fr f id).cell 1,(Q.aF.fr f id).cell 4⟩;have d:Hid (¬(0<=n/\n<=n1/\0<=i/\i<n)->∀w',Fr Nothing w w'->rz w E L i n (.returned (.tuple #[.agg dV.toArray, .int .i64 2])) w'):=λal w' f=> .inl ⟨by rw[<-H1.out];exact al,rfl,f⟩;have l:Hid (∀(k m:Nat)(a:ActV)(v:Value)w',i=(k:Int)->n=(m:Int)->k<m->m<=n1->L[k]? =some a->bT 38 32 w (.slice none 0 0) w' v (Lt.df (dD E (L.take m)) (k+1)).length ((Lt.df (dD E (L.take m)) (k+1)).flatMap Lt.aC)->rz w E L i n (.returned (.tuple #[.agg [Value.int .i64 (k:Int), .int .i64 (m:Int), .string ⟨(bY a).toArray⟩,v].toArray, .int .i64 0])) w'):=λk m a v w' al O aJ aZ a0 a1=> .inr ⟨k,m,a,v,al,O,aJ,by rw[<-H1.out];exact aZ,a0,rfl,a1⟩;generalize rz w E L i n=PP at*;clear Q C Z H1 aL a3 aN ab ac;go_enter func15,ntmps15;go_wp2_with(refine an rfl 33 rfl (.agg dV.toArray) MD dV.toArray rfl ?_);intro w1 J;have D:=af J.fr;have N:=af J.aF;clear J;generalize aa:w.heap.size=g6 at*;have y:Hid (w.heap.size<=g6):=by rw[Hid,aa];exact Nat.le_refl _
 clear aa;go_wp2_with fail;refine(aR.out _ D.out).mono ?_;rintro e w'⟨rfl,rfl⟩;obtain⟨ax,ay⟩:=aI.out _ D.out;by_cases aj:n<0;·have t1:decide (n<0)=true:=decide_eq_true aj;have G:=af (d.out (by omega));clear d l aj;go_wp2_with(first|(refine wpList_buildTo rfl 33 #[] rfl dV.toArray p9 ?_)|(refine ai rfl 33 (.tmp 6) _ rfl g6 dV.toArray rfl rfl _ _ N.out kT rfl nh ?_));intro r t o;have H:=af t;have I:Hid (Fr Nothing w r):=D.out.aw o (λi P e=>by have ah:i=g6:=e;have:=y.out;omega);clear t o;go_wp2;exact bodyPost_ret (bm (fn:=Tryz.f15) (p:=6) (q:=7) (ty:=33) results15 _ r _ 33 dV.toArray (0,0) _ rfl H.out underlying33 rfl kT _ rfl) rfl (G.out _ I.out)
 obtain⟨m,rfl⟩:∃m:Nat,n=m:=⟨n.toNat,by omega⟩;have t1:decide ((m:Int)<0)=false:=decide_eq_false aj;clear aj;by_cases al:n1<m;·have t2:decide ((n1:Int)<(m:Int))=true:=cX (by omega);have G:=af (d.out (by omega));clear d l;go_wp2_with(first|(refine wpList_buildTo rfl 33 #[] rfl dV.toArray p9 ?_)|(refine ai rfl 33 (.tmp 6) _ rfl g6 dV.toArray rfl rfl _ _ N.out kT rfl nh ?_));intro r t o;have H:=af t;have I:Hid (Fr Nothing w r):=D.out.aw o (λi P e=>by have ah:i=g6:=e;have:=y.out;omega);clear t o;go_wp2;exact bodyPost_ret (bm (fn:=Tryz.f15) (p:=6) (q:=7) (ty:=33) results15 _ r _ 33 dV.toArray (0,0) _ rfl H.out underlying33 rfl kT _ rfl) rfl (G.out _ I.out)
 have t2:decide ((n1:Int)<(m:Int))=false:=ct (by omega);have a8:¬(n1:Int)<(m:Int):=by omega
 by_cases O:i<0;·have t3:decide (i<0)=true:=decide_eq_true O;have G:=af (d.out (by omega));clear d l O;go_wp2_with(first|(refine wpList_buildTo rfl 33 #[] rfl dV.toArray p9 ?_)|(refine ai rfl 33 (.tmp 6) _ rfl g6 dV.toArray rfl rfl _ _ N.out kT rfl nh ?_));intro r t o;have H:=af t;have I:Hid (Fr Nothing w r):=D.out.aw o (λi P e=>by have ah:i=g6:=e;have:=y.out;omega);clear t o;go_wp2;exact bodyPost_ret (bm (fn:=Tryz.f15) (p:=6) (q:=7) (ty:=33) results15 _ r _ 33 dV.toArray (0,0) _ rfl H.out underlying33 rfl kT _ rfl) rfl (G.out _ I.out)
 obtain⟨k,rfl⟩:∃k:Nat,i=k:=⟨i.toNat,by omega⟩;have t3:decide ((k:Int)<0)=false:=decide_eq_false O;clear O;by_cases aJ:m<=k
 ·have t4:decide ((m:Int)<=(k:Int))=true:=cX (by omega);have av:(m:Int)<=(k:Int):=by omega
  have G:=af (d.out (by omega));clear d l;go_wp2_with(first|(refine wpList_buildTo rfl 33 #[] rfl dV.toArray p9 ?_)|(refine ai rfl 33 (.tmp 6) _ rfl g6 dV.toArray rfl rfl _ _ N.out kT rfl nh ?_));intro r t o;have H:=af t;have I:Hid (Fr Nothing w r):=D.out.aw o (λi P e=>by have ah:i=g6:=e;have:=y.out;omega);clear t o;go_wp2;exact bodyPost_ret (bm (fn:=Tryz.f15) (p:=6) (q:=7) (ty:=33) results15 _ r _ 33 dV.toArray (0,0) _ rfl H.out underlying33 rfl kT _ rfl) rfl (G.out _ I.out)
 have t4:decide ((m:Int)<=(k:Int))=false:=ct (by omega);have av:¬(m:Int)<=(k:Int):=by omega
 have a6:(k:Int)<(n1:Int):=by omega
 have a5:(0:Int)<=(k:Int):=by omega
 obtain⟨ag,u,a,rfl,X,V,Y,B⟩:=S.out k (by have:=F.out;omega);have U:=af X;have aq:=af V;have ar:=af Y;have ap:=af B;have aU:Hid ((prog.info? 46).map (·.size)=some u.length):=by rw[Hid,ar.out];exact bQ
 have z:Hid (k<m/\m<=n1):=⟨by omega,by omega⟩;clear X V Y B d S;go_wp2_with(refine aB rfl 46 (.tmp 41) rfl (ag.add (k*6)) rfl u _ ?zA underlying46 rfl aU.out (aX.go ?zB));case zA=>exactλj x a7=>D.out.ak (ap.out j x a7) id
 unfold aX;go_wp2_with fail;refine(aE.out a u _ (List.mem_of_getElem? U.out) aq.out D.out).mono ?_;rintro e w2⟨rfl,f2⟩;have ae:=af (D.out.trans f2);have aA:=af (N.out.fr f2 id);clear f2 aE D N ax ay;obtain⟨ax,ay⟩:=aI.out _ ae.out;have ba:IntKind.i64.wrap ((k:Int)+1)=(k:Int)+1:=IntWalk.i64_in _ (by have:=F.out;omega);have bb:IntKind.i64.wrap ((m:Int)+1)=(m:Int)+1:=IntWalk.i64_in _ (by have:=F.out;have:=z.out;omega);have R:=af (aG.out k m _ ae.out z.out.1 (by have:=F.out;have:=z.out;omega));have au:=af (l.out k m a);generalize Lt.df (dD E (L.take m)) (k+1)=PL at*;generalize(⟨(bY a).toArray⟩:ByteArray)=ad at*;clear aG l;go_wp2_with fail;refine R.out.mono ?_;rintro e w3⟨v,rfl,am⟩;obtain⟨M,n3,c3,rfl,_,_⟩:=aK am.own;have aS:=af (am.ahead ae.out);have aD:=af (aA.out.fr am.ao id);clear am R ae aA ax ay;have a9:=af (Jz (k:Int) (m:Int) ad M n3 c3);have aH:Hid ((prog.info? 33).map (·.size)=some [Value.int .i64 (k:Int), .int .i64 (m:Int), .string ad, .slice M n3 c3].toArray.size):=JX;have aV:Hid ([Value.int .i64 (k:Int), .int .i64 (m:Int), .string ad, .slice M n3 c3].toArray.all (·.oneCell')=true):=by simp[Hid,Value.oneCell']
 go_wp2_with(refine ai rfl 33 (.tmp 6) _ rfl g6 [Value.int .i64 (k:Int), .int .i64 (m:Int), .string ad, .slice M n3 c3].toArray rfl rfl _ _ aD.out aH.out rfl aV.out ?_);intro r t o;have H:=af t;have aT:Hid (bT 38 32 w (.slice none 0 0) r (.slice M n3 c3) PL.length (PL.flatMap Lt.aC)):=by
  have g:=aS.out;refine⟨aP g.own o (λi P e=>?_),(g.ao.aw o (λi P e=>by have ah:i=g6:=e;have:=y.out;omega)).bR,g.eL⟩;obtain rfl:i=g6:=e;exact bO g.own aD.out (by decide) P
 have G:=af (au.out _ r (by first|rfl|trivial) (by first|rfl|trivial) z.out.1 z.out.2 U.out aT.out);clear t o;go_wp2;exact bodyPost_ret (bm (fn:=Tryz.f15) (p:=6) (q:=7) (ty:=33) results15 _ r _ 33 [Value.int .i64 (k:Int), .int .i64 (m:Int), .string ad, .slice M n3 c3].toArray (0,0) _ rfl H.out underlying33 rfl aH.out _ rfl) rfl G.out
def yO(w:World)(E:List Ent)(e:Ending)(w':World):Prop:=∃h T,e= .returned (.tuple #[.pointer (some ⟨h,0,none⟩), .int .i64 0])/\dR w' h E [] T/\Fr Nothing w w'/\∀k,T k->w.heap.size<=k
theorem IU{w:World}{p:Nat}(h:aq w p 180 #[.slice none 0 0, .map none]):Lt.eU w p none 0 0 none [] (Lt.bN 0):=
 ⟨h,⟨rfl, .inl ⟨rfl,rfl⟩⟩,rfl,(λ_ b=>by cases b), .inr ⟨rfl,λl i a=>by
  have c:=a.2;have:1<=(i+1)*2^l:=Nat.mul_pos (by omega) (Nat.two_pow_pos l);omega⟩⟩
theorem xM(E:List Ent)(b:Nat)(w:World)(ad:dQ w b E)(aU:dO w)(z:bU w)(aT:pZ E)(aW:(cq E).length<=1099511627776/\1<=(cq E).length):
  Calls prog 29 #[.pointer (some ⟨b,0,none⟩)] w (yO w E):=by
 have aB:=af ad;have ba:=af z;have L:Hid (∀w',Fr Nothing w w'->Calls prog 75 #[.pointer (some ⟨b,0,none⟩)] w' (aM w' (bj (eW (cq E))))):=λw' f=>GU E b w' (ad.ao f) (aU.ao f) (z.ao f) aT aW;have a:=iq (cq E);have c:=af a;have CL:Hid (∀w',Fr Nothing w w'->Calls prog 76 #[.string ({data:=#[0]}++⟨(eW (cq E)).toArray⟩)] w' (aM w' (bj (oz E)))):=λw' f=>by
  have aS:ee ({data:=#[0]}++⟨(eW (cq E)).toArray⟩)=0::eW (cq E):=by
   have h:aQ ({data:=#[0]}++⟨(eW (cq E)).toArray⟩)=aQ ⟨#[0]⟩++aQ ⟨(eW (cq E)).toArray⟩:=yF _ _;have a5:aQ ⟨(eW (cq E)).toArray⟩=eW (cq E):=nS _;rw[a5]at h;exact h
  have h:=Lt.xN ({data:=#[0]}++⟨(eW (cq E)).toArray⟩) w' (z.ao f) (by
   have:=db ({data:=#[0]}++⟨(eW (cq E)).toArray⟩);rw[aS,List.length_cons,a]at this;omega);rw[aS]at h;exact h
 have a1:Hid (Lt.dL ((oz E).map bK).toArray):=Lt.dL.of (qU E);have l:Hid (Lt.dL ((eW (cq E)).map bK).toArray):=Lt.dL.of a;have au:Hid (∀p w',w.heap.size<=p->Lt.eU w' p none 0 0 none [] (Lt.bN 0)->Fr Nothing w w'->Calls prog 84 #[.pointer (some ⟨p,0,none⟩),bj (oz E)] w' (Lt.nH w' p none 0 0 none [] (oz E))):=λp w' ag aj f=>
  Lt.tE p none 0 0 none [] (oz E) w' aj (qU E) (by omega) (z.ao f) (λk B aj=>by
   have a7:k<w.heap.size:=by first|(rcases B with rfl|rfl;exact z.ED;exact z.EE)
   rcases aj with rfl|h|h;·omega
   ·cases h
   ·simp[Value.ownBlock]at h);have W:Hid (dD E []=[oz E]):=rfl;have aL:Hid (∀j v,((eW (cq E)).map bv)[j]? =some v->(((eW (cq E)).map bK).toArray)[j]? =some v):=λj v h=>by rw[bP];exact h
 obtain⟨dl,I⟩:∃dl,eW (cq E)=dl:=⟨_,rfl⟩;rw[I]at L c CL l aL;obtain⟨xs,n⟩:∃x:ByteArray,x=⟨dl.toArray⟩:=⟨_,rfl⟩;have aa:=af n;rw[<-n]at CL;have ab:Hid (xs.size=32):=by rw[Hid,n];simp only[ByteArray.size,List.size_toArray];exact c.out
 generalize oz E=a9 at*;unfold bj at L CL;generalize G:(dl.map bK).toArray=a3 at*;have a2:=af G;generalize H:(a9.map bK).toArray=a4 at*;have Y:=af H;clear ad aU z aT aW I n a G H;go_enter func29,ntmps29;go_wp2_with fail;refine(Lt.o3 _).mono ?_;rintro e w1⟨rfl,m⟩;have t:Hid (aq w1 w.heap.size 180 #[.slice none 0 0, .map none]):=by rw[m];exact aq.new _ _ _
 have ay:Hid (Fr Nothing w w1):=by rw[m];exact aA.alloc _
 have s:Hid (w1.heap.size=w.heap.size+1):=by rw[m];simp[Hid]
 clear m;have X:Hid (w.heap.size<=w.heap.size):=Nat.le_refl _;generalize ag:w.heap.size=p at t s⊢;have N:=af ag;clear ag X;go_wp2_with(refine aD rfl 111 (.tmp 12) rfl #[.pointer (some ⟨b,0,none⟩), .slice none 0 0, .slice none 0 0, .pointer (some ⟨b,0,none⟩), .pointer (some ⟨p,0,none⟩)] rfl ?_);intro w2 aX;have O:=af aX;clear aX;generalize aV:w1.heap.size=h at*;have am:Hid (aq w2 h 111 #[.pointer (some ⟨b,0,none⟩), .slice none 0 0, .slice none 0 0, .pointer (some ⟨b,0,none⟩), .pointer (some ⟨p,0,none⟩)]):=by have q:=O.out.aF;rw[aV]at q;exact q
 have aC:Hid (p<h):=by have:=s.out;simp only[Hid];omega
 clear aV;have R:=af (ay.out.trans O.out.fr);have aG:=af (t.out.fr O.out.fr id);clear O ay t s;go_wp2_with fail;refine(L.out _ R.out).mono ?_;rintro e w3⟨rfl,f3⟩;have S:=af (R.out.trans f3);have P:=af (am.out.fr f3 id);have ac:=af (aG.out.fr f3 id);clear f3 L R am aG;go_wp2_with(refine an rfl 37 rfl bp MA aH rfl ?_);intro aY n4;have F:=af n4;clear n4;generalize J:w3.heap.size=g5 at*;have av:Hid (aq aY g5 37 aH):=by have q:=F.out.aF;rw[J]at q;exact q
 have r:Hid (w.heap.size<=g5/\p<g5/\h<g5):=by have:=S.out.size;have:=P.out.lt;have:=ac.out.lt;simp only[Hid];omega
 clear J;go_wp2_with(refine ai rfl 37 (.tmp 5) _ rfl g5 a3 rfl rfl _ _ av.out l.out.MW l.out.zero l.out.one ?_);intro ak b5 f5;have ax:=af b5;have Q:=af ((P.out.fr F.out.fr id).fr f5 (λe=>by have aP:h=g5:=e;have:=r.out;omega));have aJ:=af ((ac.out.fr F.out.fr id).fr f5 (λe=>by have aP:p=g5:=e;have:=r.out;omega));have T:Hid (Fr Nothing w ak):=(S.out.trans F.out.fr).aw f5 (λi a6 e=>by have aP:i=g5:=e;have:=r.out;omega);clear b5 f5 F av S P ac;have aO:Hid (∀w',Fr Nothing ak w'->w'.cell? {block:=h,off:=4}=some (.pointer (some ⟨p,0,none⟩))):=λw' f=>(Q.out.fr f id).cell 4;have aE:Hid (∀w',Fr Nothing ak w'->Rd w' (λ_=>True) 1 (some ⟨g5,0,none⟩) 32 (dl.map bv)):=λw' f=>⟨by rw[List.length_map,c.out],λ_=>⟨_,rfl,trivial,λj v a8=>by
  rw[Addr.add_mid,Nat.zero_add,(ax.out.fr f id).cell j];exact aL.out j v a8⟩⟩;go_upto_region 5 with fail;refine iH 8 [.pointer (some ⟨h,0,none⟩), .pointer (some ⟨h,0,none⟩), .pointer (some ⟨h,4,none⟩), .pointer (some ⟨p,0,none⟩), .slice (some ⟨g5,0,none⟩) 32 32, .string xs, .string ({data:=#[0]}++xs), .agg a4] ?zA ?_;case zA=>
  refine⟨?zH,?zB,?zC,?zD,?zI,?zE,?zF,?zG,trivial⟩;all_goals intro u w' o C
  all_goals simp only[z1,z2,z3,z4,ar,Act.put,z5,z6,z7,Nat.reduceAdd,Nat.zero_add]
  case' zB=>simp only[ah (C 0)]
  case' zC=>simp only[ah (C 1)]
  case zD=>
   simp only[ah (C 2)];refine aI ?_;have q:=aO.out _ o;go_simp;exact aR
  case zE=>
   simp only[ah (C 4)];refine aI ?_;have ae:=kL w' _ _ 32 32 _ (aE.out _ o);rw[<-aa.out]at ae;go_simp;exact aR
  case zF=>
   simp only[ah (C 5)];refine aI ?_;have y:¬9223372036854775807<1+xs.size:=by have:=ab.out;omega
   go_simp;exact aR
  case zG=>
   simp only[ah (C 6)];refine aI ?_;go_simp;refine(CL.out _ (T.out.trans o)).mono ?_;rintro e aY⟨rfl,f4⟩;exact⟨rfl,f4⟩
  all_goals
   refine aI ?_;go_simp;exact aR
 intro w' o;simp only[z1,z2,z3,z4,ar,Act.put,z5,z6,z7,z8,z9,jS,jT,Nat.reduceAdd,Nat.zero_add];have M:=af (T.out.trans o);have ap:=af (Q.out.fr o id);have aK:=af (aJ.out.fr o id);have U:=af (aB.out.ao M.out);clear o T Q aJ aO aE CL ax;have g:=af (au.out p _ (by have:=N.out;omega) (IU aK.out) M.out);unfold bj at g;rw[Y.out]at g;go_wp2_with fail;refine g.out.mono ?_;rintro e aZ⟨rfl,al,aN,K,hT,A,d⟩;have az:Hid (Fr Nothing w aZ):=M.out.aw A (λi a6 e=>by
  have:=N.out;rcases e with e|e|e;·omega
  ·cases e
  ·simp[Value.ownBlock]at e);have a0:=af (ap.out.fr A (λe=>by
  have:=aC.out;rcases e with e|e|e;·omega
  ·cases e
  ·simp[Value.ownBlock]at e));have Z:=af hT;have V:Hid (∀k,Lt.TB p al (0+1) aN K k->w.heap.size<=k):=λk B=>by
  have:=N.out;rcases d k B with h|h
  ·rcases h with h|h|h;·omega
   ·cases h
   ·simp[Value.ownBlock]at h
  ·have:=M.out.size;omega
 have D:Hid (dQ aZ b E):=aB.out.ao az.out;clear hT A d g au ap aK U;go_wp2;go_ret2;refine⟨h,_,rfl,⟨b,b,p, .slice none 0 0, .slice none 0 0,[],al,aN,K,⟨a0.out,D.out,ki.nil _,⟨rfl, .inl ⟨rfl,rfl⟩⟩,rfl,(λi k B=>by simp at B),D.out,?_⟩,rfl⟩,az.out,λk B=>?_⟩;·rw[W.out];exact Z.out
 ·rcases B with y|y|y|y;·have:=aC.out;have:=N.out;omega
  ·simp[Value.ownBlock]at y
  ·simp[Value.ownBlock]at y
  ·exact V.out k y
theorem xL(E:List Ent)(b:Nat)(w:World)(c:dQ w b E)(e:dO w)(d:bU w)(a:cM 24 E):
  Calls prog 29 #[.pointer (some ⟨b,0,none⟩)] w (yO w E):=xM E b w c e d (a.small (by omega)) (by have:=a.rQ;have:=a.len;omega)
end Go.Proofs.YtphjagkehiklkaaGreatDoor
