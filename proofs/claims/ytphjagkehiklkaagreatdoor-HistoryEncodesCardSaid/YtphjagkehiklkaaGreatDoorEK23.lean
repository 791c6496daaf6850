/- Texts. -/
import Derived.Test.YtphjagkehiklkaaGreatDoorEK18
import Derived.Test.YtphjagkehiklkaaGreatDoorEK22
set_option linter.unusedVariables false
set_option linter.unusedSimpArgs false
set_option maxRecDepth 100000
set_option maxHeartbeats 8000000
namespace Go.Proofs.YtphjagkehiklkaaGreatDoor
open Proofs.Tryz Go.RowKit Go.Shelf
def Mod(w:World)(cs:List Value)(b:Nat)(E:List Ent)(L:List ActV):Prop:=∃(A:Option Addr)(n c:Nat),cs=[Value.pointer (some ⟨b,0,none⟩), .slice A n c]/\n=L.length/\n<=c/\dQ w b E/\ki w (.slice A n c) L
theorem Mod.ao{w w':World}{cs:List Value}{b:Nat}{E:List Ent}{L:List ActV}(h:Mod w cs b E L)(a:Fr Nothing w w'):Mod w' cs b E L:=by
 obtain⟨A,n,c,d,e,f,g,i⟩:=h;exact⟨A,n,c,d,e,f,g.ao a,i.ao a⟩
def Dx(w:World)(X:List Ent)(e:Ending)(w':World):Prop:=∃s,e= .returned (.pointer (some ⟨s,0,none⟩))/\dQ w' s X/\Fr Nothing w w'
theorem xd(cs:List Value)(b:Nat)(E:List Ent)(L:List ActV)(k:Nat)(w:World)(ai:Mod w cs b E L)(T:dO w)(S:cM 24 E)(K:ej L)(al:k<=L.length):
  Calls prog 41 #[.agg cs.toArray, .int .i64 (k:Int)] w (Dx w (eY (L.take k) E)):=by
 obtain⟨A,n,c,rfl,N,aj,U,ah,h,B⟩:=ai;have I:Hid (∀j,j<L.length->∃r f a,A=some r/\L[j]? =some a/\cL w f a/\f.length=6/\∀i x,f[i]? =some x->w.cell? ((r.add (j*6)).add i)=some x):=λj G=>kQ h B N G;have u:Hid (k<=n/\n<=16/\n=L.length):=by have:=K.len;exact⟨by omega,by omega,N⟩
 have ac:=af T;have Z:=af S;have v:=af K;have HB:=af U;clear h B N aj T S K U al;go_enter func41,ntmps41;go_wp2_with(refine aD rfl 28 (.tmp 0) rfl _ rfl ?_);intro w1 n1;have t:=af n1.fr;have P:=af n1.aF;clear n1;generalize w.heap.size=g1 at*;have ap:w1.cell? ⟨g1,0,none⟩=some (.pointer (some ⟨b,0,none⟩)):=P.out.cell 0;have ae:=af (HB.out.ao t.out);go_wp2;go_loopw[5,6](λs i wr=>∃(j F:Nat),j<=k/\s= .pointer (some ⟨F,0,none⟩)/\i= .int .i64 (j:Int)/\dQ wr F (eY (L.take j) E)/\Fr Nothing w1 wr)(λ_ i _=>k-(intOf i).toNat);case atStart=>exact⟨0,b,Nat.zero_le _,rfl,rfl,by rw[List.take_zero];exact ae.out,aA⟩
 case round=>
  obtain⟨j,s,G,rfl,rfl,W,V⟩:=hrel;have aa:=af G;have R:=af W;have o:=af V;clear G W V;by_cases am:j<k
  ·have t0:decide ((j:Int)<(k:Int))=true:=cX (by omega);obtain⟨r,f,a,rfl,l,y,z,d⟩:=I.out j (by have:=u.out;omega);have an:wr.cell? ⟨g1,1,none⟩=some (.slice (some r) n c):=(P.out.fr o.out id).cell 1;have i0:(j:Int)<(n:Int):=by have:=u.out;omega
   have i1:(0:Int)<=(j:Int):=by omega
   have ad:Hid ((prog.info? 46).map (·.size)=some f.length):=by rw[Hid,z];exact bQ
   have H:Hid (∀i x,f[i]? =some x->wr.cell? ((r.add (j*6)).add i)=some x):=λi x O=>(t.out.trans o.out).ak (d i x O) id;have Y:Hid (cM (24+6*j) (eY (L.take j) E)):=by
    have:=kI (L.take j) E 24 Z.out (λa M=>v.out.ok a (List.mem_of_mem_take M)) (λa M=>v.out.small a (List.mem_of_mem_take M));rw[List.length_take,Nat.min_eq_left (by have:=u.out;omega)]at this;exact this
   have g:=List.mem_of_getElem? l;have Q:Hid (Calls prog 86 #[.agg f.toArray, .pointer (some ⟨s,0,none⟩)] wr (kW wr (eY (L.take j) E) a.writes)):=mL _ a f _ s wr (y.ao (t.out.trans o.out)) R.out (ac.out.ao (t.out.trans o.out)) Y.out (v.out.small a g).writes (by have:=(v.out.small a g).nw;have:=u.out;omega);have ab:=af (Fl l E);have J:=af (oD (v.out.ok a g));have aq:IntKind.i64.wrap ((j:Int)+1)=(j:Int)+1:=IntWalk.i64_in _ (by have:=u.out;omega);clear d l y z g;go_wp2_with(refine aB rfl 46 (.tmp 18) rfl (r.add (j*6)) rfl f _ ?zA underlying46 rfl ad.out (aX.go ?zB));case zA=>exact H.out
   unfold aX;go_wp2_with fail;refine Q.out.mono ?_;rintro e w3⟨p,q,rfl,f3,m⟩;rcases m with⟨_,rfl,F,rfl,C⟩|⟨⟨x,O,D⟩,_⟩
   ·have X:=af (o.out.trans f3);have ag:Hid (dQ w3 F (eY (L.take (j+1)) E)):=by rw[Hid,ab.out];exact C
    clear f3 C Q an;go_wp2;go_roundw;case rel=>exact⟨j+1,F,by omega,rfl,by go_num,ag.out,X.out⟩
    case measure=>simp[intOf];omega
   ·rw[J.out x O]at D;cases D
  ·obtain rfl:j=k:=by have:=aa.out;omega
   have t0:decide ((j:Int)<(j:Int))=false:=ct (by omega);go_wp2;go_ret;exact⟨s,rfl,R.out,t.out.trans o.out⟩
def gR(E:List Ent)(L:List ActV)(k:Nat):List UInt8:=aN (cq E)++enc L.length++(L.take k).flatMap (λa=>aN (bY a))
def iX(E:List Ent)(L:List ActV):List UInt8:=gR E L L.length
theorem ou(E:List Ent)(L:List ActV):gR E L 0=aN (cq E)++enc L.length:=by simp[gR]
theorem vM{E:List Ent}{L:List ActV}{k:Nat}{a:ActV}(h:L[k]? =some a):gR E L (k+1)=gR E L k++aN (bY a):=by
 simp[gR,List.take_add_one,h]
theorem Ba(E:List Ent)(L:List ActV)(k:Nat):(gR E L k).length<=(iX E L).length:=by
 unfold iX gR;rw[List.take_length];have h:((L.take k).flatMap (λa=>aN (bY a))).length<=(L.flatMap (λa=>aN (bY a))).length:=by
  rw[<-List.take_append_drop k L,List.flatMap_append,aT,List.take_append_drop];omega
 simp only[aT];omega
structure xJ(E:List Ent)(L:List ActV):Prop where
 base:pZ E
 text:(cq E).length<=16777216
 iJ:∀a∈L,fR a=true/\Dy a/\(bY a).length<=16777216
 len:L.length<=65536
 all:(iX E L).length<=1099511627776
theorem xb(l:List UInt8):(⟨l.toArray⟩:ByteArray).size=l.length:=rfl
theorem uZ{w w':World}{l:List UInt8}{e:Ending}(h:mh w l e w'):∃A n c,e= .returned (.slice A n c)/\Fr Nothing w w'/\(convert 61 9 (.slice A n c)).run prog w'= .ok (.string ⟨l.toArray⟩) w':=by
 obtain⟨v,rfl,a⟩:=h;obtain⟨A,n,c,rfl,H,_⟩:=aK a.own;exact⟨A,n,c,rfl,a.ao,kL w' _ A n c _ (oP.rd a.own H.out)⟩
theorem tM{w W:World}{b:Nat}{l:List UInt8}(h:Wi w W b l)(k:l.length<=1099511627776):
  Calls prog 103 #[.pointer (some ⟨b,0,none⟩)] W (λe W'=>∃A n c,e= .returned (.tuple #[.slice A n c, .int .i64 0])/\Fr Nothing w W'/\(convert 61 9 (.slice A n c)).run prog W'= .ok (.string ⟨l.toArray⟩) W'):=by
 obtain⟨v,j,o⟩:=h.wr;refine(ng b v l 0 W j k).mono ?_;rintro e w1⟨_,m⟩;obtain⟨p,rfl,a⟩:=m rfl;obtain⟨d,g,f,rfl,i,_⟩:=aK a.own;exact⟨d,g,f,rfl,h.fr.trans a.ao,kL w1 _ d g f _ (oP.rd a.own i.out)⟩
theorem sR{a:List Value}(h:a.length=6):Hid ((prog.info? 46).map (·.size)=some a.length/\(prog.info? 46).map (·.size)=some a.toArray.size/\6=a.toArray.size):=by
 refine⟨by rw[h];exact bQ,by rw[List.size_toArray,h];exact bQ,by rw[List.size_toArray,h]⟩
theorem ry(h:Nat)(E:List Ent)(L:List ActV)(T:Nat->Prop)(w:World)(aE:dR w h E L T)(aa:dO w)(hF:xJ E L):
  Calls prog 45 #[.pointer (some ⟨h,0,none⟩)] w (aM w (.string ⟨(iX E L).toArray⟩)):=by
 obtain⟨b,s,g,va,vk,K,aJ,aP,mb,u,rfl⟩:=aE;obtain⟨aD,ab,D⟩:=u.iJ;obtain⟨A,n,c,rfl,N,_⟩:=aK ab;have P:Hid (∀j,j<L.length->∃B d a,A=some B/\L[j]? =some a/\cL w d a/\d.length=6/\∀i x,d[i]? =some x->w.cell? ((B.add (j*6)).add i)=some x):=λj aG=>kQ ab D N.out aG;have z:Hid (n=L.length/\n<=65536):=⟨N.out,by have:=hF.len;have:=N.out;omega⟩;have ai:=af (jQ w h b (u.aF.cell 0));have HB:Hid (∀W,Fr Nothing w W->W.cell? ⟨h,0,none⟩=some (.pointer (some ⟨b,0,none⟩))/\W.cell? ⟨h,1,none⟩=some (.slice A n c)):=λW f=>⟨(u.aF.fr f id).cell 0,(u.aF.fr f id).cell 1⟩;have ah:Hid (∀w',Fr Nothing w w'->Calls prog 102 #[.pointer (some ⟨b,0,none⟩)] w' (mh w' (cq E))):=λw' f=>sC E b w' (u.base.ao f) (aa.ao f) hF.base;have ax:=af aa;have aj:=af hF;have p:Hid (∀k,(gR E L k).length<=1099511627776):=λk=>Nat.le_trans (Ba E L k) hF.all;have ay:Hid (aN (cq E)++enc n=gR E L 0):=by rw[Hid,ou,z.out.1]
 have V:Hid ((aN (cq E)).length<=1099511627776):=by have:=p.out 0;rw[ou,aT]at this;simp only[Hid];omega
 have Q:Hid (iX E L=gR E L n):=by rw[Hid,z.out.1];rfl
 clear u ab D N aa hF;go_enter func45,ntmps45;go_wp2_with fail;refine ai.out.mono ?_;rintro e w'⟨rfl,rfl⟩;clear ai;go_wp2_with fail;refine(Wi.start aA).mono ?_;rintro e w1⟨rfl,hw,f1⟩;have al:=af hw;have O:=af f1;clear hw f1;generalize w.heap.size=M at*;have aI:w1.cell? ⟨h,0,none⟩=some (.pointer (some ⟨b,0,none⟩)):=(HB.out _ O.out).1;go_wp2_with fail;refine(ah.out _ O.out).mono ?_;rintro e w2 he;obtain⟨aL,aR,aQ,rfl,f2,F⟩:=uZ he;have am:=af (al.out.later f2);clear he f2 al O aI ah;go_wp2_with fail;refine(am.out.text ⟨(cq E).toArray⟩ (by simp) (by rw[xb];exact aj.out.text)).mono ?_;rintro e w3⟨rfl,hw,_⟩;have Y:Hid (Wi w w3 M (aN (cq E))):=hw;clear hw F am;have ae:w3.cell? ⟨h,1,none⟩=some (.slice A n c):=(HB.out _ Y.out.fr).2;go_wp2_with fail;refine(Y.out.number n V.out (by have:=z.out;omega)).mono ?_;rintro e ar⟨rfl,hw,_⟩;have Z:Hid (Wi w ar M (gR E L 0)):=by rw[Hid,<-ay.out];exact hw
 clear hw ae Y;have ae:ar.cell? ⟨h,1,none⟩=some (.slice A n c):=(HB.out _ Z.out.fr).2;go_wp2;clear ae;go_loopw[33](λi wr=>∃k:Nat,k<=n/\i= .int .i64 (k:Int)/\Wi w wr M (gR E L k))(λi _=>n-(intOf i).toNat);case atStart=>exact⟨0,Nat.zero_le _,rfl,Z.out⟩
 case round=>
  obtain⟨k,aq,rfl,ap⟩:=hrel;have J:=af ap;have aw:=af aq;clear ap aq Z;by_cases G:k<n
  ·have t0:decide ((k:Int)<(n:Int))=true:=cX (by omega);obtain⟨B,d,a,rfl,t,r,C,m⟩:=P.out k (by have:=z.out;omega);have i1:(k:Int)<(n:Int):=by omega
   have i2:(0:Int)<=(k:Int):=by omega
   have H:=sR C;have v:Hid (∀i x,d[i]? =some x->wr.cell? ((B.add (k*6)).add i)=some x):=λi x ac=>J.out.fr.ak (m i x ac) id;have az:=af (ActV.one r);have av:Hid (∀W,Fr Nothing w W->cL W d a):=λW f=>r.ao f;have U:=af (vM (E:=E) t);have o:=af (aj.out.iJ a (List.mem_of_getElem? t));have R:Hid (jO a= .tuple #[.string ⟨(bY a).toArray⟩, .int .i64 0]):=by rw[Hid,jO,if_pos o.out.1]
   have aU:IntKind.i64.wrap ((k:Int)+1)=(k:Int)+1:=IntWalk.i64_in _ (by have:=z.out;omega);have y:=af G;clear m r C t G;go_wp2_with(refine aB rfl 46 (.tmp 35) rfl (B.add (k*6)) rfl d _ ?zA underlying46 rfl H.out.1 (aX.go ?zC));case zA=>exact v.out
   unfold aX;go_wp2_with(refine rk rfl rfl 46 5 rfl rfl _ rfl eF kh ca.toArray rfl d.toArray (λ_=>rfl) (λ_=>rfl) H.out.2.1 H.out.2.2 az.out ?_);intro ad g5 _ _ b5 f5;have ag:=af b5;have I:=af (J.out.later f5);clear b5 f5 v J;have X:Hid (∀j x,d[j]? =some x->ad.cell? ((⟨g5,0,none⟩:Addr).add j)=some x):=ly ag.out;go_wp2_with(refine aB rfl 46 (.tmp 5) rfl ⟨g5,0,none⟩ rfl d _ ?zB underlying46 rfl H.out.1 (aX.go ?zD));case zB=>first|exact X.out|exactλj x ac=>by have q:=X.out j x ac;rw[Addr.add_mid,Nat.zero_add]at q;exact q
   unfold aX;go_wp2_with fail;refine(nG a d ad (ax.out.ao I.out.fr) (av.out _ I.out.fr) o.out.2.1).mono ?_;rintro e aS⟨rfl,f6⟩;have an:=af (I.out.later f6);rw[R.out];clear f6 I ag X;go_wp2_with fail;refine(an.out.text ⟨(bY a).toArray⟩ (p.out k) (by rw[xb];exact o.out.2.2)).mono ?_;rintro e aH⟨rfl,hw,_⟩;have aC:Hid (Wi w aH M (gR E L (k+1))):=by rw[Hid,U.out];exact hw
   clear hw an;go_wp2;go_roundw;case rel=>exact⟨k+1,by have:=y.out;omega,by go_num,aC.out⟩
   case measure=>simp[intOf];have:=y.out;omega
  ·obtain rfl:k=n:=by have:=aw.out;omega
   have t0:decide ((k:Int)<(k:Int))=false:=ct (by omega);have S:=af (p.out k);generalize gR E L k=l at*;go_wp2_with fail;refine(tM J.out S.out).mono ?_;rintro e ad⟨aO,n5,c5,rfl,f5,F⟩;have au:=af f5;clear f5;go_wp2;go_ret;rw[Q.out];exact⟨rfl,au.out⟩
theorem yU(ms:List Value)(b:Nat)(E:List Ent)(L:List ActV)(w:World)(az:Mod w ms b E L)(Q:dO w)(hF:xJ E L):
  Calls prog 51 #[.agg ms.toArray] w (aM w (.string ⟨(iX E L).toArray⟩)):=by
 obtain⟨A,n,c,rfl,R,_,ai,ay,al,y⟩:=az;have I:Hid (∀j,j<L.length->∃t g a,A=some t/\L[j]? =some a/\cL w g a/\g.length=6/\∀i x,g[i]? =some x->w.cell? ((t.add (j*6)).add i)=some x):=λj aA=>kQ al y R aA;have s:Hid (n=L.length/\n<=65536):=⟨R,by have:=hF.len;omega⟩;have Y:Hid (∀w',Fr Nothing w w'->Calls prog 102 #[.pointer (some ⟨b,0,none⟩)] w' (mh w' (cq E))):=λw' f=>sC E b w' (ai.ao f) (Q.ao f) hF.base;have au:=af Q;have aa:=af hF;have m:Hid (∀k,(gR E L k).length<=1099511627776):=λk=>Nat.le_trans (Ba E L k) hF.all;have av:Hid (aN (cq E)++enc n=gR E L 0):=by rw[Hid,ou,s.out.1]
 have O:Hid ((aN (cq E)).length<=1099511627776):=by have:=m.out 0;rw[ou,aT]at this;simp only[Hid];omega
 have J:Hid (iX E L=gR E L n):=by rw[Hid,s.out.1];rfl
 clear ai al y R Q hF;go_enter func51,ntmps51;go_wp2_with(refine aD rfl 28 (.tmp 0) rfl #[.pointer (some ⟨b,0,none⟩), .slice A n c] rfl ?_);intro aE n0;have T:=af n0.aF;have Z:=af n0.fr;clear n0;generalize w.heap.size=C at*;go_wp2_with fail;refine(Wi.start Z.out).mono ?_;rintro e w1⟨rfl,hw,f1⟩;have P:=af hw;have F:=af (T.out.fr f1 id);clear hw f1 T Z;generalize aE.heap.size=D at*;have aI:w1.cell? ⟨C,0,none⟩=some (.pointer (some ⟨b,0,none⟩)):=F.out.cell 0;go_wp2_with fail;refine(Y.out _ P.out.fr).mono ?_;rintro e w2 he;obtain⟨aJ,aO,aL,rfl,f2,z⟩:=uZ he;have ab:=af (P.out.later f2);have U:=af (F.out.fr f2 id);clear he f2 P F aI Y;go_wp2_with fail;refine(ab.out.text ⟨(cq E).toArray⟩ (by simp) (by rw[xb];exact aa.out.text)).mono ?_;rintro e w3⟨rfl,hw,kw⟩;have ac:Hid (Wi w w3 D (aN (cq E))):=hw;have G:=af (kw _ _ _ U.out (by decide) (by decide));clear hw kw z ab U;have S:w3.cell? ⟨C,1,none⟩=some (.slice A n c):=G.out.cell 1;go_wp2_with fail;refine(ac.out.number n O.out (by have:=s.out;omega)).mono ?_;rintro e aG⟨rfl,hw,kw⟩;have ad:Hid (Wi w aG D (gR E L 0)):=by rw[Hid,<-av.out];exact hw
 have V:=af (kw _ _ _ G.out (by decide) (by decide));clear hw kw S ac G;go_wp2;go_loopw[4](λi wr=>∃k:Nat,k<=n/\i= .int .i64 (k:Int)/\Wi w wr D (gR E L k)/\aq wr C 28 #[.pointer (some ⟨b,0,none⟩), .slice A n c])(λi _=>n-(intOf i).toNat);case atStart=>exact⟨0,Nat.zero_le _,rfl,ad.out,V.out⟩
 case round=>
  obtain⟨k,aj,rfl,ah,ag⟩:=hrel;have p:=af ah;have ar:=af aj;have H:=af ag;have S:wr.cell? ⟨C,1,none⟩=some (.slice A n c):=H.out.cell 1;clear ah aj ag ad V;by_cases B:k<n
  ·have t0:decide ((k:Int)<(n:Int))=true:=cX (by omega);obtain⟨t,g,a,rfl,o,u,v,d⟩:=I.out k (by have:=s.out;omega);have i1:(k:Int)<(n:Int):=by omega
   have i2:(0:Int)<=(k:Int):=by omega
   have aw:=sR v;have q:Hid (∀i x,g[i]? =some x->wr.cell? ((t.add (k*6)).add i)=some x):=λi x aC=>p.out.fr.ak (d i x aC) id;have ap:Hid (∀W,Fr Nothing w W->cL W g a):=λW f=>u.ao f;have N:=af (vM (E:=E) o);have h:=af (aa.out.iJ a (List.mem_of_getElem? o));have K:Hid (jO a= .tuple #[.string ⟨(bY a).toArray⟩, .int .i64 0]):=by rw[Hid,jO,if_pos h.out.1]
   have aR:IntKind.i64.wrap ((k:Int)+1)=(k:Int)+1:=IntWalk.i64_in _ (by have:=s.out;omega);have r:=af B;clear d u v o B;go_wp2_with(refine aB rfl 46 (.tmp 32) rfl (t.add (k*6)) rfl g _ ?zA underlying46 rfl aw.out.1 (aX.go ?zB));case zA=>exact q.out
   unfold aX;go_wp2_with fail;refine(nG a g wr (au.out.ao p.out.fr) (ap.out _ p.out.fr) h.out.2.1).mono ?_;rintro e aQ⟨rfl,f6⟩;have ae:=af (p.out.later f6);have X:=af (H.out.fr f6 id);rw[K.out];clear f6 p H q S;go_wp2_with fail;refine(ae.out.text ⟨(bY a).toArray⟩ (m.out k) (by rw[xb];exact h.out.2.2)).mono ?_;rintro e aH⟨rfl,hw,kw⟩;have ax:Hid (Wi w aH D (gR E L (k+1))):=by rw[Hid,N.out];exact hw
   have am:=af (kw _ _ _ X.out (by decide) (by decide));clear hw kw ae X;go_wp2;go_roundw;case rel=>exact⟨k+1,by have:=r.out;omega,by go_num,ax.out,am.out⟩
   case measure=>simp[intOf];have:=r.out;omega
  ·obtain rfl:k=n:=by have:=ar.out;omega
   have t0:decide ((k:Int)<(k:Int))=false:=ct (by omega);have M:=af (m.out k);generalize gR E L k=l at*;go_wp2_with fail;refine(tM p.out M.out).mono ?_;rintro e aP⟨aK,n5,c5,rfl,f5,z⟩;have an:=af f5;clear f5;go_wp2;go_ret;rw[J.out];exact⟨rfl,an.out⟩
theorem fP{P:Program}{fn:Func}{p q:Tmp}{ty:TypeId}(h:fn.results=#[.tmp q, .cell p ty])(tmps:Array Value)(w:World)(g:Nat)(t:TypeId)(cs:Array Value)(fr:Nat×Nat)(d:TypeDesc)
  (i:tmps.getD p undef= .pointer (some ⟨g,0,none⟩))(e:w.heap[g]? =some (.cells cs t fr))
  (hu:P.underlying ty=some d)(c:(match d with| .struct _| .array _ _=>true|_=>false)=true)(f:(P.info? ty).map (·.size)=some cs.size)(v:Value)(j:tmps.getD q undef=v):
  (results fn tmps).run P w= .ok (.tuple #[v, .agg cs]) w:=by
 have a:tmps[p]?.getD undef= .pointer (some ⟨g,0,none⟩):=by simpa using i
 have b:tmps[q]?.getD undef=v:=by simpa using j
 simp[results,h,a,b,asAddr,run_loadVar_row w g t ty cs fr d e hu c f]
def tw:List Value:=[.pointer none, .slice none 0 0]
theorem KW(w:World):(zeroValue 28).run prog w= .ok (.agg tw.toArray) w:=by kernel_rfl
theorem iY:(prog.info? 28).map (·.size)=some 2:=by kernel_rfl
theorem Ln(b:Nat)(A:Option Addr)(n c:Nat):prog.built 28 [(0, .pointer (some ⟨b,0,none⟩)),(1, .slice A n c)]=some [Value.pointer (some ⟨b,0,none⟩), .slice A n c].toArray:=by kernel_rfl
theorem fX.sz{a:ActV}(h:fX a):Dy a:=⟨by have:=h.fD;omega,λc b=>(h.reads c b).cv,λc b=>(h.writes c b).cv,by have:=h.nr;omega,by have:=h.nw;omega⟩
def FT(w:World)(ms:List Value)(b:Nat)(E:List Ent)(L:List ActV)(a:ActV)(e:Ending)(w':World):Prop:=∃c:List Value,e= .returned (.tuple #[.int .i64 (dP L a).1, .agg c.toArray])/\Mod w' c b E (dP L a).2/\Fr Nothing w w'/\∀v∈c,∀k,v.ownBlock=some k->w.heap.size<=k\/∃u∈ms,u.ownBlock=some k
theorem AB(ms cs:List Value)(b:Nat)(E:List Ent)(L:List ActV)(a:ActV)(w:World)(bf:Mod w ms b E L)(aJ:cL w cs a)(bs:dO w)(aL:cM 24 E)(g:ej L)(aQ:fX a):
  Calls prog 31 #[.agg ms.toArray, .agg cs.toArray] w (FT w ms b E L a):=by
 obtain⟨A,n,c,rfl,av,cl,b0,r,S,aO⟩:=id bf;obtain⟨i0,ad,aS,T,bl⟩:=info_parts tC;have bT:Hid (¬1*i0.size>2^24):=by simp only[Hid];rw[T];omega
 have bU:Hid (¬1*i0.size=0):=by simp only[Hid];rw[T];omega
 have bV:Hid (∀ds:List Value,ds.length=6->Instr.fill (λi=>some (i*i0.size,i0.size)) ((Array.range (1*i0.size)).map (eF.cells[· %eF.cells.size]!)) [(0, .agg ds.toArray)]=some ds.toArray):=λds cG=>by rw[T];exact Lt.qh _ _ 6 (by simpa using cG) (by simp[eF,Value.cells])
 obtain⟨q,b3⟩:∃q,L.length-1=q:=⟨_,rfl⟩;obtain⟨Y,d,O⟩:∃(Y:Addr)(d:ActV),Hid (0<L.length->A=some Y/\L[q]? =some d/\∀j x,d.key.cells[j]? =some x->w.cell? ((Y.add (q*6)).add j)=some x):=by
  by_cases h:0<L.length;·obtain⟨Y,cS,cB,cC,bK,bL,ch,ap⟩:=kQ S aO av (k:=q) (by omega);refine⟨Y,cB,λ_=>⟨cC,bK,λj x C=>ap j x ?_⟩⟩;obtain⟨cP,cQ,rfl,_,_⟩:=bL;rw[List.getElem?_append_left (List.getElem?_eq_some_iff.1 C).1];exact C
  ·exact⟨⟨0,0,none⟩,a,λcD=>absurd cD h⟩
 have al:Hid (n=L.length/\n<=16/\n<=c):=by have:=g.len;exact⟨av,by omega,cl⟩
 have bn:Hid (0<L.length->(n:Int)-1=(q:Int)/\q<n):=λh=>by have:=al.out;exact⟨by omega,by omega⟩
 have bx:Hid (0<L.length->∀w',Calls prog 85 #[.agg d.key.cells.toArray, .agg a.key.cells.toArray] w' (aM w' (.int .i64 (ew d.key a.key)))):=λh w'=>oO _ _ w' (by have:=(g.small d (List.mem_of_getElem? (O.out h).2.1)).fD;omega) (by have:=aQ.fD;omega);have az:Hid (fR a=true->∀B:Bool,B=(decide (0<L.length)&&decide (0<=ew d.key a.key))->dP L a=if B=true then(32,L)else(0,L++[a])):=λb2 B br=>Az b2 B q d (λh=>⟨b3.symm,(O.out h).2.1⟩) (by
  rw[br];have:=iU.lG d.key a.key;congr 1;exact decide_eq_decide.2 (by omega));have b8:Hid (∀w',Fr Nothing w w'->Calls prog 18 #[.agg cs.toArray] w' (aM w' (jO a))):=λw' f=>nG a cs w' (bs.ao f) (aJ.ao f) aQ.sz;have bm:Hid (∀w',Fr Nothing w w'->Calls prog 41 #[.agg [Value.pointer (some ⟨b,0,none⟩), .slice A n c].toArray, .int .i64 (n:Int)] w' (Dx w' (eY L E))):=λw' f=>by
  have h:=xd _ b E L n w' (bf.ao f) (bs.ao f) aL g (by omega);rw[av,List.take_length]at h;rw[av];exact h
 have bw:Hid (fR a=true->∀w' s,Fr Nothing w w'->dQ w' s (eY L E)->Calls prog 86 #[.agg cs.toArray, .pointer (some ⟨s,0,none⟩)] w' (λe b4=>∃p,e= .returned (.tuple #[.pointer p, .int .i64 0])/\Fr Nothing w' b4)):=λb2 w' s f h=>by
  have G:=kI L E 24 aL g.ok g.small;refine(mL _ a cs _ s w' (aJ.ao f) h (bs.ao f) G aQ.writes (by have:=aQ.nw;have:=g.len;omega)).mono ?_;rintro e w2⟨p,k,rfl,f2,aN⟩;rcases aN with⟨_,rfl,_⟩|⟨⟨x,C,bk⟩,_⟩;·exact⟨_,rfl,f2⟩
  ·rw[oD b2 x C]at bk;cases bk
 have cR:=af bf;have cd:=af aJ;have HB:=af b0;have bC:=af aO;have cz:=af S;have aH:Hid ((prog.info? 46).map (·.size)=some cs.length):=by rw[Hid,aJ.len];exact bQ
 have bB:=af (ActV.one aJ);have a4:=af aJ.len;have y:Hid (∀w' bR,dP L a=(bR,L)->Fr Nothing w w'->FT w [Value.pointer (some ⟨b,0,none⟩), .slice A n c] b E L a (.returned (.tuple #[.int .i64 bR, .agg [Value.pointer (some ⟨b,0,none⟩), .slice A n c].toArray])) w'):=λw' bR e f=>⟨_,by rw[e],by rw[e];exact bf.ao f,f,λv a0 k o=> .inr ⟨v,a0,o⟩⟩;have M:Hid (∀w' a1 aU aY,dP L a=(0,L++[a])->Fr Nothing w w'->aU=L.length+1->aU<=aY->ki w' (.slice a1 aU aY) (L++[a])->(∀k,(Value.slice a1 aU aY).ownBlock=some k->w.heap.size<=k)->FT w [Value.pointer (some ⟨b,0,none⟩), .slice A n c] b E L a (.returned (.tuple #[.int .i64 0, .agg [Value.pointer (some ⟨b,0,none⟩), .slice a1 aU aY].toArray])) w'):=λw' a1 aU aY e f bW bd be bX=>⟨_,by rw[e],by rw[e];exact⟨a1,aU,aY,rfl,by rw[aT];exact bW,bd,b0.ao f,be⟩,f,λv a0 k o=>by
  rw[List.mem_cons,List.mem_singleton]at a0;rcases a0 with rfl|rfl;·cases o
  ·exact .inl (bX k o)⟩;generalize FT w [Value.pointer (some ⟨b,0,none⟩), .slice A n c] b E L a=PP at*;clear bf aJ bs aL g aQ b0 S aO av cl b3;go_enter func31,ntmps31;go_wp2_with(refine aD rfl 28 (.tmp 0) rfl _ rfl ?_);intro w1 n1;have ca:=af n1.fr;have b5:=af n1.aF;clear n1;generalize bg:w.heap.size=g2 at*;have bF:=af bg;clear bg;go_wp2_with(refine aD rfl 46 (.tmp 1) rfl cs.toArray rfl ?_);intro w2 cr;have bp:=af cr;clear cr;generalize bh:w1.heap.size=g3 at*;have bG:=af bh;clear bh;have b7:Hid (aq w2 g3 46 cs.toArray):=by have h:=bp.out.aF;rw[bG.out]at h;exact h
 have b6:=af (b5.out.fr bp.out.fr (λx=>x));have bz:=af (ca.out.trans bp.out.fr);clear bp b5 ca;go_wp2_with(refine an rfl 28 rfl (.agg tw.toArray) KW #[.pointer none, .slice none 0 0] rfl ?_);intro w3 n3;have ba:=af n3;clear n3;generalize bi:w2.heap.size=g5 at*;have a7:=af bi;clear bi;have bq:Hid (aq w3 g5 28 #[.pointer none, .slice none 0 0]):=by have h:=ba.out.aF;rw[a7.out]at h;exact h
 have M2:=af (b6.out.fr ba.out.fr (λx=>x));have cv:=af (b7.out.fr ba.out.fr (λx=>x));have aj:=af (bz.out.trans ba.out.fr);have aE:Hid (w.heap.size<=g5):=by have:=bz.out.size;have:=a7.out;simp only[Hid];omega
 clear ba b6 b7 bz;have bH:Hid (∀W,Fr Nothing w3 W->∀j x,[Value.pointer (some ⟨b,0,none⟩), .slice A n c][j]? =some x->W.cell? ((⟨g2,0,none⟩:Addr).add j)=some x):=λW f j x C=>by rw[<-bP]at C;rw[Addr.add_mid,Nat.zero_add,(M2.out.fr f (λx=>x)).cell j];exact C
 have bo:Hid (∀W,Fr Nothing w3 W->∀j x,cs[j]? =some x->W.cell? ((⟨g3,0,none⟩:Addr).add j)=some x):=λW f j x C=>by rw[Addr.add_mid,Nat.zero_add,(cv.out.fr f (λx=>x)).cell j,bP];exact C
 have cx:Hid (∀W,Fr Nothing w3 W->∀j x,a.key.cells[j]? =some x->W.cell? ((⟨g3,0,none⟩:Addr).add j)=some x):=λW f j x C=>bo.out W f j x (by
  obtain⟨cP,cQ,e,_,_⟩:=cd.out;rw[e,List.getElem?_append_left (List.getElem?_eq_some_iff.1 C).1];exact C);have cf:Hid ([Value.pointer (some ⟨b,0,none⟩), .slice A n c].toArray.all (·.oneCell')=true):=by simp[Hid,Value.oneCell']
 go_wp2_with(refine aB rfl 46 (.tmp 3) rfl ⟨g3,0,none⟩ rfl cs _ ?zG underlying46 rfl aH.out (aX.go ?zH));case zG=>exact bo.out _ aA
 unfold aX;go_wp2_with fail;refine(b8.out _ aj.out).mono ?_;rintro e bt⟨rfl,f4⟩;have ay:=af f4;clear f4 b8;by_cases D:fR a=true
 ·have a6:Hid (jO a= .tuple #[.string ⟨(bY a).toArray⟩, .int .i64 0]):=by rw[Hid,jO,D];rfl
  rw[a6.out];have ax:=af (bw.out D);have I:=af (az.out D);generalize(⟨(bY a).toArray⟩:ByteArray)=cW at*;clear a6 D bw az;obtain⟨P,bN⟩:∃z:Bool,decide (0<L.length)=z:=⟨_,rfl⟩;have aW:=af bN;have a8:Hid (decide (0<n)=P):=by rw[Hid,<-aW.out];exact decide_eq_decide.2 (by have:=al.out;omega)
  obtain⟨Q,bO⟩:∃z:Bool,decide (0<=ew d.key a.key)=z:=⟨_,rfl⟩;have EQ:=af bO;rw[bN,bO]at I;clear bN bO;have aG:Hid (0<L.length->A=some Y):=λh=>(O.out h).1;have cO:bt.cell? ⟨g2,1,none⟩=some (.slice A n c):=(M2.out.fr ay.out (λx=>x)).cell 1;obtain⟨B,br⟩:∃z:Bool,(bif P then Q else false)=z:=⟨_,rfl⟩;have aC:=af br;clear br;go_upto_region 5 with fail;refine iH 15 [.int .i64 (n:Int), .bool P, .bool P,bif P then .pointer (some ⟨g2,1,none⟩)else undef,bif P then .slice A n c else undef,bif P then .int .i64 (n:Int)else undef,bif P then .int .i64 (q:Int)else undef,bif P then .pointer (some (Y.add (q*6)))else undef,bif P then .pointer (some (Y.add (q*6)))else undef,bif P then .agg d.key.cells.toArray else undef,bif P then .pointer (some ⟨g3,0,none⟩)else undef,bif P then .agg a.key.cells.toArray else undef,bif P then .int .i64 (ew d.key a.key)else undef,bif P then .bool Q else undef, .bool B] ?zI ?_;case zI=>
   refine⟨?yQ,?zN,?zO,?zP,?zQ,?zR,?zS,?zT,?zU,?zV,?zA,?zB,?zC,?zD,?zE,trivial⟩;all_goals intro u w' m g
   all_goals simp only[z1,z2,z3,z4,ar,Act.put,z5,z6,z7,Nat.reduceAdd,Nat.zero_add]
   case zN=>
    simp only[ah (g 0)];refine aI ?_;have t1:=a8.out;go_simp;exact aR
   case' zO=>simp only[ah (g 1)]
   case' zP=>
    simp only[ah (g 2)];cases P;case false=>exact bS
   case zQ=>
    simp only[ah (g 3),ah (g 2)];cases P;case false=>exact bS
    refine aI ?_;have cU:_=some _:=(M2.out.fr (ay.out.trans m) (λx=>x)).cell 1;go_simp;exact aR
   case' zR=>
    simp only[ah (g 2)];cases P;case false=>exact bS
   case zS=>
    simp only[ah (g 5),ah (g 2)];cases P;case false=>exact bS
    refine aI ?_;have o:=of_decide_eq_true aW.out;have ap:(n:Int)-1=(q:Int):=(bn.out o).1;have bM:IntKind.i64.wrap (q:Int)=(q:Int):=IntWalk.i64_in _ (by have:=al.out;have:=bn.out o;omega);go_simp;exact aR
   case zT=>
    simp only[ah (g 4),ah (g 6),ah (g 2)];cases P;case false=>exact bS
    refine aI ?_;have o:=of_decide_eq_true aW.out;have ap:A=some Y:=aG.out o;have bM:(q:Int)<(n:Int):=by have:=bn.out o;omega
    have ci:(0:Int)<=(q:Int):=by omega
    clear aG;subst ap;go_simp;exact aR
   case' zU=>
    simp only[ah (g 7),ah (g 2)];cases P;case false=>exact bS
   case zV=>
    simp only[ah (g 8),ah (g 2)];cases P;case false=>exact bS
    refine aI ?_;have o:=of_decide_eq_true aW.out;exact au _ _ rfl (Y.add (q*6)) rfl d.key.cells _ (λcn v a0=>(aj.out.trans (ay.out.trans m)).ak ((O.out o).2.2 cn v a0) (λx=>x)) underlying43 rfl gj aR
   case' zA=>
    simp only[ah (g 2)];cases P;case false=>exact bS
   case zB=>
    simp only[ah (g 10),ah (g 2)];cases P;case false=>exact bS
    refine aI ?_;exact au _ _ rfl ⟨g3,0,none⟩ rfl a.key.cells _ (cx.out _ (ay.out.trans m)) underlying43 rfl gj aR
   case zC=>
    simp only[ah (g 9),ah (g 11),ah (g 2)];cases P;case false=>exact bS
    refine aI ?_;have o:=of_decide_eq_true aW.out;go_simp;refine(bx.out o _).mono ?_;rintro e bt⟨rfl,f4⟩;exact⟨rfl,f4⟩
   case zD=>
    simp only[ah (g 12),ah (g 2)];cases P;case false=>exact bS
    refine aI ?_;have t:=EQ.out;go_simp;exact aR
   case zE=>
    simp only[ah (g 2),ah (g 13)];cases P<;>exact aI (by go_simp;exact⟨by rw[<-aC.out];rfl,aA⟩)
   all_goals
    try simp only[cond]
    refine aI ?_;go_simp;exact aR
  intro w' m;simp only[z1,z2,z3,z4,ar,Act.put,z5,z6,z7,z8,z9,jS,jT,Nat.reduceAdd,Nat.zero_add];have H:=af (ay.out.trans m);clear m ay cO bx EQ;generalize w'=cu at*;have a5:Hid (B=(P&&Q)):=by have:=aC.out;rw[Hid,<-this];cases P<;>rfl
  have K:=af (I.out B a5.out);clear I a5 aC aG aW a8 O bn;cases B
  ·have J:Hid (dP L a=(0,L++[a])):=K.out;go_upto_region 7 with fail;refine Ae 10 [iS (.agg cs.toArray),iS (.agg [Value.pointer (some ⟨b,0,none⟩), .slice A n c].toArray),iS (.int .i64 (n:Int)),⟨λv X=>∃s:Nat,v= .pointer (some ⟨s,0,none⟩)/\dQ X s (eY L E),λ_ _ _ f⟨s,e,h⟩=>⟨s,e,h.ao f⟩⟩,⟨λv _=>∃p:Option Addr,v= .tuple #[.pointer p, .int .i64 0],λ_ _ _ _ h=>h⟩,⟨λv _=>∃p:Option Addr,v= .tuple #[.pointer p, .int .i64 0],λ_ _ _ _ h=>h⟩,⟨λv _=>∃p:Option Addr,v= .pointer p,λ_ _ _ _ h=>h⟩,iS (.int .i64 0),⟨λv _=>∃p:Option Addr,v= .pointer p,λ_ _ _ _ h=>h⟩,iS (.int .i64 0)] ?zL ?_;case zL=>
    refine⟨?zZ,?yA,?yT,?yB,?yC,?yD,?yE,?yF,?yG,?yH,trivial⟩;all_goals intro u w' m g
    all_goals simp only[z1,z2,z3,z4,ar,Act.put,z5,z6,z7,Nat.reduceAdd,Nat.zero_add]
    case zZ=>
     refine aI ?_;exact au _ _ rfl ⟨g3,0,none⟩ rfl cs _ (bo.out _ (H.out.trans m)) underlying46 rfl aH.out ⟨_,rfl,aA,rfl⟩
    case yA=>
     refine aI ?_;exact au _ _ rfl ⟨g2,0,none⟩ rfl [Value.pointer (some ⟨b,0,none⟩), .slice A n c] _ (bH.out _ (H.out.trans m)) underlying28 rfl iY ⟨_,rfl,aA,rfl⟩
    case yB=>
     simp only[ah (g 1),ah (g 2)];refine aI ?_;go_simp;refine(bm.out _ (aj.out.trans (H.out.trans m))).mono ?_;rintro e bt⟨s,rfl,aQ,f4⟩;exact⟨_,rfl,f4,⟨s,rfl,aQ⟩⟩
    case yC=>
     obtain⟨cV,bL,be⟩:=g 3;simp only[ah (g 0),bL];refine aI ?_;go_simp;refine(ax.out _ _ (aj.out.trans (H.out.trans m)) be).mono ?_;rintro e bt⟨p,rfl,f4⟩;exact⟨_,rfl,f4,⟨p,rfl⟩⟩
    case yD=>
     obtain⟨cK,ch⟩:=g 4;simp only[ch];refine aI ?_;go_simp;exact⟨_,rfl,aA,⟨cK,rfl⟩⟩
    case yE=>
     obtain⟨ct,ap⟩:=g 5;simp only[ap];refine aI ?_;go_simp;exact⟨_,rfl,aA,⟨ct,rfl⟩⟩
    case yF=>
     obtain⟨ct,ap⟩:=g 5;simp only[ap];refine aI ?_;go_simp;exact⟨_,rfl,aA,rfl⟩
    case yG=>
     obtain⟨cN,bM⟩:=g 6;simp only[bM];refine aI ?_;go_simp;exact⟨_,rfl,aA,⟨cN,rfl⟩⟩
    case yH=>
     simp only[ah (g 7)];refine aI ?_;go_simp;exact⟨_,rfl,aA,rfl⟩
    all_goals
     refine aI ?_;go_simp;exact⟨_,rfl,aA,rfl⟩
   intro u w' m g;obtain⟨cT,bc⟩:=g 8 (by omega);simp only[z1,z2,z3,z4,ar,Act.put,z5,z6,z7,z8,z9,Nat.reduceAdd,Nat.zero_add,ah (g 9 (by omega))];clear g;simp only[bc];clear bc;have F:=af (H.out.trans m);clear m bm ax H y;generalize w'=bu at*;have ac:=af (aj.out.trans F.out);have bv:Hid (∀W,Fr Nothing w W->dJ W r L):=λW f=>bC.out.cJ f (fN.nothing _);have bb:Hid (∀W,Fr Nothing w W->Rd W (λ_=>True) 6 A n r.flatten):=λW f=>by
    have h:W.ownsRow 0 46 6 (.slice A n c) L.length r.flatten:=aP cz.out f (λ_ _ x=>x);rw[<-al.out.1]at h;exact(Rd.ia h).any
   go_upto_region 10 with fail;refine FG 11 Nothing (λi=>i==8) (λi j=>(i==8&&(j==2||j==5||j==7))) [iS (.pointer (some ⟨g2,0,none⟩)),iS (.pointer (some ⟨b,0,none⟩)),⟨λV ag=>∃i:Nat,V= .slice (some ⟨i,0,none⟩) 0 0/\ag.ownsRow 0 46 6 (.slice (some ⟨i,0,none⟩) 0 0) 0 []/\bu.heap.size<=i,λ_ _ _ f⟨i,e,h,l⟩=>⟨i,e,aP h f (λ_ _ x=>x),l⟩⟩,iS (.pointer (some ⟨g2,1,none⟩)),iS (.slice A n c),⟨λV ag=>ag.ownsRow 0 46 6 V n r.flatten/\∀k,V.ownBlock=some k->bu.heap.size<=k,λ_ _ _ f h=>⟨aP h.1 f (λ_ _ x=>x),h.2⟩⟩,iS (.agg cs.toArray),⟨λV ag=>∃i:Nat,V= .slice (some ⟨i,0,none⟩) 1 1/\aq ag i 46 cs.toArray,λ_ _ _ f⟨i,e,h⟩=>⟨i,e,h.fr f (λx=>x)⟩⟩,⟨λV ag=>ag.ownsRow 0 46 6 V (L.length+1) (r.flatten++cs)/\∀k,V.ownBlock=some k->bu.heap.size<=k,λ_ _ _ f h=>⟨aP h.1 f (λ_ _ x=>x),h.2⟩⟩,⟨λV ag=>∃(ab:Option Addr)(U Z:Nat),V= .agg [Value.pointer (some ⟨b,0,none⟩), .slice ab U Z].toArray/\U=L.length+1/\U<=Z/\ag.ownsRow 0 46 6 (.slice ab U Z) (L.length+1) (r.flatten++cs)/\∀k,(Value.slice ab U Z).ownBlock=some k->bu.heap.size<=k,λ_ _ _ f⟨ab,U,Z,e,bW,bd,be,bX⟩=>⟨ab,U,Z,e,bW,bd,aP be f (λ_ _ x=>x),bX⟩⟩,iS (.int .i64 0)] ?zM ?_;case zM=>
    refine⟨?yU,?yI,?yJ,?yV,?yK,?yL,?yM,?yN,?yO,?yP,?zF,trivial⟩;all_goals intro u w' m g b3
    all_goals simp only[z1,z2,z3,z4,ar,Act.put,z5,z6,z7,Nat.reduceAdd,Nat.zero_add]
    case yI=>
     simp only[ah (g 0)];refine aI ?_;have q:_=some _:=(M2.out.fr (F.out.trans m) (λx=>x)).cell 0;go_simp;exact⟨_,rfl,aA,rfl⟩
    case yJ=>
     refine aI ?_;refine lX 26 46 rfl i0 underlying26 ad ?_;intro cu av;exact⟨_,rfl,av.fr,⟨w'.heap.size,rfl,av.Km,m.size⟩⟩
    case yK=>
     simp only[ah (g 3)];refine aI ?_;have q:_=some _:=(M2.out.fr (F.out.trans m) (λx=>x)).cell 1;go_simp;exact⟨_,rfl,aA,rfl⟩
    case yL=>
     obtain⟨i2,bK,bd,l2⟩:=g 2;simp only[bK,ah (g 4)];refine aI ?_;refine Cx (.tmp 53) (.tmp 55) 26 rfl 46 i0 eF 6 88 underlying26 ad aS T bl rfl (by decide) i2 rfl bd (λ_=>True) A n c r.flatten rfl (bb.out _ (ac.out.trans m)) (by have:=al.out;omega) (by have:=al.out;omega) ?_;intro v5 cu cI b1 cH;exact⟨_,rfl,b1,cI,λk o=>(cH k o).elim (λe=>by omega) (λe=>Nat.le_trans m.size e)⟩
    case yM=>
     refine aI ?_;exact au _ _ rfl ⟨g3,0,none⟩ rfl cs _ (bo.out _ (F.out.trans m)) underlying46 rfl aH.out ⟨_,rfl,aA,rfl⟩
    case yN=>
     simp only[ah (g 6)];refine aI ?_;refine wp_buildSlice 26 46 1 #[(0, .tmp 57)] rfl cs.toArray i0 eF underlying26 ad aS bT.out bU.out ?_ ?_;·simp only[List.map_toArray,List.map_cons,List.map_nil];exact bV.out cs a4.out
     ·exact⟨_,rfl,aA.alloc _,⟨w'.heap.size,rfl,aq.new _ _ _⟩⟩
    case yO=>
     obtain⟨cE,co⟩:=g 5;obtain⟨i7,ci,cF⟩:=g 7;simp only[ci];refine aI ?_;refine uM _ (.tmp 56) (.tmp 58) 26 rfl 46 i0 eF 6 88 underlying26 ad aS T bl rfl (by decide) _ _ _ rfl cE (λ_=>True) (some ⟨i7,0,none⟩) 1 1 cs rfl ⟨by have:=a4.out;omega,λ_=>⟨_,rfl,trivial,λcn x C=>by rw[Addr.add_mid,Nat.zero_add,cF.cell,bP];exact C⟩⟩ (λu hu=>by have h:=bB.out;rw[Array.all_eq_true_iff_forall_mem]at h;exact h u (by simpa using hu)) (by have:=al.out;omega) (by decide) ?_;intro cX cY aL;refine⟨_,rfl,⟨m.aw aL.fr (λk o e=>by have:=co k e;omega),?_⟩,?_,λk o=>(aL.eL k o).elim (co k) (λh=>Nat.le_trans m.size h)⟩;·exact⟨λ_ h=>h,λ_ h=>h,nP,λ_ h=>h,λ_ h=>h,nP,λ_ h=>h,nP,nP,nP,nP,trivial⟩
     ·rw[<-al.out.1];exact aL.own
    case yP=>
     obtain⟨bZ,cp⟩:=g 8;obtain⟨ab,U,Z,bc,cw,bA⟩:=aK bZ;rw[bc]at bZ cp;simp only[ah (g 1),bc];refine aI ?_;exact iw 28 _ rfl [Value.pointer (some ⟨b,0,none⟩), .slice ab U Z].toArray _ (by simp only[List.map_toArray,List.map_cons,List.map_nil];rfl) (Ln b ab U Z) ⟨_,rfl,aA,⟨ab,U,Z,rfl,cw.out,bA.out,bZ,cp⟩⟩
    case zF=>
     refine aI ?_;go_simp;exact⟨_,rfl,aA,rfl⟩
    all_goals
     refine aI ?_;go_simp;exact⟨_,rfl,aA,rfl⟩
   intro u w' m g;obtain⟨a2,aV,aZ,cj,cc,a3,ck,cq⟩:=g 9 (by omega);simp only[z1,z2,z3,z4,ar,Act.put,z5,z6,z7,z8,z9,Nat.reduceAdd,Nat.zero_add,ah (g 10 (by omega))];clear g;simp only[cj];have bj:=af m;have cb:=af (F.out.trans m);have cg:=af (bq.out.fr cb.out (λx=>x));have cA:=af ck;have ce:=af cq;have cy:Hid ([Value.pointer (some ⟨b,0,none⟩), .slice a2 aV aZ].toArray.all (·.oneCell')=true):=by simp[Hid,Value.oneCell']
   have b9:Hid (aV=L.length+1/\aV<=aZ):=⟨cc,a3⟩;clear m ck cq cj cc a3 bb;refine ai rfl 28 (.tmp 5) _ rfl g5 [Value.pointer (some ⟨b,0,none⟩), .slice a2 aV aZ].toArray rfl rfl _ _ cg.out iY rfl cy.out ?_;intro ae am aa;have a9:=af am;have bE:Hid (fN w' (λk=>k=g5)):=fN.of (λk o=>⟨28,(show k=g5 from o)▸cg.out.ty,by decide,by decide,by decide⟩);have bD:Hid (ki ae (.slice a2 aV aZ) (L++[a])):=by
    refine⟨r++[cs],?_,?_⟩
    ·rw[aT,List.length_singleton,List.flatten_append,List.flatten_singleton];exact aP cA.out aa (λk o e=>by
      have bJ:k=g5:=e;have:=ce.out k o;have:=(bq.out.fr F.out (λx=>x)).lt;omega)
    ·exact((bv.out _ (ac.out.trans (by exact bj.out))).snoc (cd.out.ao (ac.out.trans bj.out))).cJ aa bE.out
   have N:=af (M.out ae a2 aV aZ J.out ((aj.out.trans cb.out).aw aa (λi cm e=>by have bJ:i=g5:=e;have:=aE.out;omega)) b9.out.1 b9.out.2 bD.out (λk o=>by have:=ce.out k o;have:=ac.out.size;have:=bF.out;omega));clear am aa;go_wp2;exact bodyPost_ret (fP (fn:=Tryz.f31) (p:=5) (q:=4) (ty:=28) results31 _ ae _ 28 [Value.pointer (some ⟨b,0,none⟩), .slice a2 aV aZ].toArray (0,0) _ rfl a9.out underlying28 rfl iY _ rfl) rfl N.out
  ·have J:Hid (dP L a=(32,L)):=K.out;clear K M ax bm;go_upto_region 6 with fail;refine iH 2 [.agg [Value.pointer (some ⟨b,0,none⟩), .slice A n c].toArray, .int .i64 32] ?zJ ?_;case zJ=>
    refine⟨?zW,?yR,trivial⟩;all_goals intro u w' m g
    all_goals simp only[z1,z2,z3,z4,ar,Act.put,z5,z6,z7,Nat.reduceAdd,Nat.zero_add]
    case zW=>
     refine aI ?_;exact au _ _ rfl ⟨g2,0,none⟩ rfl [Value.pointer (some ⟨b,0,none⟩), .slice A n c] _ (bH.out _ (H.out.trans m)) underlying28 rfl iY aR
    all_goals
     refine aI ?_;go_simp;exact aR
   intro w' m;simp only[z1,z2,z3,z4,ar,Act.put,z5,z6,z7,z8,z9,jS,jT,Nat.reduceAdd,Nat.zero_add];have F:=af (H.out.trans m);have bI:=af (bq.out.fr F.out (λx=>x));clear m;refine ai rfl 28 (.tmp 5) _ rfl g5 [Value.pointer (some ⟨b,0,none⟩), .slice A n c].toArray rfl rfl _ _ bI.out iY rfl cf.out ?_;intro ae am aa;have a9:=af am;have N:=af (y.out ae 32 J.out ((aj.out.trans F.out).aw aa (λi cm e=>by have bJ:i=g5:=e;have:=aE.out;omega)));clear am aa;go_wp2;exact bodyPost_ret (fP (fn:=Tryz.f31) (p:=5) (q:=4) (ty:=28) results31 _ ae _ 28 [Value.pointer (some ⟨b,0,none⟩), .slice A n c].toArray (0,0) _ rfl a9.out underlying28 rfl iY _ rfl) rfl N.out
 ·have R:fR a=false:=by simpa using D
  have a6:Hid (jO a= .tuple #[.string ByteArray.empty, .int .i64 3]):=by rw[Hid,jO,R];rfl
  have J:=af (xR (L:=L) R);rw[a6.out];clear D R a6 M bw bm az bx;go_upto_region 3 with fail;have H:=ay;refine iH 3 [.int .i64 3, .agg [Value.pointer (some ⟨b,0,none⟩), .slice A n c].toArray, .int .i64 3] ?zK ?_;case zK=>
   refine⟨?yS,?zX,?zY,trivial⟩;all_goals intro u w' m g
   all_goals simp only[z1,z2,z3,z4,ar,Act.put,z5,z6,z7,Nat.reduceAdd,Nat.zero_add]
   case zX=>
    refine aI ?_;exact au _ _ rfl ⟨g2,0,none⟩ rfl [Value.pointer (some ⟨b,0,none⟩), .slice A n c] _ (bH.out _ (H.out.trans m)) underlying28 rfl iY aR
   case' zY=>simp only[ah (g 0)]
   all_goals
    refine aI ?_;go_simp;exact aR
  intro w' m;simp only[z1,z2,z3,z4,ar,Act.put,z5,z6,z7,z8,z9,jS,jT,Nat.reduceAdd,Nat.zero_add];have F:=af (H.out.trans m);have bI:=af (bq.out.fr F.out (λx=>x));clear m;refine ai rfl 28 (.tmp 5) _ rfl g5 [Value.pointer (some ⟨b,0,none⟩), .slice A n c].toArray rfl rfl _ _ bI.out iY rfl cf.out ?_;intro ae am aa;have a9:=af am;have N:=af (y.out ae 3 J.out ((aj.out.trans F.out).aw aa (λi cm e=>by have bJ:i=g5:=e;have:=aE.out;omega)));clear am aa;go_wp2;exact bodyPost_ret (fP (fn:=Tryz.f31) (p:=5) (q:=4) (ty:=28) results31 _ ae _ 28 [Value.pointer (some ⟨b,0,none⟩), .slice A n c].toArray (0,0) _ rfl a9.out underlying28 rfl iY _ rfl) rfl N.out
theorem Di(w:World)(h b:Nat)(c:w.cell? ⟨h,0,none⟩=some (.pointer (some ⟨b,0,none⟩))):Calls prog 47 #[.pointer (some ⟨h,0,none⟩)] w (bJ w (.pointer (some ⟨b,0,none⟩))):=by
 have a:=af (jQ w h b c);go_enter func47,ntmps47;go_wp2_with fail;refine a.out.mono ?_;rintro e w'⟨rfl,rfl⟩;go_wp2;go_ret;exact⟨rfl,rfl⟩
def Aj(w:World)(L:List ActV)(e:Ending)(w':World):Prop:=∃g,e= .returned (.slice (some ⟨g,0,none⟩) L.length L.length)/\ki w' (.slice (some ⟨g,0,none⟩) L.length L.length) L/\Fr Nothing w w'/\w.heap.size<=g
structure Cz(w wr:World)(g n k:Nat)(L:List ActV):Prop where
 fr:Fr Nothing w wr
 lt:w.heap.size<=g
 row:∃(cs:List (List Value))(Z:List Value),aq wr g 46 (cs.flatten++Z).toArray/\cs.flatten.length=k*6/\Z.length=(n-k)*6/\dJ wr cs (L.take k)
theorem xl(h:Nat)(E:List Ent)(L:List ActV)(T:Nat->Prop)(w:World)(aS:dR w h E L T)(aU:L.length<=65536)(aG:∀a∈L,a.reads.length<=1099511627776/\a.writes.length<=1099511627776):
  Calls prog 48 #[.pointer (some ⟨h,0,none⟩)] w (Aj w L):=by
 obtain⟨b,s,g0,va,vk,K,A,c,mb,Q,rfl⟩:=aS;obtain⟨d,p,J⟩:=Q.iJ;obtain⟨V,n1,zB,rfl,H1,_⟩:=aK p;obtain⟨i0,O,ap,U,ar⟩:=info_parts tC;have aa:Hid (∀j,j<L.length->∃I m a,V=some I/\L[j]? =some a/\cL w m a/\m.length=6/\∀i x,m[i]? =some x->w.cell? ((I.add (j*6)).add i)=some x):=λj am=>kQ p J H1.out am;have G:Hid (n1=L.length/\n1<=65536):=by have:=H1.out;exact⟨this,by omega⟩
 have ax:=af (jQ w h b (Q.aF.cell 0));have aZ:w.cell? ⟨h,1,none⟩=some (.slice V n1 zB):=Q.aF.cell 1;have ag:Hid (∀W,Fr Nothing w W->W.cell? ⟨h,1,none⟩=some (.slice V n1 zB)):=λW f=>(Q.aF.fr f id).cell 1;have aM:=af aG;clear Q p J H1 aU aG;go_enter func48,ntmps48;go_wp2_with fail;refine ax.out.mono ?_;rintro e w'⟨rfl,rfl⟩;clear ax;go_wp2_with(at_make;refine wpList_make_full _ rfl _ _ 26 rfl 0 46 i0 eF 6 underlying26 O ap U _ _ _ _ n1 rfl rfl rfl rfl ?zB ?zH (Nat.zero_le _) ?_);case zB=>rw[ar];have:=G.out;omega
 case zH=>unfold maxLen;have:=G.out;omega
 intro w1 S N;have ac:Hid (Fr Nothing w w1):=(Fr.grown N).mono (λk _ X=>by cases X);have az:Hid (∃Z:List Value,aq w1 w.heap.size 46 Z.toArray/\Z.length=n1*6):=by
  rcases S.2 with⟨R,_⟩|⟨a1,cap,cur,R,_,u,_,_,an,_⟩;·cases R
  ·cases R;exact⟨cur.toList,by rw[Array.toArray_toList];exact u,by rw[Array.length_toList];exact an⟩
 have n:Hid (w.heap.size<=w.heap.size):=Nat.le_refl _;generalize aE:w.heap.size=g at*;have aA:Hid (Cz w w1 g n1 0 L):=by
  obtain⟨Z,u,aW⟩:=az.out;exact⟨ac.out,by rw[aE];exact Nat.le_refl _,[],Z,by simpa using u,by simp,by simpa using aW,by simp[dJ]⟩
 have au:w1.cell? ⟨h,1,none⟩=some (.slice V n1 zB):=ag.out _ ac.out;clear S N az ac aZ aE n;go_wp2;go_loopw[19](λi wr=>∃k:Nat,k<=n1/\i= .int .i64 (k:Int)/\Cz w wr g n1 k L)(λi _=>n1-(intOf i).toNat);case atStart=>exact⟨0,Nat.zero_le _,rfl,aA.out⟩
 case round=>
  obtain⟨k,X,rfl,aD⟩:=hrel;have r:=af aD;have aL:=af X;clear aD X aA au;by_cases C:k<n1
  ·have t0:decide ((k:Int)<(n1:Int))=true:=cX (by omega);obtain⟨I,m,a,rfl,B,z,l,o⟩:=aa.out k (by have:=G.out;omega);have i1:(k:Int)<(n1:Int):=by omega
   have i2:(0:Int)<=(k:Int):=by omega
   have aC:Hid ((prog.info? 46).map (·.size)=some m.length):=by rw[Hid,l];exact bQ
   have ai:Hid ((prog.info? 46).map (·.size)=some m.toArray.size):=by rw[Hid,List.size_toArray,l];exact bQ
   have ah:Hid (6=m.toArray.size):=by rw[Hid,List.size_toArray,l]
   have F:Hid (∀i x,m[i]? =some x->wr.cell? ((I.add (k*6)).add i)=some x):=λi x zC=>r.out.fr.ak (o i x zC) id;have aP:=af (ActV.one z);have aH:Hid (∀W,Fr Nothing w W->cL W m a):=λW f=>z.ao f;have aN:Hid (L.take (k+1)=L.take k++[a]):=by rw[Hid,List.take_add_one,B,Option.toList_some]
   have H:=af (aM.out a (List.mem_of_getElem? B));have a4:IntKind.i64.wrap ((k:Int)+1)=(k:Int)+1:=IntWalk.i64_in _ (by have:=G.out;omega);have n:=af C;clear o z l B C;go_wp2_with(refine aB rfl 46 (.tmp 22) rfl (I.add (k*6)) rfl m _ ?zA underlying46 rfl aC.out (aX.go ?zF));case zA=>exact F.out
   unfold aX;go_wp2_with(refine pW rfl rfl rfl 46 5 rfl rfl (.tmp 21) rfl _ rfl eF kh #[.int .i64 0, .int .i64 0, .int .i64 0, .string ByteArray.empty, .slice none 0 0, .slice none 0 0] rfl (.int .i64 (k:Int)) m.toArray (λ_=>rfl) (λ_=>rfl) (λ_=>rfl) ai.out ah.out aP.out ?_);intro w2 g5 M _ b2 f2;have av:=af b2;have ay:=af f2;have aJ:=af M;clear b2 f2 M F;have aj:Hid (∀j x,m[j]? =some x->w2.cell? ((⟨g5,0,none⟩:Addr).add j)=some x):=ly av.out;go_wp2_with(refine aB rfl 46 (.tmp 5) rfl ⟨g5,0,none⟩ rfl m _ ?zD underlying46 rfl aC.out (aX.go ?zG));case zD=>first|exact aj.out|exactλj x zC=>by have q:=aj.out j x zC;rw[Addr.add_mid,Nat.zero_add]at q;exact q
   unfold aX;go_wp2_with fail;refine(ph a m w2 (aH.out _ (r.out.fr.trans ay.out)) H.out.1 H.out.2).mono ?_;rintro e w3⟨cs,rfl,t,f3,P⟩;have aI:=af t;have Y:=af (ay.out.trans f3);obtain⟨d,Z,u,l,D,zA⟩:=r.out.row;have HB:=af (u.fr Y.out id);have ab:=af (dJ.cJ Y.out (fN.nothing _) zA);have ae:Hid (d.flatten.length=k*6/\Z.length=(n1-k)*6/\cs.length=6):=⟨l,D,t.len⟩;have al:Hid (∀v∈cs,v.oneCell'=true):=λv R=>by
    have q:=ActV.one t;rw[List.all_toArray,List.all_eq_true]at q;exact q v R
   have ad:Hid (k*6+cs.length<=(d.flatten++Z).length):=by
    have:=ae.out;have:=n.out;simp only[Hid,aT];omega
   clear t f3 P u l D zA aj av;go_wp2_with(refine oV rfl 46 (.tmp 28) (.tmp 27) rfl g (k*6) ?zC i0 O cs rfl (by rw[ae.out.2.2,U]) al.out 46 (d.flatten++Z) HB.out ad.out (aX.go ?zE));case zC=>first|rfl|simp[Addr.add_mid]
   unfold aX;intro aY b4 f4;have aO:Hid (Cz w aY g n1 (k+1) L):=by
    have a3:=ae.out;have y:fN w3 (λj=>j=g):=fN.of (λj am=>⟨46,(show j=g from am)▸HB.out.ty,by decide,by decide,by decide⟩);refine⟨(r.out.fr.trans Y.out).aw f4 (λi a2 e=>by have a0:i=g:=e;have:=r.out.lt;omega),r.out.lt,d++[cs],Z.drop 6,?_,?_,?_,?_⟩
    ·have aQ:(d.flatten++Z).take (k*6)=d.flatten:=by rw[List.take_append_of_le_length (by omega),List.take_of_length_le (by omega)]
     have aR:(d.flatten++Z).drop (k*6+cs.length)=Z.drop 6:=by
      rw[List.drop_append,List.drop_of_length_le (by omega),List.nil_append];congr 1;omega
     have e:(d.flatten++Z).take (k*6)++(cs++(d.flatten++Z).drop (k*6+cs.length))=(d++[cs]).flatten++Z.drop 6:=by
      rw[aQ,aR];simp
     first|rw[e]at b4|rw[List.append_assoc,e]at b4
     exact b4
    ·simp only[List.flatten_append,aT,List.flatten_cons,List.flatten_nil,List.append_nil];omega
    ·rw[List.length_drop];omega
    ·rw[aN.out];exact dJ.snoc (dJ.cJ f4 y ab.out) (aI.out.cJ f4 y)
   clear b4 f4;go_wp2;go_roundw;case rel=>exact⟨k+1,by have:=n.out;omega,by go_num,aO.out⟩
   case measure=>simp[intOf];have:=n.out;omega
  ·have t0:decide ((k:Int)<(n1:Int))=false:=ct (by omega);obtain rfl:k=n1:=by have:=aL.out;omega
   clear C;go_wp2;go_ret;obtain⟨d,Z,u,l,D,zA⟩:=r.out.row;obtain rfl:Z=[]:=List.length_eq_zero_iff.1 (by omega);rw[List.append_nil]at u;have aV:=G.out;rw[List.take_of_length_le (by omega)]at zA;have e:=aV.1;subst e;exact⟨g,rfl,⟨d,⟨by rw[l], .inr ⟨g,L.length,d.flatten.toArray,rfl,Nat.zero_le _,u,Nat.le_refl _,by unfold maxLen;omega,by rw[List.size_toArray,l],by rw[List.toList_toArray];exact List.take_of_length_le (by omega)⟩⟩,zA⟩,r.out.fr,r.out.lt⟩
def wK(rt:List UInt8)(i n:Int)(l:List UInt8)(path:List (List UInt8)):Bool:=decide ((Lt.dq (eD l) (i+1) (n+1) path).2.2=0)&&decide ((Lt.dq (eD l) (i+1) (n+1) path).1=rt)
def sg(rt:List UInt8)(i n:Int)(l:List UInt8)(path:List (List UInt8)):Int:=
 if n<1\/65536<n\/i<0\/n<=i then 2 else if jo l=none then 3 else if wK rt i n l path=true then 0 else 35
def nZ(w:World)(rt:List UInt8)(i n:Int)(l:List UInt8)(path:List (List UInt8))(e:Ending)(w':World):Prop:=
 ∃cs a b,e= .returned (.tuple #[.agg cs.toArray, .int .i64 b])/\cL w' cs a/\Fr Nothing w w'/\b=sg rt i n l path/\(b=0->jo l=some a)/\(b≠0->a=oN)
theorem yQ(rt:List UInt8)(ay:rt.length=32)(i n:Int)(d:ByteArray)(path:List (List UInt8))(len:Nat)(A:Option Addr)(c:Nat)(S:Nat->Prop)(w:World)(bz:Lt.gK w S A len path)(V:len<=1048576)(cg:dO w)(bJ:bU w)(ch:d.size<=16777216):
  Calls prog 17 #[bj rt, .agg [Value.int .i64 i, .int .i64 n, .string d, .slice A len c].toArray] w (nZ w rt i n (aQ d) path):=by
 have D:Hid (sg rt i n (aQ d) path=if n<1\/65536<n\/i<0\/n<=i then 2 else if jo (aQ d)=none then 3 else if wK rt i n (aQ d) path=true then 0 else 35):=rfl;have b2:Hid (∀w',Fr Nothing w w'->Calls prog 20 #[.string d] w' (yL w' (aQ d))):=λw' f=>xI d w' (cg.ao f) ch;have CL:Hid (∀w',Fr Nothing w w'->Calls prog 59 #[.string d] w' (aM w' (bj (eD (aQ d))))):=λw' f=>vV d w' (bJ.ao f) (by omega);have Y:Hid (∀(k m:Nat)w',Fr Nothing w w'->m<=65536->Calls prog 58 #[bj (eD (aQ d)), .int .i64 ((k:Int)+1), .int .i64 ((m:Int)+1), .slice A len c] w' (aM w' (.tuple #[bj (Lt.dq (eD (aQ d)) ((k:Int)+1) ((m:Int)+1) path).1, .int .i64 (Lt.dq (eD (aQ d)) ((k:Int)+1) ((m:Int)+1) path).2.2]))):=λk m w' f hm=>
  Lt.GM (eD (aQ d)) (kE _) _ _ (by omega) path len A c S w' (bz.ao f) V (bJ.ao f);have aP:Hid (∀k m:Int,(Lt.dq (eD (aQ d)) k m path).1.length=32):=λk m=>Lt.pH (eD (aQ d)) (kE _) k m path bz.each;have l:Hid (∀ae:Int,sg rt i n (aQ d) path=ae->ae≠0->∀w',Fr Nothing w w'->nZ w rt i n (aQ d) path (.returned (.tuple #[.agg ca.toArray, .int .i64 ae])) w'):=λae R T w' f=>⟨_,_,_,rfl,rm w',f,R.symm,λh=>absurd h T,λ_=>rfl⟩;have r:Hid (∀cs a w',sg rt i n (aQ d) path=0->jo (aQ d)=some a->cL w' cs a->Fr Nothing w w'->nZ w rt i n (aQ d) path (.returned (.tuple #[.agg cs.toArray, .int .i64 0])) w'):=λcs a w' R T ak f=>⟨_,_,_,rfl,ak,f,R.symm,λ_=>T,λh=>absurd rfl h⟩;have aU:Hid (∀k m:Nat,wK rt (k:Int) (m:Int) (aQ d) path=(decide ((Lt.dq (eD (aQ d)) ((k:Int)+1) ((m:Int)+1) path).2.2=0)&&decide ((Lt.dq (eD (aQ d)) ((k:Int)+1) ((m:Int)+1) path).1=rt))):=λ_ _=>rfl;have cn:Hid (Lt.dL (rt.map bK).toArray):=Lt.dL.of ay;have bg:=af ay;have cm:Hid (Lt.dL ((eD (aQ d)).map bK).toArray):=Lt.dL.of (kE _);unfold bj at CL Y⊢;generalize bA:(eD (aQ d)).map bK=cr at*;generalize a2:rt.map bK=aC at*;have bh:=af a2;generalize nZ w rt i n (aQ d) path=PP at*;clear bz V cg bJ ch ay bA a2;go_enter func17,ntmps17;go_wp2_with(refine aD rfl 38 (.tmp 0) rfl aC.toArray rfl ?_);intro w1 n1;have a9:=af n1;clear n1;generalize av:w.heap.size=g2 at*;have bX:Hid (aq w1 g2 38 aC.toArray):=by have q:=a9.out.aF;rw[av]at q;exact q
 have cp:Hid (w.heap.size<=g2):=by rw[Hid,av];exact Nat.le_refl _
 clear av;go_wp2_with(refine aD rfl 33 (.tmp 1) rfl [Value.int .i64 i, .int .i64 n, .string d, .slice A len c].toArray rfl ?_);intro w2 ci;have aW:=af ci;clear ci;generalize a6:w1.heap.size=H at*;have cc:Hid (aq w2 H 33 [Value.int .i64 i, .int .i64 n, .string d, .slice A len c].toArray):=by have q:=aW.out.aF;rw[a6]at q;exact q
 clear a6;go_wp2_with(refine an rfl 46 rfl eF kh ca.toArray rfl ?_);intro w3 n3;have aY:=af n3;clear n3;generalize a4:w2.heap.size=g4 at*;have aE:Hid (aq w3 g4 46 ca.toArray):=by have q:=aY.out.aF;rw[a4]at q;exact q
 have Z:Hid (Fr Nothing w w3):=(a9.out.fr.trans aW.out.fr).trans aY.out.fr;have E:Hid (w.heap.size<=g4):=by have:=(a9.out.fr.trans aW.out.fr).size;simp only[Hid];omega
 clear a4;have bY:=af ((bX.out.fr aW.out.fr id).fr aY.out.fr id);have aZ:=af (cc.out.fr aY.out.fr id);clear a9 aW aY bX cc;have M:Hid (∀W,Fr Nothing w3 W->W.cell? {block:=H,off:=0}=some (.int .i64 i)/\W.cell? {block:=H,off:=1}=some (.int .i64 n)/\W.cell? {block:=H,off:=2}=some (.string d)/\W.cell? {block:=H,off:=3}=some (.slice A len c)):=λW f=>⟨(aZ.out.fr f id).cell 0,(aZ.out.fr f id).cell 1,(aZ.out.fr f id).cell 2,(aZ.out.fr f id).cell 3⟩;obtain⟨cM,cN,cO,x3⟩:=M.out _ aA;by_cases R:n<1;·have t1:decide (n<1)=true:=decide_eq_true R;have G:=af (l.out 2 (by rw[D.out,if_pos (by omega)]) (by decide));clear l r;go_wp2_with(first|(refine wpList_buildTo rfl 46 #[] rfl ca.toArray gh ?_)|(refine ai rfl 46 (.tmp 4) _ rfl g4 ca.toArray rfl rfl _ _ aE.out bQ rfl gG ?_));intro t C y;have I:=af C;have J:Hid (Fr Nothing w t):=Z.out.aw y (λi ax e=>by have ad:i=g4:=e;have:=E.out;omega);clear C y;go_wp2;exact bodyPost_ret (bm (fn:=Tryz.f17) (p:=4) (q:=5) (ty:=46) results17 _ t _ 46 ca.toArray (0,0) _ rfl I.out underlying46 rfl bQ _ rfl) rfl (G.out t J.out)
 have t1:decide (n<1)=false:=decide_eq_false R;by_cases T:65536<n;·have t2:decide (65536<n)=true:=decide_eq_true T;have G:=af (l.out 2 (by rw[D.out,if_pos (by omega)]) (by decide));clear l r;go_wp2_with(first|(refine wpList_buildTo rfl 46 #[] rfl ca.toArray gh ?_)|(refine ai rfl 46 (.tmp 4) _ rfl g4 ca.toArray rfl rfl _ _ aE.out bQ rfl gG ?_));intro t C y;have I:=af C;have J:Hid (Fr Nothing w t):=Z.out.aw y (λi ax e=>by have ad:i=g4:=e;have:=E.out;omega);clear C y;go_wp2;exact bodyPost_ret (bm (fn:=Tryz.f17) (p:=4) (q:=5) (ty:=46) results17 _ t _ 46 ca.toArray (0,0) _ rfl I.out underlying46 rfl bQ _ rfl) rfl (G.out t J.out)
 have t2:decide (65536<n)=false:=decide_eq_false T;by_cases ak:i<0;·have t3:decide (i<0)=true:=decide_eq_true ak;have G:=af (l.out 2 (by rw[D.out,if_pos (by omega)]) (by decide));clear l r;go_wp2_with(first|(refine wpList_buildTo rfl 46 #[] rfl ca.toArray gh ?_)|(refine ai rfl 46 (.tmp 4) _ rfl g4 ca.toArray rfl rfl _ _ aE.out bQ rfl gG ?_));intro t C y;have I:=af C;have J:Hid (Fr Nothing w t):=Z.out.aw y (λi ax e=>by have ad:i=g4:=e;have:=E.out;omega);clear C y;go_wp2;exact bodyPost_ret (bm (fn:=Tryz.f17) (p:=4) (q:=5) (ty:=46) results17 _ t _ 46 ca.toArray (0,0) _ rfl I.out underlying46 rfl bQ _ rfl) rfl (G.out t J.out)
 have t3:decide (i<0)=false:=decide_eq_false ak;by_cases a0:n<=i;·have t4:decide (n<=i)=true:=decide_eq_true a0;have G:=af (l.out 2 (by rw[D.out,if_pos (by omega)]) (by decide));clear l r;go_wp2_with(first|(refine wpList_buildTo rfl 46 #[] rfl ca.toArray gh ?_)|(refine ai rfl 46 (.tmp 4) _ rfl g4 ca.toArray rfl rfl _ _ aE.out bQ rfl gG ?_));intro t C y;have I:=af C;have J:Hid (Fr Nothing w t):=Z.out.aw y (λi ax e=>by have ad:i=g4:=e;have:=E.out;omega);clear C y;go_wp2;exact bodyPost_ret (bm (fn:=Tryz.f17) (p:=4) (q:=5) (ty:=46) results17 _ t _ 46 ca.toArray (0,0) _ rfl I.out underlying46 rfl bQ _ rfl) rfl (G.out t J.out)
 have t4:decide (n<=i)=false:=decide_eq_false a0;have ac:Hid (¬(n<1\/65536<n\/i<0\/n<=i)):=by simp only[Hid];omega
 go_wp2_with fail;refine(b2.out _ Z.out).mono ?_;rintro e X⟨cs,a,ae,rfl,am,f4,K⟩;have b7:=af (Z.out.trans f4);have ba:=af am;have bo:=af (aE.out.fr f4 id);have bZ:=af (bY.out.fr f4 id);have aK:Hid (∀W,Fr Nothing X W->W.cell? {block:=H,off:=0}=some (.int .i64 i)/\W.cell? {block:=H,off:=1}=some (.int .i64 n)/\W.cell? {block:=H,off:=2}=some (.string d)/\W.cell? {block:=H,off:=3}=some (.slice A len c)):=λW f=>M.out W (f4.trans f);have N:=af K;have a7:=am.len;have F:=af a7;clear K am f4 cM cN cO x3 M aZ Z aE bY b2 a7;go_wp2_with(refine an rfl 46 rfl eF kh ca.toArray rfl ?_);intro cI n5;have bl:=af n5;clear n5;generalize a5:X.heap.size=g6 at*;have b3:Hid (aq cI g6 46 ca.toArray):=by have q:=bl.out.aF;rw[a5]at q;exact q
 have be:Hid (X.heap.size<=g6/\g4<g6/\w.heap.size<=g6):=by have:=bo.out.lt;have:=b7.out.size;simp only[Hid];omega
 clear a5;go_wp2_with(refine ai rfl 46 (.tmp 6) _ rfl g6 cs.toArray rfl rfl _ _ b3.out (qm _ F.out) (by rw[List.size_toArray,List.size_toArray,F.out];rfl) (ActV.one ba.out) ?_);intro cK ce f6;have b5:=af ce;have az:Hid (Fr Nothing X cK):=bl.out.fr.aw f6 (λi ax e=>by have ad:i=g6:=e;have:=be.out;omega);have aL:=af (b7.out.trans az.out);have aN:=af az.out;have bT:=af (ba.out.ao az.out);have bq:=af (bo.out.fr az.out id);have b0:=af (bZ.out.fr az.out id);clear ce f6 bl b3 az bo bZ ba;by_cases ap:ae=0;case neg=>
  obtain⟨rfl,a3,_⟩:ae=3/\jo (aQ d)=none/\a=oN:=by
   rcases N.out with⟨h,_⟩|h;·exact absurd h ap
   ·exact h
  have bb:=af a3;have t5:((3:Int)!=0)=true:=rfl;clear ap a3 N;have G:=af (l.out 3 (by rw[D.out,if_neg ac.out,if_pos bb.out]) (by decide));clear l r;go_wp2_with(first|(refine wpList_buildTo rfl 46 #[] rfl ca.toArray gh ?_)|(refine ai rfl 46 (.tmp 4) _ rfl g4 ca.toArray rfl rfl _ _ bq.out bQ rfl gG ?_));intro t C y;have I:=af C;have J:Hid (Fr Nothing w t):=aL.out.aw y (λi ax e=>by have ad:i=g4:=e;have:=E.out;omega);clear C y;go_wp2;exact bodyPost_ret (bm (fn:=Tryz.f17) (p:=4) (q:=5) (ty:=46) results17 _ t _ 46 ca.toArray (0,0) _ rfl I.out underlying46 rfl bQ _ rfl) rfl (G.out t J.out)
 subst ap;have t5:((0:Int)!=0)=false:=rfl;have aa:Hid (jo (aQ d)=some a):=by
  rcases N.out with⟨_,h⟩|⟨h,_⟩;·exact h
  ·cases h
 clear N;obtain⟨m,rfl⟩:∃m:Nat,n=m:=⟨n.toNat,by omega⟩;obtain⟨k,rfl⟩:∃k:Nat,i=k:=⟨i.toNat,by omega⟩;have bf:Hid (m<=65536/\k<=65536):=by simp only[Hid];omega
 have cu:Hid (IntKind.i64.wrap ((k:Int)+1)=(k:Int)+1):=IntWalk.i64_in _ (by have:=bf.out;omega);have cv:Hid (IntKind.i64.wrap ((m:Int)+1)=(m:Int)+1):=IntWalk.i64_in _ (by have:=bf.out;omega);have aJ:=af (λw' f=>Y.out k m w' f bf.out.1);have aS:=af (aP.out ((k:Int)+1) ((m:Int)+1));have aT:=af (aU.out k m);have a8:Hid (Lt.dL ((Lt.dq (eD (aQ d)) ((k:Int)+1) ((m:Int)+1) path).1.map bK).toArray):=Lt.dL.of aS.out;generalize(Lt.dq (eD (aQ d)) ((k:Int)+1) ((m:Int)+1) path).2.2=U at*;generalize(Lt.dq (eD (aQ d)) ((k:Int)+1) ((m:Int)+1) path).1=fr at*;generalize a1:fr.map bK=L at*;have bd:=af a1;clear a1 Y aP aU t1 t2 t3 t4 R T ak a0;have M:=af (λW f=>aK.out W f);have bn:Hid (∀w:World,(binOp .neq 38 (.agg L.toArray) (.agg aC.toArray)).run prog w= .ok (.bool (!decide (fr=rt))) w):=λw=>by
  rw[<-bd.out,<-bh.out];exact Kv w _ underlying38 fr rt aS.out bg.out
 have bi:Hid ((prog.info? 38).map (·.size)=some L.length):=by have q:=a8.out.info;rw[List.size_toArray]at q;exact q
 have bk:Hid ((prog.info? 38).map (·.size)=some aC.length):=by have q:=cn.out.info;rw[List.size_toArray]at q;exact q
 go_upto_region 6 with fail;refine xi 18 38 [λv=>v= .pointer (some ⟨H,2,none⟩),λv=>v= .string d,λv=>v= .agg cr.toArray,λv=>v= .pointer (some ⟨H,0,none⟩),λv=>v= .int .i64 (k:Int),λv=>v= .int .i64 ((k:Int)+1),λv=>v= .pointer (some ⟨H,1,none⟩),λv=>v= .int .i64 (m:Int),λv=>v= .int .i64 ((m:Int)+1),λv=>v= .pointer (some ⟨H,3,none⟩),λv=>v= .slice A len c,λv=>v= .tuple #[.agg L.toArray, .int .i64 U],λv=>v= .tuple #[.agg L.toArray, .int .i64 U],λv=>v= .agg L.toArray,λv=>v= .int .i64 U,λ_=>True,λ_=>True,λv=>v= .int .i64 U] [] [(15,aH)] [(16,15,L.toArray)] (by kernel_rfl) (by kernel_rfl) (by kernel_rfl) trivial ?_ ?_
 ·refine⟨λu w' o b s=>?_,λu w' o b s=>?_,λu w' o b s=>?_,λu w' o b s=>?_,λu w' o b s=>?_,λu w' o b s=>?_,λu w' o b s=>?_,λu w' o b s=>?_,λu w' o b s=>?_,λu w' o b s=>?_,λu w' o b s=>?_,λu w' o b s=>?_,λu w' o b s=>?_,λu w' o b s=>?_,λu w' o b s=>?_,λu w' o b=>?_,λu w' g o b cF bL=>?_,λu w' o b s=>?_,trivial⟩;all_goals simp only[bC,bD,bE,bF,ar,Act.put,bG,bH,bI,Nat.reduceAdd,Nat.zero_add]
  ·clear b s;refine aj ?_;go_simp;exact⟨_,rfl,gI⟩
  ·have cy:u 0=_:=b 0 (by kernel_rfl);clear b s;simp only[cy];refine aj ?_;have q:=M.out _ (aN.out.trans o);obtain⟨bM,bN,bO,bR⟩:=q;go_simp;exact⟨_,rfl,gI⟩
  ·have R:u 1=_:=b 1 (by kernel_rfl);clear b s;simp only[R];refine aj ?_;go_simp;refine(CL.out _ (aL.out.trans o)).mono ?_;rintro e X⟨rfl,f4⟩;exact⟨_,rfl,rfl,trivial,f4⟩
  ·clear b s;refine aj ?_;go_simp;exact⟨_,rfl,gI⟩
  ·have ak:u 3=_:=b 3 (by kernel_rfl);clear b s;simp only[ak];refine aj ?_;have q:=M.out _ (aN.out.trans o);obtain⟨bM,bN,bO,bR⟩:=q;go_simp;exact⟨_,rfl,gI⟩
  ·have a0:u 4=_:=b 4 (by kernel_rfl);clear b s;simp only[a0];refine aj ?_;have cR:=cu.out;go_simp;exact⟨_,rfl,gI⟩
  ·clear b s;refine aj ?_;go_simp;exact⟨_,rfl,gI⟩
  ·have cA:u 6=_:=b 6 (by kernel_rfl);clear b s;simp only[cA];refine aj ?_;have q:=M.out _ (aN.out.trans o);obtain⟨bM,bN,bO,bR⟩:=q;go_simp;exact⟨_,rfl,gI⟩
  ·have cB:u 7=_:=b 7 (by kernel_rfl);clear b s;simp only[cB];refine aj ?_;have cS:=cv.out;go_simp;exact⟨_,rfl,gI⟩
  ·clear b s;refine aj ?_;go_simp;exact⟨_,rfl,gI⟩
  ·have cD:u 9=_:=b 9 (by kernel_rfl);clear b s;simp only[cD];refine aj ?_;have q:=M.out _ (aN.out.trans o);obtain⟨bM,bN,bO,bR⟩:=q;go_simp;exact⟨_,rfl,gI⟩
  ·have T:u 2=_:=b 2 (by kernel_rfl);have cz:u 5=_:=b 5 (by kernel_rfl);have cC:u 8=_:=b 8 (by kernel_rfl);have bs:u 10=_:=b 10 (by kernel_rfl);clear b s;simp only[T,cz,cC,bs];refine aj ?_;go_simp;refine(aJ.out _ (aL.out.trans o)).mono ?_;rintro e X⟨rfl,f4⟩;exact⟨_,rfl,rfl,trivial,f4⟩
  ·have bt:u 11=_:=b 11 (by kernel_rfl);clear b s;simp only[bt];refine aj ?_;go_simp;exact⟨_,rfl,gI⟩
  ·have ag:u 12=_:=b 12 (by kernel_rfl);clear b s;simp only[ag];refine aj ?_;go_simp;exact⟨_,rfl,gI⟩
  ·have ag:u 12=_:=b 12 (by kernel_rfl);clear b s;simp only[ag];refine aj ?_;go_simp;exact⟨_,rfl,gI⟩
  ·clear b;refine aj ?_;refine lW 38 rfl bp jn aH rfl ?_;intro X n4;exact⟨_,rfl,trivial,trivial,rfl,n4⟩
  ·have bu:u 13=_:=b 13 (by kernel_rfl);clear b;simp only[bu,cF];refine aj ?_;obtain⟨cs,hm,bL⟩:=bL;obtain rfl:cs=aH:=by simpa using hm
   refine Lt.oM 38 (.tmp 8) (.tmp 53) rfl g L.toArray rfl rfl _ _ bL a8.out.info a8.out.zero a8.out.one ?_;intro X b4 f4;exact⟨_,rfl,trivial,b4,f4⟩
  ·have bv:u 14=_:=b 14 (by kernel_rfl);clear b s;simp only[bv];refine aj ?_;go_simp;exact⟨_,rfl,gI⟩
 intro u w' o b hN cE;have bx:u 17=_:=b 17 (by omega);obtain⟨g8,bw,cH,b8⟩:=hN 15 aH (by simp);have b1:Hid (aq w' g8 38 L.toArray):=b8;have cP:=af o;have b9:=af (aL.out.trans o);have aG:=af (b0.out.fr o id);have cd:=af (bq.out.fr o id);have b6:=af (b5.out.fr o id);have bV:=af (bT.out.ao o);clear b hN cE o b8 cH CL aJ M aK aN aL b0 bq b5 bT;simp only[bC,bD,bE,bF,ar,Act.put,bG,bH,bI,dt,du,Nat.reduceAdd,Nat.zero_add,bx,bw];generalize w'=cQ at*;obtain⟨P,cf⟩:∃P,(U !=0)=P:=⟨_,rfl⟩;have ab:=af cf;obtain⟨Q,bB⟩:∃Q,(!decide (fr=rt))=Q:=⟨_,rfl⟩;have aV:=af bB;rw[bB]at bn;clear cf bB;obtain⟨B,al⟩:∃z:Bool,(bif P then true else Q)=z:=⟨_,rfl⟩;have HB:=af al;clear al;go_upto_region 7 with fail;refine lF 7 [.int .i64 U, .bool P, .bool P,bif P then undef else .agg L.toArray,bif P then undef else .agg aC.toArray,bif P then undef else .bool Q, .bool B] ?zC ?_;case zC=>
  refine⟨?zJ,?zD,?zE,?zF,?zG,?zH,?zI,trivial⟩;all_goals intro u w' o b
  all_goals simp only[z1,z2,z3,z4,ar,Act.put,z5,z6,z7,Nat.reduceAdd,Nat.zero_add]
  case zD=>
   simp only[ah (b 0)];refine aI ?_;have t1:=ab.out;go_simp;exact aR
  case' zE=>simp only[ah (b 1)]
  case zF=>
   simp only[ah (b 2)];cases P;case true=>exact bS
   refine aI ?_;exact au _ _ rfl ⟨g8,0,none⟩ rfl L _ (ly (b1.out.fr o id)) underlying38 rfl bi.out aR
  case zG=>
   simp only[ah (b 2)];cases P;case true=>exact bS
   refine aI ?_;exact au _ _ rfl ⟨g2,0,none⟩ rfl aC _ (ly (aG.out.fr o id)) underlying38 rfl bk.out aR
  case zH=>
   simp only[ah (b 3),ah (b 4),ah (b 2)];cases P;case true=>exact bS
   refine aI ?_;exact mJ _ _ _ _ _ rfl _ _ rfl rfl eqGuardType38 _ (bn.out _) aR
  case zI=>
   simp only[ah (b 2),ah (b 5)];cases P<;>exact aI (by go_simp;exact⟨by rw[<-HB.out];rfl,aA⟩)
  all_goals
   try simp only[cond]
   refine aI ?_;go_simp;exact aR
 intro w' o;simp only[z1,z2,z3,z4,ar,Act.put,z5,z6,z7,z8,z9,jS,jT,Nat.reduceAdd,Nat.zero_add];have cb:=af (b9.out.trans o);have br:=af (cd.out.fr o id);have cl:=af (b6.out.fr o id);have bW:=af (bV.out.ao o);have O:Hid (wK rt (k:Int) (m:Int) (aQ d) path=!B):=by
  rw[Hid,aT.out,<-HB.out];have cw:decide (U=0)=!P:=by
   rw[<-ab.out,bne,Bool.not_not];by_cases h:U=0<;>simp[h]
  have cx:decide (fr=rt)=!Q:=by rw[<-aV.out,Bool.not_not]
  rw[cw,cx];cases P<;>cases Q<;>rfl
 clear o HB aT ab aV bn b9 cd b6 bV b1 aG;cases al:B;case true=>
  have aO:Hid (sg rt (k:Int) (m:Int) (aQ d) path=35):=by
   rw[D.out,if_neg ac.out,if_neg (by rw[aa.out];simp),O.out,al];rfl
  clear al O D;have G:=af (l.out 35 aO.out (by decide));clear l r;go_wp2_with(first|(refine wpList_buildTo rfl 46 #[] rfl ca.toArray gh ?_)|(refine ai rfl 46 (.tmp 4) _ rfl g4 ca.toArray rfl rfl _ _ br.out bQ rfl gG ?_));intro t C y;have I:=af C;have J:Hid (Fr Nothing w t):=cb.out.aw y (λi ax e=>by have ad:i=g4:=e;have:=E.out;omega);clear C y;go_wp2;exact bodyPost_ret (bm (fn:=Tryz.f17) (p:=4) (q:=5) (ty:=46) results17 _ t _ 46 ca.toArray (0,0) _ rfl I.out underlying46 rfl bQ _ rfl) rfl (G.out t J.out)
 have bc:Hid (sg rt (k:Int) (m:Int) (aQ d) path=0):=by
  rw[D.out,if_neg ac.out,if_neg (by rw[aa.out];simp),O.out,al];rfl
 clear al O D l;have cq:Hid ((prog.info? 46).map (·.size)=some cs.length):=by rw[Hid,F.out];exact bQ
 have ct:Hid (cs.toArray.all (·.oneCell')=true):=ActV.one bW.out;go_wp2_with(refine aB rfl 46 (.tmp 6) rfl ⟨g6,0,none⟩ rfl cs _ ?zA underlying46 rfl cq.out (aX.go ?zB));case zA=>
  intro j x cG;rw[Addr.add_mid,Nat.zero_add,cl.out.cell j,bP];exact cG
 unfold aX;go_wp2_with(refine ai rfl 46 (.tmp 4) _ rfl g4 cs.toArray rfl rfl _ _ br.out (qm _ F.out) (by rw[List.size_toArray,List.size_toArray,F.out];rfl) ct.out ?_);intro t C y;have ck:=af C;have co:Hid (Fr Nothing w t):=cb.out.aw y (λi ax e=>by have ad:i=g4:=e;have:=E.out;omega);have cj:Hid (cL t cs a):=bW.out.cJ y (pz br.out (by decide) (by decide) (by decide));have G:=af (r.out cs a t bc.out aa.out cj.out co.out);clear C y;go_wp2;exact bodyPost_ret (bm (fn:=Tryz.f17) (p:=4) (q:=5) (ty:=46) results17 _ t _ 46 cs.toArray (0,0) _ rfl ck.out underlying46 rfl (qm _ F.out) _ rfl) rfl G.out
def uT(L:List ActV)(k:dM)(i:Int)(b:Bool):Prop:=(b=true/\∃(j:Nat)(a:ActV),i=(j:Int)/\L[j]? =some a/\a.key=k)\/(b=false/\∀a∈L,a.key≠k)
def sq(L:List ActV)(k:dM)(lo b:Nat):Prop:=(∀t a,t<lo->L[t]? =some a->ew a.key k<0)/\(∀t a,b<=t->L[t]? =some a->0<=ew a.key k)
open Classical in
noncomputable def Gg(L:List ActV)(k:dM):Nat:=if h:∃m,m<=L.length/\sq L k m m then h.choose else 0
theorem Gh{L:List ActV}{k:dM}{m n:Nat}(hm:m<=L.length)(b:sq L k m m)(c:sq L k n n):m<=n:=by
 rcases Nat.lt_or_ge n m with h|h
 ·have a:n<L.length:=by omega
  have:=b.1 n _ h (List.getElem?_eq_getElem a);have:=c.2 n _ (Nat.le_refl _) (List.getElem?_eq_getElem a);omega
 ·exact h
theorem Lp{L:List ActV}{k:dM}{m:Nat}(hm:m<=L.length)(h:sq L k m m):Gg L k=m:=by
 have a:∃m,m<=L.length/\sq L k m m:=⟨m,hm,h⟩;unfold Gg;rw[dif_pos a];exact Nat.le_antisymm (Gh a.choose_spec.1 a.choose_spec.2 h) (Gh hm h a.choose_spec.2)
def Gl(L:List ActV)(k:dM):Bool:=L.any (λa=>ew a.key k==0)
theorem Lx{L:List ActV}{k:dM}{i:Int}{b:Bool}(h:uT L k i b):Gl L k=b:=by
 rcases h with⟨rfl,j,a,_,d,rfl⟩|⟨rfl,h⟩;·exact List.any_eq_true.2 ⟨a,List.mem_of_getElem? d,beq_iff_eq.2 (iU.refl _)⟩
 ·rw[Gl,List.any_eq_false];intro a c e;exact h a c (iU.eq _ _ (beq_iff_eq.1 e))
def sD(w:World)(L:List ActV)(k:dM)(e:Ending)(w':World):Prop:=e= .returned (.tuple #[.int .i64 (Gg L k:Int), .bool (Gl L k)])/\Fr Nothing w w'/\uT L k (Gg L k) (Gl L k)
theorem sD.of{w w':World}{L:List ActV}{k:dM}{m:Nat}{b:Bool}(hm:m<=L.length)(a:sq L k m m)(c:Fr Nothing w w')(h:uT L k (m:Int) b):sD w L k (.returned (.tuple #[.int .i64 (m:Int), .bool b])) w':=by
 rw[sD,Lp hm a,Lx h];exact⟨rfl,c,h⟩
end Go.Proofs.YtphjagkehiklkaaGreatDoor
namespace Go.Proofs.YtphjagkehiklkaaGreatDoor
open Proofs.Tryz Go.RowKit
theorem fM.behind{W w w':World}{v:Value}{l:List UInt8}(h:fM W w v l)(k:Fr Nothing w w'):fM W w' v l:=by
 obtain⟨i,g,cap,rfl,b,a,e,c,f,n,m⟩:=h;exact⟨i.trans k,g,cap,rfl,b,Nat.lt_of_lt_of_le a k.size,e,c,λj d=>by rw[k.cell a id];exact f j d,λj d=>by rw[k.frozen a id];exact n j d,λj u hu=>by rw[k.cell a id];exact m j u hu⟩
theorem fM.slice{W w:World}{v:Value}{l:List UInt8}(h:fM W w v l):∃g c,v= .slice (some ⟨g,0,none⟩) l.length c/\Rd w (λk=>k=g) 1 (some ⟨g,0,none⟩) l.length (l.map bK):=by
 obtain⟨m,g,cap,rfl,a,d,e,b,i,n,f⟩:=h;exact⟨g,cap,rfl,by simp,λ_=>⟨_,rfl,rfl,λj u hu=>by rw[Addr.add_mid,Nat.zero_add];exact f j u hu⟩⟩
theorem fM.store{W w:World}{g n cap p:Nat}{l:List UInt8}(h:fM W w (.slice (some ⟨g,0,none⟩) n cap) l)(t:p<l.length)(x:UInt8):fM W (w.setCell ⟨g,p,none⟩ (bK x)) (.slice (some ⟨g,0,none⟩) n cap) (l.set p x):=by
 obtain⟨s,A,o,y,b,d,i,c,q,z,v⟩:=h;cases y;have f:=q p (by omega);refine⟨Fr.setCell s (λm=>absurd m (by simp only;omega)) _,g,cap,by rw[List.length_set],b,by simpa[World.setCell]using d,by rw[List.length_set];exact i,c,λj a=>?_,λj a=>?_,λj u hu=>?_⟩;·have:=Lib.isSome_setCells g [bK x] p w ⟨g,j,none⟩ (q j a);simpa[World.setCells]using this
 ·have:=World.frozen?_setCells (w:=w) g [bK x] p ⟨g,j,none⟩;simp only[World.setCells]at this;rw[this];exact z j a
 ·by_cases a:j=p;·subst a;rw[List.map_set,List.getElem?_set_self (by simpa using t)]at hu;have e:=World.cell?_setCells_in g [bK x] j w (λk r=>by simp at r;subst r;exact f) 0 (by simp);simp only[World.setCells,Nat.add_zero,List.getElem_cons_zero]at e;rw[e,<-hu]
  ·rw[List.map_set,List.getElem?_set_ne (Ne.symm a)]at hu;have e:=World.cell?_setCells_out g [bK x] p w ⟨g,j,none⟩ (λ_ _=>by simp only[List.length_singleton];omega);simp only[World.setCells]at e;rw[e];exact v j u hu
theorem xh{ops:Array Oper}{rest:List Oper}{I:Oper}{a:Act}{w:World}{Q:Exit->Act->World->Prop}(e:I.guard=none)(x y:Operand)(u:I.op= .store 5 x y)
  {W:World}(g p n cap:Nat)(b:UInt8)(B:a.eval x= .pointer (some ⟨g,p,none⟩))(C:a.eval y= .int .u8 ((b.toNat:Nat):Int)){l:List UInt8}(k:fM W w (.slice (some ⟨g,0,none⟩) n cap) l)(v:p<l.length)
  (h:∀w',fM W w' (.slice (some ⟨g,0,none⟩) n cap) (l.set p b)->wpList prog ops Q rest (a.put I.dst undef) w'):wpList prog ops Q (I::rest) a w:=by
 obtain⟨E,f,_,z,_⟩:=info_parts sU;have d:=k;obtain⟨G,F,j,A,o,s,t,r,q,D,H⟩:=d;cases A;obtain⟨i,hold⟩:=Option.isSome_iff_exists.1 (q p (by omega));have c:=Lib.rl_storeVar_one (P:=prog) 5 E f z ⟨g,p,none⟩ (.int .u8 ((b.toNat:Nat):Int)) i rfl w hold (D p (by omega));refine wpList_plain e λK m=>?_;unfold Oper.wp execOp;simp only[u,B,C,Instr.storeAt,Instr.sureAddr,Sem.run_bind,Sem.run_pure,Result.andThen_ok,c];exact m _ _ (h _ (k.store v b))
end Go.Proofs.YtphjagkehiklkaaGreatDoor
