/- Texts. -/
import Derived.Test.YtphjagkehiklkaaGreatDoorEK20
import Derived.Test.YtphjagkehiklkaaGreatDoorEK24
set_option linter.unusedVariables false
set_option linter.unusedSimpArgs false
set_option maxRecDepth 100000
set_option maxHeartbeats 8000000
namespace Go.Proofs.YtphjagkehiklkaaGreatDoor
open Proofs.Tryz Go.RowKit Go.Shelf
theorem tO:∀args w,(callFunc 19 args).run prog w= .ok (.enter 19 args) w:=λ_ _=>by kernel_rfl
theorem xF{L M:List ActV}{k:Nat}{a b:ActV}(c:L[k]? =some a)(d:M[k]? =some b)(h:L.take k=M.take k)(e:a=b):L.take (k+1)=M.take (k+1):=by
 rw[List.take_add_one,List.take_add_one,c,d,h,e]
theorem Bc(L M:List ActV)(A:Option Addr)(n c:Nat)(B:Option Addr)(m d:Nat)(w:World)(au:n=L.length)(hm:m=M.length)(aG:n<=65536)
  (N:∀j,j<L.length->∃v g a,A=some v/\L[j]? =some a/\cL w g a/\g.length=6/\∀i x,g[i]? =some x->w.cell? ((v.add (j*6)).add i)=some x)
  (O:∀j,j<M.length->∃v g a,B=some v/\M[j]? =some a/\cL w g a/\g.length=6/\∀i x,g[i]? =some x->w.cell? ((v.add (j*6)).add i)=some x)
  (av:∀a∈L,a.reads.length<=1099511627776/\a.writes.length<=1099511627776)(E:Bool)(ap:E=true↔L=M):
  Calls prog 98 #[.slice A n c, .slice B m d, .func (.func 19) #[] #[]] w (aM w (.bool E)):=by
 have U:=af N;have V:=af O;have aj:=af av;have H:Hid (n=L.length/\m=M.length):=⟨au,hm⟩;have Y:=af ap;have X:=tO;clear N O av au hm ap;go_enter func98,ntmps98;by_cases C:n=m;case neg=>
  have t0:((n:Int)!=(m:Int))=true:=by rw[bne_iff_ne];omega
  have t1:(n !=m)=true:=by rw[bne_iff_ne];exact C
  obtain rfl:E=false:=by
   cases E;·rfl
   ·exact absurd (by rw[H.out.1,H.out.2,Y.out.1 rfl]) C
  go_wp2;go_ret;exact aR
 subst C;have t0:((n:Int)!=(n:Int))=false:=by simp
 go_wp2;go_loopw[17](λi wr=>∃k:Nat,k<=n/\i= .int .i64 (k:Int)/\L.take k=M.take k/\Fr Nothing w wr)(λi _=>n-(intOf i).toNat);case atStart=>exact⟨0,Nat.zero_le _,rfl,by rw[List.take_zero,List.take_zero],aA⟩
 case round=>
  obtain⟨k,ar,rfl,P,aq⟩:=hrel;have F:=af aq;have az:=af ar;have I:=af P;clear aq ar P;by_cases aF:k<n
  ·have t0:decide ((k:Int)<(n:Int))=true:=cX (by omega);have i0:(k:Int)<(n:Int):=by omega
   have i1:(0:Int)<=(k:Int):=by omega
   have aK:IntKind.i64.wrap ((k:Int)+1)=(k:Int)+1:=IntWalk.i64_in _ (by omega);obtain⟨v,g,a,rfl,s,y,t,l⟩:=U.out k (by have:=H.out;omega);obtain⟨an,p,b,rfl,K,z,u,o⟩:=V.out k (by have:=H.out;omega);have al:Hid ((prog.info? 46).map (·.size)=some g.length):=by rw[Hid,t];exact bQ
   have am:Hid ((prog.info? 46).map (·.size)=some p.length):=by rw[Hid,u];exact bQ
   have ab:Hid ((prog.info? 46).map (·.size)=some g.toArray.size):=by rw[Hid,List.size_toArray,t];exact bQ
   have ac:Hid ((prog.info? 46).map (·.size)=some p.toArray.size):=by rw[Hid,List.size_toArray,u];exact bQ
   have Z:Hid (6=g.toArray.size):=by rw[Hid,List.size_toArray,t]
   have aa:Hid (6=p.toArray.size):=by rw[Hid,List.size_toArray,u]
   have aD:=af (ActV.one y);have aE:=af (ActV.one z);have S:Hid (∀i x,g[i]? =some x->wr.cell? ((v.add (k*6)).add i)=some x):=λi x D=>F.out.ak (l i x D) id;have T:Hid (∀W,Fr Nothing wr W->∀i x,p[i]? =some x->W.cell? ((an.add (k*6)).add i)=some x):=λW f i x D=>(F.out.trans f).ak (o i x D) id;have ay:Hid (∀W,Fr Nothing wr W->Calls prog 19 #[.agg g.toArray, .agg p.toArray] W (aM W (.bool (Hw a b)))):=λW f=>oX a b g p W (y.ao (F.out.trans f)) (z.ao (F.out.trans f)) (aj.out a (List.mem_of_getElem? s)).1 (aj.out a (List.mem_of_getElem? s)).2;have G:=af (vO a b);have r:Hid (L[k]? =some a/\M[k]? =some b):=⟨s,K⟩;generalize Hw a b=Q at*;clear s K y z t u l o;go_wp2_with(refine aB rfl 46 (.tmp 20) rfl (v.add (k*6)) rfl g _ ?zA underlying46 rfl al.out (aX.go ?zE));case zA=>exact S.out
   unfold aX;go_wp2_with(refine pW rfl rfl rfl 46 8 rfl rfl (.tmp 19) rfl _ rfl eF kh #[.int .i64 0, .int .i64 0, .int .i64 0, .string ByteArray.empty, .slice none 0 0, .slice none 0 0] rfl (.int .i64 (k:Int)) g.toArray (λ_=>rfl) (λ_=>rfl) (λ_=>rfl) ab.out Z.out aD.out ?_);intro w2 g8 _ _ b2 f2;have aw:=af b2;have ag:=af f2;clear b2 f2;go_wp2_with(refine aB rfl 46 (.tmp 24) rfl (an.add (k*6)) rfl p _ ?zB underlying46 rfl am.out (aX.go ?zF));case zB=>exact T.out _ ag.out
   unfold aX;go_wp2_with(refine rk rfl rfl 46 9 rfl rfl _ rfl eF kh #[.int .i64 0, .int .i64 0, .int .i64 0, .string ByteArray.empty, .slice none 0 0, .slice none 0 0] rfl p.toArray (λ_=>rfl) (λ_=>rfl) ac.out aa.out aE.out ?_);intro w3 g9 _ _ b3 f3;have ax:=af b3;have R:=af (aw.out.fr f3 id);have ah:=af (ag.out.trans f3);clear b3 f3;have ad:Hid (∀j x,g[j]? =some x->w3.cell? ((⟨g8,0,none⟩:Addr).add j)=some x):=ly R.out;have ae:Hid (∀j x,p[j]? =some x->w3.cell? ((⟨g9,0,none⟩:Addr).add j)=some x):=ly ax.out;go_wp2_with(refine aB rfl 46 (.tmp 8) rfl ⟨g8,0,none⟩ rfl g _ ?zC underlying46 rfl al.out (aX.go ?zG));case zC=>first|exact ad.out|exactλj x D=>by have q:=ad.out j x D;rw[Addr.add_mid,Nat.zero_add]at q;exact q
   unfold aX;go_wp2_with(refine aB rfl 46 (.tmp 9) rfl ⟨g9,0,none⟩ rfl p _ ?zD underlying46 rfl am.out (aX.go ?holds));case zD=>first|exact ae.out|exactλj x D=>by have q:=ae.out j x D;rw[Addr.add_mid,Nat.zero_add]at q;exact q
   unfold aX;go_wp2_with fail;refine(ay.out _ ah.out).mono ?_;rintro e aJ⟨rfl,f4⟩;have ai:=af (F.out.trans (ah.out.trans f4));clear f4;cases Q
   ·obtain rfl:E=false:=by
     cases E;·rfl
     ·have h:=Y.out.1 rfl;subst h;have J:=r.out.1;rw[r.out.2]at J;injection J with J;have:=G.out.2 J.symm;cases this
    go_wp2;go_ret;exact⟨rfl,ai.out⟩
   ·have aC:=af (xF r.out.1 r.out.2 I.out (G.out.1 rfl));go_wp2;go_roundw;case rel=>exact⟨k+1,by omega,by go_num,aC.out,ai.out⟩
    case measure=>simp[intOf];omega
  ·obtain rfl:k=n:=by have:=az.out;omega
   have t0:decide ((k:Int)<(k:Int))=false:=ct (by omega);have aH:¬(k:Int)<(k:Int):=by omega
   have aI:¬k<k:=by omega
   obtain rfl:E=true:=Y.out.2 (by
    have h:=I.out;have J:=H.out;rwa[List.take_of_length_le (by omega),List.take_of_length_le (by omega)]at h);go_wp2;go_ret;exact⟨rfl,F.out⟩
theorem Am(h k:Nat)(E F:List Ent)(L M:List ActV)(T S:Nat->Prop)(w:World)(aq:dR w h E L T)(au:dR w k F M S)(ad:lz E)(ae:lz F)(av:L.length<=65536)
  (aj:∀a∈L,a.reads.length<=1099511627776/\a.writes.length<=1099511627776)(P Q:Bool)(ag:P=true↔E=F)(ai:Q=true↔L=M):
  Calls prog 43 #[.pointer (some ⟨h,0,none⟩), .pointer (some ⟨k,0,none⟩)] w (aM w (.bool (P&&Q))):=by
 obtain⟨b,s,g,va,vk,K,A,c,mb,v,_⟩:=aq;obtain⟨B,aE,aD,ax,ay,aB,aA,aC,aw,n,_⟩:=au;obtain⟨ap,m,t⟩:=v.iJ;obtain⟨y,n1,C,rfl,H1,_⟩:=aK m;obtain⟨ac,l,p⟩:=n.iJ;obtain⟨z,G,D,rfl,H,_⟩:=aK l;have al:Hid (∀W,Fr Nothing w W->Calls prog 40 #[.pointer (some ⟨b,0,none⟩), .pointer (some ⟨B,0,none⟩)] W (aM W (.bool P))):=λW f=>qH E F b B W (v.base.ao f) (n.base.ao f) ad ae P ag;have am:Hid (∀W,Fr Nothing w W->Calls prog 98 #[.slice y n1 C, .slice z G D, .func (.func 19) #[] #[]] W (aM W (.bool Q))):=λW f=>by
  refine Bc L M y n1 C z G D W H1.out H.out (by have:=H1.out;omega) (λj Y=>?_) (λj Y=>?_) aj Q ai;·obtain⟨I,J,a,O,R,U,V,X⟩:=kQ m t H1.out Y;exact⟨I,J,a,O,R,U.ao f,V,λi x Z=>f.ak (X i x Z) id⟩
  ·obtain⟨I,J,a,O,R,U,V,X⟩:=kQ l p H.out Y;exact⟨I,J,a,O,R,U.ao f,V,λi x Z=>f.ak (X i x Z) id⟩
 have aa:Hid (∀W,Fr Nothing w W->W.cell? ⟨h,0,none⟩=some (.pointer (some ⟨b,0,none⟩))/\W.cell? ⟨h,1,none⟩=some (.slice y n1 C)):=λW f=>⟨(v.aF.fr f id).cell 0,(v.aF.fr f id).cell 1⟩;have ab:Hid (∀W,Fr Nothing w W->W.cell? ⟨k,0,none⟩=some (.pointer (some ⟨B,0,none⟩))/\W.cell? ⟨k,1,none⟩=some (.slice z G D)):=λW f=>⟨(n.aF.fr f id).cell 0,(n.aF.fr f id).cell 1⟩;have r:=tO;clear v n m t H1 l p H ad ae av aj ag ai;go_enter func43,ntmps43;go_upto_region 3 with fail;refine iH 21 [.pointer (some ⟨h,0,none⟩), .pointer (some ⟨h,0,none⟩), .pointer (some ⟨h,0,none⟩), .pointer (some ⟨b,0,none⟩), .pointer (some ⟨k,0,none⟩), .pointer (some ⟨k,0,none⟩), .pointer (some ⟨k,0,none⟩), .pointer (some ⟨B,0,none⟩), .bool P, .bool P,bif P then .pointer (some ⟨h,0,none⟩)else undef,bif P then .pointer (some ⟨h,0,none⟩)else undef,bif P then .pointer (some ⟨h,1,none⟩)else undef,bif P then .slice y n1 C else undef,bif P then .pointer (some ⟨k,0,none⟩)else undef,bif P then .pointer (some ⟨k,0,none⟩)else undef,bif P then .pointer (some ⟨k,1,none⟩)else undef,bif P then .slice z G D else undef,bif P then .bool Q else undef,bif P then .bool Q else .bool false,bif P then .bool Q else .bool false] ?zL ?_;case zL=>
  refine⟨?zU,?zM,?zN,?zO,?zV,?zP,?zQ,?zR,?zS,?zT,?zA,?zB,?zC,?zD,?zE,?zF,?zG,?zH,?zI,?zJ,?zK,trivial⟩;all_goals intro u w' o d
  all_goals simp only[z1,z2,z3,z4,ar,Act.put,z5,z6,z7,Nat.reduceAdd,Nat.zero_add]
  case' zM=>simp only[ah (d 0)]
  case' zN=>simp only[ah (d 1)]
  case zO=>
   simp only[ah (d 2)];refine aI ?_;have q:_=some _:=(aa.out _ o).1;go_simp;exact aR
  case' zP=>simp only[ah (d 4)]
  case' zQ=>simp only[ah (d 5)]
  case zR=>
   simp only[ah (d 6)];refine aI ?_;have q:_=some _:=(ab.out _ o).1;go_simp;exact aR
  case zS=>
   simp only[ah (d 3),ah (d 7)];refine aI ?_;go_simp;refine(al.out _ o).mono ?_;rintro e az⟨rfl,N⟩;exact⟨rfl,N⟩
  case' zT=>simp only[ah (d 8)]
  case' zA=>
   simp only[ah (d 9)];cases P;case false=>exact bS
  case' zB=>
   simp only[ah (d 10),ah (d 9)];cases P;case false=>exact bS
  case' zC=>
   simp only[ah (d 11),ah (d 9)];cases P;case false=>exact bS
  case zD=>
   simp only[ah (d 12),ah (d 9)];cases P;case false=>exact bS
   refine aI ?_;have q:_=some _:=(aa.out _ o).2;go_simp;exact aR
  case' zE=>
   simp only[ah (d 9)];cases P;case false=>exact bS
  case' zF=>
   simp only[ah (d 14),ah (d 9)];cases P;case false=>exact bS
  case' zG=>
   simp only[ah (d 15),ah (d 9)];cases P;case false=>exact bS
  case zH=>
   simp only[ah (d 16),ah (d 9)];cases P;case false=>exact bS
   refine aI ?_;have q:_=some _:=(ab.out _ o).2;go_simp;exact aR
  case zI=>
   simp only[ah (d 13),ah (d 17),ah (d 9)];cases P;case false=>exact bS
   refine aI ?_;have q:=r;go_simp;refine(am.out _ o).mono ?_;rintro e az⟨rfl,N⟩;exact⟨rfl,N⟩
  case' zJ=>
   simp only[ah (d 9),ah (d 18)];cases P
  case' zK=>
   simp only[ah (d 19)];cases P
  all_goals
   try simp only[cond]
   refine aI ?_;go_simp;exact aR
 intro w' o;simp only[z1,z2,z3,z4,ar,Act.put,z5,z6,z7,z8,z9,jS,jT,Nat.reduceAdd,Nat.zero_add];have an:=af o;clear o;go_wp2;go_ret;exact⟨by cases P<;>rfl,an.out⟩
theorem Fp(ms:List Value)(h b:Nat)(E:List Ent)(L:List ActV)(T:Nat->Prop)(w:World)(X:dR w h E L T)(Z:Mod w ms b E L)(a1:dO w)(N:cM 24 E)(d:ej L):
  Calls prog 33 #[.agg ms.toArray, .pointer (some ⟨h,0,none⟩)] w (aM w (.bool true)):=by
 have aQ:=Z.len;obtain⟨A,n,c,rfl,ag,be,a3,aN,m,r⟩:=id Z;have a8:=af Z;have bm:=af N;have aZ:=af (kI L E 24 N d.ok d.small);have ap:Hid (n=L.length/\n<=16/\L.length<=16):=by have:=d.len;exact⟨ag,by omega,this⟩
 have Q:Hid (∀j,j<L.length->∃v o a,A=some v/\L[j]? =some a/\cL w o a/\o.length=6/\∀i x,o[i]? =some x->w.cell? ((v.add (j*6)).add i)=some x):=λj aT=>kQ m r ag aT;obtain⟨S,bs,bq,va,vk,K,bl,bp,mb,aU,aS⟩:=id X;have aG:Hid (∀w',Fr Nothing w w'->Calls prog 47 #[.pointer (some ⟨h,0,none⟩)] w' (bJ w' (.pointer (some ⟨S,0,none⟩)))):=λw' f=>Di w' h S ((aU.aF.fr f (λx=>x)).cell 0);have aH:=af aU.base;have aq:Hid (∀w',Fr Nothing w w'->Calls prog 40 #[.pointer (some ⟨S,0,none⟩), .pointer (some ⟨b,0,none⟩)] w' (aM w' (.bool true))):=λw' f=>qH E E S b w' (aH.out.ao f) (a3.ao f) (N.jZ (by decide)) (N.jZ (by decide)) true (by simp);have ax:Hid (∀w',Fr Nothing w w'->Calls prog 46 #[.pointer (some ⟨h,0,none⟩)] w' (bJ w' (.int .i64 (n:Int)))):=λw' f=>by
  rw[ag];exact xK h E L T w' (X.ao f)
 have ay:Hid (∀w',Fr Nothing w w'->Calls prog 38 #[.pointer (some ⟨h,0,none⟩), .int .i64 (n:Int)] w' (Dj w' E L)):=λw' f=>by
  rw[ag];exact rA h E L T w' (X.ao f)
 have P:Hid (∀w',Fr Nothing w w'->Calls prog 41 #[.agg [Value.pointer (some ⟨b,0,none⟩), .slice A n c].toArray, .int .i64 (n:Int)] w' (Dx w' (eY L E))):=λw' f=>by
  have q:=xd _ b E L n w' (Z.ao f) (a1.ao f) N d (by omega);rw[List.take_of_length_le (by omega)]at q;exact q
 have aw:Hid (∀w' s1 s2,dQ w' s1 (eY L E)->dQ w' s2 (eY L E)->Calls prog 40 #[.pointer (some ⟨s1,0,none⟩), .pointer (some ⟨s2,0,none⟩)] w' (aM w' (.bool true))):=λw' s1 s2 aO aP=>
  qH _ _ s1 s2 w' aO aP (aZ.out.jZ (by have:=ap.out;omega)) (aZ.out.jZ (by have:=ap.out;omega)) true (by simp);have O:Hid (∀w',Fr Nothing w w'->Calls prog 48 #[.pointer (some ⟨h,0,none⟩)] w' (Aj w' L)):=λw' f=>xl h E L T w' (X.ao f) (by have:=d.len;omega) (λa aa=>by have aO:=(d.small a aa).nr;have aP:=(d.small a aa).nw;omega);have aK:Hid (∀a∈L,a.reads.length<=1099511627776/\a.writes.length<=1099511627776):=λa aa=>by have aO:=(d.small a aa).nr;have aP:=(d.small a aa).nw;omega
 clear aU aS m r X Z a1 N d ag be a3 aQ;obtain⟨J,z⟩:∃J,[Value.pointer (some ⟨b,0,none⟩), .slice A n c]=J:=⟨_,rfl⟩;have aJ:=af z;have aL:Hid ((prog.info? 28).map (·.size)=some J.length):=by rw[Hid,<-z];exact iY
 rw[z]at P a8⊢;clear z;go_enter func33,ntmps33;go_wp2_with(refine aD rfl 28 (.tmp 0) rfl J.toArray rfl ?_);intro w1 n1;have aB:=af n1.fr;have aW:=af n1.aF;clear n1;generalize w.heap.size=g2 at*;have C:=af (O.out _ aB.out);go_wp2_with fail;refine C.out.mono ?_;rintro e w2⟨g,rfl,ai,f2,_⟩;obtain⟨aN,m,r⟩:=ai;have D:Hid (∀j,j<L.length->∃v o a,some (⟨g,0,none⟩:Addr)=some v/\L[j]? =some a/\cL w2 o a/\o.length=6/\∀i x,o[i]? =some x->w2.cell? ((v.add (j*6)).add i)=some x):=λj aT=>kQ m r rfl aT;obtain⟨F,ab⟩:∃F,(⟨g,0,none⟩:Addr)=F:=⟨_,rfl⟩;rw[ab]at D⊢;have al:=af (aB.out.trans f2);have aX:=af (aW.out.fr f2 (λx=>x));clear ab m r f2 C O aW aB;have a0:=ap.out.1;rw[<-a0]at D Q⊢;have m0:Hid (∀W,Fr Nothing w2 W->W.cell? ⟨g2,0,none⟩=some (.pointer (some ⟨b,0,none⟩))/\W.cell? ⟨g2,1,none⟩=some (.slice A n c)):=λW f=>by
  have q:=aX.out.fr f (λx=>x);rw[<-aJ.out]at q;exact⟨q.cell 0,q.cell 1⟩
 clear a0;go_upto_region 2 with fail;refine iH 22 [.pointer (some ⟨h,0,none⟩), .int .i64 (n:Int), .pointer (some ⟨g2,1,none⟩), .slice A n c, .int .i64 (n:Nat), .bool false, .bool false, .slice (some F) n n, .int .i64 (n:Nat), .pointer (some ⟨g2,1,none⟩), .slice A n c, .int .i64 (n:Nat), .bool false, .bool false, .bool false, .pointer (some ⟨h,0,none⟩), .pointer (some ⟨S,0,none⟩), .pointer (some ⟨g2,0,none⟩), .pointer (some ⟨b,0,none⟩), .bool true, .bool false, .bool false] ?zP ?_;case zP=>
  refine⟨?yP,?zS,?yQ,?zT,?zU,?zV,?zW,?zX,?zY,?zZ,?zA,?zB,?zC,?zD,?zE,?zF,?zG,?zH,?zI,?zJ,?zK,?zL,trivial⟩;all_goals intro u w' l d
  all_goals simp only[z1,z2,z3,z4,ar,Act.put,z5,z6,z7,Nat.reduceAdd,Nat.zero_add]
  case zS=>
   simp only[ah (d 0)];refine aI ?_;go_simp;refine(ax.out _ (al.out.trans l)).mono ?_;rintro e aj⟨rfl,rfl⟩;exact aR
  case zT=>
   simp only[ah (d 2)];refine aI ?_;have q:_=some _:=(m0.out _ l).2;go_simp;exact aR
  case' zU=>simp only[ah (d 3)]
  case zV=>
   simp only[ah (d 1),ah (d 4)];refine aI ?_;go_simp;exact aR
  case' zW=>simp only[ah (d 5)]
  case' zX=>simp only[ah (d 6)]
  case' zY=>simp only[ah (d 7),ah (d 6)]
  case' zZ=>simp only[ah (d 6)]
  case zA=>
   simp only[ah (d 9),ah (d 6)];refine aI ?_;have q:_=some _:=(m0.out _ l).2;go_simp;exact aR
  case' zB=>simp only[ah (d 10),ah (d 6)]
  case zC=>
   simp only[ah (d 8),ah (d 11),ah (d 6)];refine aI ?_;go_simp;exact aR
  case' zD=>simp only[ah (d 6),ah (d 12)]
  case' zE=>simp only[ah (d 13)]
  case' zF=>simp only[ah (d 14)]
  case zG=>
   simp only[ah (d 15),ah (d 14)];refine aI ?_;go_simp;refine(aG.out _ (al.out.trans l)).mono ?_;rintro e aj⟨rfl,rfl⟩;exact aR
  case' zH=>simp only[ah (d 14)]
  case zI=>
   simp only[ah (d 17),ah (d 14)];refine aI ?_;have q:_=some _:=(m0.out _ l).1;go_simp;exact aR
  case zJ=>
   simp only[ah (d 16),ah (d 18),ah (d 14)];refine aI ?_;go_simp;refine(aq.out _ (al.out.trans l)).mono ?_;rintro e aj⟨rfl,G⟩;exact⟨rfl,G⟩
  case' zK=>simp only[ah (d 19),ah (d 14)]
  case' zL=>simp only[ah (d 14),ah (d 20)]
  all_goals
   refine aI ?_;go_simp;exact aR
 intro w' l;simp only[z1,z2,z3,z4,ar,Act.put,z5,z6,z7,z8,z9,jS,jT,Nat.reduceAdd,Nat.zero_add];have am:=af (al.out.trans l);have an:=af l;clear l;generalize w'=w3 at*;go_wp2;go_loopw[6](λi wr=>∃k:Nat,k<=n/\i= .int .i64 (k:Int)/\Fr Nothing w3 wr)(λi _=>n-(intOf i).toNat);case atStart=>exact⟨0,Nat.zero_le _,rfl,aA⟩
 case round=>
  obtain⟨k,a4,rfl,hF⟩:=hrel;have y:=af hF;have bn:=af a4;clear hF a4;by_cases B:k<n
  ·have t0:decide ((k:Int)<(n:Int))=true:=cX (by omega);obtain⟨v,o,a,rfl,H,U,ad,p⟩:=Q.out k B;obtain⟨bo,M,a2,ac,Y,V,ae,t⟩:=D.out k B;obtain rfl:=Option.some.inj ac;obtain rfl:a=a2:=Option.some.inj (H.symm.trans Y);have i1:(k:Int)<(n:Int):=by omega
   have i2:(0:Int)<=(k:Int):=by omega
   have aY:Hid (Fr Nothing w wr):=am.out.trans y.out;have aC:Hid (Fr Nothing w2 wr):=an.out.trans y.out;have a9:Hid ((prog.info? 46).map (·.size)=some o.length):=by rw[Hid,ad];exact bQ
   have ba:Hid ((prog.info? 46).map (·.size)=some M.length):=by rw[Hid,ae];exact bQ
   have av:Hid (∀W,Fr Nothing wr W->∀i x,o[i]? =some x->W.cell? ((v.add (k*6)).add i)=some x):=λW f i x aV=>(aY.out.trans f).ak (p i x aV) (λx=>x);have az:Hid (∀W,Fr Nothing wr W->∀i x,M[i]? =some x->W.cell? ((F.add (k*6)).add i)=some x):=λW f i x aV=>(aC.out.trans f).ak (t i x aV) (λx=>x);have I:=aK.out a (List.mem_of_getElem? H);have a6:Hid (∀W,Fr Nothing wr W->Calls prog 19 #[.agg M.toArray, .agg o.toArray] W (aM W (.bool true))):=λW f=>by
    have q:=oX a a M o W (V.ao (aC.out.trans f)) (U.ao (aY.out.trans f)) I.1 I.2;rw[(vO a a).2 rfl]at q;exact q
   have bu:IntKind.i64.wrap ((k:Int)+1)=(k:Int)+1:=IntWalk.i64_in _ (by have:=ap.out;omega);have R:=af B;clear p U ad H t V ae Y I ac B;go_upto_region 7 with fail;refine iH 11 [.slice (some F) n n, .int .i64 (k:Int), .pointer (some (F.add (k*6))), .agg M.toArray, .pointer (some ⟨g2,1,none⟩), .slice (some v) n c, .int .i64 (k:Int), .pointer (some (v.add (k*6))), .agg o.toArray, .bool true, .bool false] ?zQ ?_;case zQ=>
    refine⟨?yR,?yS,?yA,?yB,?yT,?yC,?yU,?yD,?yE,?yF,?zM,trivial⟩;all_goals intro u w' l d
    all_goals simp only[z1,z2,z3,z4,ar,Act.put,z5,z6,z7,Nat.reduceAdd,Nat.zero_add]
    case yA=>
     simp only[ah (d 0),ah (d 1)];refine aI ?_;have bg:=i1;have bh:=i2;go_simp;exact aR
    case yB=>
     simp only[ah (d 2)];refine aI ?_;exact au _ _ rfl (F.add (k*6)) rfl M _ (az.out _ l) underlying46 rfl ba.out aR
    case yC=>
     simp only[ah (d 4)];refine aI ?_;have q:_=some _:=(m0.out _ (aC.out.trans l)).2;go_simp;exact aR
    case yD=>
     simp only[ah (d 5),ah (d 6)];refine aI ?_;have bg:=i1;have bh:=i2;go_simp;exact aR
    case yE=>
     simp only[ah (d 7)];refine aI ?_;exact au _ _ rfl (v.add (k*6)) rfl o _ (av.out _ l) underlying46 rfl a9.out aR
    case yF=>
     simp only[ah (d 3),ah (d 8)];refine aI ?_;go_simp;refine(a6.out _ l).mono ?_;rintro e aj⟨rfl,G⟩;exact⟨rfl,G⟩
    case' zM=>simp only[ah (d 9)]
    all_goals
     refine aI ?_;go_simp;exact aR
   intro w' l;simp only[z1,z2,z3,z4,ar,Act.put,z5,z6,z7,z8,z9,jS,jT,Nat.reduceAdd,Nat.zero_add];have aE:=af (y.out.trans l);clear l;go_wp2;go_roundw;case rel=>exact⟨k+1,by have:=R.out;omega,by go_num,aE.out⟩
   case measure=>simp[intOf];have:=R.out;omega
  ·have t0:decide ((k:Int)<(n:Int))=false:=ct (by omega);have bi:¬(k:Int)<(n:Int):=by omega
   have m1:wr.cell? ⟨g2,1,none⟩=some (.slice A n c):=(m0.out _ (an.out.trans y.out)).2;go_wp2_with fail;refine(ay.out _ (am.out.trans y.out)).mono ?_;rintro e bt⟨s,rfl,rfl,a5⟩;have bb:=af a5;clear a5 m1;go_upto_region 10 with fail;refine Af 12 [iS (.int .i64 0),iS (.bool true),iS (.bool true),iS (.pointer (some ⟨s,0,none⟩)),iS (.agg J.toArray),iS (.pointer (some ⟨g2,1,none⟩)),iS (.slice A n c),iS (.int .i64 (n:Nat)),⟨λbk bj=>∃q:Nat,bk= .pointer (some ⟨q,0,none⟩)/\dQ bj q (eY L E),λ_ _ _ f⟨q,e,h⟩=>⟨q,e,h.ao f⟩⟩,iS (.bool true),iS (.bool true),iS (.bool true)] ?zR ?_;case zR=>
    refine⟨?yV,?yG,?yH,?yI,?yJ,?yK,?yL,?yM,?yN,?yO,?zN,?zO,trivial⟩;all_goals intro u w' l d
    all_goals simp only[z1,z2,z3,z4,ar,Act.put,z5,z6,z7,Nat.reduceAdd,Nat.zero_add]
    case yG=>
     simp only[ah (d 0)];refine aI ?_;go_simp;exact⟨_,rfl,aA,rfl⟩
    case' yH=>simp only[ah (d 1)]
    case' yI=>simp only[ah (d 2)]
    case yJ=>
     simp only[ah (d 2)];refine aI ?_;exact au _ _ rfl ⟨g2,0,none⟩ rfl J _ (ly (aX.out.fr ((an.out.trans y.out).trans l) (λx=>x))) underlying28 rfl aL.out ⟨_,rfl,aA,rfl⟩
    case' yK=>simp only[ah (d 2)]
    case yL=>
     simp only[ah (d 5),ah (d 2)];refine aI ?_;have q:_=some _:=(m0.out _ ((an.out.trans y.out).trans l)).2;go_simp;exact⟨_,rfl,aA,rfl⟩
    case' yM=>simp only[ah (d 6),ah (d 2)]
    case yN=>
     simp only[ah (d 4),ah (d 7),ah (d 2)];refine aI ?_;go_simp;refine(P.out _ ((am.out.trans y.out).trans l)).mono ?_;rintro e aj⟨q,rfl,bf,G⟩;exact⟨_,rfl,G,⟨q,rfl,bf⟩⟩
    case yO=>
     obtain⟨br,bc,bd⟩:=d 8;simp only[ah (d 3),bc,ah (d 2)];refine aI ?_;go_simp;refine(aw.out _ _ _ (bb.out.ao l) bd).mono ?_;rintro e aj⟨rfl,G⟩;exact⟨_,rfl,G,rfl⟩
    case' zN=>simp only[ah (d 2),ah (d 9)]
    case' zO=>simp only[ah (d 10)]
    all_goals
     refine aI ?_;go_simp;exact⟨_,rfl,aA,rfl⟩
   intro u w' l d;simp only[z1,z2,z3,z4,ar,Act.put,z5,z6,z7,z8,z9,Nat.reduceAdd,Nat.zero_add,ah (d 11 (by omega))];clear d;have a7:=af ((am.out.trans y.out).trans l);clear l;go_wp2;go_ret;exact⟨rfl,a7.out⟩
theorem Hu{E:List Ent}{L:List ActV}(a:cM 6 E)(b:ej L):(iX E L).length<=110000/\1<=(iX E L).length:=by
 have c:=a.rQ;have d:=a.len;have e:=b.len;have f:=rj L b.small;have g:=aY (cq E).length;have h:=aY L.length;rw[iX,gR,List.take_length,aN,aT,aT,aT];omega
theorem zI{n:Nat}(h:n<=200000):-9223372036854775808<=(n:Int)/\(n:Int)<=9223372036854775807:=by omega
theorem qq(n:Nat)(xs:List CV)(A:Option Addr)(aV:Nat)(S:Nat->Prop)(a4:Nat)(aT:Option Addr)(bi:Nat)(aG aH:Int)(w:World)(bI:CL w S A n xs)(bQ:n<=9223372036854775807)(bN:n<=aV)(bM:tI w aT a4)(a1:0<=aG/\aG<=65535)(a2:0<=aH/\aH<=255)(a0:dO w)(aZ:bU w):
  Calls prog 12 #[.slice A n aV, .slice aT a4 bi, .int .u16 aG, .int .u8 aH] w (Aq w):=by
 obtain⟨ap,rfl⟩:∃z:Nat,aG=(z:Int):=⟨aG.toNat,by omega⟩;obtain⟨bb,rfl⟩:∃bb:UInt8,aH=((bb.toNat:Nat):Int):=⟨UInt8.ofNat aH.toNat,by rw[UInt8.toNat_ofNat'];omega⟩;have aU:Hid (ap<=65535/\bb.toNat<=255):=by simp only[Hid];omega
 have bz:=af (Ew w a0 aZ);have an:Hid (∀w',Fr Nothing w w'->Calls prog 14 #[.slice A n aV, .slice aT a4 bi] w' (An w')):=λw' f=>Es n xs A aV S a4 aT bi w' (bI.ao f) bQ bN (bM.ao f) (a0.ao f) (aZ.ao f);have ai:=af a0;have bE:=af aZ;clear bM a0 aZ bI bQ bN a1 a2;go_enter func12,ntmps12;go_wp2_with fail;refine bz.out.mono ?_;rintro e w1⟨rfl,f1⟩;have a8:=af f1;clear f1 bz;go_wp2_with fail;refine(an.out _ a8.out).mono ?_;rintro e w2⟨h,b,ms,E,L,T,rfl,bL,ak,bJ,c,_,f2⟩;have bB:=af (a8.out.trans f2);have bD:=af bL;have M2:=af ak;have ag:=af bJ;have M:=af c;have bG:=af ak.one;have aE:Hid ((prog.info? 28).map (·.size)=some ms.toArray.size):=by rw[Hid,List.size_toArray,ak.len];exact iY
 have U:Hid ((prog.info? 28).map (·.size)=some ms.length):=by rw[Hid,ak.len];exact iY
 have aD:Hid (2=ms.toArray.size):=by rw[Hid,List.size_toArray,ak.len]
 clear f2 bL ak bJ c an a8;go_wp2_with(refine pW rfl rfl rfl 28 10 rfl rfl (.tmp 23) rfl _ rfl (.agg tw.toArray) KW #[.pointer none, .slice none 0 0] rfl (.pointer (some ⟨h,0,none⟩)) ms.toArray (λ_=>rfl) (λ_=>rfl) (λ_=>rfl) aE.out aD.out bG.out ?_);intro w3 g10 _ _ b3 f3;have bx:=af b3;have N:=af (bB.out.trans f3);have ba:=af (bD.out.ao f3);have bh:=af (M2.out.ao f3);clear b3 f3 bD M2 bB;have s:=af (Hu ag.out M.out);have Q:=af (xJ.of ag.out M.out);have ay:=af (Hn ag.out M.out);have F:Hid (lz E/\∀a∈L,a.reads.length<=1099511627776/\a.writes.length<=1099511627776):=⟨(ag.out.more (show 6<=24 by decide)).jZ (by decide),λa a1=>⟨by have:=(M.out.small a a1).nr;omega,by have:=(M.out.small a a1).nw;omega⟩⟩;have a5:Hid (∀w',Fr Nothing w3 w'->Calls prog 51 #[.agg ms.toArray] w' (aM w' (.string ⟨(iX E L).toArray⟩))):=λw' f=>yU ms b E L w' (bh.out.ao f) (ai.out.ao (N.out.trans f)) Q.out;have a6:Hid (Calls prog 45 #[.pointer (some ⟨h,0,none⟩)] w3 (aM w3 (.string ⟨(iX E L).toArray⟩))):=ry h E L T w3 ba.out (ai.out.ao N.out) Q.out;obtain⟨r,Z⟩:∃X:ByteArray,⟨(iX E L).toArray⟩=X:=⟨_,rfl⟩;have o:Hid (aQ r=iX E L/\r.size=(iX E L).length):=by rw[Hid,<-Z];exact⟨rfl,rfl⟩
 rw[Z]at a5 a6;clear Z;go_wp2_with fail;refine a6.out.mono ?_;rintro e bV⟨rfl,f4⟩;have v:=af f4;clear f4 a6;go_wp2_with fail;refine(ru r bV (ai.out.ao (N.out.trans v.out)) (bE.out.ao (N.out.trans v.out)) (by have:=o.out.2;have:=s.out;omega)).mono ?_;rintro e bv⟨p,rfl,f5,d⟩;rw[o.out.1,ay.out]at d⊢;obtain⟨k,aj,rfl,bO⟩:∃k aj,p=some ⟨k,0,none⟩/\dR bv k E L aj:=by
  rcases d with⟨h,_⟩|⟨_,k,aj,bk,bl,_⟩;·exact absurd rfl h
  ·exact⟨k,aj,bk,bl⟩
 have g:=af (v.out.trans f5);have bf:=af bO;clear f5 d bO v ay;have am:Hid (∀w',Fr Nothing bv w'->Calls prog 43 #[.pointer (some ⟨k,0,none⟩), .pointer (some ⟨h,0,none⟩)] w' (aM w' (.bool true))):=λw' f=>Am k h E E L L aj T w' (bf.out.ao f) (ba.out.ao (g.out.trans f)) F.out.1 F.out.1 (by have:=M.out.len;omega) F.out.2 true true (by simp) (by simp);have aq:Hid (∀w',Fr Nothing bv w'->Calls prog 33 #[.agg ms.toArray, .pointer (some ⟨k,0,none⟩)] w' (aM w' (.bool true))):=λw' f=>Fp ms k b E L aj w' (bf.out.ao f) (bh.out.ao (g.out.trans f)) (ai.out.ao (N.out.trans (g.out.trans f))) (ag.out.more (by decide)) M.out;have bg:Hid (∀W,Fr Nothing w3 W->∀j x,ms[j]? =some x->W.cell? ((⟨g10,0,none⟩:Addr).add j)=some x):=λW f j x al=>by rw[Addr.add_mid,Nat.zero_add,(bx.out.fr f (λx=>x)).cell j,bP];exact al
 have bu:(r.toList==r.toList)=true:=beq_self_eq_true _;go_wp2_with(refine aB rfl 28 (.tmp 10) rfl ⟨g10,0,none⟩ rfl ms _ ?zR underlying28 rfl U.out (aX.go ?zT));case zR=>exact bg.out _ g.out
 unfold aX;go_wp2_with fail;refine(a5.out _ g.out).mono ?_;rintro e b8⟨rfl,f6⟩;have O:=af f6;clear f6;go_wp2_with fail;refine(am.out _ O.out).mono ?_;rintro e b9⟨rfl,f7⟩;have y:=af (O.out.trans f7);clear f7 O;go_wp2_with(refine xg 28 (.tmp 10) rfl ⟨g10,0,none⟩ rfl ms _ (by kernel_rfl) underlying28 rfl U.out ?zS (aX.go ?zU));case zS=>exact bg.out _ (g.out.trans y.out)
 unfold aX;go_wp2_with fail;refine(aq.out _ y.out).mono ?_;rintro e bW⟨rfl,f8⟩;have bC:=af (N.out.trans (g.out.trans (y.out.trans f8)));clear f8 bu N g y a5 am aq bg ba bh bx bf bG aE U aD ag M Q F;obtain⟨b5,bY,J,a2⟩:=fM.conv bW r (by have:=o.out.2;have:=s.out;omega);have H:fM bW bY b5 (ee r):=a2;obtain⟨_,aW,cap,rfl,bn,_,ab,_⟩:=id H;have aP:=db r;obtain⟨sn,aO⟩:∃n,r.size=n:=⟨_,rfl⟩;rw[aO]at aP;rw[aP]at J H ab;have HB:=af H;have i:Hid (1<=sn/\sn<=110000/\(ee r).length=sn/\sn<=cap):=⟨by have:=o.out.2;have:=s.out;omega,by have:=o.out.2;have:=s.out;omega,aP,ab⟩;obtain⟨p,bq⟩:∃z:Nat,(ap:Int).tmod (sn:Int)=(z:Int):=⟨ap%sn,(Int.ofNat_tmod ap sn).symm⟩;have aN:p<sn:=by have:=Int.tmod_lt_of_pos (ap:Int) (show(0:Int)<(sn:Int)by have:=i.out;omega);omega
 have R:Hid (p<(ee r).length):=by rw[Hid,aP];exact aN
 obtain⟨b0,aK⟩:∃b0,(ee r)[p]? =some b0:=⟨_,List.getElem?_eq_getElem R.out⟩;have ax:Hid (bY.cell? ⟨aW,p,none⟩=some (.int .u8 (b0.toNat:Int))):=by
  obtain⟨_,_,_,a3,_,b2,_,_,_,_,b4⟩:=HB.out;cases a3;exact b4 p (bK b0) (by rw[List.getElem?_map,aK];rfl)
 have bt:=Lt.Mm b0 bb;have bo:(sn=0)=False:=eq_false (by have:=i.out;omega);have bp:((sn:Int)=0)=False:=eq_false (by have:=i.out;omega);have ad:wrap64 (ap:Int)=(ap:Int):=IntWalk.wrap64_in _ (by have:=aU.out;omega);have ae:IntKind.i64.wrap (ap:Int)=(ap:Int):=IntWalk.i64_in _ (by have:=aU.out;omega);have i1:(p:Int)<(sn:Int):=by omega
 have i2:(0:Int)<=(p:Int):=by omega
 have bm:=ax.out;clear a2 H aP aO aK bn ab aN o s;go_wp2_with(refine xh rfl (.tmp 64) (.tmp 63) rfl aW p sn cap (b0^^^bb) rfl rfl HB.out R.out ?_);intro bw aa;obtain⟨aS,ac⟩:∃aS,(ee r).set p (b0^^^bb)=aS:=⟨_,rfl⟩;rw[ac]at aa;have aw:=af aa;have az:Hid (aS.length=sn):=by rw[Hid,<-ac,List.length_set];exact i.out.2.2.1
 clear aa ac J HB R ax bt bo bp ad ae i1 i2 bm bq;obtain⟨V,I⟩:∃z:Nat,bb.toNat=z:=⟨_,rfl⟩;have P:Hid (V<=200000/\sn<=200000):=⟨by rw[<-I];exact Nat.le_trans aU.out.2 (by decide),Nat.le_trans i.out.2.1 (by decide)⟩;obtain⟨q,bR⟩:∃z:Nat,(V:Int).tmod 2=(z:Int):=⟨V%2,by rw[Int.tmod_eq_emod_of_nonneg (by omega)];omega⟩;have br:(q:Int)<2:=by rw[<-bR];exact Int.tmod_lt_of_pos _ (by decide)
 obtain⟨m,hm⟩:∃z:Nat,(sn:Int)-(q:Int)=(z:Int):=⟨sn-q,by have:=i.out;omega⟩;have bs:IntKind.i64.wrap (m:Int)=(m:Int):=IntWalk.i64_in _ (zI (by have:=P.out;omega));have ad:wrap64 (V:Int)=(V:Int):=IntWalk.wrap64_in _ (zI P.out.1);have ae:IntKind.i64.wrap (V:Int)=(V:Int):=IntWalk.i64_in _ (zI P.out.1);have bZ:(m:Int)<=(cap:Int):=by have:=i.out;omega
 have b1:(0:Int)<=(m:Int):=by omega
 have bd:Hid (m<=sn):=by simp only[Hid];omega
 rw[I]at aU;obtain⟨t,Y⟩:∃T:ByteArray,(⟨(aS.take m).toArray⟩:ByteArray)=T:=⟨_,rfl⟩;have aC:Hid (aQ t=aS.take m/\t.size<=110000):=by rw[Hid,<-Y];exact⟨rfl,by rw[xb,List.length_take];have:=az.out;have:=i.out;omega⟩
 have au:Hid (∀W,Fr Nothing bw W->(convert 61 9 (.slice (some ⟨aW,0,none⟩) m cap)).run prog W= .ok (.string t) W):=λW f=>by
  obtain⟨b7,b6,a3,c⟩:=(aw.out.behind f).slice;rw[az.out]at a3 c;cases a3;rw[<-Y];have aJ:=c.take (k:=m) bd.out;rw[Nat.mul_one,<-List.map_take]at aJ;exact sd W 61 9 5 underlying61 underlying5 underlying9 _ _ _ cap _ aJ
 have av:Hid (Fr Nothing w bw):=bC.out.trans aw.out.fr;rw[I];have J:=au.out _ aA;clear Y br I bC;go_wp2_with fail;refine(ru t bw (ai.out.ao av.out) (bE.out.ao av.out) aC.out.2).mono ?_;rintro e bX⟨pp,rfl,bH,d⟩;have G:=af (λ(al:(jN (aQ t)).1=0)=>Ho (l:=aQ t) (by rw[aL];exact aC.out.2) al);generalize jN (aQ t)=D at*;obtain⟨bj,bA,bF⟩:=D;simp only at d G⊢;have B:=af bH;have C:=af d;clear bH d J bR hm bs ad ae bZ b1;by_cases aY:bj=0;case neg=>
  have bq:pp=none:=by
   rcases C.out with⟨_,h⟩|⟨h,_⟩;·exact h
   ·exact absurd h aY
  subst bq;have be:Hid ((bj !=0)=true):=lk aY;clear C G aY;go_upto_region 12 with fail;refine iH 18 [.int .i64 bj, .bool true, .bool true, .pointer none, .bool true, .bool true, .bool true,undef,undef,undef,undef,undef,undef,undef,undef,undef, .bool true, .bool true] ?zV ?_;case zV=>
   refine⟨?yP,?zX,?zY,?zZ,?yA,?yB,?yC,?yD,?yE,?yF,?zA,?zB,?zC,?zD,?zE,?zF,?zG,?zH,trivial⟩;all_goals intro u w' K c
   all_goals simp only[z1,z2,z3,z4,ar,Act.put,z5,z6,z7,Nat.reduceAdd,Nat.zero_add]
   case zX=>
    simp only[ah (c 0)];refine aI ?_;have bT:=be.out;go_simp;exact aR
   case' zY=>simp only[ah (c 1)]
   case' zZ=>simp only[ah (c 2)]
   case yA=>
    simp only[ah (c 3),ah (c 2)];refine aI ?_;go_simp;exact aR
   case' yB=>simp only[ah (c 2),ah (c 4)]
   case' yC=>simp only[ah (c 5)]
   case yD=>simp only[ah (c 6)];exact bS
   case yE=>simp only[ah (c 6)];exact bS
   case yF=>simp only[ah (c 6)];exact bS
   case zA=>simp only[ah (c 9)];exact bS
   case zB=>simp only[ah (c 9)];exact bS
   case zC=>simp only[ah (c 9)];exact bS
   case zD=>simp only[ah (c 9)];exact bS
   case zE=>simp only[ah (c 9)];exact bS
   case zF=>simp only[ah (c 6)];exact bS
   case' zG=>simp only[ah (c 6),ah (c 15)]
   case' zH=>simp only[ah (c 16)]
   all_goals
    refine aI ?_;go_simp;exact aR
  intro w' K;simp only[z1,z2,z3,z4,ar,Act.put,z5,z6,z7,z8,z9,jS,jT,Nat.reduceAdd,Nat.zero_add];have a9:=af (av.out.trans (B.out.trans K));clear K;go_wp2;go_ret;exact⟨rfl,a9.out⟩
 subst aY;obtain⟨x,aF,rfl,al⟩:∃x aF,pp=some ⟨x,0,none⟩/\dR bX x bA bF aF:=by
  rcases C.out with⟨h,_⟩|⟨_,x,aF,bk,bl,_⟩;·exact absurd rfl h
  ·exact⟨x,aF,bk,bl⟩
 have bc:=G.out rfl;have a7:Hid (∀w',Fr Nothing bX w'->Calls prog 45 #[.pointer (some ⟨x,0,none⟩)] w' (aM w' (.string t))):=λw' f=>by
  have q:=ry x bA bF aF w' (al.ao f) (ai.out.ao (av.out.trans (B.out.trans f))) bc.2;rw[bc.1]at q;exact q
 clear C G bc al;go_upto_region 12 with fail;refine iH 18 [.int .i64 0, .bool false, .bool false,undef,undef, .bool false, .bool false, .int .i64 0, .bool true, .bool true, .pointer (some ⟨x,0,none⟩), .string t, .slice (some ⟨aW,0,none⟩) m cap, .string t, .bool true, .bool true, .bool true, .bool true] ?zW ?_;case zW=>
  refine⟨?yQ,?yG,?yH,?yI,?yJ,?yK,?yL,?yM,?yN,?yO,?zJ,?zK,?zL,?zM,?zN,?zO,?zP,?zQ,trivial⟩;all_goals intro u w' K c
  all_goals simp only[z1,z2,z3,z4,ar,Act.put,z5,z6,z7,Nat.reduceAdd,Nat.zero_add]
  case yG=>
   simp only[ah (c 0)];refine aI ?_;go_simp;exact aR
  case' yH=>simp only[ah (c 1)]
  case yI=>simp only[ah (c 2)];exact bS
  case yJ=>simp only[ah (c 2)];exact bS
  case' yK=>simp only[ah (c 2),ah (c 4)]
  case' yL=>simp only[ah (c 5)]
  case' yM=>simp only[ah (c 6)]
  case yN=>
   simp only[ah (c 7),ah (c 6)];refine aI ?_;go_simp;exact aR
  case' yO=>simp only[ah (c 8),ah (c 6)]
  case' zJ=>simp only[ah (c 9)]
  case zK=>
   simp only[ah (c 10),ah (c 9)];refine aI ?_;go_simp;refine(a7.out _ K).mono ?_;rintro e bV⟨rfl,f4⟩;exact⟨rfl,f4⟩
  case' zL=>simp only[ah (c 9)]
  case zM=>
   simp only[ah (c 12),ah (c 9)];refine aI ?_;have bT:=au.out _ (B.out.trans K);go_simp;exact aR
  case zN=>
   simp only[ah (c 11),ah (c 13),ah (c 9)];refine aI ?_;have bT:=beq_self_eq_true t.toList;go_simp;exact aR
  case' zO=>simp only[ah (c 9),ah (c 14),ah (c 6)]
  case' zP=>simp only[ah (c 6),ah (c 15)]
  case' zQ=>simp only[ah (c 16)]
  all_goals
   refine aI ?_;go_simp;exact aR
 intro w' K;simp only[z1,z2,z3,z4,ar,Act.put,z5,z6,z7,z8,z9,jS,jT,Nat.reduceAdd,Nat.zero_add];have a9:=af (av.out.trans (B.out.trans K));clear K;go_wp2;go_ret;exact⟨rfl,a9.out⟩
end Go.Proofs.YtphjagkehiklkaaGreatDoor
