/- Texts. -/
import Derived.Test.YtphjagkehiklkaaGreatDoorZK21
import Derived.Test.YtphjagkehiklkaaGreatDoorZK22
import Derived.Test.YtphjagkehiklkaaGreatDoorZK26
set_option linter.unusedVariables false
set_option linter.unusedSimpArgs false
set_option maxRecDepth 100000
set_option maxHeartbeats 8000000
namespace Go.Proofs.YtphjagkehiklkaaGreatDoor
open Go.RowKit Go.Shelf
theorem tN:∀args w,(callFunc 19 args).run Tryz.prog w= .ok (.enter 19 args) w:=fun _ _=>by kernel_rfl
theorem yg{L M:List ActV}{k:Nat}{a b:ActV}(c:L[k]? =some a)(d:M[k]? =some b)(h:L.take k=M.take k)(e:a=b):L.take (k+1)=M.take (k+1):=by
 rw[List.take_add_one,List.take_add_one,c,d,h,e]
theorem Bt(L M:List ActV)(A:Option Addr)(n c:Nat)(B:Option Addr)(m d:Nat)(w:World)(av:n=L.length)(hm:m=M.length)(aI:n≤65536)
  (N:∀j,j<L.length→∃v g a,A=some v∧L[j]? =some a∧cF w g a∧g.length=6∧∀i x,g[i]? =some x→w.cell? ((v.add (j*6)).add i)=some x)
  (O:∀j,j<M.length→∃v g a,B=some v∧M[j]? =some a∧cF w g a∧g.length=6∧∀i x,g[i]? =some x→w.cell? ((v.add (j*6)).add i)=some x)
  (aw:∀a∈L,a.reads.length≤1099511627776∧a.writes.length≤1099511627776)(E:Bool)(aq:E=true↔L=M):
  Calls Tryz.prog 98 #[.slice A n c, .slice B m d, .func (.func 19) #[] #[]] w (aH w (.bool E)):=by
 have U:=af N;have V:=af O;have al:=af aw;have H:Hid (n=L.length∧m=M.length):=⟨av,hm⟩;have Y:=af aq;have X:=tN;clear N O aw av hm aq;go_enter Tryz.func98,Tryz.ntmps98;by_cases C:n=m;case neg=>
  have t0:((n:Int)!=(m:Int))=true:=by rw[bne_iff_ne];omega
  have t1:(n !=m)=true:=by rw[bne_iff_ne];exact C
  obtain rfl:E=false:=by
   cases E;·rfl
   ·exact absurd (by rw[H.out.1,H.out.2,Y.out.1 rfl]) C
  go_wp2;go_ret;exact aM
 subst C;have t0:((n:Int)!=(n:Int))=false:=by simp
 go_wp2;go_loopw[17](fun i wr=>∃k:Nat,k≤n∧i= .int .i64 (k:Int)∧L.take k=M.take k∧Fr ag w wr)(fun i _=>n-(intOf i).toNat);case atStart=>exact⟨0,Nat.zero_le _,rfl,by rw[List.take_zero,List.take_zero],az⟩
 case round=>
  obtain⟨k,au,rfl,P,ar⟩:=hrel;have F:=af ar;have aB:=af au;have I:=af P;clear ar au P;by_cases aG:k<n
  ·have t0:decide ((k:Int)<(n:Int))=true:=de (by omega);have i0:(k:Int)<(n:Int):=by omega
   have i1:(0:Int)≤(k:Int):=by omega
   have aN:IntKind.i64.wrap ((k:Int)+1)=(k:Int)+1:=IntWalk.i64_in _ (by omega);obtain⟨v,g,a,rfl,s,y,t,l⟩:=U.out k (by have:=H.out;omega);obtain⟨ap,p,b,rfl,K,z,u,o⟩:=V.out k (by have:=H.out;omega);have am:Hid ((Tryz.prog.info? 46).map (·.size)=some g.length):=by rw[Hid,t];exact bL
   have an:Hid ((Tryz.prog.info? 46).map (·.size)=some p.length):=by rw[Hid,u];exact bL
   have ab:Hid ((Tryz.prog.info? 46).map (·.size)=some g.toArray.size):=by rw[Hid,List.size_toArray,t];exact bL
   have ac:Hid ((Tryz.prog.info? 46).map (·.size)=some p.toArray.size):=by rw[Hid,List.size_toArray,u];exact bL
   have Z:Hid (6=g.toArray.size):=by rw[Hid,List.size_toArray,t]
   have aa:Hid (6=p.toArray.size):=by rw[Hid,List.size_toArray,u]
   have aE:=af (ActV.one y);have aF:=af (ActV.one z);have S:Hid (∀i x,g[i]? =some x→wr.cell? ((v.add (k*6)).add i)=some x):=fun i x D=>F.out.ak (l i x D) (fun x=>x);have T:Hid (∀W,Fr ag wr W→∀i x,p[i]? =some x→W.cell? ((ap.add (k*6)).add i)=some x):=fun W f i x D=>(F.out.trans f).ak (o i x D) (fun x=>x);have aA:Hid (∀W,Fr ag wr W→Calls Tryz.prog 19 #[.agg g.toArray, .agg p.toArray] W (aH W (.bool (Iq a b)))):=fun W f=>pg a b g p W (y.ao (F.out.trans f)) (z.ao (F.out.trans f)) (al.out a (List.mem_of_getElem? s)).1 (al.out a (List.mem_of_getElem? s)).2;have G:=af (vR a b);have r:Hid (L[k]? =some a∧M[k]? =some b):=⟨s,K⟩;generalize Iq a b=Q at*;clear s K y z t u l o;go_wp2_with(refine aC rfl 46 (.tmp 20) rfl (v.add (k*6)) rfl g _ ?zA Tryz.underlying46 rfl am.out (aR.go ?zE));case zA=>exact S.out
   unfold aR;go_wp2_with(refine nf rfl rfl rfl 46 8 rfl rfl (.tmp 19) rfl _ rfl ep kC #[.int .i64 0, .int .i64 0, .int .i64 0, .string ByteArray.empty, .slice none 0 0, .slice none 0 0] rfl (.int .i64 (k:Int)) g.toArray (fun _=>rfl) (fun _=>rfl) (fun _=>rfl) ab.out Z.out aE.out ?_);intro w2 g8 _ _ b2 f2;have ax:=af b2;have ah:=af f2;clear b2 f2;go_wp2_with(refine aC rfl 46 (.tmp 24) rfl (ap.add (k*6)) rfl p _ ?zB Tryz.underlying46 rfl an.out (aR.go ?zF));case zB=>exact T.out _ ah.out
   unfold aR;go_wp2_with(refine rz rfl rfl 46 9 rfl rfl _ rfl ep kC #[.int .i64 0, .int .i64 0, .int .i64 0, .string ByteArray.empty, .slice none 0 0, .slice none 0 0] rfl p.toArray (fun _=>rfl) (fun _=>rfl) ac.out aa.out aF.out ?_);intro w3 g9 _ _ b3 f3;have ay:=af b3;have R:=af (ax.out.fr f3 (fun x=>x));have ai:=af (ah.out.trans f3);clear b3 f3;have ad:Hid (∀j x,g[j]? =some x→w3.cell? ((⟨g8,0,none⟩:Addr).add j)=some x):=kX R.out;have ae:Hid (∀j x,p[j]? =some x→w3.cell? ((⟨g9,0,none⟩:Addr).add j)=some x):=kX ay.out;go_wp2_with(refine aC rfl 46 (.tmp 8) rfl ⟨g8,0,none⟩ rfl g _ ?zC Tryz.underlying46 rfl am.out (aR.go ?zG));case zC=>first|exact ad.out|exact fun j x D=>by have q:=ad.out j x D;rw[Addr.add_mid,Nat.zero_add]at q;exact q
   unfold aR;go_wp2_with(refine aC rfl 46 (.tmp 9) rfl ⟨g9,0,none⟩ rfl p _ ?zD Tryz.underlying46 rfl an.out (aR.go ?holds));case zD=>first|exact ae.out|exact fun j x D=>by have q:=ae.out j x D;rw[Addr.add_mid,Nat.zero_add]at q;exact q
   unfold aR;go_wp2_with fail;refine(aA.out _ ai.out).mono ?_;rintro e aL⟨rfl,f4⟩;have aj:=af (F.out.trans (ai.out.trans f4));clear f4;cases Q
   ·obtain rfl:E=false:=by
     cases E;·rfl
     ·have h:=Y.out.1 rfl;subst h;have J:=r.out.1;rw[r.out.2]at J;injection J with J;have:=G.out.2 J.symm;cases this
    go_wp2;go_ret;exact⟨rfl,aj.out⟩
   ·have aD:=af (yg r.out.1 r.out.2 I.out (G.out.1 rfl));go_wp2;go_roundw;case rel=>exact⟨k+1,by omega,by go_num,aD.out,aj.out⟩
    case measure=>simp[intOf];omega
  ·obtain rfl:k=n:=by have:=aB.out;omega
   have t0:decide ((k:Int)<(k:Int))=false:=cD (by omega);have aJ:¬(k:Int)<(k:Int):=by omega
   have aK:¬k<k:=by omega
   obtain rfl:E=true:=Y.out.2 (by
    have h:=I.out;have J:=H.out;rwa[List.take_of_length_le (by omega),List.take_of_length_le (by omega)]at h);go_wp2;go_ret;exact⟨rfl,F.out⟩
theorem tF(h k:Nat)(E F:List Ent)(L M:List ActV)(T S:Nat→Prop)(w:World)(aq:ez w h E L T)(au:ez w k F M S)(ad:kY E)(ae:kY F)(av:L.length≤65536)
  (aj:∀a∈L,a.reads.length≤1099511627776∧a.writes.length≤1099511627776)(P Q:Bool)(ah:P=true↔E=F)(ai:Q=true↔L=M):
  Calls Tryz.prog 43 #[.pointer (some ⟨h,0,none⟩), .pointer (some ⟨k,0,none⟩)] w (aH w (.bool (P&&Q))):=by
 obtain⟨b,s,g,va,vk,K,A,c,mb,v,_⟩:=aq;obtain⟨B,aI,aD,ax,ay,aB,aA,aC,aw,n,_⟩:=au;obtain⟨ap,m,t⟩:=v.jq;obtain⟨y,n1,C,rfl,H1,_⟩:=aG m;obtain⟨ac,l,p⟩:=n.jq;obtain⟨z,G,D,rfl,H,_⟩:=aG l;have al:Hid (∀W,Fr ag w W→Calls Tryz.prog 40 #[.pointer (some ⟨b,0,none⟩), .pointer (some ⟨B,0,none⟩)] W (aH W (.bool P))):=fun W f=>qM E F b B W (v.base.ao f) (n.base.ao f) ad ae P ah;have am:Hid (∀W,Fr ag w W→Calls Tryz.prog 98 #[.slice y n1 C, .slice z G D, .func (.func 19) #[] #[]] W (aH W (.bool Q))):=fun W f=>by
  refine Bt L M y n1 C z G D W H1.out H.out (by have:=H1.out;omega) (fun j Y=>?_) (fun j Y=>?_) aj Q ai;·obtain⟨I,J,a,O,R,U,V,X⟩:=lE m t H1.out Y;exact⟨I,J,a,O,R,U.ao f,V,fun i x Z=>f.ak (X i x Z) (fun x=>x)⟩
  ·obtain⟨I,J,a,O,R,U,V,X⟩:=lE l p H.out Y;exact⟨I,J,a,O,R,U.ao f,V,fun i x Z=>f.ak (X i x Z) (fun x=>x)⟩
 have aa:Hid (∀W,Fr ag w W→W.cell? ⟨h,0,none⟩=some (.pointer (some ⟨b,0,none⟩))∧W.cell? ⟨h,1,none⟩=some (.slice y n1 C)):=fun W f=>⟨(v.aE.fr f (fun x=>x)).cell 0,(v.aE.fr f (fun x=>x)).cell 1⟩;have ab:Hid (∀W,Fr ag w W→W.cell? ⟨k,0,none⟩=some (.pointer (some ⟨B,0,none⟩))∧W.cell? ⟨k,1,none⟩=some (.slice z G D)):=fun W f=>⟨(n.aE.fr f (fun x=>x)).cell 0,(n.aE.fr f (fun x=>x)).cell 1⟩;have r:=tN;clear v n m t H1 l p H ad ae av aj ah ai;go_enter Tryz.func43,Tryz.ntmps43;go_upto_region 3 with fail;refine jn 21 [.pointer (some ⟨h,0,none⟩), .pointer (some ⟨h,0,none⟩), .pointer (some ⟨h,0,none⟩), .pointer (some ⟨b,0,none⟩), .pointer (some ⟨k,0,none⟩), .pointer (some ⟨k,0,none⟩), .pointer (some ⟨k,0,none⟩), .pointer (some ⟨B,0,none⟩), .bool P, .bool P,bif P then .pointer (some ⟨h,0,none⟩)else undef,bif P then .pointer (some ⟨h,0,none⟩)else undef,bif P then .pointer (some ⟨h,1,none⟩)else undef,bif P then .slice y n1 C else undef,bif P then .pointer (some ⟨k,0,none⟩)else undef,bif P then .pointer (some ⟨k,0,none⟩)else undef,bif P then .pointer (some ⟨k,1,none⟩)else undef,bif P then .slice z G D else undef,bif P then .bool Q else undef,bif P then .bool Q else .bool false,bif P then .bool Q else .bool false] ?zL ?_;case zL=>
  refine⟨?zU,?zM,?zN,?zO,?zV,?zP,?zQ,?zR,?zS,?zT,?zA,?zB,?zC,?zD,?zE,?zF,?zG,?zH,?zI,?zJ,?zK,trivial⟩;all_goals intro u w' o d
  all_goals simp only[z1,z2,z3,z4,ar,Act.put,z5,z6,z7,Nat.reduceAdd,Nat.zero_add]
  case' zM=>simp only[show u 0=_ from d 0]
  case' zN=>simp only[show u 1=_ from d 1]
  case zO=>
   simp only[show u 2=_ from d 2];refine aF ?_;have q:_=some _:=(aa.out _ o).1;go_simp;exact aM
  case' zP=>simp only[show u 4=_ from d 4]
  case' zQ=>simp only[show u 5=_ from d 5]
  case zR=>
   simp only[show u 6=_ from d 6];refine aF ?_;have q:_=some _:=(ab.out _ o).1;go_simp;exact aM
  case zS=>
   simp only[show u 3=_ from d 3,show u 7=_ from d 7];refine aF ?_;go_simp;refine(al.out _ o).mono ?_;rintro e az⟨rfl,N⟩;exact⟨rfl,N⟩
  case' zT=>simp only[show u 8=_ from d 8]
  case' zA=>
   simp only[show u 9=_ from d 9];cases P;case false=>exact bV
  case' zB=>
   simp only[show u 10=_ from d 10,show u 9=_ from d 9];cases P;case false=>exact bV
  case' zC=>
   simp only[show u 11=_ from d 11,show u 9=_ from d 9];cases P;case false=>exact bV
  case zD=>
   simp only[show u 12=_ from d 12,show u 9=_ from d 9];cases P;case false=>exact bV
   refine aF ?_;have q:_=some _:=(aa.out _ o).2;go_simp;exact aM
  case' zE=>
   simp only[show u 9=_ from d 9];cases P;case false=>exact bV
  case' zF=>
   simp only[show u 14=_ from d 14,show u 9=_ from d 9];cases P;case false=>exact bV
  case' zG=>
   simp only[show u 15=_ from d 15,show u 9=_ from d 9];cases P;case false=>exact bV
  case zH=>
   simp only[show u 16=_ from d 16,show u 9=_ from d 9];cases P;case false=>exact bV
   refine aF ?_;have q:_=some _:=(ab.out _ o).2;go_simp;exact aM
  case zI=>
   simp only[show u 13=_ from d 13,show u 17=_ from d 17,show u 9=_ from d 9];cases P;case false=>exact bV
   refine aF ?_;have q:=r;go_simp;refine(am.out _ o).mono ?_;rintro e az⟨rfl,N⟩;exact⟨rfl,N⟩
  case' zJ=>
   simp only[show u 9=_ from d 9,show u 18=_ from d 18];cases P
  case' zK=>
   simp only[show u 19=_ from d 19];cases P
  all_goals
   try simp only[cond]
   refine aF ?_;go_simp;exact aM
 intro w' o;simp only[z1,z2,z3,z4,ar,Act.put,z5,z6,z7,z8,z9,jX,jY,Nat.reduceAdd,Nat.zero_add];have an:=af o;clear o;go_wp2;go_ret;exact⟨by cases P<;>rfl,an.out⟩
theorem xA(ms:List Value)(h b:Nat)(E:List Ent)(L:List ActV)(T:Nat→Prop)(w:World)(X:ez w h E L T)(Z:Mod w ms b E L)(a1:eh w)(N:cE 24 E)(d:eH L):
  Calls Tryz.prog 33 #[.agg ms.toArray, .pointer (some ⟨h,0,none⟩)] w (aH w (.bool true)):=by
 have aR:=Z.len;obtain⟨A,n,c,rfl,ah,be,a3,aO,m,r⟩:=id Z;have a8:=af Z;have bn:=af N;have aZ:=af (jG L E 24 N d.ok d.small);have ap:Hid (n=L.length∧n≤16∧L.length≤16):=by have:=d.len;exact⟨ah,by omega,this⟩
 have Q:Hid (∀j,j<L.length→∃v o a,A=some v∧L[j]? =some a∧cF w o a∧o.length=6∧∀i x,o[i]? =some x→w.cell? ((v.add (j*6)).add i)=some x):=fun j aT=>lE m r ah aT;obtain⟨S,bt,br,va,vk,K,bl,bq,mb,aU,aS⟩:=id X;have aI:Hid (∀w',Fr ag w w'→Calls Tryz.prog 47 #[.pointer (some ⟨h,0,none⟩)] w' (bm w' (.pointer (some ⟨S,0,none⟩)))):=fun w' f=>Dx w' h S ((aU.aE.fr f (fun x=>x)).cell 0);have aJ:=af aU.base;have aq:Hid (∀w',Fr ag w w'→Calls Tryz.prog 40 #[.pointer (some ⟨S,0,none⟩), .pointer (some ⟨b,0,none⟩)] w' (aH w' (.bool true))):=fun w' f=>qM E E S b w' (aJ.out.ao f) (a3.ao f) (N.j5 (by decide)) (N.j5 (by decide)) true (by simp);have ax:Hid (∀w',Fr ag w w'→Calls Tryz.prog 46 #[.pointer (some ⟨h,0,none⟩)] w' (bm w' (.int .i64 (n:Int)))):=fun w' f=>by
  rw[ah];exact qa h E L T w' (X.ao f)
 have ay:Hid (∀w',Fr ag w w'→Calls Tryz.prog 38 #[.pointer (some ⟨h,0,none⟩), .int .i64 (n:Int)] w' (Dy w' E L)):=fun w' f=>by
  rw[ah];exact rH h E L T w' (X.ao f)
 have P:Hid (∀w',Fr ag w w'→Calls Tryz.prog 41 #[.agg [Value.pointer (some ⟨b,0,none⟩), .slice A n c].toArray, .int .i64 (n:Int)] w' (DQ w' (fj L E))):=fun w' f=>by
  have q:=xD _ b E L n w' (Z.ao f) (a1.ao f) N d (by omega);rw[List.take_of_length_le (by omega)]at q;exact q
 have aw:Hid (∀w' s1 s2,eJ w' s1 (fj L E)→eJ w' s2 (fj L E)→Calls Tryz.prog 40 #[.pointer (some ⟨s1,0,none⟩), .pointer (some ⟨s2,0,none⟩)] w' (aH w' (.bool true))):=fun w' s1 s2 aP aQ=>
  qM _ _ s1 s2 w' aP aQ (aZ.out.j5 (by have:=ap.out;omega)) (aZ.out.j5 (by have:=ap.out;omega)) true (by simp);have O:Hid (∀w',Fr ag w w'→Calls Tryz.prog 48 #[.pointer (some ⟨h,0,none⟩)] w' (Az w' L)):=fun w' f=>xM h E L T w' (X.ao f) (by have:=d.len;omega) (fun a aa=>by have aP:=(d.small a aa).nr;have aQ:=(d.small a aa).nw;omega);have aL:Hid (∀a∈L,a.reads.length≤1099511627776∧a.writes.length≤1099511627776):=fun a aa=>by have aP:=(d.small a aa).nr;have aQ:=(d.small a aa).nw;omega
 clear aU aS m r X Z a1 N d ah be a3 aR;obtain⟨J,z⟩:∃J,[Value.pointer (some ⟨b,0,none⟩), .slice A n c]=J:=⟨_,rfl⟩;have aK:=af z;have aN:Hid ((Tryz.prog.info? 28).map (·.size)=some J.length):=by rw[Hid,←z];exact iw
 rw[z]at P a8⊢;clear z;go_enter Tryz.func33,Tryz.ntmps33;go_wp2_with(refine aB rfl 28 (.tmp 0) rfl J.toArray rfl ?_);intro w1 n1;have aC:=af n1.fr;have aW:=af n1.aE;clear n1;generalize w.heap.size=g2 at*;have C:=af (O.out _ aC.out);go_wp2_with fail;refine C.out.mono ?_;rintro e w2⟨g,rfl,ai,f2,_⟩;obtain⟨aO,m,r⟩:=ai;have D:Hid (∀j,j<L.length→∃v o a,some (⟨g,0,none⟩:Addr)=some v∧L[j]? =some a∧cF w2 o a∧o.length=6∧∀i x,o[i]? =some x→w2.cell? ((v.add (j*6)).add i)=some x):=fun j aT=>lE m r rfl aT;obtain⟨F,ab⟩:∃F,(⟨g,0,none⟩:Addr)=F:=⟨_,rfl⟩;rw[ab]at D⊢;have al:=af (aC.out.trans f2);have aX:=af (aW.out.fr f2 (fun x=>x));clear ab m r f2 C O aW aC;have a0:=ap.out.1;rw[←a0]at D Q⊢;have m0:Hid (∀W,Fr ag w2 W→W.cell? ⟨g2,0,none⟩=some (.pointer (some ⟨b,0,none⟩))∧W.cell? ⟨g2,1,none⟩=some (.slice A n c)):=fun W f=>by
  have q:=aX.out.fr f (fun x=>x);rw[←aK.out]at q;exact⟨q.cell 0,q.cell 1⟩
 clear a0;go_upto_region 2 with fail;refine jn 22 [.pointer (some ⟨h,0,none⟩), .int .i64 (n:Int), .pointer (some ⟨g2,1,none⟩), .slice A n c, .int .i64 (n:Nat), .bool false, .bool false, .slice (some F) n n, .int .i64 (n:Nat), .pointer (some ⟨g2,1,none⟩), .slice A n c, .int .i64 (n:Nat), .bool false, .bool false, .bool false, .pointer (some ⟨h,0,none⟩), .pointer (some ⟨S,0,none⟩), .pointer (some ⟨g2,0,none⟩), .pointer (some ⟨b,0,none⟩), .bool true, .bool false, .bool false] ?zP ?_;case zP=>
  refine⟨?yP,?zS,?yQ,?zT,?zU,?zV,?zW,?zX,?zY,?zZ,?zA,?zB,?zC,?zD,?zE,?zF,?zG,?zH,?zI,?zJ,?zK,?zL,trivial⟩;all_goals intro u w' l d
  all_goals simp only[z1,z2,z3,z4,ar,Act.put,z5,z6,z7,Nat.reduceAdd,Nat.zero_add]
  case zS=>
   simp only[show u 0=_ from d 0];refine aF ?_;go_simp;refine(ax.out _ (al.out.trans l)).mono ?_;rintro e aj⟨rfl,rfl⟩;exact aM
  case zT=>
   simp only[show u 2=_ from d 2];refine aF ?_;have q:_=some _:=(m0.out _ l).2;go_simp;exact aM
  case' zU=>simp only[show u 3=_ from d 3]
  case zV=>
   simp only[show u 1=_ from d 1,show u 4=_ from d 4];refine aF ?_;go_simp;exact aM
  case' zW=>simp only[show u 5=_ from d 5]
  case' zX=>simp only[show u 6=_ from d 6]
  case' zY=>simp only[show u 7=_ from d 7,show u 6=_ from d 6]
  case' zZ=>simp only[show u 6=_ from d 6]
  case zA=>
   simp only[show u 9=_ from d 9,show u 6=_ from d 6];refine aF ?_;have q:_=some _:=(m0.out _ l).2;go_simp;exact aM
  case' zB=>simp only[show u 10=_ from d 10,show u 6=_ from d 6]
  case zC=>
   simp only[show u 8=_ from d 8,show u 11=_ from d 11,show u 6=_ from d 6];refine aF ?_;go_simp;exact aM
  case' zD=>simp only[show u 6=_ from d 6,show u 12=_ from d 12]
  case' zE=>simp only[show u 13=_ from d 13]
  case' zF=>simp only[show u 14=_ from d 14]
  case zG=>
   simp only[show u 15=_ from d 15,show u 14=_ from d 14];refine aF ?_;go_simp;refine(aI.out _ (al.out.trans l)).mono ?_;rintro e aj⟨rfl,rfl⟩;exact aM
  case' zH=>simp only[show u 14=_ from d 14]
  case zI=>
   simp only[show u 17=_ from d 17,show u 14=_ from d 14];refine aF ?_;have q:_=some _:=(m0.out _ l).1;go_simp;exact aM
  case zJ=>
   simp only[show u 16=_ from d 16,show u 18=_ from d 18,show u 14=_ from d 14];refine aF ?_;go_simp;refine(aq.out _ (al.out.trans l)).mono ?_;rintro e aj⟨rfl,G⟩;exact⟨rfl,G⟩
  case' zK=>simp only[show u 19=_ from d 19,show u 14=_ from d 14]
  case' zL=>simp only[show u 14=_ from d 14,show u 20=_ from d 20]
  all_goals
   refine aF ?_;go_simp;exact aM
 intro w' l;simp only[z1,z2,z3,z4,ar,Act.put,z5,z6,z7,z8,z9,jX,jY,Nat.reduceAdd,Nat.zero_add];have am:=af (al.out.trans l);have an:=af l;clear l;generalize w'=w3 at*;go_wp2;go_loopw[6](fun i wr=>∃k:Nat,k≤n∧i= .int .i64 (k:Int)∧Fr ag w3 wr)(fun i _=>n-(intOf i).toNat);case atStart=>exact⟨0,Nat.zero_le _,rfl,az⟩
 case round=>
  obtain⟨k,a4,rfl,hF⟩:=hrel;have y:=af hF;have bo:=af a4;clear hF a4;by_cases B:k<n
  ·have t0:decide ((k:Int)<(n:Int))=true:=de (by omega);obtain⟨v,o,a,rfl,H,U,ad,p⟩:=Q.out k B;obtain⟨bp,M,a2,ac,Y,V,ae,t⟩:=D.out k B;obtain rfl:=Option.some.inj ac;obtain rfl:a=a2:=Option.some.inj (H.symm.trans Y);have i1:(k:Int)<(n:Int):=by omega
   have i2:(0:Int)≤(k:Int):=by omega
   have aY:Hid (Fr ag w wr):=am.out.trans y.out;have aD:Hid (Fr ag w2 wr):=an.out.trans y.out;have a9:Hid ((Tryz.prog.info? 46).map (·.size)=some o.length):=by rw[Hid,ad];exact bL
   have ba:Hid ((Tryz.prog.info? 46).map (·.size)=some M.length):=by rw[Hid,ae];exact bL
   have av:Hid (∀W,Fr ag wr W→∀i x,o[i]? =some x→W.cell? ((v.add (k*6)).add i)=some x):=fun W f i x aV=>(aY.out.trans f).ak (p i x aV) (fun x=>x);have aA:Hid (∀W,Fr ag wr W→∀i x,M[i]? =some x→W.cell? ((F.add (k*6)).add i)=some x):=fun W f i x aV=>(aD.out.trans f).ak (t i x aV) (fun x=>x);have I:=aL.out a (List.mem_of_getElem? H);have a6:Hid (∀W,Fr ag wr W→Calls Tryz.prog 19 #[.agg M.toArray, .agg o.toArray] W (aH W (.bool true))):=fun W f=>by
    have q:=pg a a M o W (V.ao (aD.out.trans f)) (U.ao (aY.out.trans f)) I.1 I.2;rw[(vR a a).2 rfl]at q;exact q
   have bv:IntKind.i64.wrap ((k:Int)+1)=(k:Int)+1:=IntWalk.i64_in _ (by have:=ap.out;omega);have R:=af B;clear p U ad H t V ae Y I ac B;go_upto_region 7 with fail;refine jn 11 [.slice (some F) n n, .int .i64 (k:Int), .pointer (some (F.add (k*6))), .agg M.toArray, .pointer (some ⟨g2,1,none⟩), .slice (some v) n c, .int .i64 (k:Int), .pointer (some (v.add (k*6))), .agg o.toArray, .bool true, .bool false] ?zQ ?_;case zQ=>
    refine⟨?yR,?yS,?yA,?yB,?yT,?yC,?yU,?yD,?yE,?yF,?zM,trivial⟩;all_goals intro u w' l d
    all_goals simp only[z1,z2,z3,z4,ar,Act.put,z5,z6,z7,Nat.reduceAdd,Nat.zero_add]
    case yA=>
     simp only[show u 0=_ from d 0,show u 1=_ from d 1];refine aF ?_;have bg:=i1;have bh:=i2;go_simp;exact aM
    case yB=>
     simp only[show u 2=_ from d 2];refine aF ?_;exact au _ _ rfl (F.add (k*6)) rfl M _ (aA.out _ l) Tryz.underlying46 rfl ba.out aM
    case yC=>
     simp only[show u 4=_ from d 4];refine aF ?_;have q:_=some _:=(m0.out _ (aD.out.trans l)).2;go_simp;exact aM
    case yD=>
     simp only[show u 5=_ from d 5,show u 6=_ from d 6];refine aF ?_;have bg:=i1;have bh:=i2;go_simp;exact aM
    case yE=>
     simp only[show u 7=_ from d 7];refine aF ?_;exact au _ _ rfl (v.add (k*6)) rfl o _ (av.out _ l) Tryz.underlying46 rfl a9.out aM
    case yF=>
     simp only[show u 3=_ from d 3,show u 8=_ from d 8];refine aF ?_;go_simp;refine(a6.out _ l).mono ?_;rintro e aj⟨rfl,G⟩;exact⟨rfl,G⟩
    case' zM=>simp only[show u 9=_ from d 9]
    all_goals
     refine aF ?_;go_simp;exact aM
   intro w' l;simp only[z1,z2,z3,z4,ar,Act.put,z5,z6,z7,z8,z9,jX,jY,Nat.reduceAdd,Nat.zero_add];have aG:=af (y.out.trans l);clear l;go_wp2;go_roundw;case rel=>exact⟨k+1,by have:=R.out;omega,by go_num,aG.out⟩
   case measure=>simp[intOf];have:=R.out;omega
  ·have t0:decide ((k:Int)<(n:Int))=false:=cD (by omega);have bi:¬(k:Int)<(n:Int):=by omega
   have m1:wr.cell? ⟨g2,1,none⟩=some (.slice A n c):=(m0.out _ (an.out.trans y.out)).2;go_wp2_with fail;refine(ay.out _ (am.out.trans y.out)).mono ?_;rintro e bu⟨s,rfl,rfl,a5⟩;have bb:=af a5;clear a5 m1;go_upto_region 10 with fail;refine At 12 [iS (.int .i64 0),iS (.bool true),iS (.bool true),iS (.pointer (some ⟨s,0,none⟩)),iS (.agg J.toArray),iS (.pointer (some ⟨g2,1,none⟩)),iS (.slice A n c),iS (.int .i64 (n:Nat)),⟨fun bk bj=>∃q:Nat,bk= .pointer (some ⟨q,0,none⟩)∧eJ bj q (fj L E),fun _ _ _ f⟨q,e,h⟩=>⟨q,e,h.ao f⟩⟩,iS (.bool true),iS (.bool true),iS (.bool true)] ?zR ?_;case zR=>
    refine⟨?yV,?yG,?yH,?yI,?yJ,?yK,?yL,?yM,?yN,?yO,?zN,?zO,trivial⟩;all_goals intro u w' l d
    all_goals simp only[z1,z2,z3,z4,ar,Act.put,z5,z6,z7,Nat.reduceAdd,Nat.zero_add]
    case yG=>
     simp only[show u 0=_ from d 0];refine aF ?_;go_simp;exact⟨_,rfl,az,rfl⟩
    case' yH=>simp only[show u 1=_ from d 1]
    case' yI=>simp only[show u 2=_ from d 2]
    case yJ=>
     simp only[show u 2=_ from d 2];refine aF ?_;exact au _ _ rfl ⟨g2,0,none⟩ rfl J _ (kX (aX.out.fr ((an.out.trans y.out).trans l) (fun x=>x))) Tryz.underlying28 rfl aN.out ⟨_,rfl,az,rfl⟩
    case' yK=>simp only[show u 2=_ from d 2]
    case yL=>
     simp only[show u 5=_ from d 5,show u 2=_ from d 2];refine aF ?_;have q:_=some _:=(m0.out _ ((an.out.trans y.out).trans l)).2;go_simp;exact⟨_,rfl,az,rfl⟩
    case' yM=>simp only[show u 6=_ from d 6,show u 2=_ from d 2]
    case yN=>
     simp only[show u 4=_ from d 4,show u 7=_ from d 7,show u 2=_ from d 2];refine aF ?_;go_simp;refine(P.out _ ((am.out.trans y.out).trans l)).mono ?_;rintro e aj⟨q,rfl,bf,G⟩;exact⟨_,rfl,G,⟨q,rfl,bf⟩⟩
    case yO=>
     obtain⟨bs,bc,bd⟩:=d 8;simp only[show u 3=_ from d 3,bc,show u 2=_ from d 2];refine aF ?_;go_simp;refine(aw.out _ _ _ (bb.out.ao l) bd).mono ?_;rintro e aj⟨rfl,G⟩;exact⟨_,rfl,G,rfl⟩
    case' zN=>simp only[show u 2=_ from d 2,show u 9=_ from d 9]
    case' zO=>simp only[show u 10=_ from d 10]
    all_goals
     refine aF ?_;go_simp;exact⟨_,rfl,az,rfl⟩
   intro u w' l d;simp only[z1,z2,z3,z4,ar,Act.put,z5,z6,z7,z8,z9,Nat.reduceAdd,Nat.zero_add,show u 11=_ from d 11 (by omega)];clear d;have a7:=af ((am.out.trans y.out).trans l);clear l;go_wp2;go_ret;exact⟨rfl,a7.out⟩
end Go.Proofs.YtphjagkehiklkaaGreatDoor
