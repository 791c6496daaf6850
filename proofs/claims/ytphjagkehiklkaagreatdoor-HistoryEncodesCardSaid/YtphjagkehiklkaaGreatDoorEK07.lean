/- Texts. -/
import Derived.Test.YtphjagkehiklkaaGreatDoorEK06
set_option linter.unusedVariables false
set_option linter.unusedSimpArgs false
set_option maxRecDepth 100000
set_option maxHeartbeats 8000000
namespace Go.Proofs.YtphjagkehiklkaaGreatDoor
open Proofs.Tryz Go.RowKit Go.Shelf
theorem fI(a m:Int)(w:World):Calls prog 153 #[.int .i64 a, .int .i64 m] w (bJ w (.bool (decide (0<=a)&&decide (a<=m)))):=by
 by_cases b:0<=a;·have t1:decide (0<=a)=true:=decide_eq_true b;rw[t1];go_enter func153,ntmps153;go_wp2;go_ret;exact⟨by simp,rfl⟩
 ·have t1:decide (0<=a)=false:=decide_eq_false b;rw[t1];go_enter func153,ntmps153;go_wp2;go_ret;exact⟨rfl,rfl⟩
theorem tY(a:Int)(w:World):Calls prog 152 #[.int .i64 a] w (bJ w (.bool (decide (1<=a)&&decide (a<=20)))):=by
 by_cases b:1<=a;·have t1:decide (1<=a)=true:=decide_eq_true b;rw[t1];go_enter func152,ntmps152;go_wp2;go_ret;exact⟨by simp,rfl⟩
 ·have t1:decide (1<=a)=false:=decide_eq_false b;rw[t1];go_enter func152,ntmps152;go_wp2;go_ret;exact⟨rfl,rfl⟩
def oK(b:UInt8):Bool:=decide (33<=b.toNat)&&decide (b.toNat<=126)&&!(b.toNat==47)
def lC(s:ByteArray):Bool:=!s.toList.isEmpty&&decide (s.size<=32)&&s.toList.all oK
theorem GV(s:ByteArray)(w:World)(H:s.size<=1099511627776):Calls prog 154 #[.string s] w (bJ w (.bool (lC s))):=by
 cases he:s.toList.isEmpty
 ·by_cases f:s.size<=32
  ·have t1:decide (32<(s.size:Int))=false:=ct (by omega);have D:=af he;have E:=af f;obtain⟨I,m⟩:∃I,I=lC s:=⟨_,rfl⟩;rw[<-m];have d:Hid (I=s.toList.all oK):=by simp only[Hid];rw[m,lC,he,decide_eq_true f];rfl
   have l:Hid (∀i,i<s.size->∃b,∃h:i<s.size,s.toList[i]? =some b/\s[i]=b):=λi z=>by
    have e:s.toList[i]? =some (s.toList[i]'(by rw[fF];exact z)):=List.getElem?_eq_getElem _;obtain⟨t,u⟩:=Ab e;exact⟨_,t,e,u⟩
   clear f m;go_enter func154,ntmps154;go_wp2;go_loopw[13](λi wr=>∃k:Nat,k<=s.size/\(∀b∈s.toList.take k,oK b=true)/\i= .int .i64 k/\w=wr)(λi _=>s.size-(intOf i).toNat);case atStart=>exact⟨0,by omega,by simp,rfl,rfl⟩
   case round=>
    obtain⟨k,G,c,rfl,rfl⟩:=hrel;have r:=af c;clear c;by_cases n:k<s.size
    ·have v:(k:Int)<(s.size:Int):=by omega
     have y:(0:Int)<=(k:Int):=by omega
     obtain⟨b,F,e,t⟩:=l.out k n;have q:=af e;clear e;have g:∀h:oK b=false,I=false:=λh=>by
      rw[d.out,List.all_eq_false];exact⟨b,List.mem_of_getElem? q.out,by rw[h];simp⟩
     have a:=af g;clear g;by_cases g1:33<=b.toNat
     ·have A:decide ((b.toNat:Int)<33)=false:=ct (by omega);have o:¬(b.toNat:Int)<33:=by omega
      by_cases g2:b.toNat<=126
      ·have B:decide ((126:Int)<(b.toNat:Int))=false:=ct (by omega);have p:¬(126:Int)<(b.toNat:Int):=by omega
       by_cases g3:b.toNat=47
       ·have C:((b.toNat:Int)==47)=true:=by rw[beq_iff_eq];omega
        obtain rfl:I=false:=a.out (by simp[oK,g3]);clear g1 g2 g3;go_wp2;go_ret;exact⟨rfl,rfl⟩
       ·have C:((b.toNat:Int)==47)=false:=by rw[beq_eq_false_iff_ne];omega
        have HB:Hid (oK b=true):=by simp[Hid,oK,g1,g2,g3]
        clear g1 g2 g3 a;go_wp2;go_roundw
        case rel=>exact⟨k+1,by omega,λx j=>by
          rw[List.take_add_one,q.out,Option.toList_some,List.mem_append,List.mem_singleton]at j;rcases j with j|rfl;·exact r.out x j
          ·exact HB.out,by go_num,trivial⟩
        case measure=>simp[intOf];omega
      ·have B:decide ((126:Int)<(b.toNat:Int))=true:=cX (by omega);have p:(126:Int)<(b.toNat:Int):=by omega
       obtain rfl:I=false:=a.out (by simp[oK,g2]);clear g1 g2;go_wp2;go_ret;exact⟨rfl,rfl⟩
     ·have A:decide ((b.toNat:Int)<33)=true:=cX (by omega);have o:(b.toNat:Int)<33:=by omega
      obtain rfl:I=false:=a.out (by simp[oK,g1]);clear g1;go_wp2;go_ret;exact⟨rfl,rfl⟩
    ·obtain rfl:k=s.size:=by omega
     have v:¬(s.size:Int)<(s.size:Int):=by omega
     obtain rfl:I=true:=by
      rw[d.out,List.all_eq_true];have h:=r.out;rw[List.take_of_length_le (by rw[fF];omega)]at h;exact h
     go_wp2;go_ret;exact⟨rfl,rfl⟩
  ·have t1:decide (32<(s.size:Int))=true:=cX (by omega);have d:Hid (lC s=false):=by simp[Hid,lC,f]
   rw[d.out];clear f;go_enter func154,ntmps154;go_wp2;go_ret;exact⟨rfl,rfl⟩
 ·have d:Hid (lC s=false):=by simp[Hid,lC,he]
  rw[d.out];go_enter func154,ntmps154;go_wp2;go_ret;exact⟨rfl,rfl⟩
def qC(u:iE)(n:aG):Bool:=(u.owner||n.owner.toList.isEmpty)&&(u.number||n.number==0)&&(u.index||n.index==0)&&(u.text||n.text.toList.isEmpty)&&(!u.owner||dj n.owner)&&
 (!u.number||(decide (0<=n.number)&&decide (n.number<=1073741824)))&&(!u.index||(decide (0<=n.index)&&decide (n.index<=u.aS)))&&(!u.text||lC n.text)
def da(n:aG):Bool:=decide (1<=n.kind)&&decide (n.kind<=20)&&(match iO[n.kind.toNat]? with|some u=>qC u n|none=>false)
def Checked(w:World)(n:aG)(e:Ending)(w':World):Prop:=∃k:Int,e= .returned (.int .i64 k)/\(k==0)=da n/\Fr Nothing w w'
theorem iE.one(u:iE):u.cells.toArray.all (·.oneCell')=true:=by simp[iE.cells,Value.oneCell']
theorem zN(wd:ByteArray)(f e bi g:Bool)(h k:Int)(c d:ByteArray)(b a:Int):
  qC ⟨wd,f,e,bi,g,h⟩ ⟨k,c,b,a,d⟩=!((!f&&!c.toList.isEmpty)||(!e&&b !=0)||(!bi&&a !=0)||(!g&&!d.toList.isEmpty)||(f&&!dj c)||(e&&!(decide (0<=b)&&decide (b<=1073741824)))||(bi&&!(decide (0<=a)&&decide (a<=h)))||(g&&!lC d)):=by
 unfold qC;simp only[bne];generalize(decide (0<=b)&&decide (b<=1073741824))=i;generalize(decide (0<=a)&&decide (a<=h))=j;generalize(b==0)=d1;generalize(a==0)=d2;generalize dj c=v;generalize lC d=x;generalize c.toList.isEmpty=l;generalize d.toList.isEmpty=m;cases f<;>cases e<;>cases bi<;>cases g<;>simp[Bool.and_assoc]
theorem Db(k:Nat)(r:ByteArray)(y t:Int)(s wd:ByteArray)(f d bi g:Bool)(A:Int)(w:World)(ba:dO w)(bn:1<=k/\k<=20)(hu:iO[k]? =some ⟨wd,f,d,bi,g,A⟩)(bb:r.size<=1099511627776)(bc:s.size<=1099511627776):
  Calls prog 115 #[.agg #[.int .i64 (k:Int), .string r, .int .i64 y, .int .i64 t, .string s]] w (Checked w ⟨(k:Int),r,y,t,s⟩):=by
 have p:Hid (da ⟨(k:Int),r,y,t,s⟩=qC ⟨wd,f,d,bi,g,A⟩ ⟨(k:Int),r,y,t,s⟩):=by
  simp only[Hid,da,Int.toNat_natCast,hu];rw[cX (show(1:Int)<=(k:Int)by omega),cX (show(k:Int)<=20 by omega)];rfl
 have l:=af (zN wd f d bi g A k r s y t);obtain⟨aK,ad⟩:∃aK,aK=iE.cells ⟨wd,f,d,bi,g,A⟩:=⟨_,rfl⟩;have a4:Hid (∀j v,(iE.cells ⟨wd,f,d,bi,g,A⟩)[j]? =some v->w.cell? ⟨0,k*6+j,none⟩=some v):=ba.row k _ hu;have a1:Hid ((prog.info? 189).map (·.size)=some (iE.cells ⟨wd,f,d,bi,g,A⟩).length):=kB;have ab:Hid ((prog.info? 189).map (·.size)=some (iE.cells ⟨wd,f,d,bi,g,A⟩).toArray.size):=kB;have a3:=af (iE.one ⟨wd,f,d,bi,g,A⟩);have aa:=af ad;rw[<-ad]at a4 a1 ab a3;have a6:Hid (∀w,Calls prog 152 #[.int .i64 (k:Int)] w (bJ w (.bool true))):=λw=>by
  have h:=tY (k:Int) w;rw[cX (show(1:Int)<=(k:Int)by omega),cX (show(k:Int)<=20 by omega)]at h;exact h
 obtain⟨va,aj⟩:∃va,dj r=va:=⟨_,rfl⟩;obtain⟨R,al⟩:∃R,lC s=R:=⟨_,rfl⟩;obtain⟨am,ae⟩:∃c,(decide (0<=y)&&decide (y<=1073741824))=c:=⟨_,rfl⟩;obtain⟨ao,ag⟩:∃c,(decide (0<=t)&&decide (t<=A))=c:=⟨_,rfl⟩;have CV:Hid (∀w,Calls prog 151 #[.string r] w (aM w (.bool va))):=λw=>by rw[<-aj];exact oe r w bb
 have bg:Hid (∀w,Calls prog 154 #[.string s] w (aM w (.bool R))):=λw=>by rw[<-al];exact(GV s w bc).mono (λ_ _ h=>⟨h.1,by rw[h.2];exact aA⟩)
 have bf:Hid (∀w,Calls prog 153 #[.int .i64 y, .int .i64 1073741824] w (bJ w (.bool am))):=λw=>by rw[<-ae];exact fI y 1073741824 w
 have be:Hid (∀w,Calls prog 153 #[.int .i64 t, .int .i64 A] w (bJ w (.bool ao))):=λw=>by rw[<-ag];exact fI t A w
 obtain⟨ap,bj⟩:∃ap:Bool,r.toList.isEmpty=!ap:=⟨!r.toList.isEmpty,by simp⟩;obtain⟨av,bm⟩:∃av:Bool,s.toList.isEmpty=!av:=⟨!s.toList.isEmpty,by simp⟩;obtain⟨au,bk⟩:∃au:Bool,(y !=0)=au:=⟨_,rfl⟩;obtain⟨x3,bl⟩:∃x3:Bool,(t !=0)=x3:=⟨_,rfl⟩;rw[bj,bk,bl,bm,aj,al,ae,ag,Bool.not_not,Bool.not_not]at l;have br:(k:Int)<21:=by omega
 have bs:k<21:=by omega
 have bt:(0:Int)<=(k:Int):=by omega
 clear ba bn hu bb bc ad aj al ae ag;go_enter func115,ntmps115;go_wp2_with(refine aD rfl 106 (.tmp 0) rfl #[.int .i64 (k:Int), .string r, .int .i64 y, .int .i64 t, .string s] rfl ?_);intro w1 n1;have aV:=af n1.fr;have ax:=af n1.aF;clear n1;generalize w.heap.size=C at*;have ac:Hid (aq w1 C 106 #[.int .i64 (k:Int), .string r, .int .i64 y, .int .i64 t, .string s]):=ax.out;clear ax;have bh:w1.cell? ⟨C,0,none⟩=some (.int .i64 (k:Int)):=ac.out.cell 0;go_wp2_with fail;refine(a6.out _).mono ?_;rintro e w'⟨rfl,rfl⟩;go_wp2_with(refine aB rfl 189 (.tmp 10) rfl ⟨0,k*6,none⟩ rfl aK _ ?zB underlying189 rfl a1.out (aX.go ?hold));case zB=>exactλj x bo=>by rw[Addr.add_mid];exact aV.out.ak (a4.out j x bo) id
 unfold aX;go_wp2_with(refine an rfl 189 rfl GB xj #[.string ByteArray.empty, .bool false, .bool false, .bool false, .bool false, .int .i64 0] rfl ?_);intro w2 bd;have a2:=af bd;clear bd;generalize aJ:w1.heap.size=B at*;have Z:=af aJ;clear aJ;have a7:Hid (aq w2 B 189 #[.string ByteArray.empty, .bool false, .bool false, .bool false, .bool false, .int .i64 0]):=by have h:=a2.out.aF;rw[Z.out]at h;exact h
 go_wp2_with(refine ai rfl 189 (.tmp 3) _ rfl B aK.toArray rfl rfl _ _ a7.out ab.out (by rw[aa.out];rfl) a3.out ?_);intro w3 b3 f3;have n:Hid (aq w3 B 189 #[.string wd, .bool f, .bool d, .bool bi, .bool g, .int .i64 A]):=by have h:=b3;rw[aa.out]at h;exact h
 have S:Hid (Fr Nothing w1 w3):=a2.out.fr.aw f3 (λi bq e=>by have bp:i=B:=e;have:=Z.out;omega);have m:=af (aV.out.trans S.out);have o:=af (ac.out.fr S.out id);clear b3 f3 a2 a7 S aV ac bh Z a4 a1 ab a3 aa a6;obtain⟨aQ,ay⟩:∃z:Bool,(bif f then false else ap)=z:=⟨_,rfl⟩;have T:=af ay;clear ay;go_upto_region 4 with fail;refine lF 9 [.pointer (some ⟨B,1,none⟩), .bool f, .bool (!f), .bool (!f),bif f then undef else .pointer (some ⟨C,1,none⟩),bif f then undef else .string r,bif f then undef else .bool ap,bif f then .bool false else .bool ap, .bool aQ] ?zC ?_;case zC=>
  refine⟨?xY,?zK,?zL,?zM,?zO,?zP,?zQ,?zR,?zS,trivial⟩;all_goals intro u w' b a
  all_goals simp only[z1,z2,z3,z4,ar,Act.put,z5,z6,z7,Nat.reduceAdd,Nat.zero_add]
  case zK=>
   simp only[ah (a 0)];refine aI ?_;have q:_=some (Value.bool f):=(n.out.fr b id).cell 1;go_simp;exact aR
  case' zL=>simp only[ah (a 1)]
  case' zM=>simp only[ah (a 2)]
  case' zO=>
   simp only[ah (a 3)];cases f;case true=>exact bS
  case zP=>
   simp only[ah (a 4),ah (a 3)];cases f;case true=>exact bS
   refine aI ?_;have q:_=some (Value.string r):=(o.out.fr b id).cell 1;go_simp;exact aR
  case' zQ=>
   simp only[ah (a 5),ah (a 3)];cases f;case true=>exact bS
  case' zR=>
   simp only[ah (a 3),ah (a 6)];cases f
  case zS=>
   simp only[ah (a 7)];cases f<;>exact aI (by go_simp;exact⟨by rw[<-T.out];rfl,aA⟩)
  all_goals
   try simp only[cond]
   refine aI ?_;go_simp;exact aR
 intro w' b;simp only[z1,z2,z3,z4,ar,Act.put,z5,z6,z7,z8,z9,jS,jT,Nat.reduceAdd,Nat.zero_add];have m:=af (m.out.trans b);have o:=af (o.out.fr b id);have n:=af (n.out.fr b id);clear b;have D:Hid ((!f&&ap)=aQ):=by
  rw[Hid,<-T.out];cases f<;>simp
 clear T;cases L:aQ;case true=>
  rw[L]at D;clear L;go_wp2;go_ret;refine⟨_,rfl,?_,m.out⟩;rw[p.out,l.out,D.out];simp
 rw[L]at D;clear L;obtain⟨aS,az⟩:∃z:Bool,(bif d then false else au)=z:=⟨_,rfl⟩;have U:=af az;clear az;go_upto_region 5 with fail;refine lF 9 [.pointer (some ⟨B,2,none⟩), .bool d, .bool (!d), .bool (!d),bif d then undef else .pointer (some ⟨C,2,none⟩),bif d then undef else .int .i64 y,bif d then undef else .bool au,bif d then .bool false else .bool au, .bool aS] ?zD ?_;case zD=>
  refine⟨?xZ,?zT,?zU,?zV,?zW,?zX,?zY,?zZ,?yA,trivial⟩;all_goals intro u w' b a
  all_goals simp only[z1,z2,z3,z4,ar,Act.put,z5,z6,z7,Nat.reduceAdd,Nat.zero_add]
  case zT=>
   simp only[ah (a 0)];refine aI ?_;have q:_=some (Value.bool d):=(n.out.fr b id).cell 2;go_simp;exact aR
  case' zU=>simp only[ah (a 1)]
  case' zV=>simp only[ah (a 2)]
  case' zW=>
   simp only[ah (a 3)];cases d;case true=>exact bS
  case zX=>
   simp only[ah (a 4),ah (a 3)];cases d;case true=>exact bS
   refine aI ?_;have q:_=some (Value.int .i64 y):=(o.out.fr b id).cell 2;go_simp;exact aR
  case' zY=>
   simp only[ah (a 5),ah (a 3)];cases d;case true=>exact bS
  case' zZ=>
   simp only[ah (a 3),ah (a 6)];cases d
  case yA=>
   simp only[ah (a 7)];cases d<;>exact aI (by go_simp;exact⟨by rw[<-U.out];rfl,aA⟩)
  all_goals
   try simp only[cond]
   refine aI ?_;go_simp;exact aR
 intro w' b;simp only[z1,z2,z3,z4,ar,Act.put,z5,z6,z7,z8,z9,jS,jT,Nat.reduceAdd,Nat.zero_add];have m:=af (m.out.trans b);have o:=af (o.out.fr b id);have n:=af (n.out.fr b id);clear b;have F:Hid ((!d&&au)=aS):=by
  rw[Hid,<-U.out];cases d<;>simp
 clear U;cases M:aS;case true=>
  rw[M]at F;clear M;go_wp2;go_ret;refine⟨_,rfl,?_,m.out⟩;rw[p.out,l.out,F.out];simp
 rw[M]at F;clear M;obtain⟨aT,aC⟩:∃z:Bool,(bif bi then false else x3)=z:=⟨_,rfl⟩;have V:=af aC;clear aC;go_upto_region 6 with fail;refine lF 9 [.pointer (some ⟨B,3,none⟩), .bool bi, .bool (!bi), .bool (!bi),bif bi then undef else .pointer (some ⟨C,3,none⟩),bif bi then undef else .int .i64 t,bif bi then undef else .bool x3,bif bi then .bool false else .bool x3, .bool aT] ?zE ?_;case zE=>
  refine⟨?ZA,?yB,?yC,?yD,?yE,?yF,?yG,?yH,?yI,trivial⟩;all_goals intro u w' b a
  all_goals simp only[z1,z2,z3,z4,ar,Act.put,z5,z6,z7,Nat.reduceAdd,Nat.zero_add]
  case yB=>
   simp only[ah (a 0)];refine aI ?_;have q:_=some (Value.bool bi):=(n.out.fr b id).cell 3;go_simp;exact aR
  case' yC=>simp only[ah (a 1)]
  case' yD=>simp only[ah (a 2)]
  case' yE=>
   simp only[ah (a 3)];cases bi;case true=>exact bS
  case yF=>
   simp only[ah (a 4),ah (a 3)];cases bi;case true=>exact bS
   refine aI ?_;have q:_=some (Value.int .i64 t):=(o.out.fr b id).cell 3;go_simp;exact aR
  case' yG=>
   simp only[ah (a 5),ah (a 3)];cases bi;case true=>exact bS
  case' yH=>
   simp only[ah (a 3),ah (a 6)];cases bi
  case yI=>
   simp only[ah (a 7)];cases bi<;>exact aI (by go_simp;exact⟨by rw[<-V.out];rfl,aA⟩)
  all_goals
   try simp only[cond]
   refine aI ?_;go_simp;exact aR
 intro w' b;simp only[z1,z2,z3,z4,ar,Act.put,z5,z6,z7,z8,z9,jS,jT,Nat.reduceAdd,Nat.zero_add];have m:=af (m.out.trans b);have o:=af (o.out.fr b id);have n:=af (n.out.fr b id);clear b;have G:Hid ((!bi&&x3)=aT):=by
  rw[Hid,<-V.out];cases bi<;>simp
 clear V;cases N:aT;case true=>
  rw[N]at G;clear N;go_wp2;go_ret;refine⟨_,rfl,?_,m.out⟩;rw[p.out,l.out,G.out];simp
 rw[N]at G;clear N;obtain⟨aU,aE⟩:∃z:Bool,(bif g then false else av)=z:=⟨_,rfl⟩;have W:=af aE;clear aE;go_upto_region 7 with fail;refine lF 9 [.pointer (some ⟨B,4,none⟩), .bool g, .bool (!g), .bool (!g),bif g then undef else .pointer (some ⟨C,4,none⟩),bif g then undef else .string s,bif g then undef else .bool av,bif g then .bool false else .bool av, .bool aU] ?zF ?_;case zF=>
  refine⟨?ZB,?yJ,?yK,?yL,?yM,?yN,?yO,?yP,?yQ,trivial⟩;all_goals intro u w' b a
  all_goals simp only[z1,z2,z3,z4,ar,Act.put,z5,z6,z7,Nat.reduceAdd,Nat.zero_add]
  case yJ=>
   simp only[ah (a 0)];refine aI ?_;have q:_=some (Value.bool g):=(n.out.fr b id).cell 4;go_simp;exact aR
  case' yK=>simp only[ah (a 1)]
  case' yL=>simp only[ah (a 2)]
  case' yM=>
   simp only[ah (a 3)];cases g;case true=>exact bS
  case yN=>
   simp only[ah (a 4),ah (a 3)];cases g;case true=>exact bS
   refine aI ?_;have q:_=some (Value.string s):=(o.out.fr b id).cell 4;go_simp;exact aR
  case' yO=>
   simp only[ah (a 5),ah (a 3)];cases g;case true=>exact bS
  case' yP=>
   simp only[ah (a 3),ah (a 6)];cases g
  case yQ=>
   simp only[ah (a 7)];cases g<;>exact aI (by go_simp;exact⟨by rw[<-W.out];rfl,aA⟩)
  all_goals
   try simp only[cond]
   refine aI ?_;go_simp;exact aR
 intro w' b;simp only[z1,z2,z3,z4,ar,Act.put,z5,z6,z7,z8,z9,jS,jT,Nat.reduceAdd,Nat.zero_add];have m:=af (m.out.trans b);have o:=af (o.out.fr b id);have n:=af (n.out.fr b id);clear b;have I:Hid ((!g&&av)=aU):=by
  rw[Hid,<-W.out];cases g<;>simp
 clear W;cases O:aU;case true=>
  rw[O]at I;clear O;go_wp2;go_ret;refine⟨_,rfl,?_,m.out⟩;rw[p.out,l.out,I.out];simp
 rw[O]at I;clear O;obtain⟨E,a8⟩:∃z:Bool,(bif f then(!va)else false)=z:=⟨_,rfl⟩;have aZ:=af a8;clear a8;go_upto_region 9 with fail;refine lF 9 [.pointer (some ⟨B,1,none⟩), .bool f, .bool f,bif f then .pointer (some ⟨C,1,none⟩)else undef,bif f then .string r else undef,bif f then .bool va else undef,bif f then .bool (!va)else undef,bif f then .bool (!va)else .bool false, .bool E] ?zG ?_;case zG=>
  refine⟨?ZC,?yR,?yS,?yT,?yU,?yV,?yW,?yX,?yY,trivial⟩;all_goals intro u w' b a
  all_goals simp only[z1,z2,z3,z4,ar,Act.put,z5,z6,z7,Nat.reduceAdd,Nat.zero_add]
  case yR=>
   simp only[ah (a 0)];refine aI ?_;have q:_=some (Value.bool f):=(n.out.fr b id).cell 1;go_simp;exact aR
  case' yS=>simp only[ah (a 1)]
  case' yT=>
   simp only[ah (a 2)];cases f;case false=>exact bS
  case yU=>
   simp only[ah (a 3),ah (a 2)];cases f;case false=>exact bS
   refine aI ?_;have q:_=some (Value.string r):=(o.out.fr b id).cell 1;go_simp;exact aR
  case yV=>
   simp only[ah (a 4),ah (a 2)];cases f;case false=>exact bS
   refine aI ?_;go_simp;refine(CV.out _).mono ?_;rintro e a5⟨rfl,f9⟩;exact⟨rfl,f9⟩
  case' yW=>
   simp only[ah (a 5),ah (a 2)];cases f;case false=>exact bS
  case' yX=>
   simp only[ah (a 2),ah (a 6)];cases f
  case yY=>
   simp only[ah (a 7)];cases f<;>exact aI (by go_simp;exact⟨by rw[<-aZ.out];rfl,aA⟩)
  all_goals
   try simp only[cond]
   refine aI ?_;go_simp;exact aR
 intro w' b;simp only[z1,z2,z3,z4,ar,Act.put,z5,z6,z7,z8,z9,jS,jT,Nat.reduceAdd,Nat.zero_add];have m:=af (m.out.trans b);have o:=af (o.out.fr b id);have n:=af (n.out.fr b id);clear b;have aL:Hid ((f&&!va)=E):=by
  rw[Hid,<-aZ.out];cases f<;>simp
 clear aZ;cases aO:E;case true=>
  rw[aO]at aL;clear aO;go_wp2;go_ret;refine⟨_,rfl,?_,m.out⟩;rw[p.out,l.out,aL.out];simp
 rw[aO]at aL;clear aO;obtain⟨aW,aG⟩:∃z:Bool,(bif d then(!am)else false)=z:=⟨_,rfl⟩;have X:=af aG;clear aG;go_upto_region 11 with fail;refine lF 9 [.pointer (some ⟨B,2,none⟩), .bool d, .bool d,bif d then .pointer (some ⟨C,2,none⟩)else undef,bif d then .int .i64 y else undef,bif d then .bool am else undef,bif d then .bool (!am)else undef,bif d then .bool (!am)else .bool false, .bool aW] ?zH ?_;case zH=>
  refine⟨?ZD,?yZ,?xA,?xB,?xC,?xD,?xE,?xF,?xG,trivial⟩;all_goals intro u w' b a
  all_goals simp only[z1,z2,z3,z4,ar,Act.put,z5,z6,z7,Nat.reduceAdd,Nat.zero_add]
  case yZ=>
   simp only[ah (a 0)];refine aI ?_;have q:_=some (Value.bool d):=(n.out.fr b id).cell 2;go_simp;exact aR
  case' xA=>simp only[ah (a 1)]
  case' xB=>
   simp only[ah (a 2)];cases d;case false=>exact bS
  case xC=>
   simp only[ah (a 3),ah (a 2)];cases d;case false=>exact bS
   refine aI ?_;have q:_=some (Value.int .i64 y):=(o.out.fr b id).cell 2;go_simp;exact aR
  case xD=>
   simp only[ah (a 4),ah (a 2)];cases d;case false=>exact bS
   refine aI ?_;go_simp;refine(bf.out _).mono ?_;rintro e a5⟨rfl,rfl⟩;exact aR
  case' xE=>
   simp only[ah (a 5),ah (a 2)];cases d;case false=>exact bS
  case' xF=>
   simp only[ah (a 2),ah (a 6)];cases d
  case xG=>
   simp only[ah (a 7)];cases d<;>exact aI (by go_simp;exact⟨by rw[<-X.out];rfl,aA⟩)
  all_goals
   try simp only[cond]
   refine aI ?_;go_simp;exact aR
 intro w' b;simp only[z1,z2,z3,z4,ar,Act.put,z5,z6,z7,z8,z9,jS,jT,Nat.reduceAdd,Nat.zero_add];have m:=af (m.out.trans b);have o:=af (o.out.fr b id);have n:=af (n.out.fr b id);clear b;have J:Hid ((d&&!am)=aW):=by
  rw[Hid,<-X.out];cases d<;>simp
 clear X;cases P:aW;case true=>
  rw[P]at J;clear P;go_wp2;go_ret;refine⟨_,rfl,?_,m.out⟩;rw[p.out,l.out,J.out];simp
 rw[P]at J;clear P;obtain⟨aY,aH⟩:∃z:Bool,(bif bi then(!ao)else false)=z:=⟨_,rfl⟩;have Y:=af aH;clear aH;go_upto_region 12 with fail;refine lF 11 [.pointer (some ⟨B,3,none⟩), .bool bi, .bool bi,bif bi then .pointer (some ⟨C,3,none⟩)else undef,bif bi then .int .i64 t else undef,bif bi then .pointer (some ⟨B,5,none⟩)else undef,bif bi then .int .i64 A else undef,bif bi then .bool ao else undef,bif bi then .bool (!ao)else undef,bif bi then .bool (!ao)else .bool false, .bool aY] ?zI ?_;case zI=>
  refine⟨?ZE,?xH,?xI,?xJ,?xK,?xL,?xM,?xN,?xO,?xP,?zA,trivial⟩;all_goals intro u w' b a
  all_goals simp only[z1,z2,z3,z4,ar,Act.put,z5,z6,z7,Nat.reduceAdd,Nat.zero_add]
  case xH=>
   simp only[ah (a 0)];refine aI ?_;have q:_=some (Value.bool bi):=(n.out.fr b id).cell 3;go_simp;exact aR
  case' xI=>simp only[ah (a 1)]
  case' xJ=>
   simp only[ah (a 2)];cases bi;case false=>exact bS
  case xK=>
   simp only[ah (a 3),ah (a 2)];cases bi;case false=>exact bS
   refine aI ?_;have q:_=some (Value.int .i64 t):=(o.out.fr b id).cell 3;go_simp;exact aR
  case' xL=>
   simp only[ah (a 2)];cases bi;case false=>exact bS
  case xM=>
   simp only[ah (a 5),ah (a 2)];cases bi;case false=>exact bS
   refine aI ?_;have q:_=some (Value.int .i64 A):=(n.out.fr b id).cell 5;go_simp;exact aR
  case xN=>
   simp only[ah (a 4),ah (a 6),ah (a 2)];cases bi;case false=>exact bS
   refine aI ?_;go_simp;refine(be.out _).mono ?_;rintro e a5⟨rfl,rfl⟩;exact aR
  case' xO=>
   simp only[ah (a 7),ah (a 2)];cases bi;case false=>exact bS
  case' xP=>
   simp only[ah (a 2),ah (a 8)];cases bi
  case zA=>
   simp only[ah (a 9)];cases bi<;>exact aI (by go_simp;exact⟨by rw[<-Y.out];rfl,aA⟩)
  all_goals
   try simp only[cond]
   refine aI ?_;go_simp;exact aR
 intro w' b;simp only[z1,z2,z3,z4,ar,Act.put,z5,z6,z7,z8,z9,jS,jT,Nat.reduceAdd,Nat.zero_add];have m:=af (m.out.trans b);have o:=af (o.out.fr b id);have n:=af (n.out.fr b id);clear b;have K:Hid ((bi&&!ao)=aY):=by
  rw[Hid,<-Y.out];cases bi<;>simp
 clear Y;cases Q:aY;case true=>
  rw[Q]at K;clear Q;go_wp2;go_ret;refine⟨_,rfl,?_,m.out⟩;rw[p.out,l.out,K.out];simp
 rw[Q]at K;clear Q;obtain⟨H,a9⟩:∃z:Bool,(bif g then(!R)else false)=z:=⟨_,rfl⟩;have a0:=af a9;clear a9;go_upto_region 14 with fail;refine lF 9 [.pointer (some ⟨B,4,none⟩), .bool g, .bool g,bif g then .pointer (some ⟨C,4,none⟩)else undef,bif g then .string s else undef,bif g then .bool R else undef,bif g then .bool (!R)else undef,bif g then .bool (!R)else .bool false, .bool H] ?zJ ?_;case zJ=>
  refine⟨?ZF,?xQ,?xR,?xS,?xT,?xU,?xV,?xW,?xX,trivial⟩;all_goals intro u w' b a
  all_goals simp only[z1,z2,z3,z4,ar,Act.put,z5,z6,z7,Nat.reduceAdd,Nat.zero_add]
  case xQ=>
   simp only[ah (a 0)];refine aI ?_;have q:_=some (Value.bool g):=(n.out.fr b id).cell 4;go_simp;exact aR
  case' xR=>simp only[ah (a 1)]
  case' xS=>
   simp only[ah (a 2)];cases g;case false=>exact bS
  case xT=>
   simp only[ah (a 3),ah (a 2)];cases g;case false=>exact bS
   refine aI ?_;have q:_=some (Value.string s):=(o.out.fr b id).cell 4;go_simp;exact aR
  case xU=>
   simp only[ah (a 4),ah (a 2)];cases g;case false=>exact bS
   refine aI ?_;go_simp;refine(bg.out _).mono ?_;rintro e a5⟨rfl,f9⟩;exact⟨rfl,f9⟩
  case' xV=>
   simp only[ah (a 5),ah (a 2)];cases g;case false=>exact bS
  case' xW=>
   simp only[ah (a 2),ah (a 6)];cases g
  case xX=>
   simp only[ah (a 7)];cases g<;>exact aI (by go_simp;exact⟨by rw[<-a0.out];rfl,aA⟩)
  all_goals
   try simp only[cond]
   refine aI ?_;go_simp;exact aR
 intro w' b;simp only[z1,z2,z3,z4,ar,Act.put,z5,z6,z7,z8,z9,jS,jT,Nat.reduceAdd,Nat.zero_add];have m:=af (m.out.trans b);have o:=af (o.out.fr b id);have n:=af (n.out.fr b id);clear b;have aN:Hid ((g&&!R)=H):=by
  rw[Hid,<-a0.out];cases g<;>simp
 clear a0;cases aP:H;case true=>
  rw[aP]at aN;clear aP;go_wp2;go_ret;refine⟨_,rfl,?_,m.out⟩;rw[p.out,l.out,aN.out];simp
 rw[aP]at aN;clear aP;go_wp2;go_ret;refine⟨_,rfl,?_,m.out⟩;rw[p.out,l.out,D.out,F.out,G.out,I.out,aL.out,J.out,K.out,aN.out];rfl
theorem mg(n:aG)(w:World)(o:dO w)(f:n.owner.size<=1099511627776)(g:n.text.size<=1099511627776):Calls prog 115 #[.agg n.cells.toArray] w (Checked w n):=by
 obtain⟨a,l,j,i,m⟩:=n;simp only at f g;by_cases v:1<=a/\a<=20
 ·obtain⟨k,rfl⟩:∃k:Nat,a=(k:Int):=⟨a.toNat,by omega⟩;have d:1<=k/\k<=20:=by omega
  have A:iO.length=21:=by decide
  obtain⟨u,hu⟩:∃u,iO[k]? =some u:=⟨_,List.getElem?_eq_getElem (show k<iO.length by omega)⟩;obtain⟨wd,s,r,bi,t,x⟩:=u;exact Db k l j i m wd s r bi t x w o d hu f g
 ·have c:(decide (1<=a)&&decide (a<=20))=false:=by
   rw[Bool.and_eq_false_iff,decide_eq_false_iff_not,decide_eq_false_iff_not];omega
  have b:Hid (da ⟨a,l,j,i,m⟩=false):=by
   simp only[Hid,da];rw[c];rfl
  have q:Hid (∀w,Calls prog 152 #[.int .i64 a] w (bJ w (.bool false))):=λw=>by
   have h:=tY a w;rw[c]at h;exact h
  clear o v f g c;go_enter func115,ntmps115;go_wp2_with(refine aD rfl 106 (.tmp 0) rfl #[.int .i64 a, .string l, .int .i64 j, .int .i64 i, .string m] rfl ?_);intro w1 n1;have p:=af n1.fr;have y:w1.cell? ⟨w.heap.size,0,none⟩=some (.int .i64 a):=n1.aF.cell 0;clear n1;generalize w.heap.size=z at*;go_wp2_with fail;refine(q.out _).mono ?_;rintro e w'⟨rfl,rfl⟩;go_wp2;go_ret;exact⟨11,rfl,by rw[b.out];rfl,p.out⟩
def cE(L:List (aG×ByteArray)):Nat:=(L.map (λx=>x.2.size)).sum
theorem Tr.de:∀t:Tr,t.bytes=cE t.bM
 | .leaf=>rfl
 | .node l nm v r=>by
  rw[Tr.bytes,Tr.bM,l.de,r.de];simp only[cE,List.map_append,List.map_cons,List.sum_append,List.sum_cons];omega
def Balanced(w:World)(L:List (aG×ByteArray))(e:Ending)(w':World):Prop:=∃a t,e= .returned (.pointer a)/\ck w' a t/\t.bM=L/\Fr Nothing w w'
theorem zh(aB ra:Option Addr)(l r:Tr)(g:Nat)(nm:aG)(v:ByteArray)(w:World)(bd:ck w aB l)(be:ck w ra r)(hm:Mid w g nm v)(bp:l.size+r.size+1<=1048576)(bo:v.size+l.bytes+r.bytes<=1099511627776):
  Calls prog 177 #[.pointer aB, .pointer (some ⟨g,0,none⟩), .pointer ra] w (Balanced w (l.bM++(nm,v)::r.bM)):=by
 have CL:=af (fH w aB l bd);have a3:=af (fH w ra r be);have a0:=af bd;have a1:=af be;have aU:=af hm;have t:=af bp;have s:=af bo;have b1:l.cO<=1048576:=by have:=l.kA;omega
 have b2:r.cO<=1048576:=by have:=r.kA;omega
 obtain⟨x,bf⟩:∃x:Int,x=(l.cO:Nat):=⟨_,rfl⟩;obtain⟨y,bg⟩:∃y:Int,y=(r.cO:Nat):=⟨_,rfl⟩;rw[<-bf]at CL;rw[<-bg]at a3;have bq:=af bf;have br:=af bg;have b3:0<=x/\x<=1048576:=by omega
 have b4:0<=y/\y<=1048576:=by omega
 clear bd be hm bp bo bf bg b1 b2;go_enter func177,ntmps177;go_wp2_with fail;refine CL.out.mono ?_;rintro e w'⟨rfl,rfl⟩;go_wp2_with fail;refine a3.out.mono ?_;rintro e w'⟨rfl,rfl⟩;clear CL a3;obtain⟨d,bu⟩:∃d:Int,x-y=d:=⟨_,rfl⟩;have bj:=af bu;have b5:-1048576<=d/\d<=1048576:=by omega
 by_cases aV:1<d
 ·have bw:decide ((1:Int)<d)=true:=decide_eq_true aV;obtain⟨W,L,lv,Z,rfl⟩:∃W L lv Z,l= .node W L lv Z:=by
   cases l with
   |leaf=>have aO:=bq.out;simp only[Tr.cO]at aO;have:=bj.out;omega
   |node a b c d=>exact⟨a,b,c,d,rfl⟩
  obtain⟨E,O,X,rfl,aW,aX,ax⟩:=a0.out;have aF:=af aW;have aH:=af aX;have bm:Hid (Mid w E L lv):=Mid.of ax;have av:Hid (w.cell? ⟨E,0,none⟩=some (.pointer O)):=ax.cell 0;have aw:Hid (w.cell? ⟨E,1,none⟩=some (.pointer X)):=ax.cell 1;have aC:Hid (∀w',Fr Nothing w w'->Calls prog 181 #[.pointer O] w' (bJ w' (.int .i64 (W.cO:Nat)))):=λw' f=>fH w' O W (aF.out.ao f);have H1:Hid (∀w',Fr Nothing w w'->Calls prog 181 #[.pointer X] w' (bJ w' (.int .i64 (Z.cO:Nat)))):=λw' f=>fH w' X Z (aH.out.ao f);obtain⟨p,aP⟩:∃p:Int,p=(W.cO:Nat):=⟨_,rfl⟩;obtain⟨q,aQ⟩:∃q:Int,q=(Z.cO:Nat):=⟨_,rfl⟩;rw[<-aP]at aC;rw[<-aQ]at H1;have bk:=af aP;have bl:=af aQ;have bs:0<=p/\0<=q:=by omega
  clear aW aX ax aP aQ aV;by_cases ai:q<=p
  ·have bi:decide (q<=p)=true:=decide_eq_true ai;go_upto_region 2 with fail;refine ay 16 Nothing [Is (.int .i64 d),Is (.bool true),Is (.bool true),Is (.pointer (some ⟨E,0,none⟩)),Is (.pointer (some ⟨E,0,none⟩)),Is (.pointer (some ⟨E,0,none⟩)),Is (.pointer O),Is (.int .i64 p),Is (.pointer (some ⟨E,0,none⟩)),Is (.pointer (some ⟨E,0,none⟩)),Is (.pointer (some ⟨E,1,none⟩)),Is (.pointer X),Is (.int .i64 q),Is (.bool true),Is (.bool true),Is (.bool true)] [] (λ_=>True) (λ_ _=>false) (by kernel_rfl) (by kernel_rfl) (by kernel_rfl) (by kernel_rfl) ⟨Is.ag _,Is.ag _,Is.ag _,Is.ag _,Is.ag _,Is.ag _,Is.ag _,Is.ag _,Is.ag _,Is.ag _,Is.ag _,Is.ag _,Is.ag _,Is.ag _,Is.ag _,Is.ag _,trivial⟩ trivial (λ_ _ _ _ h=>h) trivial ?_ ?_
   ·refine⟨?XM,?xO,?xP,?xQ,?xR,?xS,?xT,?xU,?xV,?xW,?zP,?zQ,?zR,?zS,?zT,?zU,trivial⟩;all_goals intro u w' d j i n m k
    all_goals simp only[bC,bD,bE,bF,ar,Act.put,bG,bH,bI,Nat.reduceAdd,Nat.zero_add]
    case' xO=>simp only[ah (i 0)]
    case' xP=>simp only[ah (i 1)]
    case' xQ=>simp only[ah (i 2)]
    case' xR=>simp only[ah (i 3),ah (i 2)]
    case' xS=>simp only[ah (i 4),ah (i 2)]
    case xT=>
     simp only[ah (i 5),ah (i 2)];clear i n m k;refine aj ?_;have q:=j.ak (av.out) id;go_simp;exact⟨_,rfl,al⟩
    case xU=>
     simp only[ah (i 6),ah (i 2)];clear i n m k;refine aj ?_;go_simp;refine(aC.out _ j).mono ?_;rintro e Q⟨rfl,rfl⟩;exact⟨_,rfl,al⟩
    case' xV=>simp only[ah (i 2)]
    case' xW=>simp only[ah (i 8),ah (i 2)]
    case' zP=>simp only[ah (i 9),ah (i 2)]
    case zQ=>
     simp only[ah (i 10),ah (i 2)];clear i n m k;refine aj ?_;have q:=j.ak (aw.out) id;go_simp;exact⟨_,rfl,al⟩
    case zR=>
     simp only[ah (i 11),ah (i 2)];clear i n m k;refine aj ?_;go_simp;refine(H1.out _ j).mono ?_;rintro e Q⟨rfl,rfl⟩;exact⟨_,rfl,al⟩
    case' zS=>simp only[ah (i 7),ah (i 12),ah (i 2)]
    case' zT=>simp only[ah (i 2),ah (i 13)]
    case' zU=>simp only[ah (i 14)]
    all_goals
     clear i n m k;refine aj ?_;go_simp;exact⟨_,rfl,al⟩
   ·intro u w' j i k;have C:u 15=_:=i 15 (by omega);clear i k;simp only[bC,bD,bE,bF,ar,Act.put,bG,bH,bI,dt,du,Nat.reduceAdd,Nat.zero_add,C];have D:=af j;clear j C;go_upto_region 3 with fail;refine ay 14 Nothing [Is (.pointer (some ⟨E,0,none⟩)),Is (.pointer (some ⟨E,0,none⟩)),Is (.pointer (some ⟨E,0,none⟩)),Is (.pointer O),Is (.pointer (some ⟨E,0,none⟩)),Is (.pointer (some ⟨E,0,none⟩)),Is (.pointer (some ⟨E,0,none⟩)),Is (.pointer (some ⟨E,1,none⟩)),Is (.pointer X),Is (.pointer (some ⟨g,0,none⟩)),Is (.pointer ra),(λI H=>∃z,I= .pointer z/\ck H z (.node Z nm v r)),(λI H=>∃z,I= .pointer z/\ck H z (.node W L lv (.node Z nm v r))),(λI H=>∃z,I= .pointer z/\ck H z (.node W L lv (.node Z nm v r)))] [] (λ_=>True) (λ_ _=>false) (by kernel_rfl) (by kernel_rfl) (by kernel_rfl) (by kernel_rfl) ⟨Is.ag _,Is.ag _,Is.ag _,Is.ag _,Is.ag _,Is.ag _,Is.ag _,Is.ag _,Is.ag _,Is.ag _,Is.ag _,λv w1 w2 _ f h=>by obtain⟨a,e,o⟩:=h;exact⟨a,e,o.ao f⟩,λv w1 w2 _ f h=>by obtain⟨a,e,o⟩:=h;exact⟨a,e,o.ao f⟩,λv w1 w2 _ f h=>by obtain⟨a,e,o⟩:=h;exact⟨a,e,o.ao f⟩,trivial⟩ trivial (λ_ _ _ _ h=>h) trivial ?_ ?_
    ·refine⟨?XN,?xX,?xY,?xZ,?XO,?XP,?ZA,?ZB,?ZC,?XQ,?XF,?zV,?zW,?zX,trivial⟩;all_goals intro u w' d j i n m k
     all_goals simp only[bC,bD,bE,bF,ar,Act.put,bG,bH,bI,Nat.reduceAdd,Nat.zero_add]
     case' xX=>simp only[ah (i 0)]
     case' xY=>simp only[ah (i 1)]
     case xZ=>
      simp only[ah (i 2)];clear i n m k;refine aj ?_;have q:=j.ak (D.out.ak (av.out) id) id;go_simp;exact⟨_,rfl,al⟩
     case' ZA=>simp only[ah (i 5)]
     case' ZB=>simp only[ah (i 6)]
     case ZC=>
      simp only[ah (i 7)];clear i n m k;refine aj ?_;have q:=j.ak (D.out.ak (aw.out) id) id;go_simp;exact⟨_,rfl,al⟩
     case zV=>
      simp only[ah (i 8),ah (i 9),ah (i 10)];clear i n m k;refine aj ?_;go_simp;refine(fK _ X ra Z r g nm v (aH.out.ao (D.out.trans j)) (a1.out.ao (D.out.trans j)) (aU.out.ao (D.out.trans j)) (by have A:=t.out;have B:=s.out;simp only[Tr.size,Tr.bytes]at A B⊢;omega) (by have A:=t.out;have B:=s.out;simp only[Tr.size,Tr.bytes]at A B⊢;omega)).mono ?_;rintro e Q⟨a,rfl,o,f4⟩;exact⟨_,rfl,f4.bR,⟨a,rfl,o⟩,trivial⟩
     case zW=>
      obtain⟨a5,bb,bh⟩:=i 11;simp only[ah (i 3),ah (i 4),bb];clear i n m k;refine aj ?_;go_simp;refine(fK _ O a5 W (.node Z nm v r) E L lv (aF.out.ao (D.out.trans j)) bh (bm.out.ao (D.out.trans j)) (by have A:=t.out;have B:=s.out;simp only[Tr.size,Tr.bytes]at A B⊢;omega) (by have A:=t.out;have B:=s.out;simp only[Tr.size,Tr.bytes]at A B⊢;omega)).mono ?_;rintro e Q⟨a,rfl,o,f4⟩;exact⟨_,rfl,f4.bR,⟨a,rfl,o⟩,trivial⟩
     case zX=>
      obtain⟨a12,aL,aR⟩:=i 12;simp only[aL];clear i n m k;refine aj ?_;go_simp;exact⟨_,rfl,aA,⟨_,rfl,aR⟩,trivial⟩
     all_goals
      clear i n m k;refine aj ?_;go_simp;exact⟨_,rfl,al⟩
    ·intro u w' j i k;obtain⟨a6,ab,am⟩:=i 13 (by omega);clear i k;simp only[bC,bD,bE,bF,ar,Act.put,bG,bH,bI,dt,du,Nat.reduceAdd,Nat.zero_add,ab];have aq:=af (D.out.trans j);have au:=af am;clear j am ab;go_wp2;go_ret;exact⟨_,_,rfl,au.out,by simp[Tr.bM],aq.out⟩
  ·have bi:decide (q<=p)=false:=decide_eq_false ai;obtain⟨R,G,V,T,rfl⟩:∃R G V T,Z= .node R G V T:=by
    cases Z with
    |leaf=>have aO:=bl.out;simp only[Tr.cO]at aO;omega
    |node a b c d=>exact⟨a,b,c,d,rfl⟩
   obtain⟨K,S,U,rfl,ad,ae,N⟩:=aH.out;have aD:=af ad;have aE:=af ae;have a4:Hid (Mid w K G V):=Mid.of N;have d0:Hid (w.cell? ⟨K,0,none⟩=some (.pointer S)):=N.cell 0;have d1:Hid (w.cell? ⟨K,1,none⟩=some (.pointer U)):=N.cell 1;clear ad ae N;go_upto_region 2 with fail;refine ay 16 Nothing [Is (.int .i64 d),Is (.bool true),Is (.bool true),Is (.pointer (some ⟨E,0,none⟩)),Is (.pointer (some ⟨E,0,none⟩)),Is (.pointer (some ⟨E,0,none⟩)),Is (.pointer O),Is (.int .i64 p),Is (.pointer (some ⟨E,0,none⟩)),Is (.pointer (some ⟨E,0,none⟩)),Is (.pointer (some ⟨E,1,none⟩)),Is (.pointer (some ⟨K,0,none⟩)),Is (.int .i64 q),Is (.bool false),Is (.bool false),Is (.bool false)] [] (λ_=>True) (λ_ _=>false) (by kernel_rfl) (by kernel_rfl) (by kernel_rfl) (by kernel_rfl) ⟨Is.ag _,Is.ag _,Is.ag _,Is.ag _,Is.ag _,Is.ag _,Is.ag _,Is.ag _,Is.ag _,Is.ag _,Is.ag _,Is.ag _,Is.ag _,Is.ag _,Is.ag _,Is.ag _,trivial⟩ trivial (λ_ _ _ _ h=>h) trivial ?_ ?_
   ·refine⟨?XR,?ZD,?ZE,?ZF,?ZG,?ZH,?ZI,?ZJ,?ZK,?ZL,?zY,?zZ,?yA,?yB,?yC,?yD,trivial⟩;all_goals intro u w' d j i n m k
    all_goals simp only[bC,bD,bE,bF,ar,Act.put,bG,bH,bI,Nat.reduceAdd,Nat.zero_add]
    case' ZD=>simp only[ah (i 0)]
    case' ZE=>simp only[ah (i 1)]
    case' ZF=>simp only[ah (i 2)]
    case' ZG=>simp only[ah (i 3),ah (i 2)]
    case' ZH=>simp only[ah (i 4),ah (i 2)]
    case ZI=>
     simp only[ah (i 5),ah (i 2)];clear i n m k;refine aj ?_;have q:=j.ak (av.out) id;go_simp;exact⟨_,rfl,al⟩
    case ZJ=>
     simp only[ah (i 6),ah (i 2)];clear i n m k;refine aj ?_;go_simp;refine(aC.out _ j).mono ?_;rintro e Q⟨rfl,rfl⟩;exact⟨_,rfl,al⟩
    case' ZK=>simp only[ah (i 2)]
    case' ZL=>simp only[ah (i 8),ah (i 2)]
    case' zY=>simp only[ah (i 9),ah (i 2)]
    case zZ=>
     simp only[ah (i 10),ah (i 2)];clear i n m k;refine aj ?_;have q:=j.ak (aw.out) id;go_simp;exact⟨_,rfl,al⟩
    case yA=>
     simp only[ah (i 11),ah (i 2)];clear i n m k;refine aj ?_;go_simp;refine(H1.out _ j).mono ?_;rintro e Q⟨rfl,rfl⟩;exact⟨_,rfl,al⟩
    case' yB=>simp only[ah (i 7),ah (i 12),ah (i 2)]
    case' yC=>simp only[ah (i 2),ah (i 13)]
    case' yD=>simp only[ah (i 14)]
    all_goals
     clear i n m k;refine aj ?_;go_simp;exact⟨_,rfl,al⟩
   ·intro u w' j i k;have C:u 15=_:=i 15 (by omega);clear i k;simp only[bC,bD,bE,bF,ar,Act.put,bG,bH,bI,dt,du,Nat.reduceAdd,Nat.zero_add,C];have D:=af j;have bA:=j.ak aw.out id;clear j C;go_upto_region 6 with fail;refine ay 20 Nothing [Is (.pointer (some ⟨E,0,none⟩)),Is (.pointer (some ⟨E,0,none⟩)),Is (.pointer (some ⟨E,0,none⟩)),Is (.pointer O),Is (.pointer (some ⟨E,0,none⟩)),Is (.pointer (some ⟨K,0,none⟩)),Is (.pointer (some ⟨K,0,none⟩)),Is (.pointer (some ⟨K,0,none⟩)),Is (.pointer S),(λI H=>∃z,I= .pointer z/\ck H z (.node W L lv R)),Is (.pointer (some ⟨K,0,none⟩)),Is (.pointer (some ⟨K,0,none⟩)),Is (.pointer (some ⟨K,0,none⟩)),Is (.pointer (some ⟨K,1,none⟩)),Is (.pointer U),Is (.pointer (some ⟨g,0,none⟩)),Is (.pointer ra),(λI H=>∃z,I= .pointer z/\ck H z (.node T nm v r)),(λI H=>∃z,I= .pointer z/\ck H z (.node (.node W L lv R) G V (.node T nm v r))),(λI H=>∃z,I= .pointer z/\ck H z (.node (.node W L lv R) G V (.node T nm v r)))] [] (λ_=>True) (λ_ _=>false) (by kernel_rfl) (by kernel_rfl) (by kernel_rfl) (by kernel_rfl) ⟨Is.ag _,Is.ag _,Is.ag _,Is.ag _,Is.ag _,Is.ag _,Is.ag _,Is.ag _,Is.ag _,λv w1 w2 _ f h=>by obtain⟨a,e,o⟩:=h;exact⟨a,e,o.ao f⟩,Is.ag _,Is.ag _,Is.ag _,Is.ag _,Is.ag _,Is.ag _,Is.ag _,λv w1 w2 _ f h=>by obtain⟨a,e,o⟩:=h;exact⟨a,e,o.ao f⟩,λv w1 w2 _ f h=>by obtain⟨a,e,o⟩:=h;exact⟨a,e,o.ao f⟩,λv w1 w2 _ f h=>by obtain⟨a,e,o⟩:=h;exact⟨a,e,o.ao f⟩,trivial⟩ trivial (λ_ _ _ _ h=>h) trivial ?_ ?_
    ·refine⟨?XS,?ZM,?ZN,?ZO,?XT,?XU,?ZP,?ZQ,?ZR,?ZS,?XG,?XH,?yE,?yF,?yG,?XI,?XJ,?yH,?yI,?yJ,trivial⟩;all_goals intro u w' d j i n m k
     all_goals simp only[bC,bD,bE,bF,ar,Act.put,bG,bH,bI,Nat.reduceAdd,Nat.zero_add]
     case' ZM=>simp only[ah (i 0)]
     case' ZN=>simp only[ah (i 1)]
     case ZO=>
      simp only[ah (i 2)];clear i n m k;refine aj ?_;have q:=j.ak (D.out.ak av.out id) id;go_simp;exact⟨_,rfl,al⟩
     case' ZP=>simp only[ah (i 5)]
     case' ZQ=>simp only[ah (i 6)]
     case ZR=>
      simp only[ah (i 7)];clear i n m k;refine aj ?_;have q:=j.ak (D.out.ak d0.out id) id;go_simp;exact⟨_,rfl,al⟩
     case ZS=>
      simp only[ah (i 3),ah (i 4),ah (i 8)];clear i n m k;refine aj ?_;go_simp;refine(fK _ O S W R E L lv (aF.out.ao (D.out.trans j)) (aD.out.ao (D.out.trans j)) (bm.out.ao (D.out.trans j)) (by have A:=t.out;have B:=s.out;simp only[Tr.size,Tr.bytes]at A B⊢;omega) (by have A:=t.out;have B:=s.out;simp only[Tr.size,Tr.bytes]at A B⊢;omega)).mono ?_;rintro e Q⟨a,rfl,o,f4⟩;exact⟨_,rfl,f4.bR,⟨a,rfl,o⟩,trivial⟩
     case' yE=>simp only[ah (i 11)]
     case' yF=>simp only[ah (i 12)]
     case yG=>
      simp only[ah (i 13)];clear i n m k;refine aj ?_;have q:=j.ak (D.out.ak d1.out id) id;go_simp;exact⟨_,rfl,al⟩
     case yH=>
      simp only[ah (i 14),ah (i 15),ah (i 16)];clear i n m k;refine aj ?_;go_simp;refine(fK _ U ra T r g nm v (aE.out.ao (D.out.trans j)) (a1.out.ao (D.out.trans j)) (aU.out.ao (D.out.trans j)) (by have A:=t.out;have B:=s.out;simp only[Tr.size,Tr.bytes]at A B⊢;omega) (by have A:=t.out;have B:=s.out;simp only[Tr.size,Tr.bytes]at A B⊢;omega)).mono ?_;rintro e Q⟨a,rfl,o,f4⟩;exact⟨_,rfl,f4.bR,⟨a,rfl,o⟩,trivial⟩
     case yI=>
      obtain⟨a9,bt,bv⟩:=i 9;obtain⟨aK,aM,aS⟩:=i 17;simp only[bt,ah (i 10),aM];clear i n m k;refine aj ?_;go_simp;refine(fK _ a9 aK (.node W L lv R) (.node T nm v r) K G V bv aS (a4.out.ao (D.out.trans j)) (by have A:=t.out;have B:=s.out;simp only[Tr.size,Tr.bytes]at A B⊢;omega) (by have A:=t.out;have B:=s.out;simp only[Tr.size,Tr.bytes]at A B⊢;omega)).mono ?_;rintro e Q⟨a,rfl,o,f4⟩;exact⟨_,rfl,f4.bR,⟨a,rfl,o⟩,trivial⟩
     case yJ=>
      obtain⟨a7,aN,aT⟩:=i 18;simp only[aN];clear i n m k;refine aj ?_;go_simp;exact⟨_,rfl,aA,⟨_,rfl,aT⟩,trivial⟩
     all_goals
      clear i n m k;refine aj ?_;go_simp;exact⟨_,rfl,al⟩
    ·intro u w' j i k;obtain⟨a8,ac,an⟩:=i 19 (by omega);clear i k;simp only[bC,bD,bE,bF,ar,Act.put,bG,bH,bI,dt,du,Nat.reduceAdd,Nat.zero_add,ac];have aq:=af (D.out.trans j);have au:=af an;clear j an ac;go_wp2;go_ret;exact⟨_,_,rfl,au.out,by simp[Tr.bM],aq.out⟩
 ·have bw:decide ((1:Int)<d)=false:=decide_eq_false aV;go_upto_region 2 with fail;refine ay 16 Nothing [Is (.int .i64 d),Is (.bool false),Is (.bool false),Is (undef),Is (undef),Is (undef),Is (undef),Is (undef),Is (undef),Is (undef),Is (undef),Is (undef),Is (undef),Is (undef),Is (.bool false),Is (.bool false)] [] (λ_=>True) (λ_ _=>false) (by kernel_rfl) (by kernel_rfl) (by kernel_rfl) (by kernel_rfl) ⟨Is.ag _,Is.ag _,Is.ag _,Is.ag _,Is.ag _,Is.ag _,Is.ag _,Is.ag _,Is.ag _,Is.ag _,Is.ag _,Is.ag _,Is.ag _,Is.ag _,Is.ag _,Is.ag _,trivial⟩ trivial (λ_ _ _ _ h=>h) trivial ?_ ?_
  ·refine⟨?XV,?ZT,?ZU,?ZV,?ZW,?ZX,?ZY,?ZZ,?YA,?YB,?yK,?yL,?yM,?yN,?yO,?yP,trivial⟩;all_goals intro u w' d j i n m k
   all_goals simp only[bC,bD,bE,bF,ar,Act.put,bG,bH,bI,Nat.reduceAdd,Nat.zero_add]
   case' ZT=>simp only[ah (i 0)]
   case' ZU=>simp only[ah (i 1)]
   case ZV=>simp only[ah (i 2)];exact .inr ⟨by kernel_rfl,_,rfl,aA,rfl,trivial⟩
   case ZW=>simp only[ah (i 2)];exact .inr ⟨by kernel_rfl,_,rfl,aA,rfl,trivial⟩
   case ZX=>simp only[ah (i 2)];exact .inr ⟨by kernel_rfl,_,rfl,aA,rfl,trivial⟩
   case ZY=>simp only[ah (i 2)];exact .inr ⟨by kernel_rfl,_,rfl,aA,rfl,trivial⟩
   case ZZ=>simp only[ah (i 2)];exact .inr ⟨by kernel_rfl,_,rfl,aA,rfl,trivial⟩
   case YA=>simp only[ah (i 2)];exact .inr ⟨by kernel_rfl,_,rfl,aA,rfl,trivial⟩
   case YB=>simp only[ah (i 2)];exact .inr ⟨by kernel_rfl,_,rfl,aA,rfl,trivial⟩
   case yK=>simp only[ah (i 2)];exact .inr ⟨by kernel_rfl,_,rfl,aA,rfl,trivial⟩
   case yL=>simp only[ah (i 2)];exact .inr ⟨by kernel_rfl,_,rfl,aA,rfl,trivial⟩
   case yM=>simp only[ah (i 2)];exact .inr ⟨by kernel_rfl,_,rfl,aA,rfl,trivial⟩
   case yN=>simp only[ah (i 2)];exact .inr ⟨by kernel_rfl,_,rfl,aA,rfl,trivial⟩
   case' yO=>simp only[ah (i 2),ah (i 13)]
   case' yP=>simp only[ah (i 14)]
   all_goals
    clear i n m k;refine aj ?_;go_simp;exact⟨_,rfl,al⟩
  ·intro u w' j i k;have C:u 15=_:=i 15 (by omega);clear i k;simp only[bC,bD,bE,bF,ar,Act.put,bG,bH,bI,dt,du,Nat.reduceAdd,Nat.zero_add,C];have D:=af j;clear j C;by_cases a2:d< -1
   ·have bx:decide (d<(-1:Int))=true:=decide_eq_true a2;obtain⟨aa,M,ap,rr,rfl⟩:∃aa M ap rr,r= .node aa M ap rr:=by
     cases r with
     |leaf=>have aO:=br.out;simp only[Tr.cO]at aO;have:=bj.out;omega
     |node a b c d=>exact⟨a,b,c,d,rfl⟩
    obtain⟨F,Y,P,rfl,aY,aZ,az⟩:=a1.out;have aI:=af aY;have aJ:=af aZ;have bn:Hid (Mid w F M ap):=Mid.of az;have av:Hid (w.cell? ⟨F,0,none⟩=some (.pointer Y)):=az.cell 0;have aw:Hid (w.cell? ⟨F,1,none⟩=some (.pointer P)):=az.cell 1;have aC:Hid (∀w',Fr Nothing w w'->Calls prog 181 #[.pointer Y] w' (bJ w' (.int .i64 (aa.cO:Nat)))):=λw' f=>fH w' Y aa (aI.out.ao f);have H1:Hid (∀w',Fr Nothing w w'->Calls prog 181 #[.pointer P] w' (bJ w' (.int .i64 (rr.cO:Nat)))):=λw' f=>fH w' P rr (aJ.out.ao f);obtain⟨p,aP⟩:∃p:Int,p=(aa.cO:Nat):=⟨_,rfl⟩;obtain⟨q,aQ⟩:∃q:Int,q=(rr.cO:Nat):=⟨_,rfl⟩;rw[<-aP]at aC;rw[<-aQ]at H1;have bk:=af aP;have bl:=af aQ;have bs:0<=p/\0<=q:=by omega
    clear aY aZ az aP aQ aV a2;by_cases ai:p<=q
    ·have bi:decide (p<=q)=true:=decide_eq_true ai;go_upto_region 7 with fail;refine ay 16 Nothing [Is (.int .i64 d),Is (.bool true),Is (.bool true),Is (.pointer (some ⟨F,0,none⟩)),Is (.pointer (some ⟨F,0,none⟩)),Is (.pointer (some ⟨F,1,none⟩)),Is (.pointer P),Is (.int .i64 q),Is (.pointer (some ⟨F,0,none⟩)),Is (.pointer (some ⟨F,0,none⟩)),Is (.pointer (some ⟨F,0,none⟩)),Is (.pointer Y),Is (.int .i64 p),Is (.bool true),Is (.bool true),Is (.bool true)] [] (λ_=>True) (λ_ _=>false) (by kernel_rfl) (by kernel_rfl) (by kernel_rfl) (by kernel_rfl) ⟨Is.ag _,Is.ag _,Is.ag _,Is.ag _,Is.ag _,Is.ag _,Is.ag _,Is.ag _,Is.ag _,Is.ag _,Is.ag _,Is.ag _,Is.ag _,Is.ag _,Is.ag _,Is.ag _,trivial⟩ trivial (λ_ _ _ _ h=>h) trivial ?_ ?_
     ·refine⟨?XW,?YC,?YD,?YE,?YF,?YG,?YH,?YI,?YJ,?YK,?yQ,?yR,?yS,?yT,?yU,?yV,trivial⟩;all_goals intro u w' d j i n m k
      all_goals simp only[bC,bD,bE,bF,ar,Act.put,bG,bH,bI,Nat.reduceAdd,Nat.zero_add]
      case' YC=>simp only[ah (i 0)]
      case' YD=>simp only[ah (i 1)]
      case' YE=>simp only[ah (i 2)]
      case' YF=>simp only[ah (i 3),ah (i 2)]
      case' YG=>simp only[ah (i 4),ah (i 2)]
      case YH=>
       simp only[ah (i 5),ah (i 2)];clear i n m k;refine aj ?_;have q:=j.ak (D.out.ak aw.out id) id;go_simp;exact⟨_,rfl,al⟩
      case YI=>
       simp only[ah (i 6),ah (i 2)];clear i n m k;refine aj ?_;go_simp;refine(H1.out _ (D.out.trans j)).mono ?_;rintro e Q⟨rfl,rfl⟩;exact⟨_,rfl,al⟩
      case' YJ=>simp only[ah (i 2)]
      case' YK=>simp only[ah (i 8),ah (i 2)]
      case' yQ=>simp only[ah (i 9),ah (i 2)]
      case yR=>
       simp only[ah (i 10),ah (i 2)];clear i n m k;refine aj ?_;have q:=j.ak (D.out.ak av.out id) id;go_simp;exact⟨_,rfl,al⟩
      case yS=>
       simp only[ah (i 11),ah (i 2)];clear i n m k;refine aj ?_;go_simp;refine(aC.out _ (D.out.trans j)).mono ?_;rintro e Q⟨rfl,rfl⟩;exact⟨_,rfl,al⟩
      case' yT=>simp only[ah (i 7),ah (i 12),ah (i 2)]
      case' yU=>simp only[ah (i 2),ah (i 13)]
      case' yV=>simp only[ah (i 14)]
      all_goals
       clear i n m k;refine aj ?_;go_simp;exact⟨_,rfl,al⟩
     ·intro u w' j i k;have C:u 15=_:=i 15 (by omega);clear i k;simp only[bC,bD,bE,bF,ar,Act.put,bG,bH,bI,dt,du,Nat.reduceAdd,Nat.zero_add,C];have J:=af (D.out.trans j);clear j C;go_upto_region 8 with fail;refine ay 14 Nothing [Is (.pointer aB),Is (.pointer (some ⟨g,0,none⟩)),Is (.pointer (some ⟨F,0,none⟩)),Is (.pointer (some ⟨F,0,none⟩)),Is (.pointer (some ⟨F,0,none⟩)),Is (.pointer Y),(λI H=>∃z,I= .pointer z/\ck H z (.node l nm v aa)),Is (.pointer (some ⟨F,0,none⟩)),Is (.pointer (some ⟨F,0,none⟩)),Is (.pointer (some ⟨F,0,none⟩)),Is (.pointer (some ⟨F,1,none⟩)),Is (.pointer P),(λI H=>∃z,I= .pointer z/\ck H z (.node (.node l nm v aa) M ap rr)),(λI H=>∃z,I= .pointer z/\ck H z (.node (.node l nm v aa) M ap rr))] [] (λ_=>True) (λ_ _=>false) (by kernel_rfl) (by kernel_rfl) (by kernel_rfl) (by kernel_rfl) ⟨Is.ag _,Is.ag _,Is.ag _,Is.ag _,Is.ag _,Is.ag _,λv w1 w2 _ f h=>by obtain⟨a,e,o⟩:=h;exact⟨a,e,o.ao f⟩,Is.ag _,Is.ag _,Is.ag _,Is.ag _,Is.ag _,λv w1 w2 _ f h=>by obtain⟨a,e,o⟩:=h;exact⟨a,e,o.ao f⟩,λv w1 w2 _ f h=>by obtain⟨a,e,o⟩:=h;exact⟨a,e,o.ao f⟩,trivial⟩ trivial (λ_ _ _ _ h=>h) trivial ?_ ?_
      ·refine⟨?XX,?XY,?XZ,?YL,?YM,?YN,?YO,?z0,?z1,?YP,?yW,?yX,?yY,?yZ,trivial⟩;all_goals intro u w' d j i n m k
       all_goals simp only[bC,bD,bE,bF,ar,Act.put,bG,bH,bI,Nat.reduceAdd,Nat.zero_add]
       case' YL=>simp only[ah (i 2)]
       case' YM=>simp only[ah (i 3)]
       case YN=>
        simp only[ah (i 4)];clear i n m k;refine aj ?_;have q:=j.ak (J.out.ak av.out id) id;go_simp;exact⟨_,rfl,al⟩
       case YO=>
        simp only[ah (i 0),ah (i 1),ah (i 5)];clear i n m k;refine aj ?_;go_simp;refine(fK _ aB Y l aa g nm v (a0.out.ao (J.out.trans j)) (aI.out.ao (J.out.trans j)) (aU.out.ao (J.out.trans j)) (by have A:=t.out;have B:=s.out;simp only[Tr.size,Tr.bytes]at A B⊢;omega) (by have A:=t.out;have B:=s.out;simp only[Tr.size,Tr.bytes]at A B⊢;omega)).mono ?_;rintro e Q⟨a,rfl,o,f4⟩;exact⟨_,rfl,f4.bR,⟨a,rfl,o⟩,trivial⟩
       case' YP=>simp only[ah (i 8)]
       case' yW=>simp only[ah (i 9)]
       case yX=>
        simp only[ah (i 10)];clear i n m k;refine aj ?_;have q:=j.ak (J.out.ak aw.out id) id;go_simp;exact⟨_,rfl,al⟩
       case yY=>
        obtain⟨ba,bc,n6⟩:=i 6;simp only[bc,ah (i 7),ah (i 11)];clear i n m k;refine aj ?_;go_simp;refine(fK _ ba P (.node l nm v aa) rr F M ap n6 (aJ.out.ao (J.out.trans j)) (bn.out.ao (J.out.trans j)) (by have A:=t.out;have B:=s.out;simp only[Tr.size,Tr.bytes]at A B⊢;omega) (by have A:=t.out;have B:=s.out;simp only[Tr.size,Tr.bytes]at A B⊢;omega)).mono ?_;rintro e Q⟨a,rfl,o,f4⟩;exact⟨_,rfl,f4.bR,⟨a,rfl,o⟩,trivial⟩
       case yZ=>
        obtain⟨a12,aL,aR⟩:=i 12;simp only[aL];clear i n m k;refine aj ?_;go_simp;exact⟨_,rfl,aA,⟨_,rfl,aR⟩,trivial⟩
       all_goals
        clear i n m k;refine aj ?_;go_simp;exact⟨_,rfl,al⟩
      ·intro u w' j i k;obtain⟨a6,ab,am⟩:=i 13 (by omega);clear i k;simp only[bC,bD,bE,bF,ar,Act.put,bG,bH,bI,dt,du,Nat.reduceAdd,Nat.zero_add,ab];have aq:=af (J.out.trans j);have au:=af am;clear j am ab;go_wp2;go_ret;exact⟨_,_,rfl,au.out,by simp[Tr.bM],aq.out⟩
    ·have bi:decide (p<=q)=false:=decide_eq_false ai;obtain⟨R,G,V,T,rfl⟩:∃R G V T,aa= .node R G V T:=by
      cases aa with
      |leaf=>have aO:=bk.out;simp only[Tr.cO]at aO;omega
      |node a b c d=>exact⟨a,b,c,d,rfl⟩
     obtain⟨K,S,U,rfl,ad,ae,N⟩:=aI.out;have aD:=af ad;have aE:=af ae;have a4:Hid (Mid w K G V):=Mid.of N;have d0:Hid (w.cell? ⟨K,0,none⟩=some (.pointer S)):=N.cell 0;have d1:Hid (w.cell? ⟨K,1,none⟩=some (.pointer U)):=N.cell 1;clear ad ae N;go_upto_region 7 with fail;refine ay 16 Nothing [Is (.int .i64 d),Is (.bool true),Is (.bool true),Is (.pointer (some ⟨F,0,none⟩)),Is (.pointer (some ⟨F,0,none⟩)),Is (.pointer (some ⟨F,1,none⟩)),Is (.pointer P),Is (.int .i64 q),Is (.pointer (some ⟨F,0,none⟩)),Is (.pointer (some ⟨F,0,none⟩)),Is (.pointer (some ⟨F,0,none⟩)),Is (.pointer (some ⟨K,0,none⟩)),Is (.int .i64 p),Is (.bool false),Is (.bool false),Is (.bool false)] [] (λ_=>True) (λ_ _=>false) (by kernel_rfl) (by kernel_rfl) (by kernel_rfl) (by kernel_rfl) ⟨Is.ag _,Is.ag _,Is.ag _,Is.ag _,Is.ag _,Is.ag _,Is.ag _,Is.ag _,Is.ag _,Is.ag _,Is.ag _,Is.ag _,Is.ag _,Is.ag _,Is.ag _,Is.ag _,trivial⟩ trivial (λ_ _ _ _ h=>h) trivial ?_ ?_
     ·refine⟨?z2,?YQ,?YR,?YS,?YT,?YU,?YV,?YW,?YX,?YY,?xA,?xB,?xC,?xD,?xE,?xF,trivial⟩;all_goals intro u w' d j i n m k
      all_goals simp only[bC,bD,bE,bF,ar,Act.put,bG,bH,bI,Nat.reduceAdd,Nat.zero_add]
      case' YQ=>simp only[ah (i 0)]
      case' YR=>simp only[ah (i 1)]
      case' YS=>simp only[ah (i 2)]
      case' YT=>simp only[ah (i 3),ah (i 2)]
      case' YU=>simp only[ah (i 4),ah (i 2)]
      case YV=>
       simp only[ah (i 5),ah (i 2)];clear i n m k;refine aj ?_;have q:=j.ak (D.out.ak aw.out id) id;go_simp;exact⟨_,rfl,al⟩
      case YW=>
       simp only[ah (i 6),ah (i 2)];clear i n m k;refine aj ?_;go_simp;refine(H1.out _ (D.out.trans j)).mono ?_;rintro e Q⟨rfl,rfl⟩;exact⟨_,rfl,al⟩
      case' YX=>simp only[ah (i 2)]
      case' YY=>simp only[ah (i 8),ah (i 2)]
      case' xA=>simp only[ah (i 9),ah (i 2)]
      case xB=>
       simp only[ah (i 10),ah (i 2)];clear i n m k;refine aj ?_;have q:=j.ak (D.out.ak av.out id) id;go_simp;exact⟨_,rfl,al⟩
      case xC=>
       simp only[ah (i 11),ah (i 2)];clear i n m k;refine aj ?_;go_simp;refine(aC.out _ (D.out.trans j)).mono ?_;rintro e Q⟨rfl,rfl⟩;exact⟨_,rfl,al⟩
      case' xD=>simp only[ah (i 7),ah (i 12),ah (i 2)]
      case' xE=>simp only[ah (i 2),ah (i 13)]
      case' xF=>simp only[ah (i 14)]
      all_goals
       clear i n m k;refine aj ?_;go_simp;exact⟨_,rfl,al⟩
     ·intro u w' j i k;have C:u 15=_:=i 15 (by omega);clear i k;simp only[bC,bD,bE,bF,ar,Act.put,bG,bH,bI,dt,du,Nat.reduceAdd,Nat.zero_add,C];have J:=af (D.out.trans j);have bz:=J.out.ak av.out id;clear j C;go_upto_region 11 with fail;refine ay 20 Nothing [Is (.pointer aB),Is (.pointer (some ⟨g,0,none⟩)),Is (.pointer (some ⟨K,0,none⟩)),Is (.pointer (some ⟨K,0,none⟩)),Is (.pointer (some ⟨K,0,none⟩)),Is (.pointer S),(λI H=>∃z,I= .pointer z/\ck H z (.node l nm v R)),Is (.pointer (some ⟨K,0,none⟩)),Is (.pointer (some ⟨K,0,none⟩)),Is (.pointer (some ⟨K,0,none⟩)),Is (.pointer (some ⟨K,1,none⟩)),Is (.pointer U),Is (.pointer (some ⟨F,0,none⟩)),Is (.pointer (some ⟨F,0,none⟩)),Is (.pointer (some ⟨F,0,none⟩)),Is (.pointer (some ⟨F,1,none⟩)),Is (.pointer P),(λI H=>∃z,I= .pointer z/\ck H z (.node T M ap rr)),(λI H=>∃z,I= .pointer z/\ck H z (.node (.node l nm v R) G V (.node T M ap rr))),(λI H=>∃z,I= .pointer z/\ck H z (.node (.node l nm v R) G V (.node T M ap rr)))] [] (λ_=>True) (λ_ _=>false) (by kernel_rfl) (by kernel_rfl) (by kernel_rfl) (by kernel_rfl) ⟨Is.ag _,Is.ag _,Is.ag _,Is.ag _,Is.ag _,Is.ag _,λv w1 w2 _ f h=>by obtain⟨a,e,o⟩:=h;exact⟨a,e,o.ao f⟩,Is.ag _,Is.ag _,Is.ag _,Is.ag _,Is.ag _,Is.ag _,Is.ag _,Is.ag _,Is.ag _,Is.ag _,λv w1 w2 _ f h=>by obtain⟨a,e,o⟩:=h;exact⟨a,e,o.ao f⟩,λv w1 w2 _ f h=>by obtain⟨a,e,o⟩:=h;exact⟨a,e,o.ao f⟩,λv w1 w2 _ f h=>by obtain⟨a,e,o⟩:=h;exact⟨a,e,o.ao f⟩,trivial⟩ trivial (λ_ _ _ _ h=>h) trivial ?_ ?_
      ·refine⟨?z3,?z4,?z5,?YZ,?XA,?XB,?XC,?z6,?z7,?XD,?xG,?xH,?XK,?XL,?xI,?xJ,?xK,?xL,?xM,?xN,trivial⟩;all_goals intro u w' d j i n m k
       all_goals simp only[bC,bD,bE,bF,ar,Act.put,bG,bH,bI,Nat.reduceAdd,Nat.zero_add]
       case' YZ=>simp only[ah (i 2)]
       case' XA=>simp only[ah (i 3)]
       case XB=>
        simp only[ah (i 4)];clear i n m k;refine aj ?_;have q:=j.ak (J.out.ak d0.out id) id;go_simp;exact⟨_,rfl,al⟩
       case XC=>
        simp only[ah (i 0),ah (i 1),ah (i 5)];clear i n m k;refine aj ?_;go_simp;refine(fK _ aB S l R g nm v (a0.out.ao (J.out.trans j)) (aD.out.ao (J.out.trans j)) (aU.out.ao (J.out.trans j)) (by have A:=t.out;have B:=s.out;simp only[Tr.size,Tr.bytes]at A B⊢;omega) (by have A:=t.out;have B:=s.out;simp only[Tr.size,Tr.bytes]at A B⊢;omega)).mono ?_;rintro e Q⟨a,rfl,o,f4⟩;exact⟨_,rfl,f4.bR,⟨a,rfl,o⟩,trivial⟩
       case' XD=>simp only[ah (i 8)]
       case' xG=>simp only[ah (i 9)]
       case xH=>
        simp only[ah (i 10)];clear i n m k;refine aj ?_;have q:=j.ak (J.out.ak d1.out id) id;go_simp;exact⟨_,rfl,al⟩
       case' xI=>simp only[ah (i 13)]
       case' xJ=>simp only[ah (i 14)]
       case xK=>
        simp only[ah (i 15)];clear i n m k;refine aj ?_;have q:=j.ak (J.out.ak aw.out id) id;go_simp;exact⟨_,rfl,al⟩
       case xL=>
        simp only[ah (i 11),ah (i 12),ah (i 16)];clear i n m k;refine aj ?_;go_simp;refine(fK _ U P T rr F M ap (aE.out.ao (J.out.trans j)) (aJ.out.ao (J.out.trans j)) (bn.out.ao (J.out.trans j)) (by have A:=t.out;have B:=s.out;simp only[Tr.size,Tr.bytes]at A B⊢;omega) (by have A:=t.out;have B:=s.out;simp only[Tr.size,Tr.bytes]at A B⊢;omega)).mono ?_;rintro e Q⟨a,rfl,o,f4⟩;exact⟨_,rfl,f4.bR,⟨a,rfl,o⟩,trivial⟩
       case xM=>
        obtain⟨ba,bc,n6⟩:=i 6;obtain⟨aK,aM,aS⟩:=i 17;simp only[bc,ah (i 7),aM];clear i n m k;refine aj ?_;go_simp;refine(fK _ ba aK (.node l nm v R) (.node T M ap rr) K G V n6 aS (a4.out.ao (J.out.trans j)) (by have A:=t.out;have B:=s.out;simp only[Tr.size,Tr.bytes]at A B⊢;omega) (by have A:=t.out;have B:=s.out;simp only[Tr.size,Tr.bytes]at A B⊢;omega)).mono ?_;rintro e Q⟨a,rfl,o,f4⟩;exact⟨_,rfl,f4.bR,⟨a,rfl,o⟩,trivial⟩
       case xN=>
        obtain⟨a7,aN,aT⟩:=i 18;simp only[aN];clear i n m k;refine aj ?_;go_simp;exact⟨_,rfl,aA,⟨_,rfl,aT⟩,trivial⟩
       all_goals
        clear i n m k;refine aj ?_;go_simp;exact⟨_,rfl,al⟩
      ·intro u w' j i k;obtain⟨a8,ac,an⟩:=i 19 (by omega);clear i k;simp only[bC,bD,bE,bF,ar,Act.put,bG,bH,bI,dt,du,Nat.reduceAdd,Nat.zero_add,ac];have aq:=af (J.out.trans j);have au:=af an;clear j an ac;go_wp2;go_ret;exact⟨_,_,rfl,au.out,by simp[Tr.bM],aq.out⟩
   ·have bx:decide (d<(-1:Int))=false:=decide_eq_false a2;clear aV a2;go_upto_region 7 with fail;refine ay 16 Nothing [Is (.int .i64 d),Is (.bool false),Is (.bool false),Is (undef),Is (undef),Is (undef),Is (undef),Is (undef),Is (undef),Is (undef),Is (undef),Is (undef),Is (undef),Is (undef),Is (.bool false),Is (.bool false)] [] (λ_=>True) (λ_ _=>false) (by kernel_rfl) (by kernel_rfl) (by kernel_rfl) (by kernel_rfl) ⟨Is.ag _,Is.ag _,Is.ag _,Is.ag _,Is.ag _,Is.ag _,Is.ag _,Is.ag _,Is.ag _,Is.ag _,Is.ag _,Is.ag _,Is.ag _,Is.ag _,Is.ag _,Is.ag _,trivial⟩ trivial (λ_ _ _ _ h=>h) trivial ?_ ?_
    ·refine⟨?XE,?zG,?zH,?zI,?zJ,?zK,?zL,?zM,?zN,?zO,?zA,?zB,?zC,?zD,?zE,?zF,trivial⟩;all_goals intro u w' d j i n m k
     all_goals simp only[bC,bD,bE,bF,ar,Act.put,bG,bH,bI,Nat.reduceAdd,Nat.zero_add]
     case' zG=>simp only[ah (i 0)]
     case' zH=>simp only[ah (i 1)]
     case zI=>simp only[ah (i 2)];exact .inr ⟨by kernel_rfl,_,rfl,aA,rfl,trivial⟩
     case zJ=>simp only[ah (i 2)];exact .inr ⟨by kernel_rfl,_,rfl,aA,rfl,trivial⟩
     case zK=>simp only[ah (i 2)];exact .inr ⟨by kernel_rfl,_,rfl,aA,rfl,trivial⟩
     case zL=>simp only[ah (i 2)];exact .inr ⟨by kernel_rfl,_,rfl,aA,rfl,trivial⟩
     case zM=>simp only[ah (i 2)];exact .inr ⟨by kernel_rfl,_,rfl,aA,rfl,trivial⟩
     case zN=>simp only[ah (i 2)];exact .inr ⟨by kernel_rfl,_,rfl,aA,rfl,trivial⟩
     case zO=>simp only[ah (i 2)];exact .inr ⟨by kernel_rfl,_,rfl,aA,rfl,trivial⟩
     case zA=>simp only[ah (i 2)];exact .inr ⟨by kernel_rfl,_,rfl,aA,rfl,trivial⟩
     case zB=>simp only[ah (i 2)];exact .inr ⟨by kernel_rfl,_,rfl,aA,rfl,trivial⟩
     case zC=>simp only[ah (i 2)];exact .inr ⟨by kernel_rfl,_,rfl,aA,rfl,trivial⟩
     case zD=>simp only[ah (i 2)];exact .inr ⟨by kernel_rfl,_,rfl,aA,rfl,trivial⟩
     case' zE=>simp only[ah (i 2),ah (i 13)]
     case' zF=>simp only[ah (i 14)]
     all_goals
      clear i n m k;refine aj ?_;go_simp;exact⟨_,rfl,al⟩
    ·intro u w' j i k;have C:u 15=_:=i 15 (by omega);clear i k;simp only[bC,bD,bE,bF,ar,Act.put,bG,bH,bI,dt,du,Nat.reduceAdd,Nat.zero_add,C];have J:=af (D.out.trans j);clear j C;go_wp2_with fail;refine(fK _ aB ra l r g nm v (a0.out.ao J.out) (a1.out.ao J.out) (aU.out.ao J.out) (by have A:=t.out;omega) (by have B:=s.out;omega)).mono ?_;rintro e Q⟨a,rfl,o,f4⟩;have au:=af o;have aq:=af (J.out.trans f4);clear o f4;go_wp2;go_ret;exact⟨_,_,rfl,au.out,by simp[Tr.bM],aq.out⟩
theorem Gc(a b:ByteArray):(a==b)=true↔a=b:=by
 constructor;·intro h;have c:(a.data==b.data)=true:=h;exact ByteArray.ext (by simpa using c)
 ·rintro rfl;have c:(a.data==a.data)=true:=by simp
  exact c
theorem Ju(a b:ByteArray):(a.toList==b.toList)=(a==b):=by
 rw[Bool.eq_iff_iff,Gc,beq_iff_eq,ByteArray.toList_eq,ByteArray.toList_eq];constructor;·intro h;exact ByteArray.ext (Array.toList_inj.1 h)
 ·rintro rfl;rfl
def jW(x:Ent):CV:=⟨x.1,ByteArray.empty,true⟩
def gP(y:Ent):CV:=⟨y.1,y.2,false⟩
def cG:List Ent->List Ent->List CV
 |[],[]=>[]
 |x::a,[]=>jW x::cG a []
 |[],y::b=>gP y::cG [] b
 |x::a,y::b=>if bL x.1 y.1<0 then jW x::cG a (y::b)else if 0<bL x.1 y.1 then gP y::cG (x::a) b else if(x.2==y.2)=true then cG a b else gP y::cG a b
termination_by a b=>a.length+b.length
theorem jg:∀a b:List Ent,(cG a b).length<=a.length+b.length
 |[],[]=>by rw[cG];exact Nat.le_refl _
 |x::a,[]=>by
  have h:=jg a [];rw[cG];simp only[List.length_cons,List.length_nil]at h⊢;omega
 |[],y::b=>by
  have h:=jg [] b;rw[cG];simp only[List.length_cons,List.length_nil]at h⊢;omega
 |x::a,y::b=>by
  have c:=jg a (y::b);have d:=jg (x::a) b;have e:=jg a b;rw[cG];simp only[List.length_cons]at c d⊢;split;·simp only[List.length_cons];omega
  ·split;·simp only[List.length_cons];omega
   ·split;·omega
    ·simp only[List.length_cons];omega
termination_by a b=>a.length+b.length
theorem qM:∀a:List Ent,cG a a=[]
 |[]=>by rw[cG]
 |x::a=>by
  have h:=cp.refl x.1;rw[cG,if_neg (by omega),if_neg (by omega),if_pos ((Gc _ _).2 rfl),qM a]
theorem rn(c:CV):∀u∈c.cells,u.oneCell'=true:=λu hu=>by
 have h:=c.one;rw[Array.all_eq_true_iff_forall_mem]at h;exact h u (by simpa using hu)
theorem CL.one{w:World}{g:Nat}{t:TypeId}{c:CV}(h:aq w g t c.cells.toArray):CL w (λ_=>True) (some ⟨g,0,none⟩) 1 [c]:=by
 refine⟨⟨rfl,λ_=>⟨_,rfl,trivial,λj y a=>?_⟩⟩,rfl⟩;rw[Addr.add_mid,Nat.zero_add,h.cell,bP];simpa using a
end Go.Proofs.YtphjagkehiklkaaGreatDoor
namespace Go.Proofs.YtphjagkehiklkaaGreatDoor
open Proofs.Tryz Go.RowKit
def Gb(ops:Array Oper)(n:Nat)(kill:Nat->Nat->Bool)(i j:Nat):Bool:=(List.range n).all λk=>!kill k j||k==i||Region.waitsFor .any ops k i
def Gw(ops:Array Oper)(n:Nat)(wr:Nat->Bool)(i:Nat):Bool:=(List.range n).all λk=>!wr k||k==i||Region.waitsFor .any ops k i
def tj(kill:Nat->Bool)(u:Nat->Value)(w' a:World):Nat->List Fact->Prop
 |_,[]=>True
 |j,f::r=>(kill j=false->f.p (u j) w'->f.p (u j) a)/\tj kill u w' a (j+1) r
theorem tj.at_{kill:Nat->Bool}{u:Nat->Value}{w' a:World}:∀{V:List Fact}{k:Nat},tj kill u w' a k V->∀j,kill (k+j)=false->(V.getD j ml).p (u (k+j)) w'->(V.getD j ml).p (u (k+j)) a
 |[],_,_,_,_,_=>trivial
 |_::_,_,h,0,b,c=>h.1 b c
 |_::r,k,h,j+1,b,c=>by
  have e:k+(j+1)=k+1+j:=by omega
  rw[e]at b c⊢;exact tj.at_ (V:=r) h.2 j b c
def Jk(b:Bool)(T:Nat->Prop)(w:World)(S:World->Prop)(a:Act)(d:Option Tmp)(w':World)(p:Value->World->Prop)(e:Act)(c:World):Prop:=
 ∃v,e=a.put d v/\(match b with|true=>Fr T w c/\S c|false=>Fr Nothing w' c)/\p v c
def rS(P:Program)(ops:Array Oper)(Q:Exit->Act->World->Prop)(n:Nat)(T:Nat->Prop)(wr:Nat->Bool)(kill:Nat->Nat->Bool)(w:World)(F:(Nat->Value)->Act)(V:List Fact):Nat->List Oper->Prop
 |_,[]=>True
 |i,b::r=>(∀u w',Fr T w w'->(∀j,(_:Region.waitsFor .any ops i j=true:=by kernel_rfl)->(_:Gb ops n kill i j=true:=by kernel_rfl)->(V.getD j ml).p (u j) w')->((_:Gw ops n wr i=true:=by kernel_rfl)->Fr Nothing w w')->
   nU P ops Q b (F u) w' (Jk (wr i) T w (λa=>tj (λj=>kill i j||j==i||Region.waitsFor .any ops j i) u w' a 0 V) (F u) b.dst w' (V.getD i ml).p))/\rS P ops Q n T wr kill w F V (i+1) r
theorem rS.at_{P:Program}{ops:Array Oper}{Q:Exit->Act->World->Prop}{n:Nat}{T:Nat->Prop}{wr:Nat->Bool}{kill:Nat->Nat->Bool}{w:World}{F:(Nat->Value)->Act}{V:List Fact}:
  ∀{l:List Oper}{k:Nat},rS P ops Q n T wr kill w F V k l->∀i d,l[i]? =some d->∀u w',Fr T w w'->(∀j,Region.waitsFor .any ops (k+i) j=true->Gb ops n kill (k+i) j=true->(V.getD j ml).p (u j) w')->(Gw ops n wr (k+i)=true->Fr Nothing w w')->
   nU P ops Q d (F u) w' (Jk (wr (k+i)) T w (λb=>tj (λj=>kill (k+i) j||j==(k+i)||Region.waitsFor .any ops j (k+i)) u w' b 0 V) (F u) d.dst w' (V.getD (k+i) ml).p)
 |[],_,_,_,_,h=>by simp at h
 |c::r,k,h,0,d,a=>by
  have:c=d:=by simpa using a
  subst this;exact h.1
 |c::r,k,h,i+1,d,a=>by
  have:=rS.at_ h.2 i d (by simpa using a);rw[show k+1+i=k+(i+1)by omega]at this;exact this
theorem nP{b:Bool}{p:Prop}(a:b=true:=by kernel_rfl):b=false->p:=λh=>by rw[a]at h;cases h
structure Ni(w:World)(n:Nat)(T:Nat->Prop)(wr:Nat->Bool)(kill:Nat->Nat->Bool)(V:List Fact)(d:Nat->Bool)(u:Nat->Value)(w':World):Prop where
 fr:Fr T w w'
 quiet:(∀k,k<n->d k=true->wr k=false)->Fr Nothing w w'
 facts:∀j,j<n->d j=true->(∀k,k<n->d k=true->kill k j=false)->(V.getD j ml).p (u j) w'
theorem FG{P:Program}{id:Nat}{Q:Exit->Act->World->Prop}{a:Act}{w:World}{l:List Oper}(n:Nat)(T:Nat->Prop)(wr:Nat->Bool)(kill:Nat->Nat->Bool)(V:List Fact)
  (aa:rS P l.toArray Q n T wr kill w (λu=>ar ((l.take n).map (·.dst)) 0 u a) V 0 (l.take n))
  (N:∀u w',Fr T w w'->(∀j,j<n->(_:((List.range n).all λk=>!kill k j)=true:=by kernel_rfl)->(V.getD j ml).p (u j) w')->wpList P l.toArray Q (l.drop n) (ar ((l.take n).map (·.dst)) 0 u a) w')
  (hm:P.follows .mixedOrders=true:=by kernel_rfl)(Z:sQ l.toArray n=true:=by kernel_rfl):(Code.region id l.toArray true).wp P Q a w:=by
 have ok:=sv.of Z;obtain⟨ae,O⟩:=gT ((l.take n).map (·.dst)) 0 a;refine wp_region_any hm ?_;have H:HeadInv .any l.toArray n (Array.replicate l.toArray.size false):=
  ⟨by simp,λj ah _ U=>(by rw[getD_replicate_false]at U;cases U),λt _ N=>getD_in (by simpa using N) (getD_replicate_false _ _)⟩;have X:cI (λj=>!(Array.replicate l.toArray.size false).getD j false) n=n:=by
  have h:∀m,cI (λj=>!(Array.replicate l.toArray.size false).getD j false) m=m:=by
   intro m;induction m with
   |zero=>rfl
   |succ m ad=>rw[cI,ad,getD_replicate_false];rfl
  exact h n
 have:=zF (P:=P) (Q:=Q) (a:=a) ok (Ni w n T wr kill V) ?_ ?_ n _ ae w.drew H X ⟨aA.drew,λ_=>aA.drew,λj _ h=>(by rw[getD_replicate_false]at h;cases h)⟩;·rw[show(l.toArray.toList.take n).map (·.dst)=(l.take n).map (·.dst)by simp,O,show n+(l.toArray.size-n)=l.toArray.size by have:=ok.le;omega]at this;exact this
 ·intro i o A ab d u w' r c s y;have M:(l.take n)[i]? =some o:=by rw[List.getElem?_take,if_pos A];simpa using ab
  have F:=aa.at_ i o M u w' y.fr (λj g S=>by
   rw[Nat.zero_add]at g S;refine y.facts j (s j g).2 (s j g).1 (λk q f=>?_);have h:=List.all_eq_true.1 S k (List.mem_range.2 q);simp only[Bool.or_eq_true,Bool.not_eq_true',beq_iff_eq]at h;rcases h with(h|h)|h;·exact h
   ·subst h;rw[r]at f;cases f
   ·have:=c k i f h;rw[r]at this;cases this) (λG=>by
   rw[Nat.zero_add]at G;refine y.quiet (λk q f=>?_);have h:=List.all_eq_true.1 G k (List.mem_range.2 q);simp only[Bool.or_eq_true,Bool.not_eq_true',beq_iff_eq]at h;rcases h with(h|h)|h;·exact h
   ·subst h;rw[r]at f;cases f
   ·have:=c k i f h;rw[r]at this;cases this);rw[Nat.zero_add]at F;have E:(l.toArray.toList.take n).map (·.dst)=(l.take n).map (·.dst):=by simp
  rw[E];refine fV ?_ F;rintro ag af⟨v,rfl,b,W⟩;refine⟨v,rfl,?_⟩;have J:∀j,j≠i->dW u i v j=u j:=λj g=>by simp[dW,g]
  have z:dW u i v i=v:=by simp[dW]
  have setne:∀j,j≠i->gU d i j=d j:=λj g=>by simp[gU,g]
  have x:gU d i i=true:=by simp[gU]
  have I:∀j,j<n->j≠i->gU d i j=true->(∀k,k<n->gU d i k=true->kill k j=false)->(V.getD j ml).p (u j) w':=λj g L f q=>
   y.facts j g (by rw[<-setne j L];exact f) (λk B K=>q k B (by
    by_cases e:k=i;·rw[e];exact x
    ·rw[setne k e];exact K));cases D:wr i
  ·rw[D]at b;refine⟨y.fr.trans (Fr.bR b),λC=>(y.quiet (λk q f=>C k q (by by_cases e:k=i<;>simp[gU,e,f]))).trans b,λj g f q=>?_⟩;by_cases e:j=i;·subst e;rw[z];exact W
   ·rw[J j e];exact(V.getD j ml).st _ _ _ b (I j g e f q)
  ·rw[D]at b;obtain⟨Y,ac⟩:=b;refine⟨Y,λC=>(by have:=C i A x;rw[D]at this;cases this),λj g f q=>?_⟩;by_cases e:j=i;·subst e;rw[z];exact W
   ·rw[J j e];have:=ac.at_ j (by
     simp only[Nat.zero_add];rw[q i A x,Bool.false_or,Bool.or_eq_false_iff];refine⟨jr e,?_⟩;cases R:Region.waitsFor .any l.toArray j i;·rfl
     ·have:=c j i (by rw[<-setne j e];exact f) R;rw[r]at this;cases this);rw[Nat.zero_add]at this;exact this (I j g e f q)
 ·intro d u w' f y;have:=N u w' y.fr (λj g q=>y.facts j g (f j g) (λk B _=>by
   have h:=List.all_eq_true.1 q k (List.mem_range.2 B);simpa using h));simpa using this
end Go.Proofs.YtphjagkehiklkaaGreatDoor
