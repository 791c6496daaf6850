/- Texts. -/
import Derived.Test.YtphjagkehiklkaaGreatDoorZK06
set_option linter.unusedVariables false
set_option linter.unusedSimpArgs false
set_option maxRecDepth 100000
set_option maxHeartbeats 8000000
namespace Go.Proofs.YtphjagkehiklkaaGreatDoor
open Go.RowKit Go.Shelf
theorem fI(a m:Int)(w:World):Calls Tryz.prog 153 #[.int .i64 a, .int .i64 m] w (bm w (.bool (decide (0≤a)&&decide (a≤m)))):=by
 by_cases b:0≤a;·have t1:decide (0≤a)=true:=decide_eq_true b;rw[t1];go_enter Tryz.func153,Tryz.ntmps153;go_wp2;go_ret;exact⟨by simp,rfl⟩
 ·have t1:decide (0≤a)=false:=decide_eq_false b;rw[t1];go_enter Tryz.func153,Tryz.ntmps153;go_wp2;go_ret;exact⟨rfl,rfl⟩
theorem tX(a:Int)(w:World):Calls Tryz.prog 152 #[.int .i64 a] w (bm w (.bool (decide (1≤a)&&decide (a≤20)))):=by
 by_cases b:1≤a;·have t1:decide (1≤a)=true:=decide_eq_true b;rw[t1];go_enter Tryz.func152,Tryz.ntmps152;go_wp2;go_ret;exact⟨by simp,rfl⟩
 ·have t1:decide (1≤a)=false:=decide_eq_false b;rw[t1];go_enter Tryz.func152,Tryz.ntmps152;go_wp2;go_ret;exact⟨rfl,rfl⟩
def oS(b:UInt8):Bool:=decide (33≤b.toNat)&&decide (b.toNat≤126)&&!(b.toNat==47)
def lj(s:ByteArray):Bool:=!s.toList.isEmpty&&decide (s.size≤32)&&s.toList.all oS
theorem Hm(s:ByteArray)(w:World)(H:s.size≤1099511627776):Calls Tryz.prog 154 #[.string s] w (bm w (.bool (lj s))):=by
 cases he:s.toList.isEmpty
 ·by_cases f:s.size≤32
  ·have t1:decide (32<(s.size:Int))=false:=cD (by omega);have D:=af he;have E:=af f;obtain⟨I,m⟩:∃I,I=lj s:=⟨_,rfl⟩;rw[←m];have d:Hid (I=s.toList.all oS):=by simp only[Hid];rw[m,lj,he,decide_eq_true f];rfl
   have l:Hid (∀i,i<s.size→∃b,∃h:i<s.size,s.toList[i]? =some b∧s[i]=b):=fun i z=>by
    have e:s.toList[i]? =some (s.toList[i]'(by rw[ft];exact z)):=List.getElem?_eq_getElem _;obtain⟨t,u⟩:=Ap e;exact⟨_,t,e,u⟩
   clear f m;go_enter Tryz.func154,Tryz.ntmps154;go_wp2;go_loopw[13](fun i wr=>∃k:Nat,k≤s.size∧(∀b∈s.toList.take k,oS b=true)∧i= .int .i64 k∧w=wr)(fun i _=>s.size-(intOf i).toNat);case atStart=>exact⟨0,by omega,by simp,rfl,rfl⟩
   case round=>
    obtain⟨k,G,c,rfl,rfl⟩:=hrel;have r:=af c;clear c;by_cases n:k<s.size
    ·have v:(k:Int)<(s.size:Int):=by omega
     have y:(0:Int)≤(k:Int):=by omega
     obtain⟨b,F,e,t⟩:=l.out k n;have q:=af e;clear e;have g:∀h:oS b=false,I=false:=fun h=>by
      rw[d.out,List.all_eq_false];exact⟨b,List.mem_of_getElem? q.out,by rw[h];simp⟩
     have a:=af g;clear g;by_cases g1:33≤b.toNat
     ·have A:decide ((b.toNat:Int)<33)=false:=cD (by omega);have o:¬(b.toNat:Int)<33:=by omega
      by_cases g2:b.toNat≤126
      ·have B:decide ((126:Int)<(b.toNat:Int))=false:=cD (by omega);have p:¬(126:Int)<(b.toNat:Int):=by omega
       by_cases g3:b.toNat=47
       ·have C:((b.toNat:Int)==47)=true:=by rw[beq_iff_eq];omega
        obtain rfl:I=false:=a.out (by simp[oS,g3]);clear g1 g2 g3;go_wp2;go_ret;exact⟨rfl,rfl⟩
       ·have C:((b.toNat:Int)==47)=false:=by rw[beq_eq_false_iff_ne];omega
        have HB:Hid (oS b=true):=by simp[Hid,oS,g1,g2,g3]
        clear g1 g2 g3 a;go_wp2;go_roundw
        case rel=>exact⟨k+1,by omega,fun x j=>by
          rw[List.take_add_one,q.out,Option.toList_some,List.mem_append,List.mem_singleton]at j;rcases j with j|rfl;·exact r.out x j
          ·exact HB.out,by go_num,trivial⟩
        case measure=>simp[intOf];omega
      ·have B:decide ((126:Int)<(b.toNat:Int))=true:=de (by omega);have p:(126:Int)<(b.toNat:Int):=by omega
       obtain rfl:I=false:=a.out (by simp[oS,g2]);clear g1 g2;go_wp2;go_ret;exact⟨rfl,rfl⟩
     ·have A:decide ((b.toNat:Int)<33)=true:=de (by omega);have o:(b.toNat:Int)<33:=by omega
      obtain rfl:I=false:=a.out (by simp[oS,g1]);clear g1;go_wp2;go_ret;exact⟨rfl,rfl⟩
    ·obtain rfl:k=s.size:=by omega
     have v:¬(s.size:Int)<(s.size:Int):=by omega
     obtain rfl:I=true:=by
      rw[d.out,List.all_eq_true];have h:=r.out;rw[List.take_of_length_le (by rw[ft];omega)]at h;exact h
     go_wp2;go_ret;exact⟨rfl,rfl⟩
  ·have t1:decide (32<(s.size:Int))=true:=de (by omega);have d:Hid (lj s=false):=by simp[Hid,lj,f]
   rw[d.out];clear f;go_enter Tryz.func154,Tryz.ntmps154;go_wp2;go_ret;exact⟨rfl,rfl⟩
 ·have d:Hid (lj s=false):=by simp[Hid,lj,he]
  rw[d.out];go_enter Tryz.func154,Tryz.ntmps154;go_wp2;go_ret;exact⟨rfl,rfl⟩
def o3(u:iC)(n:aJ):Bool:=(u.owner||n.owner.toList.isEmpty)&&(u.number||n.number==0)&&(u.index||n.index==0)&&(u.text||n.text.toList.isEmpty)&&(!u.owner||df n.owner)&&
 (!u.number||(decide (0≤n.number)&&decide (n.number≤1073741824)))&&(!u.index||(decide (0≤n.index)&&decide (n.index≤u.aP)))&&(!u.text||lj n.text)
def du(n:aJ):Bool:=decide (1≤n.kind)&&decide (n.kind≤20)&&(match iP[n.kind.toNat]? with|some u=>o3 u n|none=>false)
def Checked(w:World)(n:aJ)(e:Ending)(w':World):Prop:=∃k:Int,e= .returned (.int .i64 k)∧(k==0)=du n∧Fr ag w w'
theorem iC.one(u:iC):u.cells.toArray.all (·.oneCell')=true:=by simp[iC.cells,Value.oneCell']
theorem zY(wd:ByteArray)(f e bi g:Bool)(h k:Int)(c d:ByteArray)(b a:Int):
  o3 ⟨wd,f,e,bi,g,h⟩ ⟨k,c,b,a,d⟩=!((!f&&!c.toList.isEmpty)||(!e&&b !=0)||(!bi&&a !=0)||(!g&&!d.toList.isEmpty)||(f&&!df c)||(e&&!(decide (0≤b)&&decide (b≤1073741824)))||(bi&&!(decide (0≤a)&&decide (a≤h)))||(g&&!lj d)):=by
 unfold o3;simp only[bne];generalize(decide (0≤b)&&decide (b≤1073741824))=i;generalize(decide (0≤a)&&decide (a≤h))=j;generalize(b==0)=d1;generalize(a==0)=d2;generalize df c=v;generalize lj d=x;generalize c.toList.isEmpty=l;generalize d.toList.isEmpty=m;cases f<;>cases e<;>cases bi<;>cases g<;>simp[Bool.and_assoc]
theorem Dr(k:Nat)(r:ByteArray)(y t:Int)(s wd:ByteArray)(f d bi g:Bool)(A:Int)(w:World)(ba:eh w)(bo:1≤k∧k≤20)(hu:iP[k]? =some ⟨wd,f,d,bi,g,A⟩)(bb:r.size≤1099511627776)(bc:s.size≤1099511627776):
  Calls Tryz.prog 115 #[.agg #[.int .i64 (k:Int), .string r, .int .i64 y, .int .i64 t, .string s]] w (Checked w ⟨(k:Int),r,y,t,s⟩):=by
 have p:Hid (du ⟨(k:Int),r,y,t,s⟩=o3 ⟨wd,f,d,bi,g,A⟩ ⟨(k:Int),r,y,t,s⟩):=by
  simp only[Hid,du,Int.toNat_natCast,hu];rw[de (show(1:Int)≤(k:Int)by omega),de (show(k:Int)≤20 by omega)];rfl
 have l:=af (zY wd f d bi g A k r s y t);obtain⟨aL,ad⟩:∃aL,aL=iC.cells ⟨wd,f,d,bi,g,A⟩:=⟨_,rfl⟩;have a4:Hid (∀j v,(iC.cells ⟨wd,f,d,bi,g,A⟩)[j]? =some v→w.cell? ⟨0,k*6+j,none⟩=some v):=ba.row k _ hu;have a1:Hid ((Tryz.prog.info? 189).map (·.size)=some (iC.cells ⟨wd,f,d,bi,g,A⟩).length):=ki;have ab:Hid ((Tryz.prog.info? 189).map (·.size)=some (iC.cells ⟨wd,f,d,bi,g,A⟩).toArray.size):=ki;have a3:=af (iC.one ⟨wd,f,d,bi,g,A⟩);have aa:=af ad;rw[←ad]at a4 a1 ab a3;have a6:Hid (∀w,Calls Tryz.prog 152 #[.int .i64 (k:Int)] w (bm w (.bool true))):=fun w=>by
  have h:=tX (k:Int) w;rw[de (show(1:Int)≤(k:Int)by omega),de (show(k:Int)≤20 by omega)]at h;exact h
 obtain⟨va,aj⟩:∃va,df r=va:=⟨_,rfl⟩;obtain⟨R,al⟩:∃R,lj s=R:=⟨_,rfl⟩;obtain⟨am,ae⟩:∃c,(decide (0≤y)&&decide (y≤1073741824))=c:=⟨_,rfl⟩;obtain⟨ao,ah⟩:∃c,(decide (0≤t)&&decide (t≤A))=c:=⟨_,rfl⟩;have CV:Hid (∀w,Calls Tryz.prog 151 #[.string r] w (aH w (.bool va))):=fun w=>by rw[←aj];exact oh r w bb
 have bg:Hid (∀w,Calls Tryz.prog 154 #[.string s] w (aH w (.bool R))):=fun w=>by rw[←al];exact(Hm s w bc).mono (fun _ _ h=>⟨h.1,by rw[h.2];exact az⟩)
 have bf:Hid (∀w,Calls Tryz.prog 153 #[.int .i64 y, .int .i64 1073741824] w (bm w (.bool am))):=fun w=>by rw[←ae];exact fI y 1073741824 w
 have be:Hid (∀w,Calls Tryz.prog 153 #[.int .i64 t, .int .i64 A] w (bm w (.bool ao))):=fun w=>by rw[←ah];exact fI t A w
 obtain⟨ap,bj⟩:∃ap:Bool,r.toList.isEmpty=!ap:=⟨!r.toList.isEmpty,by simp⟩;obtain⟨av,bn⟩:∃av:Bool,s.toList.isEmpty=!av:=⟨!s.toList.isEmpty,by simp⟩;obtain⟨au,bk⟩:∃au:Bool,(y !=0)=au:=⟨_,rfl⟩;obtain⟨x3,bl⟩:∃x3:Bool,(t !=0)=x3:=⟨_,rfl⟩;rw[bj,bk,bl,bn,aj,al,ae,ah,Bool.not_not,Bool.not_not]at l;have bs:(k:Int)<21:=by omega
 have bt:k<21:=by omega
 have bu:(0:Int)≤(k:Int):=by omega
 clear ba bo hu bb bc ad aj al ae ah;go_enter Tryz.func115,Tryz.ntmps115;go_wp2_with(refine aB rfl 106 (.tmp 0) rfl #[.int .i64 (k:Int), .string r, .int .i64 y, .int .i64 t, .string s] rfl ?_);intro w1 n1;have aW:=af n1.fr;have ax:=af n1.aE;clear n1;generalize w.heap.size=C at*;have ac:Hid (aq w1 C 106 #[.int .i64 (k:Int), .string r, .int .i64 y, .int .i64 t, .string s]):=ax.out;clear ax;have bh:w1.cell? ⟨C,0,none⟩=some (.int .i64 (k:Int)):=ac.out.cell 0;go_wp2_with fail;refine(a6.out _).mono ?_;rintro e w'⟨rfl,rfl⟩;go_wp2_with(refine aC rfl 189 (.tmp 10) rfl ⟨0,k*6,none⟩ rfl aL _ ?zB Tryz.underlying189 rfl a1.out (aR.go ?hold));case zB=>exact fun j x bp=>by rw[Addr.add_mid];exact aW.out.ak (a4.out j x bp) (fun x=>x)
 unfold aR;go_wp2_with(refine an rfl 189 rfl GS xL #[.string ByteArray.empty, .bool false, .bool false, .bool false, .bool false, .int .i64 0] rfl ?_);intro w2 bd;have a2:=af bd;clear bd;generalize aK:w1.heap.size=B at*;have Z:=af aK;clear aK;have a7:Hid (aq w2 B 189 #[.string ByteArray.empty, .bool false, .bool false, .bool false, .bool false, .int .i64 0]):=by have h:=a2.out.aE;rw[Z.out]at h;exact h
 go_wp2_with(refine ai rfl 189 (.tmp 3) _ rfl B aL.toArray rfl rfl _ _ a7.out ab.out (by rw[aa.out];rfl) a3.out ?_);intro w3 b3 f3;have n:Hid (aq w3 B 189 #[.string wd, .bool f, .bool d, .bool bi, .bool g, .int .i64 A]):=by have h:=b3;rw[aa.out]at h;exact h
 have S:Hid (Fr ag w1 w3):=a2.out.fr.aw f3 (fun i br e=>by have bq:i=B:=e;have:=Z.out;omega);have m:=af (aW.out.trans S.out);have o:=af (ac.out.fr S.out (fun x=>x));clear b3 f3 a2 a7 S aW ac bh Z a4 a1 ab a3 aa a6;obtain⟨aS,ay⟩:∃z:Bool,(bif f then false else ap)=z:=⟨_,rfl⟩;have T:=af ay;clear ay;go_upto_region 4 with fail;refine ln 9 [.pointer (some ⟨B,1,none⟩), .bool f, .bool (!f), .bool (!f),bif f then undef else .pointer (some ⟨C,1,none⟩),bif f then undef else .string r,bif f then undef else .bool ap,bif f then .bool false else .bool ap, .bool aS] ?zC ?_;case zC=>
  refine⟨?xZ,?zK,?zL,?zM,?zN,?zO,?zP,?zQ,?zR,trivial⟩;all_goals intro u w' b a
  all_goals simp only[z1,z2,z3,z4,ar,Act.put,z5,z6,z7,Nat.reduceAdd,Nat.zero_add]
  case zK=>
   simp only[show u 0=_ from a 0];refine aF ?_;have q:_=some (Value.bool f):=(n.out.fr b (fun x=>x)).cell 1;go_simp;exact aM
  case' zL=>simp only[show u 1=_ from a 1]
  case' zM=>simp only[show u 2=_ from a 2]
  case' zN=>
   simp only[show u 3=_ from a 3];cases f;case true=>exact bV
  case zO=>
   simp only[show u 4=_ from a 4,show u 3=_ from a 3];cases f;case true=>exact bV
   refine aF ?_;have q:_=some (Value.string r):=(o.out.fr b (fun x=>x)).cell 1;go_simp;exact aM
  case' zP=>
   simp only[show u 5=_ from a 5,show u 3=_ from a 3];cases f;case true=>exact bV
  case' zQ=>
   simp only[show u 3=_ from a 3,show u 6=_ from a 6];cases f
  case zR=>
   simp only[show u 7=_ from a 7];cases f<;>exact aF (by go_simp;exact⟨by rw[←T.out];rfl,az⟩)
  all_goals
   try simp only[cond]
   refine aF ?_;go_simp;exact aM
 intro w' b;simp only[z1,z2,z3,z4,ar,Act.put,z5,z6,z7,z8,z9,jX,jY,Nat.reduceAdd,Nat.zero_add];have m:=af (m.out.trans b);have o:=af (o.out.fr b (fun x=>x));have n:=af (n.out.fr b (fun x=>x));clear b;have D:Hid ((!f&&ap)=aS):=by
  rw[Hid,←T.out];cases f<;>simp
 clear T;cases L:aS;case true=>
  rw[L]at D;clear L;go_wp2;go_ret;refine⟨_,rfl,?_,m.out⟩;rw[p.out,l.out,D.out];simp
 rw[L]at D;clear L;obtain⟨aT,aA⟩:∃z:Bool,(bif d then false else au)=z:=⟨_,rfl⟩;have U:=af aA;clear aA;go_upto_region 5 with fail;refine ln 9 [.pointer (some ⟨B,2,none⟩), .bool d, .bool (!d), .bool (!d),bif d then undef else .pointer (some ⟨C,2,none⟩),bif d then undef else .int .i64 y,bif d then undef else .bool au,bif d then .bool false else .bool au, .bool aT] ?zD ?_;case zD=>
  refine⟨?ZA,?zS,?zT,?zU,?zV,?zW,?zX,?zZ,?yA,trivial⟩;all_goals intro u w' b a
  all_goals simp only[z1,z2,z3,z4,ar,Act.put,z5,z6,z7,Nat.reduceAdd,Nat.zero_add]
  case zS=>
   simp only[show u 0=_ from a 0];refine aF ?_;have q:_=some (Value.bool d):=(n.out.fr b (fun x=>x)).cell 2;go_simp;exact aM
  case' zT=>simp only[show u 1=_ from a 1]
  case' zU=>simp only[show u 2=_ from a 2]
  case' zV=>
   simp only[show u 3=_ from a 3];cases d;case true=>exact bV
  case zW=>
   simp only[show u 4=_ from a 4,show u 3=_ from a 3];cases d;case true=>exact bV
   refine aF ?_;have q:_=some (Value.int .i64 y):=(o.out.fr b (fun x=>x)).cell 2;go_simp;exact aM
  case' zX=>
   simp only[show u 5=_ from a 5,show u 3=_ from a 3];cases d;case true=>exact bV
  case' zZ=>
   simp only[show u 3=_ from a 3,show u 6=_ from a 6];cases d
  case yA=>
   simp only[show u 7=_ from a 7];cases d<;>exact aF (by go_simp;exact⟨by rw[←U.out];rfl,az⟩)
  all_goals
   try simp only[cond]
   refine aF ?_;go_simp;exact aM
 intro w' b;simp only[z1,z2,z3,z4,ar,Act.put,z5,z6,z7,z8,z9,jX,jY,Nat.reduceAdd,Nat.zero_add];have m:=af (m.out.trans b);have o:=af (o.out.fr b (fun x=>x));have n:=af (n.out.fr b (fun x=>x));clear b;have F:Hid ((!d&&au)=aT):=by
  rw[Hid,←U.out];cases d<;>simp
 clear U;cases M:aT;case true=>
  rw[M]at F;clear M;go_wp2;go_ret;refine⟨_,rfl,?_,m.out⟩;rw[p.out,l.out,F.out];simp
 rw[M]at F;clear M;obtain⟨aU,aD⟩:∃z:Bool,(bif bi then false else x3)=z:=⟨_,rfl⟩;have V:=af aD;clear aD;go_upto_region 6 with fail;refine ln 9 [.pointer (some ⟨B,3,none⟩), .bool bi, .bool (!bi), .bool (!bi),bif bi then undef else .pointer (some ⟨C,3,none⟩),bif bi then undef else .int .i64 t,bif bi then undef else .bool x3,bif bi then .bool false else .bool x3, .bool aU] ?zE ?_;case zE=>
  refine⟨?ZB,?yB,?yC,?yD,?yE,?yF,?yG,?yH,?yI,trivial⟩;all_goals intro u w' b a
  all_goals simp only[z1,z2,z3,z4,ar,Act.put,z5,z6,z7,Nat.reduceAdd,Nat.zero_add]
  case yB=>
   simp only[show u 0=_ from a 0];refine aF ?_;have q:_=some (Value.bool bi):=(n.out.fr b (fun x=>x)).cell 3;go_simp;exact aM
  case' yC=>simp only[show u 1=_ from a 1]
  case' yD=>simp only[show u 2=_ from a 2]
  case' yE=>
   simp only[show u 3=_ from a 3];cases bi;case true=>exact bV
  case yF=>
   simp only[show u 4=_ from a 4,show u 3=_ from a 3];cases bi;case true=>exact bV
   refine aF ?_;have q:_=some (Value.int .i64 t):=(o.out.fr b (fun x=>x)).cell 3;go_simp;exact aM
  case' yG=>
   simp only[show u 5=_ from a 5,show u 3=_ from a 3];cases bi;case true=>exact bV
  case' yH=>
   simp only[show u 3=_ from a 3,show u 6=_ from a 6];cases bi
  case yI=>
   simp only[show u 7=_ from a 7];cases bi<;>exact aF (by go_simp;exact⟨by rw[←V.out];rfl,az⟩)
  all_goals
   try simp only[cond]
   refine aF ?_;go_simp;exact aM
 intro w' b;simp only[z1,z2,z3,z4,ar,Act.put,z5,z6,z7,z8,z9,jX,jY,Nat.reduceAdd,Nat.zero_add];have m:=af (m.out.trans b);have o:=af (o.out.fr b (fun x=>x));have n:=af (n.out.fr b (fun x=>x));clear b;have G:Hid ((!bi&&x3)=aU):=by
  rw[Hid,←V.out];cases bi<;>simp
 clear V;cases N:aU;case true=>
  rw[N]at G;clear N;go_wp2;go_ret;refine⟨_,rfl,?_,m.out⟩;rw[p.out,l.out,G.out];simp
 rw[N]at G;clear N;obtain⟨aV,aG⟩:∃z:Bool,(bif g then false else av)=z:=⟨_,rfl⟩;have W:=af aG;clear aG;go_upto_region 7 with fail;refine ln 9 [.pointer (some ⟨B,4,none⟩), .bool g, .bool (!g), .bool (!g),bif g then undef else .pointer (some ⟨C,4,none⟩),bif g then undef else .string s,bif g then undef else .bool av,bif g then .bool false else .bool av, .bool aV] ?zF ?_;case zF=>
  refine⟨?ZC,?yJ,?yK,?yL,?yM,?yN,?yO,?yP,?yQ,trivial⟩;all_goals intro u w' b a
  all_goals simp only[z1,z2,z3,z4,ar,Act.put,z5,z6,z7,Nat.reduceAdd,Nat.zero_add]
  case yJ=>
   simp only[show u 0=_ from a 0];refine aF ?_;have q:_=some (Value.bool g):=(n.out.fr b (fun x=>x)).cell 4;go_simp;exact aM
  case' yK=>simp only[show u 1=_ from a 1]
  case' yL=>simp only[show u 2=_ from a 2]
  case' yM=>
   simp only[show u 3=_ from a 3];cases g;case true=>exact bV
  case yN=>
   simp only[show u 4=_ from a 4,show u 3=_ from a 3];cases g;case true=>exact bV
   refine aF ?_;have q:_=some (Value.string s):=(o.out.fr b (fun x=>x)).cell 4;go_simp;exact aM
  case' yO=>
   simp only[show u 5=_ from a 5,show u 3=_ from a 3];cases g;case true=>exact bV
  case' yP=>
   simp only[show u 3=_ from a 3,show u 6=_ from a 6];cases g
  case yQ=>
   simp only[show u 7=_ from a 7];cases g<;>exact aF (by go_simp;exact⟨by rw[←W.out];rfl,az⟩)
  all_goals
   try simp only[cond]
   refine aF ?_;go_simp;exact aM
 intro w' b;simp only[z1,z2,z3,z4,ar,Act.put,z5,z6,z7,z8,z9,jX,jY,Nat.reduceAdd,Nat.zero_add];have m:=af (m.out.trans b);have o:=af (o.out.fr b (fun x=>x));have n:=af (n.out.fr b (fun x=>x));clear b;have I:Hid ((!g&&av)=aV):=by
  rw[Hid,←W.out];cases g<;>simp
 clear W;cases O:aV;case true=>
  rw[O]at I;clear O;go_wp2;go_ret;refine⟨_,rfl,?_,m.out⟩;rw[p.out,l.out,I.out];simp
 rw[O]at I;clear O;obtain⟨E,a8⟩:∃z:Bool,(bif f then(!va)else false)=z:=⟨_,rfl⟩;have aZ:=af a8;clear a8;go_upto_region 9 with fail;refine ln 9 [.pointer (some ⟨B,1,none⟩), .bool f, .bool f,bif f then .pointer (some ⟨C,1,none⟩)else undef,bif f then .string r else undef,bif f then .bool va else undef,bif f then .bool (!va)else undef,bif f then .bool (!va)else .bool false, .bool E] ?zG ?_;case zG=>
  refine⟨?ZD,?yR,?yS,?yT,?yU,?yV,?yW,?yX,?yY,trivial⟩;all_goals intro u w' b a
  all_goals simp only[z1,z2,z3,z4,ar,Act.put,z5,z6,z7,Nat.reduceAdd,Nat.zero_add]
  case yR=>
   simp only[show u 0=_ from a 0];refine aF ?_;have q:_=some (Value.bool f):=(n.out.fr b (fun x=>x)).cell 1;go_simp;exact aM
  case' yS=>simp only[show u 1=_ from a 1]
  case' yT=>
   simp only[show u 2=_ from a 2];cases f;case false=>exact bV
  case yU=>
   simp only[show u 3=_ from a 3,show u 2=_ from a 2];cases f;case false=>exact bV
   refine aF ?_;have q:_=some (Value.string r):=(o.out.fr b (fun x=>x)).cell 1;go_simp;exact aM
  case yV=>
   simp only[show u 4=_ from a 4,show u 2=_ from a 2];cases f;case false=>exact bV
   refine aF ?_;go_simp;refine(CV.out _).mono ?_;rintro e a5⟨rfl,f9⟩;exact⟨rfl,f9⟩
  case' yW=>
   simp only[show u 5=_ from a 5,show u 2=_ from a 2];cases f;case false=>exact bV
  case' yX=>
   simp only[show u 2=_ from a 2,show u 6=_ from a 6];cases f
  case yY=>
   simp only[show u 7=_ from a 7];cases f<;>exact aF (by go_simp;exact⟨by rw[←aZ.out];rfl,az⟩)
  all_goals
   try simp only[cond]
   refine aF ?_;go_simp;exact aM
 intro w' b;simp only[z1,z2,z3,z4,ar,Act.put,z5,z6,z7,z8,z9,jX,jY,Nat.reduceAdd,Nat.zero_add];have m:=af (m.out.trans b);have o:=af (o.out.fr b (fun x=>x));have n:=af (n.out.fr b (fun x=>x));clear b;have aN:Hid ((f&&!va)=E):=by
  rw[Hid,←aZ.out];cases f<;>simp
 clear aZ;cases aP:E;case true=>
  rw[aP]at aN;clear aP;go_wp2;go_ret;refine⟨_,rfl,?_,m.out⟩;rw[p.out,l.out,aN.out];simp
 rw[aP]at aN;clear aP;obtain⟨aX,aI⟩:∃z:Bool,(bif d then(!am)else false)=z:=⟨_,rfl⟩;have X:=af aI;clear aI;go_upto_region 11 with fail;refine ln 9 [.pointer (some ⟨B,2,none⟩), .bool d, .bool d,bif d then .pointer (some ⟨C,2,none⟩)else undef,bif d then .int .i64 y else undef,bif d then .bool am else undef,bif d then .bool (!am)else undef,bif d then .bool (!am)else .bool false, .bool aX] ?zH ?_;case zH=>
  refine⟨?ZE,?yZ,?xA,?xB,?xC,?xD,?xE,?xF,?xG,trivial⟩;all_goals intro u w' b a
  all_goals simp only[z1,z2,z3,z4,ar,Act.put,z5,z6,z7,Nat.reduceAdd,Nat.zero_add]
  case yZ=>
   simp only[show u 0=_ from a 0];refine aF ?_;have q:_=some (Value.bool d):=(n.out.fr b (fun x=>x)).cell 2;go_simp;exact aM
  case' xA=>simp only[show u 1=_ from a 1]
  case' xB=>
   simp only[show u 2=_ from a 2];cases d;case false=>exact bV
  case xC=>
   simp only[show u 3=_ from a 3,show u 2=_ from a 2];cases d;case false=>exact bV
   refine aF ?_;have q:_=some (Value.int .i64 y):=(o.out.fr b (fun x=>x)).cell 2;go_simp;exact aM
  case xD=>
   simp only[show u 4=_ from a 4,show u 2=_ from a 2];cases d;case false=>exact bV
   refine aF ?_;go_simp;refine(bf.out _).mono ?_;rintro e a5⟨rfl,rfl⟩;exact aM
  case' xE=>
   simp only[show u 5=_ from a 5,show u 2=_ from a 2];cases d;case false=>exact bV
  case' xF=>
   simp only[show u 2=_ from a 2,show u 6=_ from a 6];cases d
  case xG=>
   simp only[show u 7=_ from a 7];cases d<;>exact aF (by go_simp;exact⟨by rw[←X.out];rfl,az⟩)
  all_goals
   try simp only[cond]
   refine aF ?_;go_simp;exact aM
 intro w' b;simp only[z1,z2,z3,z4,ar,Act.put,z5,z6,z7,z8,z9,jX,jY,Nat.reduceAdd,Nat.zero_add];have m:=af (m.out.trans b);have o:=af (o.out.fr b (fun x=>x));have n:=af (n.out.fr b (fun x=>x));clear b;have J:Hid ((d&&!am)=aX):=by
  rw[Hid,←X.out];cases d<;>simp
 clear X;cases P:aX;case true=>
  rw[P]at J;clear P;go_wp2;go_ret;refine⟨_,rfl,?_,m.out⟩;rw[p.out,l.out,J.out];simp
 rw[P]at J;clear P;obtain⟨aY,aJ⟩:∃z:Bool,(bif bi then(!ao)else false)=z:=⟨_,rfl⟩;have Y:=af aJ;clear aJ;go_upto_region 12 with fail;refine ln 11 [.pointer (some ⟨B,3,none⟩), .bool bi, .bool bi,bif bi then .pointer (some ⟨C,3,none⟩)else undef,bif bi then .int .i64 t else undef,bif bi then .pointer (some ⟨B,5,none⟩)else undef,bif bi then .int .i64 A else undef,bif bi then .bool ao else undef,bif bi then .bool (!ao)else undef,bif bi then .bool (!ao)else .bool false, .bool aY] ?zI ?_;case zI=>
  refine⟨?ZF,?xH,?xI,?xJ,?xK,?xM,?xN,?xO,?xP,?xQ,?zA,trivial⟩;all_goals intro u w' b a
  all_goals simp only[z1,z2,z3,z4,ar,Act.put,z5,z6,z7,Nat.reduceAdd,Nat.zero_add]
  case xH=>
   simp only[show u 0=_ from a 0];refine aF ?_;have q:_=some (Value.bool bi):=(n.out.fr b (fun x=>x)).cell 3;go_simp;exact aM
  case' xI=>simp only[show u 1=_ from a 1]
  case' xJ=>
   simp only[show u 2=_ from a 2];cases bi;case false=>exact bV
  case xK=>
   simp only[show u 3=_ from a 3,show u 2=_ from a 2];cases bi;case false=>exact bV
   refine aF ?_;have q:_=some (Value.int .i64 t):=(o.out.fr b (fun x=>x)).cell 3;go_simp;exact aM
  case' xM=>
   simp only[show u 2=_ from a 2];cases bi;case false=>exact bV
  case xN=>
   simp only[show u 5=_ from a 5,show u 2=_ from a 2];cases bi;case false=>exact bV
   refine aF ?_;have q:_=some (Value.int .i64 A):=(n.out.fr b (fun x=>x)).cell 5;go_simp;exact aM
  case xO=>
   simp only[show u 4=_ from a 4,show u 6=_ from a 6,show u 2=_ from a 2];cases bi;case false=>exact bV
   refine aF ?_;go_simp;refine(be.out _).mono ?_;rintro e a5⟨rfl,rfl⟩;exact aM
  case' xP=>
   simp only[show u 7=_ from a 7,show u 2=_ from a 2];cases bi;case false=>exact bV
  case' xQ=>
   simp only[show u 2=_ from a 2,show u 8=_ from a 8];cases bi
  case zA=>
   simp only[show u 9=_ from a 9];cases bi<;>exact aF (by go_simp;exact⟨by rw[←Y.out];rfl,az⟩)
  all_goals
   try simp only[cond]
   refine aF ?_;go_simp;exact aM
 intro w' b;simp only[z1,z2,z3,z4,ar,Act.put,z5,z6,z7,z8,z9,jX,jY,Nat.reduceAdd,Nat.zero_add];have m:=af (m.out.trans b);have o:=af (o.out.fr b (fun x=>x));have n:=af (n.out.fr b (fun x=>x));clear b;have K:Hid ((bi&&!ao)=aY):=by
  rw[Hid,←Y.out];cases bi<;>simp
 clear Y;cases Q:aY;case true=>
  rw[Q]at K;clear Q;go_wp2;go_ret;refine⟨_,rfl,?_,m.out⟩;rw[p.out,l.out,K.out];simp
 rw[Q]at K;clear Q;obtain⟨H,a9⟩:∃z:Bool,(bif g then(!R)else false)=z:=⟨_,rfl⟩;have a0:=af a9;clear a9;go_upto_region 14 with fail;refine ln 9 [.pointer (some ⟨B,4,none⟩), .bool g, .bool g,bif g then .pointer (some ⟨C,4,none⟩)else undef,bif g then .string s else undef,bif g then .bool R else undef,bif g then .bool (!R)else undef,bif g then .bool (!R)else .bool false, .bool H] ?zJ ?_;case zJ=>
  refine⟨?ZG,?xR,?xS,?xT,?xU,?xV,?xW,?xX,?xY,trivial⟩;all_goals intro u w' b a
  all_goals simp only[z1,z2,z3,z4,ar,Act.put,z5,z6,z7,Nat.reduceAdd,Nat.zero_add]
  case xR=>
   simp only[show u 0=_ from a 0];refine aF ?_;have q:_=some (Value.bool g):=(n.out.fr b (fun x=>x)).cell 4;go_simp;exact aM
  case' xS=>simp only[show u 1=_ from a 1]
  case' xT=>
   simp only[show u 2=_ from a 2];cases g;case false=>exact bV
  case xU=>
   simp only[show u 3=_ from a 3,show u 2=_ from a 2];cases g;case false=>exact bV
   refine aF ?_;have q:_=some (Value.string s):=(o.out.fr b (fun x=>x)).cell 4;go_simp;exact aM
  case xV=>
   simp only[show u 4=_ from a 4,show u 2=_ from a 2];cases g;case false=>exact bV
   refine aF ?_;go_simp;refine(bg.out _).mono ?_;rintro e a5⟨rfl,f9⟩;exact⟨rfl,f9⟩
  case' xW=>
   simp only[show u 5=_ from a 5,show u 2=_ from a 2];cases g;case false=>exact bV
  case' xX=>
   simp only[show u 2=_ from a 2,show u 6=_ from a 6];cases g
  case xY=>
   simp only[show u 7=_ from a 7];cases g<;>exact aF (by go_simp;exact⟨by rw[←a0.out];rfl,az⟩)
  all_goals
   try simp only[cond]
   refine aF ?_;go_simp;exact aM
 intro w' b;simp only[z1,z2,z3,z4,ar,Act.put,z5,z6,z7,z8,z9,jX,jY,Nat.reduceAdd,Nat.zero_add];have m:=af (m.out.trans b);have o:=af (o.out.fr b (fun x=>x));have n:=af (n.out.fr b (fun x=>x));clear b;have aO:Hid ((g&&!R)=H):=by
  rw[Hid,←a0.out];cases g<;>simp
 clear a0;cases aQ:H;case true=>
  rw[aQ]at aO;clear aQ;go_wp2;go_ret;refine⟨_,rfl,?_,m.out⟩;rw[p.out,l.out,aO.out];simp
 rw[aQ]at aO;clear aQ;go_wp2;go_ret;refine⟨_,rfl,?_,m.out⟩;rw[p.out,l.out,D.out,F.out,G.out,I.out,aN.out,J.out,K.out,aO.out];rfl
theorem lV(n:aJ)(w:World)(o:eh w)(f:n.owner.size≤1099511627776)(g:n.text.size≤1099511627776):Calls Tryz.prog 115 #[.agg n.cells.toArray] w (Checked w n):=by
 obtain⟨a,l,j,i,m⟩:=n;simp only at f g;by_cases v:1≤a∧a≤20
 ·obtain⟨k,rfl⟩:∃k:Nat,a=(k:Int):=⟨a.toNat,by omega⟩;have d:1≤k∧k≤20:=by omega
  have A:iP.length=21:=by decide
  obtain⟨u,hu⟩:∃u,iP[k]? =some u:=⟨_,List.getElem?_eq_getElem (show k<iP.length by omega)⟩;obtain⟨wd,s,r,bi,t,x⟩:=u;exact Dr k l j i m wd s r bi t x w o d hu f g
 ·have c:(decide (1≤a)&&decide (a≤20))=false:=by
   rw[Bool.and_eq_false_iff,decide_eq_false_iff_not,decide_eq_false_iff_not];omega
  have b:Hid (du ⟨a,l,j,i,m⟩=false):=by
   simp only[Hid,du];rw[c];rfl
  have q:Hid (∀w,Calls Tryz.prog 152 #[.int .i64 a] w (bm w (.bool false))):=fun w=>by
   have h:=tX a w;rw[c]at h;exact h
  clear o v f g c;go_enter Tryz.func115,Tryz.ntmps115;go_wp2_with(refine aB rfl 106 (.tmp 0) rfl #[.int .i64 a, .string l, .int .i64 j, .int .i64 i, .string m] rfl ?_);intro w1 n1;have p:=af n1.fr;have y:w1.cell? ⟨w.heap.size,0,none⟩=some (.int .i64 a):=n1.aE.cell 0;clear n1;generalize w.heap.size=z at*;go_wp2_with fail;refine(q.out _).mono ?_;rintro e w'⟨rfl,rfl⟩;go_wp2;go_ret;exact⟨11,rfl,by rw[b.out];rfl,p.out⟩
def cJ(L:List (aJ×ByteArray)):Nat:=(L.map (fun x=>x.2.size)).sum
theorem Tr.cY:∀t:Tr,t.bytes=cJ t.bJ
 | .leaf=>rfl
 | .node l nm v r=>by
  rw[Tr.bytes,Tr.bJ,l.cY,r.cY];simp only[cJ,List.map_append,List.map_cons,List.sum_append,List.sum_cons];omega
def Balanced(w:World)(L:List (aJ×ByteArray))(e:Ending)(w':World):Prop:=∃a t,e= .returned (.pointer a)∧cm w' a t∧t.bJ=L∧Fr ag w w'
theorem zr(aB ra:Option Addr)(l r:Tr)(g:Nat)(nm:aJ)(v:ByteArray)(w:World)(bd:cm w aB l)(be:cm w ra r)(hm:Mid w g nm v)(bq:l.size+r.size+1≤1048576)(bp:v.size+l.bytes+r.bytes≤1099511627776):
  Calls Tryz.prog 177 #[.pointer aB, .pointer (some ⟨g,0,none⟩), .pointer ra] w (Balanced w (l.bJ++(nm,v)::r.bJ)):=by
 have CL:=af (fF w aB l bd);have a3:=af (fF w ra r be);have a0:=af bd;have a1:=af be;have aU:=af hm;have t:=af bq;have s:=af bp;have b1:l.cL≤1048576:=by have:=l.kh;omega
 have b2:r.cL≤1048576:=by have:=r.kh;omega
 obtain⟨x,bf⟩:∃x:Int,x=(l.cL:Nat):=⟨_,rfl⟩;obtain⟨y,bg⟩:∃y:Int,y=(r.cL:Nat):=⟨_,rfl⟩;rw[←bf]at CL;rw[←bg]at a3;have br:=af bf;have bs:=af bg;have b3:0≤x∧x≤1048576:=by omega
 have b4:0≤y∧y≤1048576:=by omega
 clear bd be hm bq bp bf bg b1 b2;go_enter Tryz.func177,Tryz.ntmps177;go_wp2_with fail;refine CL.out.mono ?_;rintro e w'⟨rfl,rfl⟩;go_wp2_with fail;refine a3.out.mono ?_;rintro e w'⟨rfl,rfl⟩;clear CL a3;obtain⟨d,bv⟩:∃d:Int,x-y=d:=⟨_,rfl⟩;have bj:=af bv;have b5:-1048576≤d∧d≤1048576:=by omega
 by_cases aV:1<d
 ·have bz:decide ((1:Int)<d)=true:=decide_eq_true aV;obtain⟨W,L,lv,Z,rfl⟩:∃W L lv Z,l= .node W L lv Z:=by
   cases l with
   |leaf=>have aO:=br.out;simp only[Tr.cL]at aO;have:=bj.out;omega
   |node a b c d=>exact⟨a,b,c,d,rfl⟩
  obtain⟨E,O,X,rfl,aW,aX,ax⟩:=a0.out;have aF:=af aW;have aG:=af aX;have bn:Hid (Mid w E L lv):=Mid.of ax;have av:Hid (w.cell? ⟨E,0,none⟩=some (.pointer O)):=ax.cell 0;have aw:Hid (w.cell? ⟨E,1,none⟩=some (.pointer X)):=ax.cell 1;have aC:Hid (∀w',Fr ag w w'→Calls Tryz.prog 181 #[.pointer O] w' (bm w' (.int .i64 (W.cL:Nat)))):=fun w' f=>fF w' O W (aF.out.ao f);have H1:Hid (∀w',Fr ag w w'→Calls Tryz.prog 181 #[.pointer X] w' (bm w' (.int .i64 (Z.cL:Nat)))):=fun w' f=>fF w' X Z (aG.out.ao f);obtain⟨p,aP⟩:∃p:Int,p=(W.cL:Nat):=⟨_,rfl⟩;obtain⟨q,aQ⟩:∃q:Int,q=(Z.cL:Nat):=⟨_,rfl⟩;rw[←aP]at aC;rw[←aQ]at H1;have bk:=af aP;have bl:=af aQ;have bt:0≤p∧0≤q:=by omega
  clear aW aX ax aP aQ aV;by_cases ai:q≤p
  ·have bi:decide (q≤p)=true:=decide_eq_true ai;go_upto_region 2 with fail;refine ay 16 ag [Is (.int .i64 d),Is (.bool true),Is (.bool true),Is (.pointer (some ⟨E,0,none⟩)),Is (.pointer (some ⟨E,0,none⟩)),Is (.pointer (some ⟨E,0,none⟩)),Is (.pointer O),Is (.int .i64 p),Is (.pointer (some ⟨E,0,none⟩)),Is (.pointer (some ⟨E,0,none⟩)),Is (.pointer (some ⟨E,1,none⟩)),Is (.pointer X),Is (.int .i64 q),Is (.bool true),Is (.bool true),Is (.bool true)] [] (fun _=>True) (fun _ _=>false) (by kernel_rfl) (by kernel_rfl) (by kernel_rfl) (by kernel_rfl) ⟨Is.ah _,Is.ah _,Is.ah _,Is.ah _,Is.ah _,Is.ah _,Is.ah _,Is.ah _,Is.ah _,Is.ah _,Is.ah _,Is.ah _,Is.ah _,Is.ah _,Is.ah _,Is.ah _,trivial⟩ trivial (fun _ _ _ _ h=>h) trivial ?_ ?_
   ·refine⟨?XM,?xO,?xP,?xQ,?xR,?xS,?xT,?xU,?xV,?xW,?zP,?zQ,?zR,?zS,?zT,?zU,trivial⟩;all_goals intro u w' d j i n m k
    all_goals simp only[bw,bC,bD,bE,ar,Act.put,bF,bG,bH,Nat.reduceAdd,Nat.zero_add]
    case' xO=>simp only[show u 0=_ from i 0]
    case' xP=>simp only[show u 1=_ from i 1]
    case' xQ=>simp only[show u 2=_ from i 2]
    case' xR=>simp only[show u 3=_ from i 3,show u 2=_ from i 2]
    case' xS=>simp only[show u 4=_ from i 4,show u 2=_ from i 2]
    case xT=>
     simp only[show u 5=_ from i 5,show u 2=_ from i 2];clear i n m k;refine aj ?_;have q:=j.ak (av.out) (fun x=>x);go_simp;exact⟨_,rfl,al⟩
    case xU=>
     simp only[show u 6=_ from i 6,show u 2=_ from i 2];clear i n m k;refine aj ?_;go_simp;refine(aC.out _ j).mono ?_;rintro e Q⟨rfl,rfl⟩;exact⟨_,rfl,al⟩
    case' xV=>simp only[show u 2=_ from i 2]
    case' xW=>simp only[show u 8=_ from i 8,show u 2=_ from i 2]
    case' zP=>simp only[show u 9=_ from i 9,show u 2=_ from i 2]
    case zQ=>
     simp only[show u 10=_ from i 10,show u 2=_ from i 2];clear i n m k;refine aj ?_;have q:=j.ak (aw.out) (fun x=>x);go_simp;exact⟨_,rfl,al⟩
    case zR=>
     simp only[show u 11=_ from i 11,show u 2=_ from i 2];clear i n m k;refine aj ?_;go_simp;refine(H1.out _ j).mono ?_;rintro e Q⟨rfl,rfl⟩;exact⟨_,rfl,al⟩
    case' zS=>simp only[show u 7=_ from i 7,show u 12=_ from i 12,show u 2=_ from i 2]
    case' zT=>simp only[show u 2=_ from i 2,show u 13=_ from i 13]
    case' zU=>simp only[show u 14=_ from i 14]
    all_goals
     clear i n m k;refine aj ?_;go_simp;exact⟨_,rfl,al⟩
   ·intro u w' j i k;have C:u 15=_:=i 15 (by omega);clear i k;simp only[bw,bC,bD,bE,ar,Act.put,bF,bG,bH,dj,dk,Nat.reduceAdd,Nat.zero_add,C];have D:=af j;clear j C;go_upto_region 3 with fail;refine ay 14 ag [Is (.pointer (some ⟨E,0,none⟩)),Is (.pointer (some ⟨E,0,none⟩)),Is (.pointer (some ⟨E,0,none⟩)),Is (.pointer O),Is (.pointer (some ⟨E,0,none⟩)),Is (.pointer (some ⟨E,0,none⟩)),Is (.pointer (some ⟨E,0,none⟩)),Is (.pointer (some ⟨E,1,none⟩)),Is (.pointer X),Is (.pointer (some ⟨g,0,none⟩)),Is (.pointer ra),(fun I H=>∃z,I= .pointer z∧cm H z (.node Z nm v r)),(fun I H=>∃z,I= .pointer z∧cm H z (.node W L lv (.node Z nm v r))),(fun I H=>∃z,I= .pointer z∧cm H z (.node W L lv (.node Z nm v r)))] [] (fun _=>True) (fun _ _=>false) (by kernel_rfl) (by kernel_rfl) (by kernel_rfl) (by kernel_rfl) ⟨Is.ah _,Is.ah _,Is.ah _,Is.ah _,Is.ah _,Is.ah _,Is.ah _,Is.ah _,Is.ah _,Is.ah _,Is.ah _,fun v w1 w2 _ f h=>by obtain⟨a,e,o⟩:=h;exact⟨a,e,o.ao f⟩,fun v w1 w2 _ f h=>by obtain⟨a,e,o⟩:=h;exact⟨a,e,o.ao f⟩,fun v w1 w2 _ f h=>by obtain⟨a,e,o⟩:=h;exact⟨a,e,o.ao f⟩,trivial⟩ trivial (fun _ _ _ _ h=>h) trivial ?_ ?_
    ·refine⟨?XN,?xX,?xY,?xZ,?XO,?XP,?ZA,?ZB,?ZC,?XQ,?XF,?zV,?zW,?zX,trivial⟩;all_goals intro u w' d j i n m k
     all_goals simp only[bw,bC,bD,bE,ar,Act.put,bF,bG,bH,Nat.reduceAdd,Nat.zero_add]
     case' xX=>simp only[show u 0=_ from i 0]
     case' xY=>simp only[show u 1=_ from i 1]
     case xZ=>
      simp only[show u 2=_ from i 2];clear i n m k;refine aj ?_;have q:=j.ak (D.out.ak (av.out) (fun x=>x)) (fun x=>x);go_simp;exact⟨_,rfl,al⟩
     case' ZA=>simp only[show u 5=_ from i 5]
     case' ZB=>simp only[show u 6=_ from i 6]
     case ZC=>
      simp only[show u 7=_ from i 7];clear i n m k;refine aj ?_;have q:=j.ak (D.out.ak (aw.out) (fun x=>x)) (fun x=>x);go_simp;exact⟨_,rfl,al⟩
     case zV=>
      simp only[show u 8=_ from i 8,show u 9=_ from i 9,show u 10=_ from i 10];clear i n m k;refine aj ?_;go_simp;refine(fU _ X ra Z r g nm v (aG.out.ao (D.out.trans j)) (a1.out.ao (D.out.trans j)) (aU.out.ao (D.out.trans j)) (by have A:=t.out;have B:=s.out;simp only[Tr.size,Tr.bytes]at A B⊢;omega) (by have A:=t.out;have B:=s.out;simp only[Tr.size,Tr.bytes]at A B⊢;omega)).mono ?_;rintro e Q⟨a,rfl,o,f4⟩;exact⟨_,rfl,f4.bO,⟨a,rfl,o⟩,trivial⟩
     case zW=>
      obtain⟨a5,bb,bh⟩:=i 11;simp only[show u 3=_ from i 3,show u 4=_ from i 4,bb];clear i n m k;refine aj ?_;go_simp;refine(fU _ O a5 W (.node Z nm v r) E L lv (aF.out.ao (D.out.trans j)) bh (bn.out.ao (D.out.trans j)) (by have A:=t.out;have B:=s.out;simp only[Tr.size,Tr.bytes]at A B⊢;omega) (by have A:=t.out;have B:=s.out;simp only[Tr.size,Tr.bytes]at A B⊢;omega)).mono ?_;rintro e Q⟨a,rfl,o,f4⟩;exact⟨_,rfl,f4.bO,⟨a,rfl,o⟩,trivial⟩
     case zX=>
      obtain⟨a12,aL,aR⟩:=i 12;simp only[aL];clear i n m k;refine aj ?_;go_simp;exact⟨_,rfl,az,⟨_,rfl,aR⟩,trivial⟩
     all_goals
      clear i n m k;refine aj ?_;go_simp;exact⟨_,rfl,al⟩
    ·intro u w' j i k;obtain⟨a6,ab,am⟩:=i 13 (by omega);clear i k;simp only[bw,bC,bD,bE,ar,Act.put,bF,bG,bH,dj,dk,Nat.reduceAdd,Nat.zero_add,ab];have aq:=af (D.out.trans j);have au:=af am;clear j am ab;go_wp2;go_ret;exact⟨_,_,rfl,au.out,by simp[Tr.bJ],aq.out⟩
  ·have bi:decide (q≤p)=false:=decide_eq_false ai;obtain⟨R,G,V,T,rfl⟩:∃R G V T,Z= .node R G V T:=by
    cases Z with
    |leaf=>have aO:=bl.out;simp only[Tr.cL]at aO;omega
    |node a b c d=>exact⟨a,b,c,d,rfl⟩
   obtain⟨K,S,U,rfl,ad,ae,N⟩:=aG.out;have aD:=af ad;have aE:=af ae;have a4:Hid (Mid w K G V):=Mid.of N;have d0:Hid (w.cell? ⟨K,0,none⟩=some (.pointer S)):=N.cell 0;have d1:Hid (w.cell? ⟨K,1,none⟩=some (.pointer U)):=N.cell 1;clear ad ae N;go_upto_region 2 with fail;refine ay 16 ag [Is (.int .i64 d),Is (.bool true),Is (.bool true),Is (.pointer (some ⟨E,0,none⟩)),Is (.pointer (some ⟨E,0,none⟩)),Is (.pointer (some ⟨E,0,none⟩)),Is (.pointer O),Is (.int .i64 p),Is (.pointer (some ⟨E,0,none⟩)),Is (.pointer (some ⟨E,0,none⟩)),Is (.pointer (some ⟨E,1,none⟩)),Is (.pointer (some ⟨K,0,none⟩)),Is (.int .i64 q),Is (.bool false),Is (.bool false),Is (.bool false)] [] (fun _=>True) (fun _ _=>false) (by kernel_rfl) (by kernel_rfl) (by kernel_rfl) (by kernel_rfl) ⟨Is.ah _,Is.ah _,Is.ah _,Is.ah _,Is.ah _,Is.ah _,Is.ah _,Is.ah _,Is.ah _,Is.ah _,Is.ah _,Is.ah _,Is.ah _,Is.ah _,Is.ah _,Is.ah _,trivial⟩ trivial (fun _ _ _ _ h=>h) trivial ?_ ?_
   ·refine⟨?XR,?ZD,?ZE,?ZF,?ZG,?ZH,?ZI,?ZJ,?ZK,?ZL,?zY,?zZ,?yA,?yB,?yC,?yD,trivial⟩;all_goals intro u w' d j i n m k
    all_goals simp only[bw,bC,bD,bE,ar,Act.put,bF,bG,bH,Nat.reduceAdd,Nat.zero_add]
    case' ZD=>simp only[show u 0=_ from i 0]
    case' ZE=>simp only[show u 1=_ from i 1]
    case' ZF=>simp only[show u 2=_ from i 2]
    case' ZG=>simp only[show u 3=_ from i 3,show u 2=_ from i 2]
    case' ZH=>simp only[show u 4=_ from i 4,show u 2=_ from i 2]
    case ZI=>
     simp only[show u 5=_ from i 5,show u 2=_ from i 2];clear i n m k;refine aj ?_;have q:=j.ak (av.out) (fun x=>x);go_simp;exact⟨_,rfl,al⟩
    case ZJ=>
     simp only[show u 6=_ from i 6,show u 2=_ from i 2];clear i n m k;refine aj ?_;go_simp;refine(aC.out _ j).mono ?_;rintro e Q⟨rfl,rfl⟩;exact⟨_,rfl,al⟩
    case' ZK=>simp only[show u 2=_ from i 2]
    case' ZL=>simp only[show u 8=_ from i 8,show u 2=_ from i 2]
    case' zY=>simp only[show u 9=_ from i 9,show u 2=_ from i 2]
    case zZ=>
     simp only[show u 10=_ from i 10,show u 2=_ from i 2];clear i n m k;refine aj ?_;have q:=j.ak (aw.out) (fun x=>x);go_simp;exact⟨_,rfl,al⟩
    case yA=>
     simp only[show u 11=_ from i 11,show u 2=_ from i 2];clear i n m k;refine aj ?_;go_simp;refine(H1.out _ j).mono ?_;rintro e Q⟨rfl,rfl⟩;exact⟨_,rfl,al⟩
    case' yB=>simp only[show u 7=_ from i 7,show u 12=_ from i 12,show u 2=_ from i 2]
    case' yC=>simp only[show u 2=_ from i 2,show u 13=_ from i 13]
    case' yD=>simp only[show u 14=_ from i 14]
    all_goals
     clear i n m k;refine aj ?_;go_simp;exact⟨_,rfl,al⟩
   ·intro u w' j i k;have C:u 15=_:=i 15 (by omega);clear i k;simp only[bw,bC,bD,bE,ar,Act.put,bF,bG,bH,dj,dk,Nat.reduceAdd,Nat.zero_add,C];have D:=af j;have bI:=j.ak aw.out (fun x=>x);clear j C;go_upto_region 6 with fail;refine ay 20 ag [Is (.pointer (some ⟨E,0,none⟩)),Is (.pointer (some ⟨E,0,none⟩)),Is (.pointer (some ⟨E,0,none⟩)),Is (.pointer O),Is (.pointer (some ⟨E,0,none⟩)),Is (.pointer (some ⟨K,0,none⟩)),Is (.pointer (some ⟨K,0,none⟩)),Is (.pointer (some ⟨K,0,none⟩)),Is (.pointer S),(fun I H=>∃z,I= .pointer z∧cm H z (.node W L lv R)),Is (.pointer (some ⟨K,0,none⟩)),Is (.pointer (some ⟨K,0,none⟩)),Is (.pointer (some ⟨K,0,none⟩)),Is (.pointer (some ⟨K,1,none⟩)),Is (.pointer U),Is (.pointer (some ⟨g,0,none⟩)),Is (.pointer ra),(fun I H=>∃z,I= .pointer z∧cm H z (.node T nm v r)),(fun I H=>∃z,I= .pointer z∧cm H z (.node (.node W L lv R) G V (.node T nm v r))),(fun I H=>∃z,I= .pointer z∧cm H z (.node (.node W L lv R) G V (.node T nm v r)))] [] (fun _=>True) (fun _ _=>false) (by kernel_rfl) (by kernel_rfl) (by kernel_rfl) (by kernel_rfl) ⟨Is.ah _,Is.ah _,Is.ah _,Is.ah _,Is.ah _,Is.ah _,Is.ah _,Is.ah _,Is.ah _,fun v w1 w2 _ f h=>by obtain⟨a,e,o⟩:=h;exact⟨a,e,o.ao f⟩,Is.ah _,Is.ah _,Is.ah _,Is.ah _,Is.ah _,Is.ah _,Is.ah _,fun v w1 w2 _ f h=>by obtain⟨a,e,o⟩:=h;exact⟨a,e,o.ao f⟩,fun v w1 w2 _ f h=>by obtain⟨a,e,o⟩:=h;exact⟨a,e,o.ao f⟩,fun v w1 w2 _ f h=>by obtain⟨a,e,o⟩:=h;exact⟨a,e,o.ao f⟩,trivial⟩ trivial (fun _ _ _ _ h=>h) trivial ?_ ?_
    ·refine⟨?XS,?ZM,?ZN,?ZO,?XT,?XU,?ZP,?ZQ,?ZR,?ZS,?XG,?XH,?yE,?yF,?yG,?XI,?XJ,?yH,?yI,?yJ,trivial⟩;all_goals intro u w' d j i n m k
     all_goals simp only[bw,bC,bD,bE,ar,Act.put,bF,bG,bH,Nat.reduceAdd,Nat.zero_add]
     case' ZM=>simp only[show u 0=_ from i 0]
     case' ZN=>simp only[show u 1=_ from i 1]
     case ZO=>
      simp only[show u 2=_ from i 2];clear i n m k;refine aj ?_;have q:=j.ak (D.out.ak av.out (fun x=>x)) (fun x=>x);go_simp;exact⟨_,rfl,al⟩
     case' ZP=>simp only[show u 5=_ from i 5]
     case' ZQ=>simp only[show u 6=_ from i 6]
     case ZR=>
      simp only[show u 7=_ from i 7];clear i n m k;refine aj ?_;have q:=j.ak (D.out.ak d0.out (fun x=>x)) (fun x=>x);go_simp;exact⟨_,rfl,al⟩
     case ZS=>
      simp only[show u 3=_ from i 3,show u 4=_ from i 4,show u 8=_ from i 8];clear i n m k;refine aj ?_;go_simp;refine(fU _ O S W R E L lv (aF.out.ao (D.out.trans j)) (aD.out.ao (D.out.trans j)) (bn.out.ao (D.out.trans j)) (by have A:=t.out;have B:=s.out;simp only[Tr.size,Tr.bytes]at A B⊢;omega) (by have A:=t.out;have B:=s.out;simp only[Tr.size,Tr.bytes]at A B⊢;omega)).mono ?_;rintro e Q⟨a,rfl,o,f4⟩;exact⟨_,rfl,f4.bO,⟨a,rfl,o⟩,trivial⟩
     case' yE=>simp only[show u 11=_ from i 11]
     case' yF=>simp only[show u 12=_ from i 12]
     case yG=>
      simp only[show u 13=_ from i 13];clear i n m k;refine aj ?_;have q:=j.ak (D.out.ak d1.out (fun x=>x)) (fun x=>x);go_simp;exact⟨_,rfl,al⟩
     case yH=>
      simp only[show u 14=_ from i 14,show u 15=_ from i 15,show u 16=_ from i 16];clear i n m k;refine aj ?_;go_simp;refine(fU _ U ra T r g nm v (aE.out.ao (D.out.trans j)) (a1.out.ao (D.out.trans j)) (aU.out.ao (D.out.trans j)) (by have A:=t.out;have B:=s.out;simp only[Tr.size,Tr.bytes]at A B⊢;omega) (by have A:=t.out;have B:=s.out;simp only[Tr.size,Tr.bytes]at A B⊢;omega)).mono ?_;rintro e Q⟨a,rfl,o,f4⟩;exact⟨_,rfl,f4.bO,⟨a,rfl,o⟩,trivial⟩
     case yI=>
      obtain⟨a9,bu,bx⟩:=i 9;obtain⟨aK,aM,aS⟩:=i 17;simp only[bu,show u 10=_ from i 10,aM];clear i n m k;refine aj ?_;go_simp;refine(fU _ a9 aK (.node W L lv R) (.node T nm v r) K G V bx aS (a4.out.ao (D.out.trans j)) (by have A:=t.out;have B:=s.out;simp only[Tr.size,Tr.bytes]at A B⊢;omega) (by have A:=t.out;have B:=s.out;simp only[Tr.size,Tr.bytes]at A B⊢;omega)).mono ?_;rintro e Q⟨a,rfl,o,f4⟩;exact⟨_,rfl,f4.bO,⟨a,rfl,o⟩,trivial⟩
     case yJ=>
      obtain⟨a7,aN,aT⟩:=i 18;simp only[aN];clear i n m k;refine aj ?_;go_simp;exact⟨_,rfl,az,⟨_,rfl,aT⟩,trivial⟩
     all_goals
      clear i n m k;refine aj ?_;go_simp;exact⟨_,rfl,al⟩
    ·intro u w' j i k;obtain⟨a8,ac,an⟩:=i 19 (by omega);clear i k;simp only[bw,bC,bD,bE,ar,Act.put,bF,bG,bH,dj,dk,Nat.reduceAdd,Nat.zero_add,ac];have aq:=af (D.out.trans j);have au:=af an;clear j an ac;go_wp2;go_ret;exact⟨_,_,rfl,au.out,by simp[Tr.bJ],aq.out⟩
 ·have bz:decide ((1:Int)<d)=false:=decide_eq_false aV;go_upto_region 2 with fail;refine ay 16 ag [Is (.int .i64 d),Is (.bool false),Is (.bool false),Is (undef),Is (undef),Is (undef),Is (undef),Is (undef),Is (undef),Is (undef),Is (undef),Is (undef),Is (undef),Is (undef),Is (.bool false),Is (.bool false)] [] (fun _=>True) (fun _ _=>false) (by kernel_rfl) (by kernel_rfl) (by kernel_rfl) (by kernel_rfl) ⟨Is.ah _,Is.ah _,Is.ah _,Is.ah _,Is.ah _,Is.ah _,Is.ah _,Is.ah _,Is.ah _,Is.ah _,Is.ah _,Is.ah _,Is.ah _,Is.ah _,Is.ah _,Is.ah _,trivial⟩ trivial (fun _ _ _ _ h=>h) trivial ?_ ?_
  ·refine⟨?XV,?ZT,?ZU,?ZV,?ZW,?ZX,?ZY,?ZZ,?YA,?YB,?yK,?yL,?yM,?yN,?yO,?yP,trivial⟩;all_goals intro u w' d j i n m k
   all_goals simp only[bw,bC,bD,bE,ar,Act.put,bF,bG,bH,Nat.reduceAdd,Nat.zero_add]
   case' ZT=>simp only[show u 0=_ from i 0]
   case' ZU=>simp only[show u 1=_ from i 1]
   case ZV=>simp only[show u 2=_ from i 2];exact .inr ⟨by kernel_rfl,_,rfl,az,rfl,trivial⟩
   case ZW=>simp only[show u 2=_ from i 2];exact .inr ⟨by kernel_rfl,_,rfl,az,rfl,trivial⟩
   case ZX=>simp only[show u 2=_ from i 2];exact .inr ⟨by kernel_rfl,_,rfl,az,rfl,trivial⟩
   case ZY=>simp only[show u 2=_ from i 2];exact .inr ⟨by kernel_rfl,_,rfl,az,rfl,trivial⟩
   case ZZ=>simp only[show u 2=_ from i 2];exact .inr ⟨by kernel_rfl,_,rfl,az,rfl,trivial⟩
   case YA=>simp only[show u 2=_ from i 2];exact .inr ⟨by kernel_rfl,_,rfl,az,rfl,trivial⟩
   case YB=>simp only[show u 2=_ from i 2];exact .inr ⟨by kernel_rfl,_,rfl,az,rfl,trivial⟩
   case yK=>simp only[show u 2=_ from i 2];exact .inr ⟨by kernel_rfl,_,rfl,az,rfl,trivial⟩
   case yL=>simp only[show u 2=_ from i 2];exact .inr ⟨by kernel_rfl,_,rfl,az,rfl,trivial⟩
   case yM=>simp only[show u 2=_ from i 2];exact .inr ⟨by kernel_rfl,_,rfl,az,rfl,trivial⟩
   case yN=>simp only[show u 2=_ from i 2];exact .inr ⟨by kernel_rfl,_,rfl,az,rfl,trivial⟩
   case' yO=>simp only[show u 2=_ from i 2,show u 13=_ from i 13]
   case' yP=>simp only[show u 14=_ from i 14]
   all_goals
    clear i n m k;refine aj ?_;go_simp;exact⟨_,rfl,al⟩
  ·intro u w' j i k;have C:u 15=_:=i 15 (by omega);clear i k;simp only[bw,bC,bD,bE,ar,Act.put,bF,bG,bH,dj,dk,Nat.reduceAdd,Nat.zero_add,C];have D:=af j;clear j C;by_cases a2:d< -1
   ·have bA:decide (d<(-1:Int))=true:=decide_eq_true a2;obtain⟨aa,M,ap,rr,rfl⟩:∃aa M ap rr,r= .node aa M ap rr:=by
     cases r with
     |leaf=>have aO:=bs.out;simp only[Tr.cL]at aO;have:=bj.out;omega
     |node a b c d=>exact⟨a,b,c,d,rfl⟩
    obtain⟨F,Y,P,rfl,aY,aZ,aA⟩:=a1.out;have aH:=af aY;have aI:=af aZ;have bo:Hid (Mid w F M ap):=Mid.of aA;have av:Hid (w.cell? ⟨F,0,none⟩=some (.pointer Y)):=aA.cell 0;have aw:Hid (w.cell? ⟨F,1,none⟩=some (.pointer P)):=aA.cell 1;have aC:Hid (∀w',Fr ag w w'→Calls Tryz.prog 181 #[.pointer Y] w' (bm w' (.int .i64 (aa.cL:Nat)))):=fun w' f=>fF w' Y aa (aH.out.ao f);have H1:Hid (∀w',Fr ag w w'→Calls Tryz.prog 181 #[.pointer P] w' (bm w' (.int .i64 (rr.cL:Nat)))):=fun w' f=>fF w' P rr (aI.out.ao f);obtain⟨p,aP⟩:∃p:Int,p=(aa.cL:Nat):=⟨_,rfl⟩;obtain⟨q,aQ⟩:∃q:Int,q=(rr.cL:Nat):=⟨_,rfl⟩;rw[←aP]at aC;rw[←aQ]at H1;have bk:=af aP;have bl:=af aQ;have bt:0≤p∧0≤q:=by omega
    clear aY aZ aA aP aQ aV a2;by_cases ai:p≤q
    ·have bi:decide (p≤q)=true:=decide_eq_true ai;go_upto_region 7 with fail;refine ay 16 ag [Is (.int .i64 d),Is (.bool true),Is (.bool true),Is (.pointer (some ⟨F,0,none⟩)),Is (.pointer (some ⟨F,0,none⟩)),Is (.pointer (some ⟨F,1,none⟩)),Is (.pointer P),Is (.int .i64 q),Is (.pointer (some ⟨F,0,none⟩)),Is (.pointer (some ⟨F,0,none⟩)),Is (.pointer (some ⟨F,0,none⟩)),Is (.pointer Y),Is (.int .i64 p),Is (.bool true),Is (.bool true),Is (.bool true)] [] (fun _=>True) (fun _ _=>false) (by kernel_rfl) (by kernel_rfl) (by kernel_rfl) (by kernel_rfl) ⟨Is.ah _,Is.ah _,Is.ah _,Is.ah _,Is.ah _,Is.ah _,Is.ah _,Is.ah _,Is.ah _,Is.ah _,Is.ah _,Is.ah _,Is.ah _,Is.ah _,Is.ah _,Is.ah _,trivial⟩ trivial (fun _ _ _ _ h=>h) trivial ?_ ?_
     ·refine⟨?XW,?YC,?YD,?YE,?YF,?YG,?YH,?YI,?YJ,?YK,?yQ,?yR,?yS,?yT,?yU,?yV,trivial⟩;all_goals intro u w' d j i n m k
      all_goals simp only[bw,bC,bD,bE,ar,Act.put,bF,bG,bH,Nat.reduceAdd,Nat.zero_add]
      case' YC=>simp only[show u 0=_ from i 0]
      case' YD=>simp only[show u 1=_ from i 1]
      case' YE=>simp only[show u 2=_ from i 2]
      case' YF=>simp only[show u 3=_ from i 3,show u 2=_ from i 2]
      case' YG=>simp only[show u 4=_ from i 4,show u 2=_ from i 2]
      case YH=>
       simp only[show u 5=_ from i 5,show u 2=_ from i 2];clear i n m k;refine aj ?_;have q:=j.ak (D.out.ak aw.out (fun x=>x)) (fun x=>x);go_simp;exact⟨_,rfl,al⟩
      case YI=>
       simp only[show u 6=_ from i 6,show u 2=_ from i 2];clear i n m k;refine aj ?_;go_simp;refine(H1.out _ (D.out.trans j)).mono ?_;rintro e Q⟨rfl,rfl⟩;exact⟨_,rfl,al⟩
      case' YJ=>simp only[show u 2=_ from i 2]
      case' YK=>simp only[show u 8=_ from i 8,show u 2=_ from i 2]
      case' yQ=>simp only[show u 9=_ from i 9,show u 2=_ from i 2]
      case yR=>
       simp only[show u 10=_ from i 10,show u 2=_ from i 2];clear i n m k;refine aj ?_;have q:=j.ak (D.out.ak av.out (fun x=>x)) (fun x=>x);go_simp;exact⟨_,rfl,al⟩
      case yS=>
       simp only[show u 11=_ from i 11,show u 2=_ from i 2];clear i n m k;refine aj ?_;go_simp;refine(aC.out _ (D.out.trans j)).mono ?_;rintro e Q⟨rfl,rfl⟩;exact⟨_,rfl,al⟩
      case' yT=>simp only[show u 7=_ from i 7,show u 12=_ from i 12,show u 2=_ from i 2]
      case' yU=>simp only[show u 2=_ from i 2,show u 13=_ from i 13]
      case' yV=>simp only[show u 14=_ from i 14]
      all_goals
       clear i n m k;refine aj ?_;go_simp;exact⟨_,rfl,al⟩
     ·intro u w' j i k;have C:u 15=_:=i 15 (by omega);clear i k;simp only[bw,bC,bD,bE,ar,Act.put,bF,bG,bH,dj,dk,Nat.reduceAdd,Nat.zero_add,C];have J:=af (D.out.trans j);clear j C;go_upto_region 8 with fail;refine ay 14 ag [Is (.pointer aB),Is (.pointer (some ⟨g,0,none⟩)),Is (.pointer (some ⟨F,0,none⟩)),Is (.pointer (some ⟨F,0,none⟩)),Is (.pointer (some ⟨F,0,none⟩)),Is (.pointer Y),(fun I H=>∃z,I= .pointer z∧cm H z (.node l nm v aa)),Is (.pointer (some ⟨F,0,none⟩)),Is (.pointer (some ⟨F,0,none⟩)),Is (.pointer (some ⟨F,0,none⟩)),Is (.pointer (some ⟨F,1,none⟩)),Is (.pointer P),(fun I H=>∃z,I= .pointer z∧cm H z (.node (.node l nm v aa) M ap rr)),(fun I H=>∃z,I= .pointer z∧cm H z (.node (.node l nm v aa) M ap rr))] [] (fun _=>True) (fun _ _=>false) (by kernel_rfl) (by kernel_rfl) (by kernel_rfl) (by kernel_rfl) ⟨Is.ah _,Is.ah _,Is.ah _,Is.ah _,Is.ah _,Is.ah _,fun v w1 w2 _ f h=>by obtain⟨a,e,o⟩:=h;exact⟨a,e,o.ao f⟩,Is.ah _,Is.ah _,Is.ah _,Is.ah _,Is.ah _,fun v w1 w2 _ f h=>by obtain⟨a,e,o⟩:=h;exact⟨a,e,o.ao f⟩,fun v w1 w2 _ f h=>by obtain⟨a,e,o⟩:=h;exact⟨a,e,o.ao f⟩,trivial⟩ trivial (fun _ _ _ _ h=>h) trivial ?_ ?_
      ·refine⟨?XX,?XY,?XZ,?YL,?YM,?YN,?YO,?z0,?z1,?YP,?yW,?yX,?yY,?yZ,trivial⟩;all_goals intro u w' d j i n m k
       all_goals simp only[bw,bC,bD,bE,ar,Act.put,bF,bG,bH,Nat.reduceAdd,Nat.zero_add]
       case' YL=>simp only[show u 2=_ from i 2]
       case' YM=>simp only[show u 3=_ from i 3]
       case YN=>
        simp only[show u 4=_ from i 4];clear i n m k;refine aj ?_;have q:=j.ak (J.out.ak av.out (fun x=>x)) (fun x=>x);go_simp;exact⟨_,rfl,al⟩
       case YO=>
        simp only[show u 0=_ from i 0,show u 1=_ from i 1,show u 5=_ from i 5];clear i n m k;refine aj ?_;go_simp;refine(fU _ aB Y l aa g nm v (a0.out.ao (J.out.trans j)) (aH.out.ao (J.out.trans j)) (aU.out.ao (J.out.trans j)) (by have A:=t.out;have B:=s.out;simp only[Tr.size,Tr.bytes]at A B⊢;omega) (by have A:=t.out;have B:=s.out;simp only[Tr.size,Tr.bytes]at A B⊢;omega)).mono ?_;rintro e Q⟨a,rfl,o,f4⟩;exact⟨_,rfl,f4.bO,⟨a,rfl,o⟩,trivial⟩
       case' YP=>simp only[show u 8=_ from i 8]
       case' yW=>simp only[show u 9=_ from i 9]
       case yX=>
        simp only[show u 10=_ from i 10];clear i n m k;refine aj ?_;have q:=j.ak (J.out.ak aw.out (fun x=>x)) (fun x=>x);go_simp;exact⟨_,rfl,al⟩
       case yY=>
        obtain⟨ba,bc,n6⟩:=i 6;simp only[bc,show u 7=_ from i 7,show u 11=_ from i 11];clear i n m k;refine aj ?_;go_simp;refine(fU _ ba P (.node l nm v aa) rr F M ap n6 (aI.out.ao (J.out.trans j)) (bo.out.ao (J.out.trans j)) (by have A:=t.out;have B:=s.out;simp only[Tr.size,Tr.bytes]at A B⊢;omega) (by have A:=t.out;have B:=s.out;simp only[Tr.size,Tr.bytes]at A B⊢;omega)).mono ?_;rintro e Q⟨a,rfl,o,f4⟩;exact⟨_,rfl,f4.bO,⟨a,rfl,o⟩,trivial⟩
       case yZ=>
        obtain⟨a12,aL,aR⟩:=i 12;simp only[aL];clear i n m k;refine aj ?_;go_simp;exact⟨_,rfl,az,⟨_,rfl,aR⟩,trivial⟩
       all_goals
        clear i n m k;refine aj ?_;go_simp;exact⟨_,rfl,al⟩
      ·intro u w' j i k;obtain⟨a6,ab,am⟩:=i 13 (by omega);clear i k;simp only[bw,bC,bD,bE,ar,Act.put,bF,bG,bH,dj,dk,Nat.reduceAdd,Nat.zero_add,ab];have aq:=af (J.out.trans j);have au:=af am;clear j am ab;go_wp2;go_ret;exact⟨_,_,rfl,au.out,by simp[Tr.bJ],aq.out⟩
    ·have bi:decide (p≤q)=false:=decide_eq_false ai;obtain⟨R,G,V,T,rfl⟩:∃R G V T,aa= .node R G V T:=by
      cases aa with
      |leaf=>have aO:=bk.out;simp only[Tr.cL]at aO;omega
      |node a b c d=>exact⟨a,b,c,d,rfl⟩
     obtain⟨K,S,U,rfl,ad,ae,N⟩:=aH.out;have aD:=af ad;have aE:=af ae;have a4:Hid (Mid w K G V):=Mid.of N;have d0:Hid (w.cell? ⟨K,0,none⟩=some (.pointer S)):=N.cell 0;have d1:Hid (w.cell? ⟨K,1,none⟩=some (.pointer U)):=N.cell 1;clear ad ae N;go_upto_region 7 with fail;refine ay 16 ag [Is (.int .i64 d),Is (.bool true),Is (.bool true),Is (.pointer (some ⟨F,0,none⟩)),Is (.pointer (some ⟨F,0,none⟩)),Is (.pointer (some ⟨F,1,none⟩)),Is (.pointer P),Is (.int .i64 q),Is (.pointer (some ⟨F,0,none⟩)),Is (.pointer (some ⟨F,0,none⟩)),Is (.pointer (some ⟨F,0,none⟩)),Is (.pointer (some ⟨K,0,none⟩)),Is (.int .i64 p),Is (.bool false),Is (.bool false),Is (.bool false)] [] (fun _=>True) (fun _ _=>false) (by kernel_rfl) (by kernel_rfl) (by kernel_rfl) (by kernel_rfl) ⟨Is.ah _,Is.ah _,Is.ah _,Is.ah _,Is.ah _,Is.ah _,Is.ah _,Is.ah _,Is.ah _,Is.ah _,Is.ah _,Is.ah _,Is.ah _,Is.ah _,Is.ah _,Is.ah _,trivial⟩ trivial (fun _ _ _ _ h=>h) trivial ?_ ?_
     ·refine⟨?z2,?YQ,?YR,?YS,?YT,?YU,?YV,?YW,?YX,?YY,?xA,?xB,?xC,?xD,?xE,?xF,trivial⟩;all_goals intro u w' d j i n m k
      all_goals simp only[bw,bC,bD,bE,ar,Act.put,bF,bG,bH,Nat.reduceAdd,Nat.zero_add]
      case' YQ=>simp only[show u 0=_ from i 0]
      case' YR=>simp only[show u 1=_ from i 1]
      case' YS=>simp only[show u 2=_ from i 2]
      case' YT=>simp only[show u 3=_ from i 3,show u 2=_ from i 2]
      case' YU=>simp only[show u 4=_ from i 4,show u 2=_ from i 2]
      case YV=>
       simp only[show u 5=_ from i 5,show u 2=_ from i 2];clear i n m k;refine aj ?_;have q:=j.ak (D.out.ak aw.out (fun x=>x)) (fun x=>x);go_simp;exact⟨_,rfl,al⟩
      case YW=>
       simp only[show u 6=_ from i 6,show u 2=_ from i 2];clear i n m k;refine aj ?_;go_simp;refine(H1.out _ (D.out.trans j)).mono ?_;rintro e Q⟨rfl,rfl⟩;exact⟨_,rfl,al⟩
      case' YX=>simp only[show u 2=_ from i 2]
      case' YY=>simp only[show u 8=_ from i 8,show u 2=_ from i 2]
      case' xA=>simp only[show u 9=_ from i 9,show u 2=_ from i 2]
      case xB=>
       simp only[show u 10=_ from i 10,show u 2=_ from i 2];clear i n m k;refine aj ?_;have q:=j.ak (D.out.ak av.out (fun x=>x)) (fun x=>x);go_simp;exact⟨_,rfl,al⟩
      case xC=>
       simp only[show u 11=_ from i 11,show u 2=_ from i 2];clear i n m k;refine aj ?_;go_simp;refine(aC.out _ (D.out.trans j)).mono ?_;rintro e Q⟨rfl,rfl⟩;exact⟨_,rfl,al⟩
      case' xD=>simp only[show u 7=_ from i 7,show u 12=_ from i 12,show u 2=_ from i 2]
      case' xE=>simp only[show u 2=_ from i 2,show u 13=_ from i 13]
      case' xF=>simp only[show u 14=_ from i 14]
      all_goals
       clear i n m k;refine aj ?_;go_simp;exact⟨_,rfl,al⟩
     ·intro u w' j i k;have C:u 15=_:=i 15 (by omega);clear i k;simp only[bw,bC,bD,bE,ar,Act.put,bF,bG,bH,dj,dk,Nat.reduceAdd,Nat.zero_add,C];have J:=af (D.out.trans j);have bB:=J.out.ak av.out (fun x=>x);clear j C;go_upto_region 11 with fail;refine ay 20 ag [Is (.pointer aB),Is (.pointer (some ⟨g,0,none⟩)),Is (.pointer (some ⟨K,0,none⟩)),Is (.pointer (some ⟨K,0,none⟩)),Is (.pointer (some ⟨K,0,none⟩)),Is (.pointer S),(fun I H=>∃z,I= .pointer z∧cm H z (.node l nm v R)),Is (.pointer (some ⟨K,0,none⟩)),Is (.pointer (some ⟨K,0,none⟩)),Is (.pointer (some ⟨K,0,none⟩)),Is (.pointer (some ⟨K,1,none⟩)),Is (.pointer U),Is (.pointer (some ⟨F,0,none⟩)),Is (.pointer (some ⟨F,0,none⟩)),Is (.pointer (some ⟨F,0,none⟩)),Is (.pointer (some ⟨F,1,none⟩)),Is (.pointer P),(fun I H=>∃z,I= .pointer z∧cm H z (.node T M ap rr)),(fun I H=>∃z,I= .pointer z∧cm H z (.node (.node l nm v R) G V (.node T M ap rr))),(fun I H=>∃z,I= .pointer z∧cm H z (.node (.node l nm v R) G V (.node T M ap rr)))] [] (fun _=>True) (fun _ _=>false) (by kernel_rfl) (by kernel_rfl) (by kernel_rfl) (by kernel_rfl) ⟨Is.ah _,Is.ah _,Is.ah _,Is.ah _,Is.ah _,Is.ah _,fun v w1 w2 _ f h=>by obtain⟨a,e,o⟩:=h;exact⟨a,e,o.ao f⟩,Is.ah _,Is.ah _,Is.ah _,Is.ah _,Is.ah _,Is.ah _,Is.ah _,Is.ah _,Is.ah _,Is.ah _,fun v w1 w2 _ f h=>by obtain⟨a,e,o⟩:=h;exact⟨a,e,o.ao f⟩,fun v w1 w2 _ f h=>by obtain⟨a,e,o⟩:=h;exact⟨a,e,o.ao f⟩,fun v w1 w2 _ f h=>by obtain⟨a,e,o⟩:=h;exact⟨a,e,o.ao f⟩,trivial⟩ trivial (fun _ _ _ _ h=>h) trivial ?_ ?_
      ·refine⟨?z3,?z4,?z5,?YZ,?XA,?XB,?XC,?z6,?z7,?XD,?xG,?xH,?XK,?XL,?xI,?xJ,?xK,?xL,?xM,?xN,trivial⟩;all_goals intro u w' d j i n m k
       all_goals simp only[bw,bC,bD,bE,ar,Act.put,bF,bG,bH,Nat.reduceAdd,Nat.zero_add]
       case' YZ=>simp only[show u 2=_ from i 2]
       case' XA=>simp only[show u 3=_ from i 3]
       case XB=>
        simp only[show u 4=_ from i 4];clear i n m k;refine aj ?_;have q:=j.ak (J.out.ak d0.out (fun x=>x)) (fun x=>x);go_simp;exact⟨_,rfl,al⟩
       case XC=>
        simp only[show u 0=_ from i 0,show u 1=_ from i 1,show u 5=_ from i 5];clear i n m k;refine aj ?_;go_simp;refine(fU _ aB S l R g nm v (a0.out.ao (J.out.trans j)) (aD.out.ao (J.out.trans j)) (aU.out.ao (J.out.trans j)) (by have A:=t.out;have B:=s.out;simp only[Tr.size,Tr.bytes]at A B⊢;omega) (by have A:=t.out;have B:=s.out;simp only[Tr.size,Tr.bytes]at A B⊢;omega)).mono ?_;rintro e Q⟨a,rfl,o,f4⟩;exact⟨_,rfl,f4.bO,⟨a,rfl,o⟩,trivial⟩
       case' XD=>simp only[show u 8=_ from i 8]
       case' xG=>simp only[show u 9=_ from i 9]
       case xH=>
        simp only[show u 10=_ from i 10];clear i n m k;refine aj ?_;have q:=j.ak (J.out.ak d1.out (fun x=>x)) (fun x=>x);go_simp;exact⟨_,rfl,al⟩
       case' xI=>simp only[show u 13=_ from i 13]
       case' xJ=>simp only[show u 14=_ from i 14]
       case xK=>
        simp only[show u 15=_ from i 15];clear i n m k;refine aj ?_;have q:=j.ak (J.out.ak aw.out (fun x=>x)) (fun x=>x);go_simp;exact⟨_,rfl,al⟩
       case xL=>
        simp only[show u 11=_ from i 11,show u 12=_ from i 12,show u 16=_ from i 16];clear i n m k;refine aj ?_;go_simp;refine(fU _ U P T rr F M ap (aE.out.ao (J.out.trans j)) (aI.out.ao (J.out.trans j)) (bo.out.ao (J.out.trans j)) (by have A:=t.out;have B:=s.out;simp only[Tr.size,Tr.bytes]at A B⊢;omega) (by have A:=t.out;have B:=s.out;simp only[Tr.size,Tr.bytes]at A B⊢;omega)).mono ?_;rintro e Q⟨a,rfl,o,f4⟩;exact⟨_,rfl,f4.bO,⟨a,rfl,o⟩,trivial⟩
       case xM=>
        obtain⟨ba,bc,n6⟩:=i 6;obtain⟨aK,aM,aS⟩:=i 17;simp only[bc,show u 7=_ from i 7,aM];clear i n m k;refine aj ?_;go_simp;refine(fU _ ba aK (.node l nm v R) (.node T M ap rr) K G V n6 aS (a4.out.ao (J.out.trans j)) (by have A:=t.out;have B:=s.out;simp only[Tr.size,Tr.bytes]at A B⊢;omega) (by have A:=t.out;have B:=s.out;simp only[Tr.size,Tr.bytes]at A B⊢;omega)).mono ?_;rintro e Q⟨a,rfl,o,f4⟩;exact⟨_,rfl,f4.bO,⟨a,rfl,o⟩,trivial⟩
       case xN=>
        obtain⟨a7,aN,aT⟩:=i 18;simp only[aN];clear i n m k;refine aj ?_;go_simp;exact⟨_,rfl,az,⟨_,rfl,aT⟩,trivial⟩
       all_goals
        clear i n m k;refine aj ?_;go_simp;exact⟨_,rfl,al⟩
      ·intro u w' j i k;obtain⟨a8,ac,an⟩:=i 19 (by omega);clear i k;simp only[bw,bC,bD,bE,ar,Act.put,bF,bG,bH,dj,dk,Nat.reduceAdd,Nat.zero_add,ac];have aq:=af (J.out.trans j);have au:=af an;clear j an ac;go_wp2;go_ret;exact⟨_,_,rfl,au.out,by simp[Tr.bJ],aq.out⟩
   ·have bA:decide (d<(-1:Int))=false:=decide_eq_false a2;clear aV a2;go_upto_region 7 with fail;refine ay 16 ag [Is (.int .i64 d),Is (.bool false),Is (.bool false),Is (undef),Is (undef),Is (undef),Is (undef),Is (undef),Is (undef),Is (undef),Is (undef),Is (undef),Is (undef),Is (undef),Is (.bool false),Is (.bool false)] [] (fun _=>True) (fun _ _=>false) (by kernel_rfl) (by kernel_rfl) (by kernel_rfl) (by kernel_rfl) ⟨Is.ah _,Is.ah _,Is.ah _,Is.ah _,Is.ah _,Is.ah _,Is.ah _,Is.ah _,Is.ah _,Is.ah _,Is.ah _,Is.ah _,Is.ah _,Is.ah _,Is.ah _,Is.ah _,trivial⟩ trivial (fun _ _ _ _ h=>h) trivial ?_ ?_
    ·refine⟨?XE,?zG,?zH,?zI,?zJ,?zK,?zL,?zM,?zN,?zO,?zA,?zB,?zC,?zD,?zE,?zF,trivial⟩;all_goals intro u w' d j i n m k
     all_goals simp only[bw,bC,bD,bE,ar,Act.put,bF,bG,bH,Nat.reduceAdd,Nat.zero_add]
     case' zG=>simp only[show u 0=_ from i 0]
     case' zH=>simp only[show u 1=_ from i 1]
     case zI=>simp only[show u 2=_ from i 2];exact .inr ⟨by kernel_rfl,_,rfl,az,rfl,trivial⟩
     case zJ=>simp only[show u 2=_ from i 2];exact .inr ⟨by kernel_rfl,_,rfl,az,rfl,trivial⟩
     case zK=>simp only[show u 2=_ from i 2];exact .inr ⟨by kernel_rfl,_,rfl,az,rfl,trivial⟩
     case zL=>simp only[show u 2=_ from i 2];exact .inr ⟨by kernel_rfl,_,rfl,az,rfl,trivial⟩
     case zM=>simp only[show u 2=_ from i 2];exact .inr ⟨by kernel_rfl,_,rfl,az,rfl,trivial⟩
     case zN=>simp only[show u 2=_ from i 2];exact .inr ⟨by kernel_rfl,_,rfl,az,rfl,trivial⟩
     case zO=>simp only[show u 2=_ from i 2];exact .inr ⟨by kernel_rfl,_,rfl,az,rfl,trivial⟩
     case zA=>simp only[show u 2=_ from i 2];exact .inr ⟨by kernel_rfl,_,rfl,az,rfl,trivial⟩
     case zB=>simp only[show u 2=_ from i 2];exact .inr ⟨by kernel_rfl,_,rfl,az,rfl,trivial⟩
     case zC=>simp only[show u 2=_ from i 2];exact .inr ⟨by kernel_rfl,_,rfl,az,rfl,trivial⟩
     case zD=>simp only[show u 2=_ from i 2];exact .inr ⟨by kernel_rfl,_,rfl,az,rfl,trivial⟩
     case' zE=>simp only[show u 2=_ from i 2,show u 13=_ from i 13]
     case' zF=>simp only[show u 14=_ from i 14]
     all_goals
      clear i n m k;refine aj ?_;go_simp;exact⟨_,rfl,al⟩
    ·intro u w' j i k;have C:u 15=_:=i 15 (by omega);clear i k;simp only[bw,bC,bD,bE,ar,Act.put,bF,bG,bH,dj,dk,Nat.reduceAdd,Nat.zero_add,C];have J:=af (D.out.trans j);clear j C;go_wp2_with fail;refine(fU _ aB ra l r g nm v (a0.out.ao J.out) (a1.out.ao J.out) (aU.out.ao J.out) (by have A:=t.out;omega) (by have B:=s.out;omega)).mono ?_;rintro e Q⟨a,rfl,o,f4⟩;have au:=af o;have aq:=af (J.out.trans f4);clear o f4;go_wp2;go_ret;exact⟨_,_,rfl,au.out,by simp[Tr.bJ],aq.out⟩
theorem Gq(a b:ByteArray):(a==b)=true↔a=b:=by
 constructor;·intro h;have c:(a.data==b.data)=true:=h;exact ByteArray.ext (by simpa using c)
 ·rintro rfl;have c:(a.data==a.data)=true:=by simp
  exact c
theorem JR(a b:ByteArray):(a.toList==b.toList)=(a==b):=by
 rw[Bool.eq_iff_iff,Gq,beq_iff_eq,ByteArray.toList_eq,ByteArray.toList_eq];constructor;·intro h;exact ByteArray.ext (Array.toList_inj.1 h)
 ·rintro rfl;rfl
def jN(x:Ent):CV:=⟨x.1,ByteArray.empty,true⟩
def gX(y:Ent):CV:=⟨y.1,y.2,false⟩
def ct:List Ent→List Ent→List CV
 |[],[]=>[]
 |x::a,[]=>jN x::ct a []
 |[],y::b=>gX y::ct [] b
 |x::a,y::b=>if bQ x.1 y.1<0 then jN x::ct a (y::b)else if 0<bQ x.1 y.1 then gX y::ct (x::a) b else if(x.2==y.2)=true then ct a b else gX y::ct a b
termination_by a b=>a.length+b.length
theorem jd:∀a b:List Ent,(ct a b).length≤a.length+b.length
 |[],[]=>by rw[ct];exact Nat.le_refl _
 |x::a,[]=>by
  have h:=jd a [];rw[ct];simp only[List.length_cons,List.length_nil]at h⊢;omega
 |[],y::b=>by
  have h:=jd [] b;rw[ct];simp only[List.length_cons,List.length_nil]at h⊢;omega
 |x::a,y::b=>by
  have c:=jd a (y::b);have d:=jd (x::a) b;have e:=jd a b;rw[ct];simp only[List.length_cons]at c d⊢;split;·simp only[List.length_cons];omega
  ·split;·simp only[List.length_cons];omega
   ·split;·omega
    ·simp only[List.length_cons];omega
termination_by a b=>a.length+b.length
theorem qU:∀a:List Ent,ct a a=[]
 |[]=>by rw[ct]
 |x::a=>by
  have h:=bZ.refl x.1;rw[ct,if_neg (by omega),if_neg (by omega),if_pos ((Gq _ _).2 rfl),qU a]
theorem rC(c:CV):∀u∈c.cells,u.oneCell'=true:=fun u hu=>by
 have h:=c.one;rw[Array.all_eq_true_iff_forall_mem]at h;exact h u (by simpa using hu)
theorem CL.one{w:World}{g:Nat}{t:TypeId}{c:CV}(h:aq w g t c.cells.toArray):CL w (fun _=>True) (some ⟨g,0,none⟩) 1 [c]:=by
 refine⟨⟨rfl,fun _=>⟨_,rfl,trivial,fun j y a=>?_⟩⟩,rfl⟩;rw[Addr.add_mid,Nat.zero_add,h.cell,bP];simpa using a
end Go.Proofs.YtphjagkehiklkaaGreatDoor
