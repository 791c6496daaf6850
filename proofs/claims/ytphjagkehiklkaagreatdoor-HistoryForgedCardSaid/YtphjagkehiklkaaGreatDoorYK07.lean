/- Texts. -/
import Derived.Test.YtphjagkehiklkaaGreatDoorYK05
set_option linter.unusedVariables false
set_option linter.unusedSimpArgs false
set_option maxRecDepth 100000
set_option maxHeartbeats 8000000
namespace Go.Proofs.YtphjagkehiklkaaGreatDoor
open Go.RowKit Go.Shelf
def dm(L:List (aI×ByteArray)):Nat:=(L.map (fun x=>x.2.size)).sum
theorem Tr.dz:∀t:Tr,t.bytes=dm t.bA
 | .leaf=>rfl
 | .node l nm v r=>by
  rw[Tr.bytes,Tr.bA,l.dz,r.dz];simp only[dm,List.map_append,List.map_cons,List.sum_append,List.sum_cons];omega
def Balanced(w:World)(L:List (aI×ByteArray))(e:Ending)(w':World):Prop:=∃a t,e= .returned (.pointer a)∧cq w' a t∧t.bA=L∧Fr ag w w'
theorem yc(az aB:Option Addr)(l r:Tr)(g:Nat)(nm:aI)(v:ByteArray)(w:World)(be:cq w az l)(bf:cq w aB r)(hm:Mid w g nm v)(bq:l.size+r.size+1≤1048576)(bp:v.size+l.bytes+r.bytes≤1099511627776):
  Calls Tryz.prog 177 #[.pointer az, .pointer (some ⟨g,0,none⟩), .pointer aB] w (Balanced w (l.bA++(nm,v)::r.bA)):=by
 have CL:=af (fm w az l be);have a4:=af (fm w aB r bf);have a1:=af be;have a2:=af bf;have aV:=af hm;have t:=af bq;have s:=af bp;have b1:l.cD≤1048576:=by have:=l.jP;omega
 have b2:r.cD≤1048576:=by have:=r.jP;omega
 obtain⟨x,bg⟩:∃x:Int,x=(l.cD:Nat):=⟨_,rfl⟩;obtain⟨y,bh⟩:∃y:Int,y=(r.cD:Nat):=⟨_,rfl⟩;rw[←bg]at CL;rw[←bh]at a4;have br:=af bg;have bs:=af bh;have b3:0≤x∧x≤1048576:=by omega
 have b4:0≤y∧y≤1048576:=by omega
 clear be bf hm bq bp bg bh b1 b2;go_enter Tryz.func177,Tryz.ntmps177;go_wp2_with fail;refine CL.out.mono ?_;rintro e w'⟨rfl,rfl⟩;go_wp2_with fail;refine a4.out.mono ?_;rintro e w'⟨rfl,rfl⟩;clear CL a4;obtain⟨d,bv⟩:∃d:Int,x-y=d:=⟨_,rfl⟩;have bk:=af bv;have b5:-1048576≤d∧d≤1048576:=by omega
 by_cases aW:1<d
 ·have bx:decide ((1:Int)<d)=true:=decide_eq_true aW;obtain⟨W,L,lv,Z,rfl⟩:∃W L lv Z,l= .node W L lv Z:=by
   cases l with
   |leaf=>have aP:=br.out;simp only[Tr.cD]at aP;have:=bk.out;omega
   |node a b c d=>exact⟨a,b,c,d,rfl⟩
  obtain⟨E,O,X,rfl,aX,aY,ax⟩:=a1.out;have aG:=af aX;have aH:=af aY;have bn:Hid (Mid w E L lv):=Mid.of ax;have av:Hid (w.cell? ⟨E,0,none⟩=some (.pointer O)):=ax.cell 0;have aw:Hid (w.cell? ⟨E,1,none⟩=some (.pointer X)):=ax.cell 1;have aC:Hid (∀w',Fr ag w w'→Calls Tryz.prog 181 #[.pointer O] w' (bG w' (.int .i64 (W.cD:Nat)))):=fun w' f=>fm w' O W (aG.out.aq f);have H1:Hid (∀w',Fr ag w w'→Calls Tryz.prog 181 #[.pointer X] w' (bG w' (.int .i64 (Z.cD:Nat)))):=fun w' f=>fm w' X Z (aH.out.aq f);obtain⟨p,aQ⟩:∃p:Int,p=(W.cD:Nat):=⟨_,rfl⟩;obtain⟨q,aR⟩:∃q:Int,q=(Z.cD:Nat):=⟨_,rfl⟩;rw[←aQ]at aC;rw[←aR]at H1;have bl:=af aQ;have bm:=af aR;have bt:0≤p∧0≤q:=by omega
  clear aX aY ax aQ aR aW;by_cases ai:q≤p
  ·have bj:decide (q≤p)=true:=decide_eq_true ai;go_upto_region 2 with fail;refine aE 16 ag [Is (.int .i64 d),Is (.bool true),Is (.bool true),Is (.pointer (some ⟨E,0,none⟩)),Is (.pointer (some ⟨E,0,none⟩)),Is (.pointer (some ⟨E,0,none⟩)),Is (.pointer O),Is (.int .i64 p),Is (.pointer (some ⟨E,0,none⟩)),Is (.pointer (some ⟨E,0,none⟩)),Is (.pointer (some ⟨E,1,none⟩)),Is (.pointer X),Is (.int .i64 q),Is (.bool true),Is (.bool true),Is (.bool true)] [] (fun _=>True) (fun _ _=>false) (by kernel_rfl) (by kernel_rfl) (by kernel_rfl) (by kernel_rfl) ⟨Is.ah _,Is.ah _,Is.ah _,Is.ah _,Is.ah _,Is.ah _,Is.ah _,Is.ah _,Is.ah _,Is.ah _,Is.ah _,Is.ah _,Is.ah _,Is.ah _,Is.ah _,Is.ah _,trivial⟩ trivial (fun _ _ _ _ h=>h) trivial ?_ ?_
   ·refine⟨?XM,?xO,?xP,?xQ,?xR,?xS,?xT,?xU,?xV,?xW,?zP,?zQ,?zR,?zS,?zT,?zU,trivial⟩;all_goals intro u w' d j i n m k
    all_goals simp only[bJ,bK,bL,bM,au,Act.put,bN,bO,bP,Nat.reduceAdd,Nat.zero_add]
    case' xO=>simp only[show u 0=_ from i 0]
    case' xP=>simp only[show u 1=_ from i 1]
    case' xQ=>simp only[show u 2=_ from i 2]
    case' xR=>simp only[show u 3=_ from i 3,show u 2=_ from i 2]
    case' xS=>simp only[show u 4=_ from i 4,show u 2=_ from i 2]
    case xT=>
     simp only[show u 5=_ from i 5,show u 2=_ from i 2];clear i n m k;refine aj ?_;have q:=j.an (av.out) (fun x=>x);go_simp;exact⟨_,rfl,al⟩
    case xU=>
     simp only[show u 6=_ from i 6,show u 2=_ from i 2];clear i n m k;refine aj ?_;go_simp;refine(aC.out _ j).mono ?_;rintro e Q⟨rfl,rfl⟩;exact⟨_,rfl,al⟩
    case' xV=>simp only[show u 2=_ from i 2]
    case' xW=>simp only[show u 8=_ from i 8,show u 2=_ from i 2]
    case' zP=>simp only[show u 9=_ from i 9,show u 2=_ from i 2]
    case zQ=>
     simp only[show u 10=_ from i 10,show u 2=_ from i 2];clear i n m k;refine aj ?_;have q:=j.an (aw.out) (fun x=>x);go_simp;exact⟨_,rfl,al⟩
    case zR=>
     simp only[show u 11=_ from i 11,show u 2=_ from i 2];clear i n m k;refine aj ?_;go_simp;refine(H1.out _ j).mono ?_;rintro e Q⟨rfl,rfl⟩;exact⟨_,rfl,al⟩
    case' zS=>simp only[show u 7=_ from i 7,show u 12=_ from i 12,show u 2=_ from i 2]
    case' zT=>simp only[show u 2=_ from i 2,show u 13=_ from i 13]
    case' zU=>simp only[show u 14=_ from i 14]
    all_goals
     clear i n m k;refine aj ?_;go_simp;exact⟨_,rfl,al⟩
   ·intro u w' j i k;have C:u 15=_:=i 15 (by omega);clear i k;simp only[bJ,bK,bL,bM,au,Act.put,bN,bO,bP,dL,dM,Nat.reduceAdd,Nat.zero_add,C];have D:=af j;clear j C;go_upto_region 3 with fail;refine aE 14 ag [Is (.pointer (some ⟨E,0,none⟩)),Is (.pointer (some ⟨E,0,none⟩)),Is (.pointer (some ⟨E,0,none⟩)),Is (.pointer O),Is (.pointer (some ⟨E,0,none⟩)),Is (.pointer (some ⟨E,0,none⟩)),Is (.pointer (some ⟨E,0,none⟩)),Is (.pointer (some ⟨E,1,none⟩)),Is (.pointer X),Is (.pointer (some ⟨g,0,none⟩)),Is (.pointer aB),(fun I H=>∃z,I= .pointer z∧cq H z (.node Z nm v r)),(fun I H=>∃z,I= .pointer z∧cq H z (.node W L lv (.node Z nm v r))),(fun I H=>∃z,I= .pointer z∧cq H z (.node W L lv (.node Z nm v r)))] [] (fun _=>True) (fun _ _=>false) (by kernel_rfl) (by kernel_rfl) (by kernel_rfl) (by kernel_rfl) ⟨Is.ah _,Is.ah _,Is.ah _,Is.ah _,Is.ah _,Is.ah _,Is.ah _,Is.ah _,Is.ah _,Is.ah _,Is.ah _,fun v w1 w2 _ f h=>by obtain⟨a,e,o⟩:=h;exact⟨a,e,o.aq f⟩,fun v w1 w2 _ f h=>by obtain⟨a,e,o⟩:=h;exact⟨a,e,o.aq f⟩,fun v w1 w2 _ f h=>by obtain⟨a,e,o⟩:=h;exact⟨a,e,o.aq f⟩,trivial⟩ trivial (fun _ _ _ _ h=>h) trivial ?_ ?_
    ·refine⟨?XN,?xX,?xY,?xZ,?XO,?XP,?ZA,?ZB,?ZC,?XQ,?XF,?zV,?zW,?zX,trivial⟩;all_goals intro u w' d j i n m k
     all_goals simp only[bJ,bK,bL,bM,au,Act.put,bN,bO,bP,Nat.reduceAdd,Nat.zero_add]
     case' xX=>simp only[show u 0=_ from i 0]
     case' xY=>simp only[show u 1=_ from i 1]
     case xZ=>
      simp only[show u 2=_ from i 2];clear i n m k;refine aj ?_;have q:=j.an (D.out.an (av.out) (fun x=>x)) (fun x=>x);go_simp;exact⟨_,rfl,al⟩
     case' ZA=>simp only[show u 5=_ from i 5]
     case' ZB=>simp only[show u 6=_ from i 6]
     case ZC=>
      simp only[show u 7=_ from i 7];clear i n m k;refine aj ?_;have q:=j.an (D.out.an (aw.out) (fun x=>x)) (fun x=>x);go_simp;exact⟨_,rfl,al⟩
     case zV=>
      simp only[show u 8=_ from i 8,show u 9=_ from i 9,show u 10=_ from i 10];clear i n m k;refine aj ?_;go_simp;refine(fw _ X aB Z r g nm v (aH.out.aq (D.out.trans j)) (a2.out.aq (D.out.trans j)) (aV.out.aq (D.out.trans j)) (by have A:=t.out;have B:=s.out;simp only[Tr.size,Tr.bytes]at A B⊢;omega) (by have A:=t.out;have B:=s.out;simp only[Tr.size,Tr.bytes]at A B⊢;omega)).mono ?_;rintro e Q⟨a,rfl,o,f4⟩;exact⟨_,rfl,f4.bI,⟨a,rfl,o⟩,trivial⟩
     case zW=>
      obtain⟨a6,bc,bi⟩:=i 11;simp only[show u 3=_ from i 3,show u 4=_ from i 4,bc];clear i n m k;refine aj ?_;go_simp;refine(fw _ O a6 W (.node Z nm v r) E L lv (aG.out.aq (D.out.trans j)) bi (bn.out.aq (D.out.trans j)) (by have A:=t.out;have B:=s.out;simp only[Tr.size,Tr.bytes]at A B⊢;omega) (by have A:=t.out;have B:=s.out;simp only[Tr.size,Tr.bytes]at A B⊢;omega)).mono ?_;rintro e Q⟨a,rfl,o,f4⟩;exact⟨_,rfl,f4.bI,⟨a,rfl,o⟩,trivial⟩
     case zX=>
      obtain⟨a12,aM,aS⟩:=i 12;simp only[aM];clear i n m k;refine aj ?_;go_simp;exact⟨_,rfl,aA,⟨_,rfl,aS⟩,trivial⟩
     all_goals
      clear i n m k;refine aj ?_;go_simp;exact⟨_,rfl,al⟩
    ·intro u w' j i k;obtain⟨a7,ab,ak⟩:=i 13 (by omega);clear i k;simp only[bJ,bK,bL,bM,au,Act.put,bN,bO,bP,dL,dM,Nat.reduceAdd,Nat.zero_add,ab];have ap:=af (D.out.trans j);have ar:=af ak;clear j ak ab;go_wp2;go_ret;exact⟨_,_,rfl,ar.out,by simp[Tr.bA],ap.out⟩
  ·have bj:decide (q≤p)=false:=decide_eq_false ai;obtain⟨R,G,V,T,rfl⟩:∃R G V T,Z= .node R G V T:=by
    cases Z with
    |leaf=>have aP:=bm.out;simp only[Tr.cD]at aP;omega
    |node a b c d=>exact⟨a,b,c,d,rfl⟩
   obtain⟨K,S,U,rfl,ad,ae,N⟩:=aH.out;have aD:=af ad;have aF:=af ae;have a5:Hid (Mid w K G V):=Mid.of N;have d0:Hid (w.cell? ⟨K,0,none⟩=some (.pointer S)):=N.cell 0;have d1:Hid (w.cell? ⟨K,1,none⟩=some (.pointer U)):=N.cell 1;clear ad ae N;go_upto_region 2 with fail;refine aE 16 ag [Is (.int .i64 d),Is (.bool true),Is (.bool true),Is (.pointer (some ⟨E,0,none⟩)),Is (.pointer (some ⟨E,0,none⟩)),Is (.pointer (some ⟨E,0,none⟩)),Is (.pointer O),Is (.int .i64 p),Is (.pointer (some ⟨E,0,none⟩)),Is (.pointer (some ⟨E,0,none⟩)),Is (.pointer (some ⟨E,1,none⟩)),Is (.pointer (some ⟨K,0,none⟩)),Is (.int .i64 q),Is (.bool false),Is (.bool false),Is (.bool false)] [] (fun _=>True) (fun _ _=>false) (by kernel_rfl) (by kernel_rfl) (by kernel_rfl) (by kernel_rfl) ⟨Is.ah _,Is.ah _,Is.ah _,Is.ah _,Is.ah _,Is.ah _,Is.ah _,Is.ah _,Is.ah _,Is.ah _,Is.ah _,Is.ah _,Is.ah _,Is.ah _,Is.ah _,Is.ah _,trivial⟩ trivial (fun _ _ _ _ h=>h) trivial ?_ ?_
   ·refine⟨?XR,?ZD,?ZE,?ZF,?ZG,?ZH,?ZI,?ZJ,?ZK,?ZL,?zY,?zZ,?yA,?yB,?yC,?yD,trivial⟩;all_goals intro u w' d j i n m k
    all_goals simp only[bJ,bK,bL,bM,au,Act.put,bN,bO,bP,Nat.reduceAdd,Nat.zero_add]
    case' ZD=>simp only[show u 0=_ from i 0]
    case' ZE=>simp only[show u 1=_ from i 1]
    case' ZF=>simp only[show u 2=_ from i 2]
    case' ZG=>simp only[show u 3=_ from i 3,show u 2=_ from i 2]
    case' ZH=>simp only[show u 4=_ from i 4,show u 2=_ from i 2]
    case ZI=>
     simp only[show u 5=_ from i 5,show u 2=_ from i 2];clear i n m k;refine aj ?_;have q:=j.an (av.out) (fun x=>x);go_simp;exact⟨_,rfl,al⟩
    case ZJ=>
     simp only[show u 6=_ from i 6,show u 2=_ from i 2];clear i n m k;refine aj ?_;go_simp;refine(aC.out _ j).mono ?_;rintro e Q⟨rfl,rfl⟩;exact⟨_,rfl,al⟩
    case' ZK=>simp only[show u 2=_ from i 2]
    case' ZL=>simp only[show u 8=_ from i 8,show u 2=_ from i 2]
    case' zY=>simp only[show u 9=_ from i 9,show u 2=_ from i 2]
    case zZ=>
     simp only[show u 10=_ from i 10,show u 2=_ from i 2];clear i n m k;refine aj ?_;have q:=j.an (aw.out) (fun x=>x);go_simp;exact⟨_,rfl,al⟩
    case yA=>
     simp only[show u 11=_ from i 11,show u 2=_ from i 2];clear i n m k;refine aj ?_;go_simp;refine(H1.out _ j).mono ?_;rintro e Q⟨rfl,rfl⟩;exact⟨_,rfl,al⟩
    case' yB=>simp only[show u 7=_ from i 7,show u 12=_ from i 12,show u 2=_ from i 2]
    case' yC=>simp only[show u 2=_ from i 2,show u 13=_ from i 13]
    case' yD=>simp only[show u 14=_ from i 14]
    all_goals
     clear i n m k;refine aj ?_;go_simp;exact⟨_,rfl,al⟩
   ·intro u w' j i k;have C:u 15=_:=i 15 (by omega);clear i k;simp only[bJ,bK,bL,bM,au,Act.put,bN,bO,bP,dL,dM,Nat.reduceAdd,Nat.zero_add,C];have D:=af j;have bC:=j.an aw.out (fun x=>x);clear j C;go_upto_region 6 with fail;refine aE 20 ag [Is (.pointer (some ⟨E,0,none⟩)),Is (.pointer (some ⟨E,0,none⟩)),Is (.pointer (some ⟨E,0,none⟩)),Is (.pointer O),Is (.pointer (some ⟨E,0,none⟩)),Is (.pointer (some ⟨K,0,none⟩)),Is (.pointer (some ⟨K,0,none⟩)),Is (.pointer (some ⟨K,0,none⟩)),Is (.pointer S),(fun I H=>∃z,I= .pointer z∧cq H z (.node W L lv R)),Is (.pointer (some ⟨K,0,none⟩)),Is (.pointer (some ⟨K,0,none⟩)),Is (.pointer (some ⟨K,0,none⟩)),Is (.pointer (some ⟨K,1,none⟩)),Is (.pointer U),Is (.pointer (some ⟨g,0,none⟩)),Is (.pointer aB),(fun I H=>∃z,I= .pointer z∧cq H z (.node T nm v r)),(fun I H=>∃z,I= .pointer z∧cq H z (.node (.node W L lv R) G V (.node T nm v r))),(fun I H=>∃z,I= .pointer z∧cq H z (.node (.node W L lv R) G V (.node T nm v r)))] [] (fun _=>True) (fun _ _=>false) (by kernel_rfl) (by kernel_rfl) (by kernel_rfl) (by kernel_rfl) ⟨Is.ah _,Is.ah _,Is.ah _,Is.ah _,Is.ah _,Is.ah _,Is.ah _,Is.ah _,Is.ah _,fun v w1 w2 _ f h=>by obtain⟨a,e,o⟩:=h;exact⟨a,e,o.aq f⟩,Is.ah _,Is.ah _,Is.ah _,Is.ah _,Is.ah _,Is.ah _,Is.ah _,fun v w1 w2 _ f h=>by obtain⟨a,e,o⟩:=h;exact⟨a,e,o.aq f⟩,fun v w1 w2 _ f h=>by obtain⟨a,e,o⟩:=h;exact⟨a,e,o.aq f⟩,fun v w1 w2 _ f h=>by obtain⟨a,e,o⟩:=h;exact⟨a,e,o.aq f⟩,trivial⟩ trivial (fun _ _ _ _ h=>h) trivial ?_ ?_
    ·refine⟨?XS,?ZM,?ZN,?ZO,?XT,?XU,?ZP,?ZQ,?ZR,?ZS,?XG,?XH,?yE,?yF,?yG,?XI,?XJ,?yH,?yI,?yJ,trivial⟩;all_goals intro u w' d j i n m k
     all_goals simp only[bJ,bK,bL,bM,au,Act.put,bN,bO,bP,Nat.reduceAdd,Nat.zero_add]
     case' ZM=>simp only[show u 0=_ from i 0]
     case' ZN=>simp only[show u 1=_ from i 1]
     case ZO=>
      simp only[show u 2=_ from i 2];clear i n m k;refine aj ?_;have q:=j.an (D.out.an av.out (fun x=>x)) (fun x=>x);go_simp;exact⟨_,rfl,al⟩
     case' ZP=>simp only[show u 5=_ from i 5]
     case' ZQ=>simp only[show u 6=_ from i 6]
     case ZR=>
      simp only[show u 7=_ from i 7];clear i n m k;refine aj ?_;have q:=j.an (D.out.an d0.out (fun x=>x)) (fun x=>x);go_simp;exact⟨_,rfl,al⟩
     case ZS=>
      simp only[show u 3=_ from i 3,show u 4=_ from i 4,show u 8=_ from i 8];clear i n m k;refine aj ?_;go_simp;refine(fw _ O S W R E L lv (aG.out.aq (D.out.trans j)) (aD.out.aq (D.out.trans j)) (bn.out.aq (D.out.trans j)) (by have A:=t.out;have B:=s.out;simp only[Tr.size,Tr.bytes]at A B⊢;omega) (by have A:=t.out;have B:=s.out;simp only[Tr.size,Tr.bytes]at A B⊢;omega)).mono ?_;rintro e Q⟨a,rfl,o,f4⟩;exact⟨_,rfl,f4.bI,⟨a,rfl,o⟩,trivial⟩
     case' yE=>simp only[show u 11=_ from i 11]
     case' yF=>simp only[show u 12=_ from i 12]
     case yG=>
      simp only[show u 13=_ from i 13];clear i n m k;refine aj ?_;have q:=j.an (D.out.an d1.out (fun x=>x)) (fun x=>x);go_simp;exact⟨_,rfl,al⟩
     case yH=>
      simp only[show u 14=_ from i 14,show u 15=_ from i 15,show u 16=_ from i 16];clear i n m k;refine aj ?_;go_simp;refine(fw _ U aB T r g nm v (aF.out.aq (D.out.trans j)) (a2.out.aq (D.out.trans j)) (aV.out.aq (D.out.trans j)) (by have A:=t.out;have B:=s.out;simp only[Tr.size,Tr.bytes]at A B⊢;omega) (by have A:=t.out;have B:=s.out;simp only[Tr.size,Tr.bytes]at A B⊢;omega)).mono ?_;rintro e Q⟨a,rfl,o,f4⟩;exact⟨_,rfl,f4.bI,⟨a,rfl,o⟩,trivial⟩
     case yI=>
      obtain⟨a9,bu,bw⟩:=i 9;obtain⟨aL,aN,aT⟩:=i 17;simp only[bu,show u 10=_ from i 10,aN];clear i n m k;refine aj ?_;go_simp;refine(fw _ a9 aL (.node W L lv R) (.node T nm v r) K G V bw aT (a5.out.aq (D.out.trans j)) (by have A:=t.out;have B:=s.out;simp only[Tr.size,Tr.bytes]at A B⊢;omega) (by have A:=t.out;have B:=s.out;simp only[Tr.size,Tr.bytes]at A B⊢;omega)).mono ?_;rintro e Q⟨a,rfl,o,f4⟩;exact⟨_,rfl,f4.bI,⟨a,rfl,o⟩,trivial⟩
     case yJ=>
      obtain⟨a8,aO,aU⟩:=i 18;simp only[aO];clear i n m k;refine aj ?_;go_simp;exact⟨_,rfl,aA,⟨_,rfl,aU⟩,trivial⟩
     all_goals
      clear i n m k;refine aj ?_;go_simp;exact⟨_,rfl,al⟩
    ·intro u w' j i k;obtain⟨ba,ac,am⟩:=i 19 (by omega);clear i k;simp only[bJ,bK,bL,bM,au,Act.put,bN,bO,bP,dL,dM,Nat.reduceAdd,Nat.zero_add,ac];have ap:=af (D.out.trans j);have ar:=af am;clear j am ac;go_wp2;go_ret;exact⟨_,_,rfl,ar.out,by simp[Tr.bA],ap.out⟩
 ·have bx:decide ((1:Int)<d)=false:=decide_eq_false aW;go_upto_region 2 with fail;refine aE 16 ag [Is (.int .i64 d),Is (.bool false),Is (.bool false),Is (undef),Is (undef),Is (undef),Is (undef),Is (undef),Is (undef),Is (undef),Is (undef),Is (undef),Is (undef),Is (undef),Is (.bool false),Is (.bool false)] [] (fun _=>True) (fun _ _=>false) (by kernel_rfl) (by kernel_rfl) (by kernel_rfl) (by kernel_rfl) ⟨Is.ah _,Is.ah _,Is.ah _,Is.ah _,Is.ah _,Is.ah _,Is.ah _,Is.ah _,Is.ah _,Is.ah _,Is.ah _,Is.ah _,Is.ah _,Is.ah _,Is.ah _,Is.ah _,trivial⟩ trivial (fun _ _ _ _ h=>h) trivial ?_ ?_
  ·refine⟨?XV,?ZT,?ZU,?ZV,?ZW,?ZX,?ZY,?ZZ,?YA,?YB,?yK,?yL,?yM,?yN,?yO,?yP,trivial⟩;all_goals intro u w' d j i n m k
   all_goals simp only[bJ,bK,bL,bM,au,Act.put,bN,bO,bP,Nat.reduceAdd,Nat.zero_add]
   case' ZT=>simp only[show u 0=_ from i 0]
   case' ZU=>simp only[show u 1=_ from i 1]
   case ZV=>simp only[show u 2=_ from i 2];exact .inr ⟨by kernel_rfl,_,rfl,aA,rfl,trivial⟩
   case ZW=>simp only[show u 2=_ from i 2];exact .inr ⟨by kernel_rfl,_,rfl,aA,rfl,trivial⟩
   case ZX=>simp only[show u 2=_ from i 2];exact .inr ⟨by kernel_rfl,_,rfl,aA,rfl,trivial⟩
   case ZY=>simp only[show u 2=_ from i 2];exact .inr ⟨by kernel_rfl,_,rfl,aA,rfl,trivial⟩
   case ZZ=>simp only[show u 2=_ from i 2];exact .inr ⟨by kernel_rfl,_,rfl,aA,rfl,trivial⟩
   case YA=>simp only[show u 2=_ from i 2];exact .inr ⟨by kernel_rfl,_,rfl,aA,rfl,trivial⟩
   case YB=>simp only[show u 2=_ from i 2];exact .inr ⟨by kernel_rfl,_,rfl,aA,rfl,trivial⟩
   case yK=>simp only[show u 2=_ from i 2];exact .inr ⟨by kernel_rfl,_,rfl,aA,rfl,trivial⟩
   case yL=>simp only[show u 2=_ from i 2];exact .inr ⟨by kernel_rfl,_,rfl,aA,rfl,trivial⟩
   case yM=>simp only[show u 2=_ from i 2];exact .inr ⟨by kernel_rfl,_,rfl,aA,rfl,trivial⟩
   case yN=>simp only[show u 2=_ from i 2];exact .inr ⟨by kernel_rfl,_,rfl,aA,rfl,trivial⟩
   case' yO=>simp only[show u 2=_ from i 2,show u 13=_ from i 13]
   case' yP=>simp only[show u 14=_ from i 14]
   all_goals
    clear i n m k;refine aj ?_;go_simp;exact⟨_,rfl,al⟩
  ·intro u w' j i k;have C:u 15=_:=i 15 (by omega);clear i k;simp only[bJ,bK,bL,bM,au,Act.put,bN,bO,bP,dL,dM,Nat.reduceAdd,Nat.zero_add,C];have D:=af j;clear j C;by_cases a3:d< -1
   ·have bz:decide (d<(-1:Int))=true:=decide_eq_true a3;obtain⟨aa,M,ao,rr,rfl⟩:∃aa M ao rr,r= .node aa M ao rr:=by
     cases r with
     |leaf=>have aP:=bs.out;simp only[Tr.cD]at aP;have:=bk.out;omega
     |node a b c d=>exact⟨a,b,c,d,rfl⟩
    obtain⟨F,Y,P,rfl,aZ,a0,ay⟩:=a2.out;have aJ:=af aZ;have aK:=af a0;have bo:Hid (Mid w F M ao):=Mid.of ay;have av:Hid (w.cell? ⟨F,0,none⟩=some (.pointer Y)):=ay.cell 0;have aw:Hid (w.cell? ⟨F,1,none⟩=some (.pointer P)):=ay.cell 1;have aC:Hid (∀w',Fr ag w w'→Calls Tryz.prog 181 #[.pointer Y] w' (bG w' (.int .i64 (aa.cD:Nat)))):=fun w' f=>fm w' Y aa (aJ.out.aq f);have H1:Hid (∀w',Fr ag w w'→Calls Tryz.prog 181 #[.pointer P] w' (bG w' (.int .i64 (rr.cD:Nat)))):=fun w' f=>fm w' P rr (aK.out.aq f);obtain⟨p,aQ⟩:∃p:Int,p=(aa.cD:Nat):=⟨_,rfl⟩;obtain⟨q,aR⟩:∃q:Int,q=(rr.cD:Nat):=⟨_,rfl⟩;rw[←aQ]at aC;rw[←aR]at H1;have bl:=af aQ;have bm:=af aR;have bt:0≤p∧0≤q:=by omega
    clear aZ a0 ay aQ aR aW a3;by_cases ai:p≤q
    ·have bj:decide (p≤q)=true:=decide_eq_true ai;go_upto_region 7 with fail;refine aE 16 ag [Is (.int .i64 d),Is (.bool true),Is (.bool true),Is (.pointer (some ⟨F,0,none⟩)),Is (.pointer (some ⟨F,0,none⟩)),Is (.pointer (some ⟨F,1,none⟩)),Is (.pointer P),Is (.int .i64 q),Is (.pointer (some ⟨F,0,none⟩)),Is (.pointer (some ⟨F,0,none⟩)),Is (.pointer (some ⟨F,0,none⟩)),Is (.pointer Y),Is (.int .i64 p),Is (.bool true),Is (.bool true),Is (.bool true)] [] (fun _=>True) (fun _ _=>false) (by kernel_rfl) (by kernel_rfl) (by kernel_rfl) (by kernel_rfl) ⟨Is.ah _,Is.ah _,Is.ah _,Is.ah _,Is.ah _,Is.ah _,Is.ah _,Is.ah _,Is.ah _,Is.ah _,Is.ah _,Is.ah _,Is.ah _,Is.ah _,Is.ah _,Is.ah _,trivial⟩ trivial (fun _ _ _ _ h=>h) trivial ?_ ?_
     ·refine⟨?XW,?YC,?YD,?YE,?YF,?YG,?YH,?YI,?YJ,?YK,?yQ,?yR,?yS,?yT,?yU,?yV,trivial⟩;all_goals intro u w' d j i n m k
      all_goals simp only[bJ,bK,bL,bM,au,Act.put,bN,bO,bP,Nat.reduceAdd,Nat.zero_add]
      case' YC=>simp only[show u 0=_ from i 0]
      case' YD=>simp only[show u 1=_ from i 1]
      case' YE=>simp only[show u 2=_ from i 2]
      case' YF=>simp only[show u 3=_ from i 3,show u 2=_ from i 2]
      case' YG=>simp only[show u 4=_ from i 4,show u 2=_ from i 2]
      case YH=>
       simp only[show u 5=_ from i 5,show u 2=_ from i 2];clear i n m k;refine aj ?_;have q:=j.an (D.out.an aw.out (fun x=>x)) (fun x=>x);go_simp;exact⟨_,rfl,al⟩
      case YI=>
       simp only[show u 6=_ from i 6,show u 2=_ from i 2];clear i n m k;refine aj ?_;go_simp;refine(H1.out _ (D.out.trans j)).mono ?_;rintro e Q⟨rfl,rfl⟩;exact⟨_,rfl,al⟩
      case' YJ=>simp only[show u 2=_ from i 2]
      case' YK=>simp only[show u 8=_ from i 8,show u 2=_ from i 2]
      case' yQ=>simp only[show u 9=_ from i 9,show u 2=_ from i 2]
      case yR=>
       simp only[show u 10=_ from i 10,show u 2=_ from i 2];clear i n m k;refine aj ?_;have q:=j.an (D.out.an av.out (fun x=>x)) (fun x=>x);go_simp;exact⟨_,rfl,al⟩
      case yS=>
       simp only[show u 11=_ from i 11,show u 2=_ from i 2];clear i n m k;refine aj ?_;go_simp;refine(aC.out _ (D.out.trans j)).mono ?_;rintro e Q⟨rfl,rfl⟩;exact⟨_,rfl,al⟩
      case' yT=>simp only[show u 7=_ from i 7,show u 12=_ from i 12,show u 2=_ from i 2]
      case' yU=>simp only[show u 2=_ from i 2,show u 13=_ from i 13]
      case' yV=>simp only[show u 14=_ from i 14]
      all_goals
       clear i n m k;refine aj ?_;go_simp;exact⟨_,rfl,al⟩
     ·intro u w' j i k;have C:u 15=_:=i 15 (by omega);clear i k;simp only[bJ,bK,bL,bM,au,Act.put,bN,bO,bP,dL,dM,Nat.reduceAdd,Nat.zero_add,C];have J:=af (D.out.trans j);clear j C;go_upto_region 8 with fail;refine aE 14 ag [Is (.pointer az),Is (.pointer (some ⟨g,0,none⟩)),Is (.pointer (some ⟨F,0,none⟩)),Is (.pointer (some ⟨F,0,none⟩)),Is (.pointer (some ⟨F,0,none⟩)),Is (.pointer Y),(fun I H=>∃z,I= .pointer z∧cq H z (.node l nm v aa)),Is (.pointer (some ⟨F,0,none⟩)),Is (.pointer (some ⟨F,0,none⟩)),Is (.pointer (some ⟨F,0,none⟩)),Is (.pointer (some ⟨F,1,none⟩)),Is (.pointer P),(fun I H=>∃z,I= .pointer z∧cq H z (.node (.node l nm v aa) M ao rr)),(fun I H=>∃z,I= .pointer z∧cq H z (.node (.node l nm v aa) M ao rr))] [] (fun _=>True) (fun _ _=>false) (by kernel_rfl) (by kernel_rfl) (by kernel_rfl) (by kernel_rfl) ⟨Is.ah _,Is.ah _,Is.ah _,Is.ah _,Is.ah _,Is.ah _,fun v w1 w2 _ f h=>by obtain⟨a,e,o⟩:=h;exact⟨a,e,o.aq f⟩,Is.ah _,Is.ah _,Is.ah _,Is.ah _,Is.ah _,fun v w1 w2 _ f h=>by obtain⟨a,e,o⟩:=h;exact⟨a,e,o.aq f⟩,fun v w1 w2 _ f h=>by obtain⟨a,e,o⟩:=h;exact⟨a,e,o.aq f⟩,trivial⟩ trivial (fun _ _ _ _ h=>h) trivial ?_ ?_
      ·refine⟨?XX,?XY,?XZ,?YL,?YM,?YN,?YO,?z0,?z1,?YP,?yW,?yX,?yY,?yZ,trivial⟩;all_goals intro u w' d j i n m k
       all_goals simp only[bJ,bK,bL,bM,au,Act.put,bN,bO,bP,Nat.reduceAdd,Nat.zero_add]
       case' YL=>simp only[show u 2=_ from i 2]
       case' YM=>simp only[show u 3=_ from i 3]
       case YN=>
        simp only[show u 4=_ from i 4];clear i n m k;refine aj ?_;have q:=j.an (J.out.an av.out (fun x=>x)) (fun x=>x);go_simp;exact⟨_,rfl,al⟩
       case YO=>
        simp only[show u 0=_ from i 0,show u 1=_ from i 1,show u 5=_ from i 5];clear i n m k;refine aj ?_;go_simp;refine(fw _ az Y l aa g nm v (a1.out.aq (J.out.trans j)) (aJ.out.aq (J.out.trans j)) (aV.out.aq (J.out.trans j)) (by have A:=t.out;have B:=s.out;simp only[Tr.size,Tr.bytes]at A B⊢;omega) (by have A:=t.out;have B:=s.out;simp only[Tr.size,Tr.bytes]at A B⊢;omega)).mono ?_;rintro e Q⟨a,rfl,o,f4⟩;exact⟨_,rfl,f4.bI,⟨a,rfl,o⟩,trivial⟩
       case' YP=>simp only[show u 8=_ from i 8]
       case' yW=>simp only[show u 9=_ from i 9]
       case yX=>
        simp only[show u 10=_ from i 10];clear i n m k;refine aj ?_;have q:=j.an (J.out.an aw.out (fun x=>x)) (fun x=>x);go_simp;exact⟨_,rfl,al⟩
       case yY=>
        obtain⟨bb,bd,n6⟩:=i 6;simp only[bd,show u 7=_ from i 7,show u 11=_ from i 11];clear i n m k;refine aj ?_;go_simp;refine(fw _ bb P (.node l nm v aa) rr F M ao n6 (aK.out.aq (J.out.trans j)) (bo.out.aq (J.out.trans j)) (by have A:=t.out;have B:=s.out;simp only[Tr.size,Tr.bytes]at A B⊢;omega) (by have A:=t.out;have B:=s.out;simp only[Tr.size,Tr.bytes]at A B⊢;omega)).mono ?_;rintro e Q⟨a,rfl,o,f4⟩;exact⟨_,rfl,f4.bI,⟨a,rfl,o⟩,trivial⟩
       case yZ=>
        obtain⟨a12,aM,aS⟩:=i 12;simp only[aM];clear i n m k;refine aj ?_;go_simp;exact⟨_,rfl,aA,⟨_,rfl,aS⟩,trivial⟩
       all_goals
        clear i n m k;refine aj ?_;go_simp;exact⟨_,rfl,al⟩
      ·intro u w' j i k;obtain⟨a7,ab,ak⟩:=i 13 (by omega);clear i k;simp only[bJ,bK,bL,bM,au,Act.put,bN,bO,bP,dL,dM,Nat.reduceAdd,Nat.zero_add,ab];have ap:=af (J.out.trans j);have ar:=af ak;clear j ak ab;go_wp2;go_ret;exact⟨_,_,rfl,ar.out,by simp[Tr.bA],ap.out⟩
    ·have bj:decide (p≤q)=false:=decide_eq_false ai;obtain⟨R,G,V,T,rfl⟩:∃R G V T,aa= .node R G V T:=by
      cases aa with
      |leaf=>have aP:=bl.out;simp only[Tr.cD]at aP;omega
      |node a b c d=>exact⟨a,b,c,d,rfl⟩
     obtain⟨K,S,U,rfl,ad,ae,N⟩:=aJ.out;have aD:=af ad;have aF:=af ae;have a5:Hid (Mid w K G V):=Mid.of N;have d0:Hid (w.cell? ⟨K,0,none⟩=some (.pointer S)):=N.cell 0;have d1:Hid (w.cell? ⟨K,1,none⟩=some (.pointer U)):=N.cell 1;clear ad ae N;go_upto_region 7 with fail;refine aE 16 ag [Is (.int .i64 d),Is (.bool true),Is (.bool true),Is (.pointer (some ⟨F,0,none⟩)),Is (.pointer (some ⟨F,0,none⟩)),Is (.pointer (some ⟨F,1,none⟩)),Is (.pointer P),Is (.int .i64 q),Is (.pointer (some ⟨F,0,none⟩)),Is (.pointer (some ⟨F,0,none⟩)),Is (.pointer (some ⟨F,0,none⟩)),Is (.pointer (some ⟨K,0,none⟩)),Is (.int .i64 p),Is (.bool false),Is (.bool false),Is (.bool false)] [] (fun _=>True) (fun _ _=>false) (by kernel_rfl) (by kernel_rfl) (by kernel_rfl) (by kernel_rfl) ⟨Is.ah _,Is.ah _,Is.ah _,Is.ah _,Is.ah _,Is.ah _,Is.ah _,Is.ah _,Is.ah _,Is.ah _,Is.ah _,Is.ah _,Is.ah _,Is.ah _,Is.ah _,Is.ah _,trivial⟩ trivial (fun _ _ _ _ h=>h) trivial ?_ ?_
     ·refine⟨?z2,?YQ,?YR,?YS,?YT,?YU,?YV,?YW,?YX,?YY,?xA,?xB,?xC,?xD,?xE,?xF,trivial⟩;all_goals intro u w' d j i n m k
      all_goals simp only[bJ,bK,bL,bM,au,Act.put,bN,bO,bP,Nat.reduceAdd,Nat.zero_add]
      case' YQ=>simp only[show u 0=_ from i 0]
      case' YR=>simp only[show u 1=_ from i 1]
      case' YS=>simp only[show u 2=_ from i 2]
      case' YT=>simp only[show u 3=_ from i 3,show u 2=_ from i 2]
      case' YU=>simp only[show u 4=_ from i 4,show u 2=_ from i 2]
      case YV=>
       simp only[show u 5=_ from i 5,show u 2=_ from i 2];clear i n m k;refine aj ?_;have q:=j.an (D.out.an aw.out (fun x=>x)) (fun x=>x);go_simp;exact⟨_,rfl,al⟩
      case YW=>
       simp only[show u 6=_ from i 6,show u 2=_ from i 2];clear i n m k;refine aj ?_;go_simp;refine(H1.out _ (D.out.trans j)).mono ?_;rintro e Q⟨rfl,rfl⟩;exact⟨_,rfl,al⟩
      case' YX=>simp only[show u 2=_ from i 2]
      case' YY=>simp only[show u 8=_ from i 8,show u 2=_ from i 2]
      case' xA=>simp only[show u 9=_ from i 9,show u 2=_ from i 2]
      case xB=>
       simp only[show u 10=_ from i 10,show u 2=_ from i 2];clear i n m k;refine aj ?_;have q:=j.an (D.out.an av.out (fun x=>x)) (fun x=>x);go_simp;exact⟨_,rfl,al⟩
      case xC=>
       simp only[show u 11=_ from i 11,show u 2=_ from i 2];clear i n m k;refine aj ?_;go_simp;refine(aC.out _ (D.out.trans j)).mono ?_;rintro e Q⟨rfl,rfl⟩;exact⟨_,rfl,al⟩
      case' xD=>simp only[show u 7=_ from i 7,show u 12=_ from i 12,show u 2=_ from i 2]
      case' xE=>simp only[show u 2=_ from i 2,show u 13=_ from i 13]
      case' xF=>simp only[show u 14=_ from i 14]
      all_goals
       clear i n m k;refine aj ?_;go_simp;exact⟨_,rfl,al⟩
     ·intro u w' j i k;have C:u 15=_:=i 15 (by omega);clear i k;simp only[bJ,bK,bL,bM,au,Act.put,bN,bO,bP,dL,dM,Nat.reduceAdd,Nat.zero_add,C];have J:=af (D.out.trans j);have bB:=J.out.an av.out (fun x=>x);clear j C;go_upto_region 11 with fail;refine aE 20 ag [Is (.pointer az),Is (.pointer (some ⟨g,0,none⟩)),Is (.pointer (some ⟨K,0,none⟩)),Is (.pointer (some ⟨K,0,none⟩)),Is (.pointer (some ⟨K,0,none⟩)),Is (.pointer S),(fun I H=>∃z,I= .pointer z∧cq H z (.node l nm v R)),Is (.pointer (some ⟨K,0,none⟩)),Is (.pointer (some ⟨K,0,none⟩)),Is (.pointer (some ⟨K,0,none⟩)),Is (.pointer (some ⟨K,1,none⟩)),Is (.pointer U),Is (.pointer (some ⟨F,0,none⟩)),Is (.pointer (some ⟨F,0,none⟩)),Is (.pointer (some ⟨F,0,none⟩)),Is (.pointer (some ⟨F,1,none⟩)),Is (.pointer P),(fun I H=>∃z,I= .pointer z∧cq H z (.node T M ao rr)),(fun I H=>∃z,I= .pointer z∧cq H z (.node (.node l nm v R) G V (.node T M ao rr))),(fun I H=>∃z,I= .pointer z∧cq H z (.node (.node l nm v R) G V (.node T M ao rr)))] [] (fun _=>True) (fun _ _=>false) (by kernel_rfl) (by kernel_rfl) (by kernel_rfl) (by kernel_rfl) ⟨Is.ah _,Is.ah _,Is.ah _,Is.ah _,Is.ah _,Is.ah _,fun v w1 w2 _ f h=>by obtain⟨a,e,o⟩:=h;exact⟨a,e,o.aq f⟩,Is.ah _,Is.ah _,Is.ah _,Is.ah _,Is.ah _,Is.ah _,Is.ah _,Is.ah _,Is.ah _,Is.ah _,fun v w1 w2 _ f h=>by obtain⟨a,e,o⟩:=h;exact⟨a,e,o.aq f⟩,fun v w1 w2 _ f h=>by obtain⟨a,e,o⟩:=h;exact⟨a,e,o.aq f⟩,fun v w1 w2 _ f h=>by obtain⟨a,e,o⟩:=h;exact⟨a,e,o.aq f⟩,trivial⟩ trivial (fun _ _ _ _ h=>h) trivial ?_ ?_
      ·refine⟨?z3,?z4,?z5,?YZ,?XA,?XB,?XC,?z6,?z7,?XD,?xG,?xH,?XK,?XL,?xI,?xJ,?xK,?xL,?xM,?xN,trivial⟩;all_goals intro u w' d j i n m k
       all_goals simp only[bJ,bK,bL,bM,au,Act.put,bN,bO,bP,Nat.reduceAdd,Nat.zero_add]
       case' YZ=>simp only[show u 2=_ from i 2]
       case' XA=>simp only[show u 3=_ from i 3]
       case XB=>
        simp only[show u 4=_ from i 4];clear i n m k;refine aj ?_;have q:=j.an (J.out.an d0.out (fun x=>x)) (fun x=>x);go_simp;exact⟨_,rfl,al⟩
       case XC=>
        simp only[show u 0=_ from i 0,show u 1=_ from i 1,show u 5=_ from i 5];clear i n m k;refine aj ?_;go_simp;refine(fw _ az S l R g nm v (a1.out.aq (J.out.trans j)) (aD.out.aq (J.out.trans j)) (aV.out.aq (J.out.trans j)) (by have A:=t.out;have B:=s.out;simp only[Tr.size,Tr.bytes]at A B⊢;omega) (by have A:=t.out;have B:=s.out;simp only[Tr.size,Tr.bytes]at A B⊢;omega)).mono ?_;rintro e Q⟨a,rfl,o,f4⟩;exact⟨_,rfl,f4.bI,⟨a,rfl,o⟩,trivial⟩
       case' XD=>simp only[show u 8=_ from i 8]
       case' xG=>simp only[show u 9=_ from i 9]
       case xH=>
        simp only[show u 10=_ from i 10];clear i n m k;refine aj ?_;have q:=j.an (J.out.an d1.out (fun x=>x)) (fun x=>x);go_simp;exact⟨_,rfl,al⟩
       case' xI=>simp only[show u 13=_ from i 13]
       case' xJ=>simp only[show u 14=_ from i 14]
       case xK=>
        simp only[show u 15=_ from i 15];clear i n m k;refine aj ?_;have q:=j.an (J.out.an aw.out (fun x=>x)) (fun x=>x);go_simp;exact⟨_,rfl,al⟩
       case xL=>
        simp only[show u 11=_ from i 11,show u 12=_ from i 12,show u 16=_ from i 16];clear i n m k;refine aj ?_;go_simp;refine(fw _ U P T rr F M ao (aF.out.aq (J.out.trans j)) (aK.out.aq (J.out.trans j)) (bo.out.aq (J.out.trans j)) (by have A:=t.out;have B:=s.out;simp only[Tr.size,Tr.bytes]at A B⊢;omega) (by have A:=t.out;have B:=s.out;simp only[Tr.size,Tr.bytes]at A B⊢;omega)).mono ?_;rintro e Q⟨a,rfl,o,f4⟩;exact⟨_,rfl,f4.bI,⟨a,rfl,o⟩,trivial⟩
       case xM=>
        obtain⟨bb,bd,n6⟩:=i 6;obtain⟨aL,aN,aT⟩:=i 17;simp only[bd,show u 7=_ from i 7,aN];clear i n m k;refine aj ?_;go_simp;refine(fw _ bb aL (.node l nm v R) (.node T M ao rr) K G V n6 aT (a5.out.aq (J.out.trans j)) (by have A:=t.out;have B:=s.out;simp only[Tr.size,Tr.bytes]at A B⊢;omega) (by have A:=t.out;have B:=s.out;simp only[Tr.size,Tr.bytes]at A B⊢;omega)).mono ?_;rintro e Q⟨a,rfl,o,f4⟩;exact⟨_,rfl,f4.bI,⟨a,rfl,o⟩,trivial⟩
       case xN=>
        obtain⟨a8,aO,aU⟩:=i 18;simp only[aO];clear i n m k;refine aj ?_;go_simp;exact⟨_,rfl,aA,⟨_,rfl,aU⟩,trivial⟩
       all_goals
        clear i n m k;refine aj ?_;go_simp;exact⟨_,rfl,al⟩
      ·intro u w' j i k;obtain⟨ba,ac,am⟩:=i 19 (by omega);clear i k;simp only[bJ,bK,bL,bM,au,Act.put,bN,bO,bP,dL,dM,Nat.reduceAdd,Nat.zero_add,ac];have ap:=af (J.out.trans j);have ar:=af am;clear j am ac;go_wp2;go_ret;exact⟨_,_,rfl,ar.out,by simp[Tr.bA],ap.out⟩
   ·have bz:decide (d<(-1:Int))=false:=decide_eq_false a3;clear aW a3;go_upto_region 7 with fail;refine aE 16 ag [Is (.int .i64 d),Is (.bool false),Is (.bool false),Is (undef),Is (undef),Is (undef),Is (undef),Is (undef),Is (undef),Is (undef),Is (undef),Is (undef),Is (undef),Is (undef),Is (.bool false),Is (.bool false)] [] (fun _=>True) (fun _ _=>false) (by kernel_rfl) (by kernel_rfl) (by kernel_rfl) (by kernel_rfl) ⟨Is.ah _,Is.ah _,Is.ah _,Is.ah _,Is.ah _,Is.ah _,Is.ah _,Is.ah _,Is.ah _,Is.ah _,Is.ah _,Is.ah _,Is.ah _,Is.ah _,Is.ah _,Is.ah _,trivial⟩ trivial (fun _ _ _ _ h=>h) trivial ?_ ?_
    ·refine⟨?XE,?zG,?zH,?zI,?zJ,?zK,?zL,?zM,?zN,?zO,?zA,?zB,?zC,?zD,?zE,?zF,trivial⟩;all_goals intro u w' d j i n m k
     all_goals simp only[bJ,bK,bL,bM,au,Act.put,bN,bO,bP,Nat.reduceAdd,Nat.zero_add]
     case' zG=>simp only[show u 0=_ from i 0]
     case' zH=>simp only[show u 1=_ from i 1]
     case zI=>simp only[show u 2=_ from i 2];exact .inr ⟨by kernel_rfl,_,rfl,aA,rfl,trivial⟩
     case zJ=>simp only[show u 2=_ from i 2];exact .inr ⟨by kernel_rfl,_,rfl,aA,rfl,trivial⟩
     case zK=>simp only[show u 2=_ from i 2];exact .inr ⟨by kernel_rfl,_,rfl,aA,rfl,trivial⟩
     case zL=>simp only[show u 2=_ from i 2];exact .inr ⟨by kernel_rfl,_,rfl,aA,rfl,trivial⟩
     case zM=>simp only[show u 2=_ from i 2];exact .inr ⟨by kernel_rfl,_,rfl,aA,rfl,trivial⟩
     case zN=>simp only[show u 2=_ from i 2];exact .inr ⟨by kernel_rfl,_,rfl,aA,rfl,trivial⟩
     case zO=>simp only[show u 2=_ from i 2];exact .inr ⟨by kernel_rfl,_,rfl,aA,rfl,trivial⟩
     case zA=>simp only[show u 2=_ from i 2];exact .inr ⟨by kernel_rfl,_,rfl,aA,rfl,trivial⟩
     case zB=>simp only[show u 2=_ from i 2];exact .inr ⟨by kernel_rfl,_,rfl,aA,rfl,trivial⟩
     case zC=>simp only[show u 2=_ from i 2];exact .inr ⟨by kernel_rfl,_,rfl,aA,rfl,trivial⟩
     case zD=>simp only[show u 2=_ from i 2];exact .inr ⟨by kernel_rfl,_,rfl,aA,rfl,trivial⟩
     case' zE=>simp only[show u 2=_ from i 2,show u 13=_ from i 13]
     case' zF=>simp only[show u 14=_ from i 14]
     all_goals
      clear i n m k;refine aj ?_;go_simp;exact⟨_,rfl,al⟩
    ·intro u w' j i k;have C:u 15=_:=i 15 (by omega);clear i k;simp only[bJ,bK,bL,bM,au,Act.put,bN,bO,bP,dL,dM,Nat.reduceAdd,Nat.zero_add,C];have J:=af (D.out.trans j);clear j C;go_wp2_with fail;refine(fw _ az aB l r g nm v (a1.out.aq J.out) (a2.out.aq J.out) (aV.out.aq J.out) (by have A:=t.out;omega) (by have B:=s.out;omega)).mono ?_;rintro e Q⟨a,rfl,o,f4⟩;have ar:=af o;have ap:=af (J.out.trans f4);clear o f4;go_wp2;go_ret;exact⟨_,_,rfl,ar.out,by simp[Tr.bA],ap.out⟩
end Go.Proofs.YtphjagkehiklkaaGreatDoor
namespace Go.Proofs.YtphjagkehiklkaaGreatDoor
open Go.RowKit
def Eh(ops:Array Oper)(n:Nat)(kill:Nat→Nat→Bool)(i j:Nat):Bool:=(List.range n).all fun k=>!kill k j||k==i||Region.waitsFor .any ops k i
def Ey(ops:Array Oper)(n:Nat)(wr:Nat→Bool)(i:Nat):Bool:=(List.range n).all fun k=>!wr k||k==i||Region.waitsFor .any ops k i
def su(kill:Nat→Bool)(u:Nat→Value)(w' a:World):Nat→List Fact→Prop
 |_,[]=>True
 |j,f::r=>(kill j=false→f.p (u j) w'→f.p (u j) a)∧su kill u w' a (j+1) r
theorem su.at_{kill:Nat→Bool}{u:Nat→Value}{w' a:World}:∀{V:List Fact}{k:Nat},su kill u w' a k V→∀j,kill (k+j)=false→(V.getD j lh).p (u (k+j)) w'→(V.getD j lh).p (u (k+j)) a
 |[],_,_,_,_,_=>trivial
 |_::_,_,h,0,b,c=>h.1 b c
 |_::r,k,h,j+1,b,c=>by
  have e:k+(j+1)=k+1+j:=by omega
  rw[e]at b c⊢;exact su.at_ (V:=r) h.2 j b c
def Hp(b:Bool)(T:Nat→Prop)(w:World)(S:World→Prop)(a:Act)(d:Option Tmp)(w':World)(p:Value→World→Prop)(e:Act)(c:World):Prop:=
 ∃v,e=a.put d v∧(match b with|true=>Fr T w c∧S c|false=>Fr ag w' c)∧p v c
def q9(P:Program)(ops:Array Oper)(Q:Exit→Act→World→Prop)(n:Nat)(T:Nat→Prop)(wr:Nat→Bool)(kill:Nat→Nat→Bool)(w:World)(F:(Nat→Value)→Act)(V:List Fact):Nat→List Oper→Prop
 |_,[]=>True
 |i,b::r=>(∀u w',Fr T w w'→(∀j,(_:Region.waitsFor .any ops i j=true:=by kernel_rfl)→(_:Eh ops n kill i j=true:=by kernel_rfl)→(V.getD j lh).p (u j) w')→((_:Ey ops n wr i=true:=by kernel_rfl)→Fr ag w w')→
   mY P ops Q b (F u) w' (Hp (wr i) T w (fun a=>su (fun j=>kill i j||j==i||Region.waitsFor .any ops j i) u w' a 0 V) (F u) b.dst w' (V.getD i lh).p))∧q9 P ops Q n T wr kill w F V (i+1) r
theorem q9.at_{P:Program}{ops:Array Oper}{Q:Exit→Act→World→Prop}{n:Nat}{T:Nat→Prop}{wr:Nat→Bool}{kill:Nat→Nat→Bool}{w:World}{F:(Nat→Value)→Act}{V:List Fact}:
  ∀{l:List Oper}{k:Nat},q9 P ops Q n T wr kill w F V k l→∀i d,l[i]? =some d→∀u w',Fr T w w'→(∀j,Region.waitsFor .any ops (k+i) j=true→Eh ops n kill (k+i) j=true→(V.getD j lh).p (u j) w')→(Ey ops n wr (k+i)=true→Fr ag w w')→
   mY P ops Q d (F u) w' (Hp (wr (k+i)) T w (fun b=>su (fun j=>kill (k+i) j||j==(k+i)||Region.waitsFor .any ops j (k+i)) u w' b 0 V) (F u) d.dst w' (V.getD (k+i) lh).p)
 |[],_,_,_,_,h=>by simp at h
 |c::r,k,h,0,d,a=>by
  have:c=d:=by simpa using a
  subst this;exact h.1
 |c::r,k,h,i+1,d,a=>by
  have:=q9.at_ h.2 i d (by simpa using a);rw[show k+1+i=k+(i+1)by omega]at this;exact this
theorem mT{b:Bool}{p:Prop}(a:b=true:=by kernel_rfl):b=false→p:=fun h=>by rw[a]at h;cases h
structure K7(w:World)(n:Nat)(T:Nat→Prop)(wr:Nat→Bool)(kill:Nat→Nat→Bool)(V:List Fact)(d:Nat→Bool)(u:Nat→Value)(w':World):Prop where
 fr:Fr T w w'
 quiet:(∀k,k<n→d k=true→wr k=false)→Fr ag w w'
 facts:∀j,j<n→d j=true→(∀k,k<n→d k=true→kill k j=false)→(V.getD j lh).p (u j) w'
theorem DW{P:Program}{id:Nat}{Q:Exit→Act→World→Prop}{a:Act}{w:World}{l:List Oper}(n:Nat)(T:Nat→Prop)(wr:Nat→Bool)(kill:Nat→Nat→Bool)(V:List Fact)
  (aa:q9 P l.toArray Q n T wr kill w (fun u=>au ((l.take n).map (·.dst)) 0 u a) V 0 (l.take n))
  (N:∀u w',Fr T w w'→(∀j,j<n→(_:((List.range n).all fun k=>!kill k j)=true:=by kernel_rfl)→(V.getD j lh).p (u j) w')→wpList P l.toArray Q (l.drop n) (au ((l.take n).map (·.dst)) 0 u a) w')
  (hm:P.follows .mixedOrders=true:=by kernel_rfl)(Z:rT l.toArray n=true:=by kernel_rfl):(Code.region id l.toArray true).wp P Q a w:=by
 have ok:=rI.of Z;obtain⟨ae,O⟩:=gF ((l.take n).map (·.dst)) 0 a;refine wp_region_any hm ?_;have H:HeadInv .any l.toArray n (Array.replicate l.toArray.size false):=
  ⟨by simp,fun j ah _ U=>(by rw[getD_replicate_false]at U;cases U),fun t _ N=>getD_in (by simpa using N) (getD_replicate_false _ _)⟩;have X:ck (fun j=>!(Array.replicate l.toArray.size false).getD j false) n=n:=by
  have h:∀m,ck (fun j=>!(Array.replicate l.toArray.size false).getD j false) m=m:=by
   intro m;induction m with
   |zero=>rfl
   |succ m ad=>rw[ck,ad,getD_replicate_false];rfl
  exact h n
 have:=yB (P:=P) (Q:=Q) (a:=a) ok (K7 w n T wr kill V) ?_ ?_ n _ ae w.drew H X ⟨aA.drew,fun _=>aA.drew,fun j _ h=>(by rw[getD_replicate_false]at h;cases h)⟩;·rw[show(l.toArray.toList.take n).map (·.dst)=(l.take n).map (·.dst)by simp,O,show n+(l.toArray.size-n)=l.toArray.size by have:=ok.le;omega]at this;exact this
 ·intro i o A ab d u w' r c s y;have M:(l.take n)[i]? =some o:=by rw[List.getElem?_take,if_pos A];simpa using ab
  have F:=aa.at_ i o M u w' y.fr (fun j g S=>by
   rw[Nat.zero_add]at g S;refine y.facts j (s j g).2 (s j g).1 (fun k q f=>?_);have h:=List.all_eq_true.1 S k (List.mem_range.2 q);simp only[Bool.or_eq_true,Bool.not_eq_true',beq_iff_eq]at h;rcases h with(h|h)|h;·exact h
   ·subst h;rw[r]at f;cases f
   ·have:=c k i f h;rw[r]at this;cases this) (fun G=>by
   rw[Nat.zero_add]at G;refine y.quiet (fun k q f=>?_);have h:=List.all_eq_true.1 G k (List.mem_range.2 q);simp only[Bool.or_eq_true,Bool.not_eq_true',beq_iff_eq]at h;rcases h with(h|h)|h;·exact h
   ·subst h;rw[r]at f;cases f
   ·have:=c k i f h;rw[r]at this;cases this);rw[Nat.zero_add]at F;have E:(l.toArray.toList.take n).map (·.dst)=(l.take n).map (·.dst):=by simp
  rw[E];refine fJ ?_ F;rintro ag af⟨v,rfl,b,W⟩;refine⟨v,rfl,?_⟩;have J:∀j,j≠i→dI u i v j=u j:=fun j g=>by simp[dI,g]
  have z:dI u i v i=v:=by simp[dI]
  have setne:∀j,j≠i→gG d i j=d j:=fun j g=>by simp[gG,g]
  have x:gG d i i=true:=by simp[gG]
  have I:∀j,j<n→j≠i→gG d i j=true→(∀k,k<n→gG d i k=true→kill k j=false)→(V.getD j lh).p (u j) w':=fun j g L f q=>
   y.facts j g (by rw[←setne j L];exact f) (fun k B K=>q k B (by
    by_cases e:k=i;·rw[e];exact x
    ·rw[setne k e];exact K));cases D:wr i
  ·rw[D]at b;refine⟨y.fr.trans (Fr.bI b),fun C=>(y.quiet (fun k q f=>C k q (by by_cases e:k=i<;>simp[gG,e,f]))).trans b,fun j g f q=>?_⟩;by_cases e:j=i;·subst e;rw[z];exact W
   ·rw[J j e];exact(V.getD j lh).st _ _ _ b (I j g e f q)
  ·rw[D]at b;obtain⟨Y,ac⟩:=b;refine⟨Y,fun C=>(by have:=C i A x;rw[D]at this;cases this),fun j g f q=>?_⟩;by_cases e:j=i;·subst e;rw[z];exact W
   ·rw[J j e];have:=ac.at_ j (by
     simp only[Nat.zero_add];rw[q i A x,Bool.false_or,Bool.or_eq_false_iff];refine⟨kI e,?_⟩;cases R:Region.waitsFor .any l.toArray j i;·rfl
     ·have:=c j i (by rw[←setne j e];exact f) R;rw[r]at this;cases this);rw[Nat.zero_add]at this;exact this (I j g e f q)
 ·intro d u w' f y;have:=N u w' y.fr (fun j g q=>y.facts j g (f j g) (fun k B _=>by
   have h:=List.all_eq_true.1 q k (List.mem_range.2 B);simpa using h));simpa using this
def dG(s:ByteArray):List UInt8:=s.data.toList
theorem cW(s:ByteArray):(dG s).length=s.size:=by simp[dG]
structure gH(W w:World)(v:Value)(l:List UInt8):Prop where
 fr:Fr ag W w
 row:∃g cap,v= .slice (some ⟨g,0,none⟩) l.length cap∧W.heap.size≤g∧g<w.heap.size∧l.length≤cap∧cap≤maxLen∧(∀j,j<cap→(w.cell? ⟨g,j,none⟩).isSome=true)∧
  (∀j,j<cap→w.frozen? ⟨g,j,none⟩=false)∧(∀j u,(l.map aT)[j]? =some u→w.cell? ⟨g,j,none⟩=some u)
theorem xq:(Tryz.prog.info? 5).map (fun i=>(i.zero,i.size,i.bytes))=some (some (.int .u8 0),1,1):=by kernel_rfl
theorem gH.conv(w:World)(s:ByteArray)(f:s.size≤1099511627776):∃v w1,(convert 9 61 (.string s)).run Tryz.prog w= .ok v w1∧gH w w1 v (dG s):=by
 have b:=grownCap_ge w s.size 0 5;have d:(Lib.bytesCells w 5 s).size=grownCap w s.size 0 5:=by
  simp only[Lib.bytesCells,Array.size_append,Array.size_map,Array.size_replicate];show s.size+_=_;omega
 refine⟨_,_,Lib.run_convert_string_bytes w 9 61 5 s Tryz.underlying9 Tryz.underlying61 Tryz.underlying5,⟨rfl,rfl,rfl,by rw[Lib.bytesWorld_size];omega,fun k e _=>Lib.bytesWorld_at_old w _ s k e⟩,w.heap.size,_,by rw[cW],Nat.le_refl _,by rw[Lib.bytesWorld_size];omega,by rw[cW];exact b,grownCap_le_maxLen w s.size 0 _ (by simp only[maxLen];omega),fun j a=>?_,fun j a=>?_,fun j u hu=>?_⟩
 ·simp only[World.cell?,Lib.bytesWorld_at_new];have:j<(Lib.bytesCells w 5 s).size:=by omega
  simp[this]
 ·simp only[World.frozen?,Lib.bytesWorld_at_new,d];simp;omega
 ·rw[List.getElem?_map]at hu;cases a:(dG s)[j]? with
  |none=>rw[a]at hu;cases hu
  |some x=>
   rw[a]at hu;simp only[Option.map_some,Option.some.injEq]at hu;have c:j<s.size:=by rw[←cW];exact(List.getElem?_eq_some_iff.1 a).1
   rw[Lib.bytesWorld_cell w _ s j c];unfold dG at a;rw[List.getD_eq_getElem?_getD,a,←hu];rfl
theorem gH.gO{W w:World}{base:Nat}{v:Value}{l:List UInt8}(h:w.ownsRow base 5 1 v l.length (l.map aT))(s:W.heap.size≤base)(p:Fr ag W w)(q:l≠[]):gH W w v l:=by
 rcases h.2 with⟨rfl,m⟩|⟨g,cap,cur,rfl,n,a,f,c,o,i⟩
 ·cases l with
  |nil=>exact absurd rfl q
  |cons x r=>simp at m
 ·have e:g<w.heap.size:=by
   rcases Nat.lt_or_ge g w.heap.size with b|b;·exact b
   ·rw[Array.getElem?_eq_none b]at a;cases a
  refine⟨p,g,cap,rfl,by omega,e,f,c,fun j t=>?_,fun j _=>by simp[World.frozen?,a],fun j u hu=>?_⟩
  ·have d:j<cur.size:=by omega
   simp[World.cell?,a,d]
  ·have k:=h.cells (g:=g) rfl j u hu;rw[show(⟨g,0,none⟩:Addr).add j=⟨g,j,none⟩by unfold Addr.add;split<;>simp_all]at k;exact k
end Go.Proofs.YtphjagkehiklkaaGreatDoor
namespace Go.Proofs.YtphjagkehiklkaaGreatDoor
open Go.RowKit
theorem Hz(l:List UInt8):∀(s:ByteArray),(l.map (fun b:UInt8=>(b.toNat:Int))).foldl (fun r n=>r.push (UInt8.ofNat n.toNat)) s=⟨(s.data.toList++l).toArray⟩:=by
 induction l with
 |nil=>intro s;simp
 |cons b l a=>
  intro s;simp only[List.map_cons,List.foldl_cons];rw[a];congr 1;have e:UInt8.ofNat (Int.toNat (b.toNat:Int))=b:=by simp
  rw[e];simp[ByteArray.push]
theorem mV{P:Program}(w:World)(src dst e:TypeId)(q:P.underlying src=some (.slice e))(he:P.underlying e=some (.int .u8))(p:P.underlying dst=some .string)
  (S:Nat→Prop)(A:Option Addr)(n c:Nat)(l:List UInt8)(f:Rd w S 1 A n (l.map aT)):(convert src dst (.slice A n c)).run P w= .ok (.string ⟨l.toArray⟩) w:=by
 rw[run_convert_bytes_string w src dst e A n c q he p];have d:l.length=n:=by simpa using f.1
 rcases A with _|a
 ·have:l=[]:=by
   rcases Nat.eq_zero_or_pos n with h|h;·exact List.eq_nil_of_length_eq_zero (d.trans h)
   ·obtain⟨a,e,_⟩:=f.2 h;cases e
  subst this;rfl
 ·have o:∀j v,(l.map aT)[j]? =some v→w.cell? (a.add j)=some v:=by
   intro j v i;rcases Nat.eq_zero_or_pos n with h|h;·have:l=[]:=List.eq_nil_of_length_eq_zero (d.trans h);subst this;simp at i
   ·obtain⟨k,e,_,m⟩:=f.2 h;injection e with e;subst e;exact m j v i
  have g:=run_loadCells_list (P:=P) w a (l.map aT) o;rw[List.length_map,d]at g;rw[run_bytesToString w a n c (l.map (fun b:UInt8=>(b.toNat:Int))) (by rw[g];simp[aT,Function.comp_def])];rw[Hz];rfl
abbrev Bl(w:World)(v:Value)(w':World)(a:Value)(l:List UInt8):Prop:=bW 5 1 w v w' a l.length (l.map aT)
theorem wT(s:ByteArray):Lib.strCells s=(dG s).map aT:=rfl
theorem jx(l:List UInt8):∀u∈l.map aT,u.oneCell'=true:=by
 intro u hu;obtain⟨b,_,rfl⟩:=List.mem_map.1 hu;rfl
theorem Aj(n:Nat):aT (ik n)= .int .u8 ((n%256:Nat):Int):=by
 unfold aT ik;rw[UInt8.toNat_ofNat']
def mX(s:ByteArray):Value:= .string s
def ee(tag:UInt8)(a:List ByteArray)(k:Nat):List UInt8:=tag::ik a.length::(a.take k).flatMap fun p=>de p.size++dG p
theorem sE(tag:UInt8)(a:List ByteArray)(k:Nat)(p:ByteArray)(h:a[k]? =some p):ee tag a (k+1)=ee tag a k++de p.size++dG p:=by
 unfold ee;rw[List.take_add_one,h];simp[List.flatMap_append]
theorem ua(tag:UInt8)(a:List ByteArray)(k:Nat)(h:a.length≤k):ee tag a k=dc tag (a.map dG):=by
 unfold ee dc;rw[List.take_of_length_le h,List.length_map];congr 2;rw[List.flatMap_map];congr 1
def Joined(w:World)(s:ByteArray)(e:Ending)(w':World):Prop:=e= .returned (.tuple #[.string s, .int .i64 0])∧Fr ag w w'
theorem Cm(n:Nat)(h:n<4294967296):[Value.int .u8 ((n:Int)/16777216), .int .u8 ((n:Int)/65536%256), .int .u8 ((n:Int)/256%256), .int .u8 ((n:Int)%256)]=(de n).map aT:=by
 unfold de;simp only[List.map_cons,List.map_nil,Aj];rw[show((n/16777216%256:Nat):Int)=(n:Int)/16777216 by omega,show((n/65536%256:Nat):Int)=(n:Int)/65536%256 by omega,show((n/256%256:Nat):Int)=(n:Int)/256%256 by omega,show((n%256:Nat):Int)=(n:Int)%256 by omega]
end Go.Proofs.YtphjagkehiklkaaGreatDoor
namespace Go.Proofs.YtphjagkehiklkaaGreatDoor
open Go.RowKit
theorem Bq(tag:UInt8)(a:List ByteArray)(k:Nat)(p:ByteArray)(h:a[k]? =some p):(ee tag a (k+1)).length=(ee tag a k).length+(4+p.size):=by
 rw[sE tag a k p h,aY,aY,cW];have:(de p.size).length=4:=rfl;omega
theorem wX(tag:UInt8)(a:List ByteArray)(A:Option Addr)(n c:Nat)(S:Nat→Prop)(w:World)(R:Rd w S 1 A n (a.map mX))(au:n≤255)(ac:∀k,(ee tag a k).length≤1099511627776)(ab:∀p∈a,p.size<4294967296):
  Calls Tryz.prog 125 #[aT tag, .slice A n c] w (Joined w ⟨(dc tag (a.map dG)).toArray⟩):=by
 obtain⟨i0,M,g,j,l⟩:=info_parts xq;have aa:=af R;have z:Hid (a.length=n):=by have:=R.1;simpa[Hid]using this
 have I:=af ac;have ah:=af ab;have ai:Hid (dc tag (a.map dG)=ee tag a n):=(ua tag a n (by rw[z.out];exact Nat.le_refl _)).symm;generalize C:(⟨(dc tag (a.map dG)).toArray⟩:ByteArray)=RS at*;have O:=af C;clear C;clear R ac ab;unfold aT;have ar:decide ((255:Int)<(n:Int))=false:=cN (by omega);go_enter Tryz.func125,Tryz.ntmps125;go_wp2;go_loopw[18,6](fun i sz wr=>∃k:Nat,k≤n∧i= .int .i64 k∧sz= .int .i64 ((ee tag a k).length:Nat)∧wr=w)(fun i _ _=>n-(intOf i).toNat);case atStart=>exact⟨0,by omega,rfl,rfl,rfl⟩
 case round=>
  obtain⟨k,s,rfl,rfl,rfl⟩:=hrel;by_cases f:k<n
  ·obtain⟨al,u,rfl,_,hu,b⟩:=aa.out.at_ f;obtain⟨p,t,rfl⟩:∃p,a[k]? =some p∧u=mX p:=by
    rw[List.getElem?_map]at hu;cases h:a[k]? with
    |none=>rw[h]at hu;cases hu
    |some p=>rw[h]at hu;exact⟨p,rfl,(Option.some.inj hu).symm⟩
   have B:=af (Bq tag a k p t);have J:=I.out (k+1);rw[B.out]at J;unfold mX at b;clear hu t;have V:(k:Int)<(n:Int):=by omega
   generalize(ee tag a k).length=L at*;go_wp2;go_roundw;case rel=>exact⟨k+1,by omega,by go_num,by rw[B.out];go_num,by first|rfl|trivial⟩
   case measure=>simp[intOf];omega
  ·have D:decide ((k:Int)<(n:Int))=false:=cN (by omega);have E:decide (k<n)=false:=cN (by omega);have J:=I.out k;obtain⟨Z,ad⟩:∃Z,Z=(ee tag a k).length:=⟨_,rfl⟩;rw[←ad]at J⊢;clear ad s f;go_wp2_with(at_make;refine wpList_make_own _ rfl _ _ 61 rfl 0 5 i0 (.int .u8 0) 1 Tryz.underlying61 M g j _ _ _ Z rfl rfl ?zC ?zA ?zB (Nat.zero_le _) ?_);case zC=>rfl
   case zA=>rw[l];omega
   case zB=>unfold maxLen;omega
   intro w1 o G;have X:Hid (Fr ag wr w1):=(Fr.grown G).mono (fun k _ s=>by cases s);have H1:=af o;clear o G;go_wp2_with(at_builtin;refine dE _ rfl _ _ 61 rfl 5 i0 _ 1 1 Tryz.underlying61 M g j l rfl (by omega) _ _ _ rfl H1.out 2 _ _ rfl rfl rfl ?zD ?zE (by omega) ?_);case zD=>simp[Value.oneCell']
   case zE=>omega
   intro v2 w2 d;have Y:Hid (Bl wr (.slice none 0 0) w2 v2 (ee tag a 0)):=by
    have e:(ee tag a 0).map aT=[Value.int .u8 (tag.toNat:Int), .int .u8 (n:Int)]:=by
     show[aT tag,aT (ik a.length)]=_;rw[Aj,z.out,Nat.mod_eq_of_lt (by omega)];rfl
    have h:=bW.fresh X.out (fun k s=>by simp[Value.ownBlock]at s;omega) d;simp only[Hid,Bl];rw[e];simpa[ee]using h
   clear d H1 X;obtain⟨w,hw⟩:∃x,x=wr:=⟨_,rfl⟩;subst hw;clear D E J;go_wp2;go_loopw[9,39](fun v i wr=>∃k:Nat,k≤n∧i= .int .i64 k∧Bl w (.slice none 0 0) wr v (ee tag a k))(fun _ i _=>n-(intOf i).toNat);case atStart=>exact⟨0,by omega,rfl,Y.out⟩
   case round=>
    obtain⟨k,s,rfl,U⟩:=hrel;have q:=af U;obtain⟨N,n1,zA,rfl,Q,_⟩:=aW U.own;clear U Y;by_cases f:k<n
    ·obtain⟨al,u,rfl,_,hu,r⟩:=aa.out.at_ f;obtain⟨p,t,rfl⟩:∃p,a[k]? =some p∧u=mX p:=by
      rw[List.getElem?_map]at hu;cases h:a[k]? with
      |none=>rw[h]at hu;cases hu
      |some p=>rw[h]at hu;exact⟨p,rfl,(Option.some.inj hu).symm⟩
     have B:=af (sE tag a k p t);have W:p.size<4294967296:=ah.out p (List.mem_of_getElem? t);have aj:=af (I.out k);have m:Hid ((ee tag a k).length+4+p.size≤1099511627776):=by
      have h:=I.out (k+1);rw[B.out,aY,aY,cW]at h;simp only[Hid];have:(de p.size).length=4:=rfl;omega
     unfold mX at r;have b:=q.out.aq.an r (fun x=>x);clear hu t;have V:(k:Int)<(n:Int):=by omega
     go_wp2_with(at_builtin;refine dE _ rfl _ _ 61 rfl 5 i0 _ 1 1 Tryz.underlying61 M g j l rfl (by omega) _ _ _ rfl q.out.own 4 _ _ rfl rfl rfl ?f1 ?f2 (by omega) ?_);case f1=>simp[Value.oneCell']
     case f2=>have:=m.out;omega
     intro v2 w2 d;have y:Hid (Bl w (.slice none 0 0) w2 v2 (ee tag a k++de p.size)):=by
      have h:=q.out.trans d;rw[Cm p.size W]at h;simpa[Hid,Bl,de]using h
     obtain⟨ao,av,zB,rfl,ak,_⟩:=aW y.out.own;have K:=y.out.aq.an r (fun x=>x);clear d b q;go_wp2_with(at_builtin;refine lU _ rfl _ _ 61 9 rfl 5 i0 Tryz.underlying61 Tryz.underlying9 M g j l _ _ _ rfl y.out.own p rfl ?f3 ?_);case f3=>
      have:=m.out;have ap:(de p.size).length=4:=rfl;rw[aY];omega
     intro v3 am F;have ae:Hid (Bl w (.slice none 0 0) am v3 (ee tag a (k+1))):=by
      have h:=y.out.trans F;rw[wT]at h;simp only[Hid];rw[B.out];simpa[Bl,cW,Nat.add_assoc]using h
     clear F y;go_wp2;go_roundw;case rel=>exact⟨k+1,by omega,by go_num,ae.out⟩
     case measure=>simp[intOf];omega
    ·have D:decide ((k:Int)<(n:Int))=false:=cN (by omega);have E:decide (k<n)=false:=cN (by omega);rw[show k=n by omega]at q;have H:Rd wr (gj (.slice N n1 zA)) 1 N n1 ((ee tag a n).map aT):=by
      have h:=q.out.own;have e:n1=(ee tag a n).length:=by have:=Q.out;rw[show k=n by omega]at this;exact this
      rw[←e]at h;exact Rd.gO h
     have T:=mV (P:=Tryz.prog) wr 61 9 5 Tryz.underlying61 Tryz.underlying5 Tryz.underlying9 _ N n1 zA _ H;rw[←ai.out,O.out]at T;clear H;go_wp2;go_ret2;exact⟨rfl,q.out.aq⟩
theorem vP{P:Program}{ops:Array Oper}{rest:List Oper}{p:Oper}{a:Act}{w:World}{Q:Exit→Act→World→Prop}(e:p.guard=none)(ty:TypeId)(x:Operand)(m:p.op= .load ty x)
  (b f:Nat)(o:a.eval x= .pointer (some ⟨b,f,none⟩))(i:TypeInfo)(g:P.info? ty=some i)(c:∀w,(isAgg ty).run P w= .ok true w)(d:List Value)(n:d.length=i.size)
  (l:∀k v,d[k]? =some v→w.cell? ⟨b,f+k,none⟩=some v)
  (h:wpList P ops Q rest (a.put p.dst (.agg d.toArray)) w):wpList P ops Q (p::rest) a w:=by
 refine wpList_plain e fun K j=>?_;unfold Oper.wp execOp;simp only[m,o,Instr.loadAt,Instr.sureAddr,Sem.run_bind,Sem.run_pure,Result.andThen_ok,Lib.rl_loadVar_cells ty i g c b f d n w l];exact j _ _ h
theorem tC{P:Program}{ops:Array Oper}{rest:List Oper}{u:Oper}{a:Act}{w:World}{Q:Exit→Act→World→Prop}(g:u.guard=none)(ty:TypeId)(x y:Operand)(o:u.op= .store ty x y)
  (b f:Nat)(q:a.eval x= .pointer (some ⟨b,f,none⟩))(j:TypeInfo)(i:P.info? ty=some j)(c:List Value)(r:a.eval y= .agg c.toArray)(p:c.length=j.size)(l:∀v∈c,v.oneCell'=true)
  (t:TypeId)(cs:List Value)(e:ao w b t cs.toArray)(n:f+c.length≤cs.length)
  (h:∀w',ao w' b t (cs.take f++c++cs.drop (f+c.length)).toArray→Fr (fun k=>k=b) w w'→wpList P ops Q rest (a.put u.dst undef) w'):wpList P ops Q (u::rest) a w:=by
 refine wpList_plain g fun K m=>?_;have d:=Lib.rl_storeVar_cells (P:=P) ty j i b f c p l w (fun k s=>by
  rw[e.cell,bD,List.getElem?_eq_getElem (by omega)];rfl) (fun k _=>e.frozen _);unfold Oper.wp execOp;simp only[o,q,r,Instr.storeAt,Instr.sureAddr,Sem.run_bind,Sem.run_pure,Result.andThen_ok,d];exact m _ _ (h _ (ao.setCells c f w cs e n) (Fr.setCells (T:=fun k=>k=b) (fun _=>rfl) c f w (Fr.refl _ w)))
structure bH(w:World):Prop where
 init:∀j u,(fA dP)[j]? =some u→w.cell? ⟨1,j,none⟩=some u
 kk:∀j,j<64→w.cell? ⟨2,j,none⟩=some (jC (sV[j]?.getD 0))
theorem bH.fr{w w':World}{T:Nat→Prop}(h:bH w)(a:Fr T w w')(b:¬T 1)(c:¬T 2):bH w':=
 ⟨fun j u hu=>a.an (h.init j u hu) b,fun j d=>a.an (h.kk j d) c⟩
theorem bH.aq{w w':World}(h:bH w)(a:Fr ag w w'):bH w':=h.fr a (fun x=>x) (fun x=>x)
def gN(n:Nat)(st:cU)(rest:List UInt8):List Value:=[.int .i64 n]++fA st++rest.map aT
theorem pM(n:Nat)(st:cU)(rest:List UInt8)(h:rest.length=64):(gN n st rest).length=73:=by simp[gN,fA,h]
theorem yu(n:Nat)(st a:cU)(rest:List UInt8):(gN n st rest).take 1++fA a++(gN n st rest).drop (1+(fA a).length)=gN n a rest:=rfl
theorem yt(n m:Nat)(st:cU)(rest:List UInt8):(gN n st rest).set 0 (.int .i64 m)=gN m st rest:=rfl
theorem zP(n:Nat)(st:cU)(rest:List UInt8)(a:Nat)(Y:List UInt8):(gN n st rest).take (9+a)++Y.map aT++(gN n st rest).drop (9+a+(Y.map aT).length)=gN n st (cL rest a Y):=by
 have b:([Value.int .i64 n]++fA st).length=9:=rfl;unfold gN cL;generalize[Value.int .i64 n]++fA st=pre at*;rw[←b,List.take_length_add_append,Nat.add_assoc,List.drop_length_add_append];simp[List.map_take,List.map_drop,List.append_assoc]
theorem qc{w:World}{g n:Nat}{st:cU}{rest:List UInt8}(h:ao w g 144 (gN n st rest).toArray)(c:rest.length=64)(j:Nat)(b:j<64):w.cell? ⟨g,9+j,none⟩=some (aT (rest[j]?.getD 0)):=by
 have a:([Value.int .i64 n]++fA st).length=9:=rfl;rw[h.cell,bD,gN,List.getElem?_append_right (by omega),a,Nat.add_sub_cancel_left,List.getElem?_map,List.getElem?_eq_getElem (by omega)];rfl
theorem Jh(w:World):(Go.sizeOf 5).run Tryz.prog w= .ok 1 w:=by kernel_rfl
theorem Jk(t:ByteArray)(n:Nat):dG (t.extract n t.size)=(dG t).drop n:=by
 simp[dG];exact List.take_of_length_le (by rw[List.length_drop];exact Nat.le_refl _)
def strSize:Value→Nat
 | .string t=>t.size
 |_=>0
structure nf(w:World)(g:Nat)(M rest:List UInt8):Prop where
 aF:ao w g 144 (gN M.length (gB dP M (M.length/64)) rest).toArray
 ok:kJ M rest
def KQ(w:World)(g:Nat)(M:List UInt8)(e:Ending)(w':World):Prop:=e= .returned (.int .i64 0)∧Fr (fun k=>k=g) w w'∧∃rest,nf w' g M rest
theorem JP:(Tryz.prog.info? 141).map (fun i=>(i.zero,i.size,i.bytes))=some (some (.agg (fA ⟨0,0,0,0,0,0,0,0⟩).toArray),8,32):=by kernel_rfl
theorem isAgg8(w:World):(isAgg 141).run Tryz.prog w= .ok true w:=by kernel_rfl
theorem BF(s:ByteArray)(g:Nat)(st:cU)(rest:List UInt8)(f:rest.length=64)(w:World)(ae:ao w g 144 (gN 0 st rest).toArray)(aq:bH w)(E:g≠1)(zA:g≠2)(aQ:s.size≤1099511627776)(aJ:1≤s.size):
  Calls Tryz.prog 79 #[.pointer (some ⟨g,0,none⟩), .string s] w (KQ w g (dG s)):=by
 obtain⟨i8,I,_,K,_⟩:=info_parts JP;have ap:=af ae;have Z:=af aq;have V:=af f;have m:Hid (g≠1∧g≠2):=⟨E,zA⟩;have aa:=af (cW s);have ad:w.cell? ⟨g,0,none⟩=some (.int .i64 0):=ae.cell 0;clear ae aq f E zA;generalize F:dG s=N at*;have B:Hid (N=dG s):=F.symm;clear F;go_enter Tryz.func79,Tryz.ntmps79;go_wp2_with(first|(refine vP rfl 141 (.global 1) rfl 1 0 rfl i8 I isAgg8 (fA dP) K.symm (fun k v Q=>by rw[Nat.zero_add];exact Z.out.init k v Q) ?_)|(refine tC rfl 141 _ _ rfl g 1 rfl i8 I (fA dP) rfl K.symm ?zA _ (gN 0 st rest) ap.out ?zB ?_));case zA=>intro v Q;simp only[fA,List.mem_cons,List.not_mem_nil,or_false]at Q;rcases Q with rfl|rfl|rfl|rfl|rfl|rfl|rfl|rfl<;>rfl
 case zB=>rw[pM _ _ _ V.out];simp[fA]
 intro w1 b1 f1;rw[←List.append_assoc,yu]at b1;have ak:Hid (nf w1 g [] rest):=⟨b1,Gd rest V.out⟩;have am:=af f1;clear b1 f1 ad ap V;go_wp2;go_loopw[1](fun v wr=>∃t X rest,v= .string t∧Hid (N=X++dG t)∧t.size≤s.size∧nf wr g X rest∧Fr (fun k=>k=g) w wr)(fun v _=>strSize v);case atStart=>exact⟨s,[],rest,rfl,B.out,Nat.le_refl _,ak.out,am.out⟩
 case round=>
  obtain⟨t,X,rest,rfl,d,aL,O,hF⟩:=hrel;have i:=af O;have ab:=af hF;have C:Hid (X.length+t.size=s.size):=by
   have h:=congrArg List.length d.out;rw[aY,cW,aa.out]at h;simp only[Hid];omega
  have aD:X.length≤1099511627776:=by have:=C.out;omega
  have ad:wr.cell? ⟨g,0,none⟩=some (.int .i64 (X.length:Nat)):=O.aF.cell 0;have f0:wr.frozen? ⟨g,0,none⟩=false:=O.aF.frozen 0;have az:=af (AN dP X xr (X.length/64));clear O hF ak am;by_cases aR:1≤t.size
  ·obtain⟨a,ag⟩:∃a,a=X.length%64:=⟨_,rfl⟩;obtain⟨n,ai⟩:∃n,n=Nat.min t.size (64-a):=⟨_,rfl⟩;have aI:n≤t.size∧n≤64-a∧(n=t.size∨n=64-a):=by
    rw[ai];rcases Nat.le_total t.size (64-a)with h|h;·rw[show Nat.min t.size (64-a)=t.size from Nat.min_eq_left h];exact⟨Nat.le_refl _,h, .inl rfl⟩
    ·rw[show Nat.min t.size (64-a)=64-a from Nat.min_eq_right h];exact⟨h,Nat.le_refl _, .inr rfl⟩
   have au:a<64:=by omega
   have G:((dG t).take n).length=n:=by rw[List.length_take,cW];omega
   have H:=wR (P:=Tryz.prog) wr 61 9 3 5 g (9+a) (64-a) (64-a) t Tryz.underlying61 Jh n ai.symm
    (fun j ah=>by rw[show 9+a+j=9+(a+j)by omega,qc i.out.aF i.out.ok.1 (a+j) (by omega)];rfl) (fun j ah=>i.out.aF.frozen _);have J:(t.data.toList.map fun x=>Value.int .u8 (x.toNat:Int)).take n=((dG t).take n).map aT:=by
    rw[←List.map_take];rfl
   rw[J]at H;have R:=ao.setCells (((dG t).take n).map aT) (9+a) wr _ i.out.aF (by rw[pM _ _ _ i.out.ok.1,List.length_map,G];omega);rw[zP]at R;have an:=Fr.setCells (T:=fun k=>k=g) (a:=w) (fun _=>rfl) (((dG t).take n).map aT) (9+a) wr ab.out;have q:=af R;have z:=af an;have M:=af ag;have D:=af G;have A:Hid (N=(X++(dG t).take n)++dG (t.extract n t.size)):=by
    simp only[Hid];rw[Jk,List.append_assoc,List.take_append_drop];exact d.out
   have o:Hid ((t.extract n t.size).size=t.size-n):=by simp only[Hid];simp
   generalize wr.setCells g (9+a) (((dG t).take n).map aT)=w2 at*;generalize aE:(dG t).take n=Y at*;clear R an J aE;have aA:Hid (bH w2):=Z.out.fr z.out (fun e=>m.out.1 e.symm) (fun e=>m.out.2 e.symm);have d0:w2.cell? ⟨g,0,none⟩=some (.int .i64 (X.length:Nat)):=q.out.cell 0;have aB:w2.frozen? ⟨g,0,none⟩=false:=q.out.frozen 0;have l:Hid (ao (w2.setCell ⟨g,0,none⟩ (.int .i64 ((X.length+n:Nat):Int))) g 144 (gN (X.length+n) (gB dP X (X.length/64)) (cL rest a Y)).toArray):=by
    have h:=q.out.jI 0 (.int .i64 ((X.length+n:Nat):Int));rw[List.setIfInBounds_toArray,yt]at h;exact h
   have r:Hid (Fr (fun k=>k=g) w (w2.setCell ⟨g,0,none⟩ (.int .i64 ((X.length+n:Nat):Int)))):=z.out.setCell (p:=⟨g,0,none⟩) (fun _=>rfl) _;have aN:((X.length:Nat):Int)%64=(a:Int):=by rw[ag];omega
   have aj:((X.length:Nat):Int).tmod 64=(a:Int):=by rw[Int.tmod_eq_emod_of_nonneg (by omega)];exact aN
   have aS:(a:Int)≤64:=by omega
   have aU:(n:Int)≤(t.size:Int):=by omega
   have aV:IntKind.i64.wrap (((X.length:Nat):Int)+(n:Int))=((X.length+n:Nat):Int):=(IntWalk.i64_in _ (by omega)).trans (by omega);have aO:((X.length:Nat):Int)+(n:Int)=((X.length+n:Nat):Int):=by omega
   have aK:(0:Int)<(t.size:Int):=by omega
   have c:Hid (a+n<64→nf (w2.setCell ⟨g,0,none⟩ (.int .i64 ((X.length+n:Nat):Int))) g (X++Y) (cL rest a Y)):=by
    intro h;obtain⟨zA,zB⟩:=Co (X:=Y) i.out.ok (by rw[D.out,←M.out];exact h);rw[←M.out]at zA;refine⟨?_,zA⟩;rw[zB,aY,D.out];exact l.out
   have b:Hid (a+n=64→kJ (X++Y) (cL rest a Y)∧gB dP (X++Y) ((X++Y).length/64)=fN (gB dP X (X.length/64)) (cL rest a Y)∧(X++Y).length=X.length+n):=by
    intro h;obtain⟨zA,zB⟩:=Cn (X:=Y) i.out.ok (by rw[D.out,←M.out];exact h);rw[←M.out]at zA zB;exact⟨zA,zB,by rw[aY,D.out]⟩
   have W:Hid ((cL rest a Y).length=64):=jR i.out.ok.1 (by rw[D.out];omega);generalize cL rest a Y=y at*;generalize gB dP X (X.length/64)=ST at*;generalize X.length=L at*;clear i ab Z ai ag C aj aO;by_cases u:a+n=64
   ·have aM:(((a:Int)+(n:Int))==64)=true:=by rw[beq_iff_eq];omega
    have ax:=af (b.out u);have ac:Hid (bH (w2.setCell ⟨g,0,none⟩ (.int .i64 ((L+n:Nat):Int)))):=aA.out.fr ((Fr.refl (fun k=>k=g) w2).setCell (p:=⟨g,0,none⟩) (fun _=>rfl) _) (fun e=>m.out.1 e.symm) (fun e=>m.out.2 e.symm);clear c b;go_wp2;rw[show(L:Int)+(n:Int)=((L+n:Nat):Int)by omega];generalize w2.setCell ⟨g,0,none⟩ (.int .i64 ((L+n:Nat):Int))=av at*;have al:=af (mC g 1 g 9 144 [.int .i64 (L+n:Nat)] (y.map aT) ST az.out y av.drew l.out.drew rfl (fun j ah=>qc l.out.drew W.out j ah) ac.out.kk);generalize fN ST y=aP at*;clear ad f0 d0 aB H;go_still_tail 6,(by kernel_rfl);change wpList _ _ _ _ _ av.drew;go_wp2_with fail;refine al.out.mono ?_;rintro e aw⟨rfl,f4,b4⟩;have U:Hid (nf aw g (X++Y) y):=by
     obtain⟨zA,zB,aC⟩:=ax.out;refine⟨?_,zA⟩;rw[zB,aC];exact b4
    have S:Hid (Fr (fun k=>k=g) w aw):=r.out.drew.trans f4;clear f4 b4 al l r;go_wp2;go_roundw;case rel=>exact⟨t.extract n t.size,X++Y,y,rfl,A.out,by have:=o.out;omega,U.out,S.out⟩
    case measure=>have:=o.out;simp only[strSize];omega
   ·have aM:(((a:Int)+(n:Int))==64)=false:=by rw[beq_eq_false_iff_ne];omega
    have U:=af (c.out (by omega));clear c b;go_wp2;go_roundw;case rel=>exact⟨t.extract n t.size,X++Y,y,rfl,A.out,by have:=o.out;omega,U.out,r.out⟩
    case measure=>have:=o.out;simp only[strSize];omega
  ·have E:t.size=0:=by omega
   have aH:decide ((0:Int)<(t.size:Int))=false:=cN (by omega);have aG:decide (0<t.size)=false:=cN (by omega);have ar:N=X:=by
    rw[d.out];have:dG t=[]:=List.eq_nil_of_length_eq_zero (by rw[cW];exact E);rw[this,List.append_nil]
   have ay:=af ar;clear ar E;go_wp2;go_ret;refine⟨rfl,ab.out,rest,?_⟩;rw[ay.out];exact i.out
theorem gH.alloc{W w:World}{v:Value}{l:List UInt8}(h:gH W w v l)(o:Obj):gH W (w.alloc o) v l:=by
 obtain⟨k,g,cap,rfl,a,d,f,c,i,n,m⟩:=h;have b:(w.alloc o).heap[g]? =w.heap[g]? :=Below.heap_alloc w o g d;refine⟨k.alloc _,g,cap,rfl,a,by simp;omega,f,c,fun j e=>?_,fun j e=>?_,fun j u hu=>?_⟩;·have:=i j e;simp only[World.cell?]at this⊢;rw[b];exact this
 ·have:=n j e;simp only[World.frozen?]at this⊢;rw[b];exact this
 ·have:=m j u hu;simp only[World.cell?]at this⊢;rw[b];exact this
def lenOf:Value→Nat
 | .slice _ n _=>n
 |_=>0
theorem iZ(n:Nat):aT (ik n)= .int .u8 ((n%256:Nat):Int):=by
 unfold aT ik;rw[UInt8.toNat_ofNat']
end Go.Proofs.YtphjagkehiklkaaGreatDoor
