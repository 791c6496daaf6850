/- Texts. -/
import Derived.Test.YtphjagkehiklkaaGreatDoorWK09
set_option linter.unusedVariables false
set_option linter.unusedSimpArgs false
set_option maxRecDepth 100000
set_option maxHeartbeats 8000000
namespace Go.Proofs.YtphjagkehiklkaaGreatDoor
open Go.RowKit Go.Shelf
def dm(L:List (aK×ByteArray)):Nat:=(L.map (fun x=>x.2.size)).sum
theorem Tr.dx:∀t:Tr,t.bytes=dm t.bC
 | .leaf=>rfl
 | .node l nm v r=>by
  rw[Tr.bytes,Tr.bC,l.dx,r.dx];simp only[dm,List.map_append,List.map_cons,List.sum_append,List.sum_cons];omega
def Balanced(w:World)(L:List (aK×ByteArray))(e:Ending)(w':World):Prop:=∃a t,e= .returned (.pointer a)∧cE w' a t∧t.bC=L∧Fr ag w w'
theorem xC(az ra:Option Addr)(l r:Tr)(g:Nat)(nm:aK)(v:ByteArray)(w:World)(be:cE w az l)(bf:cE w ra r)(hm:Mid w g nm v)(bq:l.size+r.size+1≤1048576)(bp:v.size+l.bytes+r.bytes≤1099511627776):
  Calls Tryz.prog 177 #[.pointer az, .pointer (some ⟨g,0,none⟩), .pointer ra] w (Balanced w (l.bC++(nm,v)::r.bC)):=by
 have CL:=af (fh w az l be);have a4:=af (fh w ra r bf);have a1:=af be;have a2:=af bf;have aU:=af hm;have t:=af bq;have s:=af bp;have b1:l.cG≤1048576:=by have:=l.jI;omega
 have b2:r.cG≤1048576:=by have:=r.jI;omega
 obtain⟨x,bg⟩:∃x:Int,x=(l.cG:Nat):=⟨_,rfl⟩;obtain⟨y,bh⟩:∃y:Int,y=(r.cG:Nat):=⟨_,rfl⟩;rw[←bg]at CL;rw[←bh]at a4;have br:=af bg;have bs:=af bh;have b3:0≤x∧x≤1048576:=by omega
 have b4:0≤y∧y≤1048576:=by omega
 clear be bf hm bq bp bg bh b1 b2;go_enter Tryz.func177,Tryz.ntmps177;go_wp2_with fail;refine CL.out.mono ?_;rintro e w'⟨rfl,rfl⟩;go_wp2_with fail;refine a4.out.mono ?_;rintro e w'⟨rfl,rfl⟩;clear CL a4;obtain⟨d,bv⟩:∃d:Int,x-y=d:=⟨_,rfl⟩;have bk:=af bv;have b5:-1048576≤d∧d≤1048576:=by omega
 by_cases aV:1<d
 ·have bx:decide ((1:Int)<d)=true:=decide_eq_true aV;obtain⟨W,L,lv,Z,rfl⟩:∃W L lv Z,l= .node W L lv Z:=by
   cases l with
   |leaf=>have aO:=br.out;simp only[Tr.cG]at aO;have:=bk.out;omega
   |node a b c d=>exact⟨a,b,c,d,rfl⟩
  obtain⟨E,O,X,rfl,aW,aX,aw⟩:=a1.out;have aF:=af aW;have aG:=af aX;have bn:Hid (Mid w E L lv):=Mid.of aw;have au:Hid (w.cell? ⟨E,0,none⟩=some (.pointer O)):=aw.cell 0;have av:Hid (w.cell? ⟨E,1,none⟩=some (.pointer X)):=aw.cell 1;have aA:Hid (∀w',Fr ag w w'→Calls Tryz.prog 181 #[.pointer O] w' (aY w' (.int .i64 (W.cG:Nat)))):=fun w' f=>fh w' O W (aF.out.ar f);have H1:Hid (∀w',Fr ag w w'→Calls Tryz.prog 181 #[.pointer X] w' (aY w' (.int .i64 (Z.cG:Nat)))):=fun w' f=>fh w' X Z (aG.out.ar f);obtain⟨p,aP⟩:∃p:Int,p=(W.cG:Nat):=⟨_,rfl⟩;obtain⟨q,aQ⟩:∃q:Int,q=(Z.cG:Nat):=⟨_,rfl⟩;rw[←aP]at aA;rw[←aQ]at H1;have bl:=af aP;have bm:=af aQ;have bt:0≤p∧0≤q:=by omega
  clear aW aX aw aP aQ aV;by_cases ai:q≤p
  ·have bj:decide (q≤p)=true:=decide_eq_true ai;go_upto_region 2 with fail;refine aC 16 ag [Is (.int .i64 d),Is (.bool true),Is (.bool true),Is (.pointer (some ⟨E,0,none⟩)),Is (.pointer (some ⟨E,0,none⟩)),Is (.pointer (some ⟨E,0,none⟩)),Is (.pointer O),Is (.int .i64 p),Is (.pointer (some ⟨E,0,none⟩)),Is (.pointer (some ⟨E,0,none⟩)),Is (.pointer (some ⟨E,1,none⟩)),Is (.pointer X),Is (.int .i64 q),Is (.bool true),Is (.bool true),Is (.bool true)] [] (fun _=>True) (fun _ _=>false) (by kernel_rfl) (by kernel_rfl) (by kernel_rfl) (by kernel_rfl) ⟨Is.ah _,Is.ah _,Is.ah _,Is.ah _,Is.ah _,Is.ah _,Is.ah _,Is.ah _,Is.ah _,Is.ah _,Is.ah _,Is.ah _,Is.ah _,Is.ah _,Is.ah _,Is.ah _,trivial⟩ trivial (fun _ _ _ _ h=>h) trivial ?_ ?_
   ·refine⟨?XN,?xP,?xQ,?xR,?xS,?xT,?xU,?xV,?xW,?xX,?zP,?zQ,?zR,?zS,?zT,?zU,trivial⟩;all_goals intro u w' d j i n m k
    all_goals simp only[bH,bI,bJ,bK,ay,Act.put,bL,bM,bN,Nat.reduceAdd,Nat.zero_add]
    case' xP=>simp only[show u 0=_ from i 0]
    case' xQ=>simp only[show u 1=_ from i 1]
    case' xR=>simp only[show u 2=_ from i 2]
    case' xS=>simp only[show u 3=_ from i 3,show u 2=_ from i 2]
    case' xT=>simp only[show u 4=_ from i 4,show u 2=_ from i 2]
    case xU=>
     simp only[show u 5=_ from i 5,show u 2=_ from i 2];clear i n m k;refine aj ?_;have q:=j.an (au.out) (fun x=>x);go_simp;exact⟨_,rfl,al⟩
    case xV=>
     simp only[show u 6=_ from i 6,show u 2=_ from i 2];clear i n m k;refine aj ?_;go_simp;refine(aA.out _ j).mono ?_;rintro e Q⟨rfl,rfl⟩;exact⟨_,rfl,al⟩
    case' xW=>simp only[show u 2=_ from i 2]
    case' xX=>simp only[show u 8=_ from i 8,show u 2=_ from i 2]
    case' zP=>simp only[show u 9=_ from i 9,show u 2=_ from i 2]
    case zQ=>
     simp only[show u 10=_ from i 10,show u 2=_ from i 2];clear i n m k;refine aj ?_;have q:=j.an (av.out) (fun x=>x);go_simp;exact⟨_,rfl,al⟩
    case zR=>
     simp only[show u 11=_ from i 11,show u 2=_ from i 2];clear i n m k;refine aj ?_;go_simp;refine(H1.out _ j).mono ?_;rintro e Q⟨rfl,rfl⟩;exact⟨_,rfl,al⟩
    case' zS=>simp only[show u 7=_ from i 7,show u 12=_ from i 12,show u 2=_ from i 2]
    case' zT=>simp only[show u 2=_ from i 2,show u 13=_ from i 13]
    case' zU=>simp only[show u 14=_ from i 14]
    all_goals
     clear i n m k;refine aj ?_;go_simp;exact⟨_,rfl,al⟩
   ·intro u w' j i k;have C:u 15=_:=i 15 (by omega);clear i k;simp only[bH,bI,bJ,bK,ay,Act.put,bL,bM,bN,dD,dE,Nat.reduceAdd,Nat.zero_add,C];have D:=af j;clear j C;go_upto_region 3 with fail;refine aC 14 ag [Is (.pointer (some ⟨E,0,none⟩)),Is (.pointer (some ⟨E,0,none⟩)),Is (.pointer (some ⟨E,0,none⟩)),Is (.pointer O),Is (.pointer (some ⟨E,0,none⟩)),Is (.pointer (some ⟨E,0,none⟩)),Is (.pointer (some ⟨E,0,none⟩)),Is (.pointer (some ⟨E,1,none⟩)),Is (.pointer X),Is (.pointer (some ⟨g,0,none⟩)),Is (.pointer ra),(fun I H=>∃z,I= .pointer z∧cE H z (.node Z nm v r)),(fun I H=>∃z,I= .pointer z∧cE H z (.node W L lv (.node Z nm v r))),(fun I H=>∃z,I= .pointer z∧cE H z (.node W L lv (.node Z nm v r)))] [] (fun _=>True) (fun _ _=>false) (by kernel_rfl) (by kernel_rfl) (by kernel_rfl) (by kernel_rfl) ⟨Is.ah _,Is.ah _,Is.ah _,Is.ah _,Is.ah _,Is.ah _,Is.ah _,Is.ah _,Is.ah _,Is.ah _,Is.ah _,fun v w1 w2 _ f h=>by obtain⟨a,e,o⟩:=h;exact⟨a,e,o.ar f⟩,fun v w1 w2 _ f h=>by obtain⟨a,e,o⟩:=h;exact⟨a,e,o.ar f⟩,fun v w1 w2 _ f h=>by obtain⟨a,e,o⟩:=h;exact⟨a,e,o.ar f⟩,trivial⟩ trivial (fun _ _ _ _ h=>h) trivial ?_ ?_
    ·refine⟨?XO,?xY,?xZ,?ZA,?XP,?XQ,?ZB,?ZC,?ZD,?XR,?XG,?zV,?zW,?zX,trivial⟩;all_goals intro u w' d j i n m k
     all_goals simp only[bH,bI,bJ,bK,ay,Act.put,bL,bM,bN,Nat.reduceAdd,Nat.zero_add]
     case' xY=>simp only[show u 0=_ from i 0]
     case' xZ=>simp only[show u 1=_ from i 1]
     case ZA=>
      simp only[show u 2=_ from i 2];clear i n m k;refine aj ?_;have q:=j.an (D.out.an (au.out) (fun x=>x)) (fun x=>x);go_simp;exact⟨_,rfl,al⟩
     case' ZB=>simp only[show u 5=_ from i 5]
     case' ZC=>simp only[show u 6=_ from i 6]
     case ZD=>
      simp only[show u 7=_ from i 7];clear i n m k;refine aj ?_;have q:=j.an (D.out.an (av.out) (fun x=>x)) (fun x=>x);go_simp;exact⟨_,rfl,al⟩
     case zV=>
      simp only[show u 8=_ from i 8,show u 9=_ from i 9,show u 10=_ from i 10];clear i n m k;refine aj ?_;go_simp;refine(fm _ X ra Z r g nm v (aG.out.ar (D.out.trans j)) (a2.out.ar (D.out.trans j)) (aU.out.ar (D.out.trans j)) (by have A:=t.out;have B:=s.out;simp only[Tr.size,Tr.bytes]at A B⊢;omega) (by have A:=t.out;have B:=s.out;simp only[Tr.size,Tr.bytes]at A B⊢;omega)).mono ?_;rintro e Q⟨a,rfl,o,f4⟩;exact⟨_,rfl,f4.bP,⟨a,rfl,o⟩,trivial⟩
     case zW=>
      obtain⟨a6,bc,bi⟩:=i 11;simp only[show u 3=_ from i 3,show u 4=_ from i 4,bc];clear i n m k;refine aj ?_;go_simp;refine(fm _ O a6 W (.node Z nm v r) E L lv (aF.out.ar (D.out.trans j)) bi (bn.out.ar (D.out.trans j)) (by have A:=t.out;have B:=s.out;simp only[Tr.size,Tr.bytes]at A B⊢;omega) (by have A:=t.out;have B:=s.out;simp only[Tr.size,Tr.bytes]at A B⊢;omega)).mono ?_;rintro e Q⟨a,rfl,o,f4⟩;exact⟨_,rfl,f4.bP,⟨a,rfl,o⟩,trivial⟩
     case zX=>
      obtain⟨a12,aL,aR⟩:=i 12;simp only[aL];clear i n m k;refine aj ?_;go_simp;exact⟨_,rfl,aD,⟨_,rfl,aR⟩,trivial⟩
     all_goals
      clear i n m k;refine aj ?_;go_simp;exact⟨_,rfl,al⟩
    ·intro u w' j i k;obtain⟨a7,ab,ak⟩:=i 13 (by omega);clear i k;simp only[bH,bI,bJ,bK,ay,Act.put,bL,bM,bN,dD,dE,Nat.reduceAdd,Nat.zero_add,ab];have ap:=af (D.out.trans j);have aq:=af ak;clear j ak ab;go_wp2;go_ret;exact⟨_,_,rfl,aq.out,by simp[Tr.bC],ap.out⟩
  ·have bj:decide (q≤p)=false:=decide_eq_false ai;obtain⟨R,G,V,T,rfl⟩:∃R G V T,Z= .node R G V T:=by
    cases Z with
    |leaf=>have aO:=bm.out;simp only[Tr.cG]at aO;omega
    |node a b c d=>exact⟨a,b,c,d,rfl⟩
   obtain⟨K,S,U,rfl,ad,ae,N⟩:=aG.out;have aB:=af ad;have aE:=af ae;have a5:Hid (Mid w K G V):=Mid.of N;have d0:Hid (w.cell? ⟨K,0,none⟩=some (.pointer S)):=N.cell 0;have d1:Hid (w.cell? ⟨K,1,none⟩=some (.pointer U)):=N.cell 1;clear ad ae N;go_upto_region 2 with fail;refine aC 16 ag [Is (.int .i64 d),Is (.bool true),Is (.bool true),Is (.pointer (some ⟨E,0,none⟩)),Is (.pointer (some ⟨E,0,none⟩)),Is (.pointer (some ⟨E,0,none⟩)),Is (.pointer O),Is (.int .i64 p),Is (.pointer (some ⟨E,0,none⟩)),Is (.pointer (some ⟨E,0,none⟩)),Is (.pointer (some ⟨E,1,none⟩)),Is (.pointer (some ⟨K,0,none⟩)),Is (.int .i64 q),Is (.bool false),Is (.bool false),Is (.bool false)] [] (fun _=>True) (fun _ _=>false) (by kernel_rfl) (by kernel_rfl) (by kernel_rfl) (by kernel_rfl) ⟨Is.ah _,Is.ah _,Is.ah _,Is.ah _,Is.ah _,Is.ah _,Is.ah _,Is.ah _,Is.ah _,Is.ah _,Is.ah _,Is.ah _,Is.ah _,Is.ah _,Is.ah _,Is.ah _,trivial⟩ trivial (fun _ _ _ _ h=>h) trivial ?_ ?_
   ·refine⟨?XS,?ZE,?ZF,?ZG,?ZH,?ZI,?ZJ,?ZK,?ZL,?ZM,?zY,?zZ,?yA,?yB,?yC,?yD,trivial⟩;all_goals intro u w' d j i n m k
    all_goals simp only[bH,bI,bJ,bK,ay,Act.put,bL,bM,bN,Nat.reduceAdd,Nat.zero_add]
    case' ZE=>simp only[show u 0=_ from i 0]
    case' ZF=>simp only[show u 1=_ from i 1]
    case' ZG=>simp only[show u 2=_ from i 2]
    case' ZH=>simp only[show u 3=_ from i 3,show u 2=_ from i 2]
    case' ZI=>simp only[show u 4=_ from i 4,show u 2=_ from i 2]
    case ZJ=>
     simp only[show u 5=_ from i 5,show u 2=_ from i 2];clear i n m k;refine aj ?_;have q:=j.an (au.out) (fun x=>x);go_simp;exact⟨_,rfl,al⟩
    case ZK=>
     simp only[show u 6=_ from i 6,show u 2=_ from i 2];clear i n m k;refine aj ?_;go_simp;refine(aA.out _ j).mono ?_;rintro e Q⟨rfl,rfl⟩;exact⟨_,rfl,al⟩
    case' ZL=>simp only[show u 2=_ from i 2]
    case' ZM=>simp only[show u 8=_ from i 8,show u 2=_ from i 2]
    case' zY=>simp only[show u 9=_ from i 9,show u 2=_ from i 2]
    case zZ=>
     simp only[show u 10=_ from i 10,show u 2=_ from i 2];clear i n m k;refine aj ?_;have q:=j.an (av.out) (fun x=>x);go_simp;exact⟨_,rfl,al⟩
    case yA=>
     simp only[show u 11=_ from i 11,show u 2=_ from i 2];clear i n m k;refine aj ?_;go_simp;refine(H1.out _ j).mono ?_;rintro e Q⟨rfl,rfl⟩;exact⟨_,rfl,al⟩
    case' yB=>simp only[show u 7=_ from i 7,show u 12=_ from i 12,show u 2=_ from i 2]
    case' yC=>simp only[show u 2=_ from i 2,show u 13=_ from i 13]
    case' yD=>simp only[show u 14=_ from i 14]
    all_goals
     clear i n m k;refine aj ?_;go_simp;exact⟨_,rfl,al⟩
   ·intro u w' j i k;have C:u 15=_:=i 15 (by omega);clear i k;simp only[bH,bI,bJ,bK,ay,Act.put,bL,bM,bN,dD,dE,Nat.reduceAdd,Nat.zero_add,C];have D:=af j;have bB:=j.an av.out (fun x=>x);clear j C;go_upto_region 6 with fail;refine aC 20 ag [Is (.pointer (some ⟨E,0,none⟩)),Is (.pointer (some ⟨E,0,none⟩)),Is (.pointer (some ⟨E,0,none⟩)),Is (.pointer O),Is (.pointer (some ⟨E,0,none⟩)),Is (.pointer (some ⟨K,0,none⟩)),Is (.pointer (some ⟨K,0,none⟩)),Is (.pointer (some ⟨K,0,none⟩)),Is (.pointer S),(fun I H=>∃z,I= .pointer z∧cE H z (.node W L lv R)),Is (.pointer (some ⟨K,0,none⟩)),Is (.pointer (some ⟨K,0,none⟩)),Is (.pointer (some ⟨K,0,none⟩)),Is (.pointer (some ⟨K,1,none⟩)),Is (.pointer U),Is (.pointer (some ⟨g,0,none⟩)),Is (.pointer ra),(fun I H=>∃z,I= .pointer z∧cE H z (.node T nm v r)),(fun I H=>∃z,I= .pointer z∧cE H z (.node (.node W L lv R) G V (.node T nm v r))),(fun I H=>∃z,I= .pointer z∧cE H z (.node (.node W L lv R) G V (.node T nm v r)))] [] (fun _=>True) (fun _ _=>false) (by kernel_rfl) (by kernel_rfl) (by kernel_rfl) (by kernel_rfl) ⟨Is.ah _,Is.ah _,Is.ah _,Is.ah _,Is.ah _,Is.ah _,Is.ah _,Is.ah _,Is.ah _,fun v w1 w2 _ f h=>by obtain⟨a,e,o⟩:=h;exact⟨a,e,o.ar f⟩,Is.ah _,Is.ah _,Is.ah _,Is.ah _,Is.ah _,Is.ah _,Is.ah _,fun v w1 w2 _ f h=>by obtain⟨a,e,o⟩:=h;exact⟨a,e,o.ar f⟩,fun v w1 w2 _ f h=>by obtain⟨a,e,o⟩:=h;exact⟨a,e,o.ar f⟩,fun v w1 w2 _ f h=>by obtain⟨a,e,o⟩:=h;exact⟨a,e,o.ar f⟩,trivial⟩ trivial (fun _ _ _ _ h=>h) trivial ?_ ?_
    ·refine⟨?XT,?ZN,?ZO,?ZP,?XU,?XV,?ZQ,?ZR,?ZS,?ZT,?XH,?XI,?yE,?yF,?yG,?XJ,?XK,?yH,?yI,?yJ,trivial⟩;all_goals intro u w' d j i n m k
     all_goals simp only[bH,bI,bJ,bK,ay,Act.put,bL,bM,bN,Nat.reduceAdd,Nat.zero_add]
     case' ZN=>simp only[show u 0=_ from i 0]
     case' ZO=>simp only[show u 1=_ from i 1]
     case ZP=>
      simp only[show u 2=_ from i 2];clear i n m k;refine aj ?_;have q:=j.an (D.out.an au.out (fun x=>x)) (fun x=>x);go_simp;exact⟨_,rfl,al⟩
     case' ZQ=>simp only[show u 5=_ from i 5]
     case' ZR=>simp only[show u 6=_ from i 6]
     case ZS=>
      simp only[show u 7=_ from i 7];clear i n m k;refine aj ?_;have q:=j.an (D.out.an d0.out (fun x=>x)) (fun x=>x);go_simp;exact⟨_,rfl,al⟩
     case ZT=>
      simp only[show u 3=_ from i 3,show u 4=_ from i 4,show u 8=_ from i 8];clear i n m k;refine aj ?_;go_simp;refine(fm _ O S W R E L lv (aF.out.ar (D.out.trans j)) (aB.out.ar (D.out.trans j)) (bn.out.ar (D.out.trans j)) (by have A:=t.out;have B:=s.out;simp only[Tr.size,Tr.bytes]at A B⊢;omega) (by have A:=t.out;have B:=s.out;simp only[Tr.size,Tr.bytes]at A B⊢;omega)).mono ?_;rintro e Q⟨a,rfl,o,f4⟩;exact⟨_,rfl,f4.bP,⟨a,rfl,o⟩,trivial⟩
     case' yE=>simp only[show u 11=_ from i 11]
     case' yF=>simp only[show u 12=_ from i 12]
     case yG=>
      simp only[show u 13=_ from i 13];clear i n m k;refine aj ?_;have q:=j.an (D.out.an d1.out (fun x=>x)) (fun x=>x);go_simp;exact⟨_,rfl,al⟩
     case yH=>
      simp only[show u 14=_ from i 14,show u 15=_ from i 15,show u 16=_ from i 16];clear i n m k;refine aj ?_;go_simp;refine(fm _ U ra T r g nm v (aE.out.ar (D.out.trans j)) (a2.out.ar (D.out.trans j)) (aU.out.ar (D.out.trans j)) (by have A:=t.out;have B:=s.out;simp only[Tr.size,Tr.bytes]at A B⊢;omega) (by have A:=t.out;have B:=s.out;simp only[Tr.size,Tr.bytes]at A B⊢;omega)).mono ?_;rintro e Q⟨a,rfl,o,f4⟩;exact⟨_,rfl,f4.bP,⟨a,rfl,o⟩,trivial⟩
     case yI=>
      obtain⟨a9,bu,bw⟩:=i 9;obtain⟨aJ,aM,aS⟩:=i 17;simp only[bu,show u 10=_ from i 10,aM];clear i n m k;refine aj ?_;go_simp;refine(fm _ a9 aJ (.node W L lv R) (.node T nm v r) K G V bw aS (a5.out.ar (D.out.trans j)) (by have A:=t.out;have B:=s.out;simp only[Tr.size,Tr.bytes]at A B⊢;omega) (by have A:=t.out;have B:=s.out;simp only[Tr.size,Tr.bytes]at A B⊢;omega)).mono ?_;rintro e Q⟨a,rfl,o,f4⟩;exact⟨_,rfl,f4.bP,⟨a,rfl,o⟩,trivial⟩
     case yJ=>
      obtain⟨a8,aN,aT⟩:=i 18;simp only[aN];clear i n m k;refine aj ?_;go_simp;exact⟨_,rfl,aD,⟨_,rfl,aT⟩,trivial⟩
     all_goals
      clear i n m k;refine aj ?_;go_simp;exact⟨_,rfl,al⟩
    ·intro u w' j i k;obtain⟨ba,ac,am⟩:=i 19 (by omega);clear i k;simp only[bH,bI,bJ,bK,ay,Act.put,bL,bM,bN,dD,dE,Nat.reduceAdd,Nat.zero_add,ac];have ap:=af (D.out.trans j);have aq:=af am;clear j am ac;go_wp2;go_ret;exact⟨_,_,rfl,aq.out,by simp[Tr.bC],ap.out⟩
 ·have bx:decide ((1:Int)<d)=false:=decide_eq_false aV;go_upto_region 2 with fail;refine aC 16 ag [Is (.int .i64 d),Is (.bool false),Is (.bool false),Is (undef),Is (undef),Is (undef),Is (undef),Is (undef),Is (undef),Is (undef),Is (undef),Is (undef),Is (undef),Is (undef),Is (.bool false),Is (.bool false)] [] (fun _=>True) (fun _ _=>false) (by kernel_rfl) (by kernel_rfl) (by kernel_rfl) (by kernel_rfl) ⟨Is.ah _,Is.ah _,Is.ah _,Is.ah _,Is.ah _,Is.ah _,Is.ah _,Is.ah _,Is.ah _,Is.ah _,Is.ah _,Is.ah _,Is.ah _,Is.ah _,Is.ah _,Is.ah _,trivial⟩ trivial (fun _ _ _ _ h=>h) trivial ?_ ?_
  ·refine⟨?XW,?ZU,?ZV,?ZW,?ZX,?ZY,?ZZ,?YA,?YB,?YC,?yK,?yL,?yM,?yN,?yO,?yP,trivial⟩;all_goals intro u w' d j i n m k
   all_goals simp only[bH,bI,bJ,bK,ay,Act.put,bL,bM,bN,Nat.reduceAdd,Nat.zero_add]
   case' ZU=>simp only[show u 0=_ from i 0]
   case' ZV=>simp only[show u 1=_ from i 1]
   case ZW=>simp only[show u 2=_ from i 2];exact .inr ⟨by kernel_rfl,_,rfl,aD,rfl,trivial⟩
   case ZX=>simp only[show u 2=_ from i 2];exact .inr ⟨by kernel_rfl,_,rfl,aD,rfl,trivial⟩
   case ZY=>simp only[show u 2=_ from i 2];exact .inr ⟨by kernel_rfl,_,rfl,aD,rfl,trivial⟩
   case ZZ=>simp only[show u 2=_ from i 2];exact .inr ⟨by kernel_rfl,_,rfl,aD,rfl,trivial⟩
   case YA=>simp only[show u 2=_ from i 2];exact .inr ⟨by kernel_rfl,_,rfl,aD,rfl,trivial⟩
   case YB=>simp only[show u 2=_ from i 2];exact .inr ⟨by kernel_rfl,_,rfl,aD,rfl,trivial⟩
   case YC=>simp only[show u 2=_ from i 2];exact .inr ⟨by kernel_rfl,_,rfl,aD,rfl,trivial⟩
   case yK=>simp only[show u 2=_ from i 2];exact .inr ⟨by kernel_rfl,_,rfl,aD,rfl,trivial⟩
   case yL=>simp only[show u 2=_ from i 2];exact .inr ⟨by kernel_rfl,_,rfl,aD,rfl,trivial⟩
   case yM=>simp only[show u 2=_ from i 2];exact .inr ⟨by kernel_rfl,_,rfl,aD,rfl,trivial⟩
   case yN=>simp only[show u 2=_ from i 2];exact .inr ⟨by kernel_rfl,_,rfl,aD,rfl,trivial⟩
   case' yO=>simp only[show u 2=_ from i 2,show u 13=_ from i 13]
   case' yP=>simp only[show u 14=_ from i 14]
   all_goals
    clear i n m k;refine aj ?_;go_simp;exact⟨_,rfl,al⟩
  ·intro u w' j i k;have C:u 15=_:=i 15 (by omega);clear i k;simp only[bH,bI,bJ,bK,ay,Act.put,bL,bM,bN,dD,dE,Nat.reduceAdd,Nat.zero_add,C];have D:=af j;clear j C;by_cases a3:d< -1
   ·have bz:decide (d<(-1:Int))=true:=decide_eq_true a3;obtain⟨aa,M,ao,rr,rfl⟩:∃aa M ao rr,r= .node aa M ao rr:=by
     cases r with
     |leaf=>have aO:=bs.out;simp only[Tr.cG]at aO;have:=bk.out;omega
     |node a b c d=>exact⟨a,b,c,d,rfl⟩
    obtain⟨F,Y,P,rfl,aZ,a0,ax⟩:=a2.out;have aH:=af aZ;have aI:=af a0;have bo:Hid (Mid w F M ao):=Mid.of ax;have au:Hid (w.cell? ⟨F,0,none⟩=some (.pointer Y)):=ax.cell 0;have av:Hid (w.cell? ⟨F,1,none⟩=some (.pointer P)):=ax.cell 1;have aA:Hid (∀w',Fr ag w w'→Calls Tryz.prog 181 #[.pointer Y] w' (aY w' (.int .i64 (aa.cG:Nat)))):=fun w' f=>fh w' Y aa (aH.out.ar f);have H1:Hid (∀w',Fr ag w w'→Calls Tryz.prog 181 #[.pointer P] w' (aY w' (.int .i64 (rr.cG:Nat)))):=fun w' f=>fh w' P rr (aI.out.ar f);obtain⟨p,aP⟩:∃p:Int,p=(aa.cG:Nat):=⟨_,rfl⟩;obtain⟨q,aQ⟩:∃q:Int,q=(rr.cG:Nat):=⟨_,rfl⟩;rw[←aP]at aA;rw[←aQ]at H1;have bl:=af aP;have bm:=af aQ;have bt:0≤p∧0≤q:=by omega
    clear aZ a0 ax aP aQ aV a3;by_cases ai:p≤q
    ·have bj:decide (p≤q)=true:=decide_eq_true ai;go_upto_region 7 with fail;refine aC 16 ag [Is (.int .i64 d),Is (.bool true),Is (.bool true),Is (.pointer (some ⟨F,0,none⟩)),Is (.pointer (some ⟨F,0,none⟩)),Is (.pointer (some ⟨F,1,none⟩)),Is (.pointer P),Is (.int .i64 q),Is (.pointer (some ⟨F,0,none⟩)),Is (.pointer (some ⟨F,0,none⟩)),Is (.pointer (some ⟨F,0,none⟩)),Is (.pointer Y),Is (.int .i64 p),Is (.bool true),Is (.bool true),Is (.bool true)] [] (fun _=>True) (fun _ _=>false) (by kernel_rfl) (by kernel_rfl) (by kernel_rfl) (by kernel_rfl) ⟨Is.ah _,Is.ah _,Is.ah _,Is.ah _,Is.ah _,Is.ah _,Is.ah _,Is.ah _,Is.ah _,Is.ah _,Is.ah _,Is.ah _,Is.ah _,Is.ah _,Is.ah _,Is.ah _,trivial⟩ trivial (fun _ _ _ _ h=>h) trivial ?_ ?_
     ·refine⟨?XX,?YD,?YE,?YF,?YG,?YH,?YI,?YJ,?YK,?YL,?yQ,?yR,?yS,?yT,?yU,?yV,trivial⟩;all_goals intro u w' d j i n m k
      all_goals simp only[bH,bI,bJ,bK,ay,Act.put,bL,bM,bN,Nat.reduceAdd,Nat.zero_add]
      case' YD=>simp only[show u 0=_ from i 0]
      case' YE=>simp only[show u 1=_ from i 1]
      case' YF=>simp only[show u 2=_ from i 2]
      case' YG=>simp only[show u 3=_ from i 3,show u 2=_ from i 2]
      case' YH=>simp only[show u 4=_ from i 4,show u 2=_ from i 2]
      case YI=>
       simp only[show u 5=_ from i 5,show u 2=_ from i 2];clear i n m k;refine aj ?_;have q:=j.an (D.out.an av.out (fun x=>x)) (fun x=>x);go_simp;exact⟨_,rfl,al⟩
      case YJ=>
       simp only[show u 6=_ from i 6,show u 2=_ from i 2];clear i n m k;refine aj ?_;go_simp;refine(H1.out _ (D.out.trans j)).mono ?_;rintro e Q⟨rfl,rfl⟩;exact⟨_,rfl,al⟩
      case' YK=>simp only[show u 2=_ from i 2]
      case' YL=>simp only[show u 8=_ from i 8,show u 2=_ from i 2]
      case' yQ=>simp only[show u 9=_ from i 9,show u 2=_ from i 2]
      case yR=>
       simp only[show u 10=_ from i 10,show u 2=_ from i 2];clear i n m k;refine aj ?_;have q:=j.an (D.out.an au.out (fun x=>x)) (fun x=>x);go_simp;exact⟨_,rfl,al⟩
      case yS=>
       simp only[show u 11=_ from i 11,show u 2=_ from i 2];clear i n m k;refine aj ?_;go_simp;refine(aA.out _ (D.out.trans j)).mono ?_;rintro e Q⟨rfl,rfl⟩;exact⟨_,rfl,al⟩
      case' yT=>simp only[show u 7=_ from i 7,show u 12=_ from i 12,show u 2=_ from i 2]
      case' yU=>simp only[show u 2=_ from i 2,show u 13=_ from i 13]
      case' yV=>simp only[show u 14=_ from i 14]
      all_goals
       clear i n m k;refine aj ?_;go_simp;exact⟨_,rfl,al⟩
     ·intro u w' j i k;have C:u 15=_:=i 15 (by omega);clear i k;simp only[bH,bI,bJ,bK,ay,Act.put,bL,bM,bN,dD,dE,Nat.reduceAdd,Nat.zero_add,C];have J:=af (D.out.trans j);clear j C;go_upto_region 8 with fail;refine aC 14 ag [Is (.pointer az),Is (.pointer (some ⟨g,0,none⟩)),Is (.pointer (some ⟨F,0,none⟩)),Is (.pointer (some ⟨F,0,none⟩)),Is (.pointer (some ⟨F,0,none⟩)),Is (.pointer Y),(fun I H=>∃z,I= .pointer z∧cE H z (.node l nm v aa)),Is (.pointer (some ⟨F,0,none⟩)),Is (.pointer (some ⟨F,0,none⟩)),Is (.pointer (some ⟨F,0,none⟩)),Is (.pointer (some ⟨F,1,none⟩)),Is (.pointer P),(fun I H=>∃z,I= .pointer z∧cE H z (.node (.node l nm v aa) M ao rr)),(fun I H=>∃z,I= .pointer z∧cE H z (.node (.node l nm v aa) M ao rr))] [] (fun _=>True) (fun _ _=>false) (by kernel_rfl) (by kernel_rfl) (by kernel_rfl) (by kernel_rfl) ⟨Is.ah _,Is.ah _,Is.ah _,Is.ah _,Is.ah _,Is.ah _,fun v w1 w2 _ f h=>by obtain⟨a,e,o⟩:=h;exact⟨a,e,o.ar f⟩,Is.ah _,Is.ah _,Is.ah _,Is.ah _,Is.ah _,fun v w1 w2 _ f h=>by obtain⟨a,e,o⟩:=h;exact⟨a,e,o.ar f⟩,fun v w1 w2 _ f h=>by obtain⟨a,e,o⟩:=h;exact⟨a,e,o.ar f⟩,trivial⟩ trivial (fun _ _ _ _ h=>h) trivial ?_ ?_
      ·refine⟨?XY,?XZ,?z0,?YM,?YN,?YO,?YP,?z1,?z2,?YQ,?yW,?yX,?yY,?yZ,trivial⟩;all_goals intro u w' d j i n m k
       all_goals simp only[bH,bI,bJ,bK,ay,Act.put,bL,bM,bN,Nat.reduceAdd,Nat.zero_add]
       case' YM=>simp only[show u 2=_ from i 2]
       case' YN=>simp only[show u 3=_ from i 3]
       case YO=>
        simp only[show u 4=_ from i 4];clear i n m k;refine aj ?_;have q:=j.an (J.out.an au.out (fun x=>x)) (fun x=>x);go_simp;exact⟨_,rfl,al⟩
       case YP=>
        simp only[show u 0=_ from i 0,show u 1=_ from i 1,show u 5=_ from i 5];clear i n m k;refine aj ?_;go_simp;refine(fm _ az Y l aa g nm v (a1.out.ar (J.out.trans j)) (aH.out.ar (J.out.trans j)) (aU.out.ar (J.out.trans j)) (by have A:=t.out;have B:=s.out;simp only[Tr.size,Tr.bytes]at A B⊢;omega) (by have A:=t.out;have B:=s.out;simp only[Tr.size,Tr.bytes]at A B⊢;omega)).mono ?_;rintro e Q⟨a,rfl,o,f4⟩;exact⟨_,rfl,f4.bP,⟨a,rfl,o⟩,trivial⟩
       case' YQ=>simp only[show u 8=_ from i 8]
       case' yW=>simp only[show u 9=_ from i 9]
       case yX=>
        simp only[show u 10=_ from i 10];clear i n m k;refine aj ?_;have q:=j.an (J.out.an av.out (fun x=>x)) (fun x=>x);go_simp;exact⟨_,rfl,al⟩
       case yY=>
        obtain⟨bb,bd,n6⟩:=i 6;simp only[bd,show u 7=_ from i 7,show u 11=_ from i 11];clear i n m k;refine aj ?_;go_simp;refine(fm _ bb P (.node l nm v aa) rr F M ao n6 (aI.out.ar (J.out.trans j)) (bo.out.ar (J.out.trans j)) (by have A:=t.out;have B:=s.out;simp only[Tr.size,Tr.bytes]at A B⊢;omega) (by have A:=t.out;have B:=s.out;simp only[Tr.size,Tr.bytes]at A B⊢;omega)).mono ?_;rintro e Q⟨a,rfl,o,f4⟩;exact⟨_,rfl,f4.bP,⟨a,rfl,o⟩,trivial⟩
       case yZ=>
        obtain⟨a12,aL,aR⟩:=i 12;simp only[aL];clear i n m k;refine aj ?_;go_simp;exact⟨_,rfl,aD,⟨_,rfl,aR⟩,trivial⟩
       all_goals
        clear i n m k;refine aj ?_;go_simp;exact⟨_,rfl,al⟩
      ·intro u w' j i k;obtain⟨a7,ab,ak⟩:=i 13 (by omega);clear i k;simp only[bH,bI,bJ,bK,ay,Act.put,bL,bM,bN,dD,dE,Nat.reduceAdd,Nat.zero_add,ab];have ap:=af (J.out.trans j);have aq:=af ak;clear j ak ab;go_wp2;go_ret;exact⟨_,_,rfl,aq.out,by simp[Tr.bC],ap.out⟩
    ·have bj:decide (p≤q)=false:=decide_eq_false ai;obtain⟨R,G,V,T,rfl⟩:∃R G V T,aa= .node R G V T:=by
      cases aa with
      |leaf=>have aO:=bl.out;simp only[Tr.cG]at aO;omega
      |node a b c d=>exact⟨a,b,c,d,rfl⟩
     obtain⟨K,S,U,rfl,ad,ae,N⟩:=aH.out;have aB:=af ad;have aE:=af ae;have a5:Hid (Mid w K G V):=Mid.of N;have d0:Hid (w.cell? ⟨K,0,none⟩=some (.pointer S)):=N.cell 0;have d1:Hid (w.cell? ⟨K,1,none⟩=some (.pointer U)):=N.cell 1;clear ad ae N;go_upto_region 7 with fail;refine aC 16 ag [Is (.int .i64 d),Is (.bool true),Is (.bool true),Is (.pointer (some ⟨F,0,none⟩)),Is (.pointer (some ⟨F,0,none⟩)),Is (.pointer (some ⟨F,1,none⟩)),Is (.pointer P),Is (.int .i64 q),Is (.pointer (some ⟨F,0,none⟩)),Is (.pointer (some ⟨F,0,none⟩)),Is (.pointer (some ⟨F,0,none⟩)),Is (.pointer (some ⟨K,0,none⟩)),Is (.int .i64 p),Is (.bool false),Is (.bool false),Is (.bool false)] [] (fun _=>True) (fun _ _=>false) (by kernel_rfl) (by kernel_rfl) (by kernel_rfl) (by kernel_rfl) ⟨Is.ah _,Is.ah _,Is.ah _,Is.ah _,Is.ah _,Is.ah _,Is.ah _,Is.ah _,Is.ah _,Is.ah _,Is.ah _,Is.ah _,Is.ah _,Is.ah _,Is.ah _,Is.ah _,trivial⟩ trivial (fun _ _ _ _ h=>h) trivial ?_ ?_
     ·refine⟨?z3,?YR,?YS,?YT,?YU,?YV,?YW,?YX,?YY,?YZ,?xA,?xB,?xD,?xE,?xF,?xG,trivial⟩;all_goals intro u w' d j i n m k
      all_goals simp only[bH,bI,bJ,bK,ay,Act.put,bL,bM,bN,Nat.reduceAdd,Nat.zero_add]
      case' YR=>simp only[show u 0=_ from i 0]
      case' YS=>simp only[show u 1=_ from i 1]
      case' YT=>simp only[show u 2=_ from i 2]
      case' YU=>simp only[show u 3=_ from i 3,show u 2=_ from i 2]
      case' YV=>simp only[show u 4=_ from i 4,show u 2=_ from i 2]
      case YW=>
       simp only[show u 5=_ from i 5,show u 2=_ from i 2];clear i n m k;refine aj ?_;have q:=j.an (D.out.an av.out (fun x=>x)) (fun x=>x);go_simp;exact⟨_,rfl,al⟩
      case YX=>
       simp only[show u 6=_ from i 6,show u 2=_ from i 2];clear i n m k;refine aj ?_;go_simp;refine(H1.out _ (D.out.trans j)).mono ?_;rintro e Q⟨rfl,rfl⟩;exact⟨_,rfl,al⟩
      case' YY=>simp only[show u 2=_ from i 2]
      case' YZ=>simp only[show u 8=_ from i 8,show u 2=_ from i 2]
      case' xA=>simp only[show u 9=_ from i 9,show u 2=_ from i 2]
      case xB=>
       simp only[show u 10=_ from i 10,show u 2=_ from i 2];clear i n m k;refine aj ?_;have q:=j.an (D.out.an au.out (fun x=>x)) (fun x=>x);go_simp;exact⟨_,rfl,al⟩
      case xD=>
       simp only[show u 11=_ from i 11,show u 2=_ from i 2];clear i n m k;refine aj ?_;go_simp;refine(aA.out _ (D.out.trans j)).mono ?_;rintro e Q⟨rfl,rfl⟩;exact⟨_,rfl,al⟩
      case' xE=>simp only[show u 7=_ from i 7,show u 12=_ from i 12,show u 2=_ from i 2]
      case' xF=>simp only[show u 2=_ from i 2,show u 13=_ from i 13]
      case' xG=>simp only[show u 14=_ from i 14]
      all_goals
       clear i n m k;refine aj ?_;go_simp;exact⟨_,rfl,al⟩
     ·intro u w' j i k;have C:u 15=_:=i 15 (by omega);clear i k;simp only[bH,bI,bJ,bK,ay,Act.put,bL,bM,bN,dD,dE,Nat.reduceAdd,Nat.zero_add,C];have J:=af (D.out.trans j);have bA:=J.out.an au.out (fun x=>x);clear j C;go_upto_region 11 with fail;refine aC 20 ag [Is (.pointer az),Is (.pointer (some ⟨g,0,none⟩)),Is (.pointer (some ⟨K,0,none⟩)),Is (.pointer (some ⟨K,0,none⟩)),Is (.pointer (some ⟨K,0,none⟩)),Is (.pointer S),(fun I H=>∃z,I= .pointer z∧cE H z (.node l nm v R)),Is (.pointer (some ⟨K,0,none⟩)),Is (.pointer (some ⟨K,0,none⟩)),Is (.pointer (some ⟨K,0,none⟩)),Is (.pointer (some ⟨K,1,none⟩)),Is (.pointer U),Is (.pointer (some ⟨F,0,none⟩)),Is (.pointer (some ⟨F,0,none⟩)),Is (.pointer (some ⟨F,0,none⟩)),Is (.pointer (some ⟨F,1,none⟩)),Is (.pointer P),(fun I H=>∃z,I= .pointer z∧cE H z (.node T M ao rr)),(fun I H=>∃z,I= .pointer z∧cE H z (.node (.node l nm v R) G V (.node T M ao rr))),(fun I H=>∃z,I= .pointer z∧cE H z (.node (.node l nm v R) G V (.node T M ao rr)))] [] (fun _=>True) (fun _ _=>false) (by kernel_rfl) (by kernel_rfl) (by kernel_rfl) (by kernel_rfl) ⟨Is.ah _,Is.ah _,Is.ah _,Is.ah _,Is.ah _,Is.ah _,fun v w1 w2 _ f h=>by obtain⟨a,e,o⟩:=h;exact⟨a,e,o.ar f⟩,Is.ah _,Is.ah _,Is.ah _,Is.ah _,Is.ah _,Is.ah _,Is.ah _,Is.ah _,Is.ah _,Is.ah _,fun v w1 w2 _ f h=>by obtain⟨a,e,o⟩:=h;exact⟨a,e,o.ar f⟩,fun v w1 w2 _ f h=>by obtain⟨a,e,o⟩:=h;exact⟨a,e,o.ar f⟩,fun v w1 w2 _ f h=>by obtain⟨a,e,o⟩:=h;exact⟨a,e,o.ar f⟩,trivial⟩ trivial (fun _ _ _ _ h=>h) trivial ?_ ?_
      ·refine⟨?z4,?z5,?z6,?XA,?XB,?XC,?XD,?z7,?z8,?XE,?xH,?xI,?XL,?XM,?xJ,?xK,?xL,?xM,?xN,?xO,trivial⟩;all_goals intro u w' d j i n m k
       all_goals simp only[bH,bI,bJ,bK,ay,Act.put,bL,bM,bN,Nat.reduceAdd,Nat.zero_add]
       case' XA=>simp only[show u 2=_ from i 2]
       case' XB=>simp only[show u 3=_ from i 3]
       case XC=>
        simp only[show u 4=_ from i 4];clear i n m k;refine aj ?_;have q:=j.an (J.out.an d0.out (fun x=>x)) (fun x=>x);go_simp;exact⟨_,rfl,al⟩
       case XD=>
        simp only[show u 0=_ from i 0,show u 1=_ from i 1,show u 5=_ from i 5];clear i n m k;refine aj ?_;go_simp;refine(fm _ az S l R g nm v (a1.out.ar (J.out.trans j)) (aB.out.ar (J.out.trans j)) (aU.out.ar (J.out.trans j)) (by have A:=t.out;have B:=s.out;simp only[Tr.size,Tr.bytes]at A B⊢;omega) (by have A:=t.out;have B:=s.out;simp only[Tr.size,Tr.bytes]at A B⊢;omega)).mono ?_;rintro e Q⟨a,rfl,o,f4⟩;exact⟨_,rfl,f4.bP,⟨a,rfl,o⟩,trivial⟩
       case' XE=>simp only[show u 8=_ from i 8]
       case' xH=>simp only[show u 9=_ from i 9]
       case xI=>
        simp only[show u 10=_ from i 10];clear i n m k;refine aj ?_;have q:=j.an (J.out.an d1.out (fun x=>x)) (fun x=>x);go_simp;exact⟨_,rfl,al⟩
       case' xJ=>simp only[show u 13=_ from i 13]
       case' xK=>simp only[show u 14=_ from i 14]
       case xL=>
        simp only[show u 15=_ from i 15];clear i n m k;refine aj ?_;have q:=j.an (J.out.an av.out (fun x=>x)) (fun x=>x);go_simp;exact⟨_,rfl,al⟩
       case xM=>
        simp only[show u 11=_ from i 11,show u 12=_ from i 12,show u 16=_ from i 16];clear i n m k;refine aj ?_;go_simp;refine(fm _ U P T rr F M ao (aE.out.ar (J.out.trans j)) (aI.out.ar (J.out.trans j)) (bo.out.ar (J.out.trans j)) (by have A:=t.out;have B:=s.out;simp only[Tr.size,Tr.bytes]at A B⊢;omega) (by have A:=t.out;have B:=s.out;simp only[Tr.size,Tr.bytes]at A B⊢;omega)).mono ?_;rintro e Q⟨a,rfl,o,f4⟩;exact⟨_,rfl,f4.bP,⟨a,rfl,o⟩,trivial⟩
       case xN=>
        obtain⟨bb,bd,n6⟩:=i 6;obtain⟨aJ,aM,aS⟩:=i 17;simp only[bd,show u 7=_ from i 7,aM];clear i n m k;refine aj ?_;go_simp;refine(fm _ bb aJ (.node l nm v R) (.node T M ao rr) K G V n6 aS (a5.out.ar (J.out.trans j)) (by have A:=t.out;have B:=s.out;simp only[Tr.size,Tr.bytes]at A B⊢;omega) (by have A:=t.out;have B:=s.out;simp only[Tr.size,Tr.bytes]at A B⊢;omega)).mono ?_;rintro e Q⟨a,rfl,o,f4⟩;exact⟨_,rfl,f4.bP,⟨a,rfl,o⟩,trivial⟩
       case xO=>
        obtain⟨a8,aN,aT⟩:=i 18;simp only[aN];clear i n m k;refine aj ?_;go_simp;exact⟨_,rfl,aD,⟨_,rfl,aT⟩,trivial⟩
       all_goals
        clear i n m k;refine aj ?_;go_simp;exact⟨_,rfl,al⟩
      ·intro u w' j i k;obtain⟨ba,ac,am⟩:=i 19 (by omega);clear i k;simp only[bH,bI,bJ,bK,ay,Act.put,bL,bM,bN,dD,dE,Nat.reduceAdd,Nat.zero_add,ac];have ap:=af (J.out.trans j);have aq:=af am;clear j am ac;go_wp2;go_ret;exact⟨_,_,rfl,aq.out,by simp[Tr.bC],ap.out⟩
   ·have bz:decide (d<(-1:Int))=false:=decide_eq_false a3;clear aV a3;go_upto_region 7 with fail;refine aC 16 ag [Is (.int .i64 d),Is (.bool false),Is (.bool false),Is (undef),Is (undef),Is (undef),Is (undef),Is (undef),Is (undef),Is (undef),Is (undef),Is (undef),Is (undef),Is (undef),Is (.bool false),Is (.bool false)] [] (fun _=>True) (fun _ _=>false) (by kernel_rfl) (by kernel_rfl) (by kernel_rfl) (by kernel_rfl) ⟨Is.ah _,Is.ah _,Is.ah _,Is.ah _,Is.ah _,Is.ah _,Is.ah _,Is.ah _,Is.ah _,Is.ah _,Is.ah _,Is.ah _,Is.ah _,Is.ah _,Is.ah _,Is.ah _,trivial⟩ trivial (fun _ _ _ _ h=>h) trivial ?_ ?_
    ·refine⟨?XF,?zG,?zH,?zI,?zJ,?zK,?zL,?zM,?zN,?zO,?zA,?zB,?zC,?zD,?zE,?zF,trivial⟩;all_goals intro u w' d j i n m k
     all_goals simp only[bH,bI,bJ,bK,ay,Act.put,bL,bM,bN,Nat.reduceAdd,Nat.zero_add]
     case' zG=>simp only[show u 0=_ from i 0]
     case' zH=>simp only[show u 1=_ from i 1]
     case zI=>simp only[show u 2=_ from i 2];exact .inr ⟨by kernel_rfl,_,rfl,aD,rfl,trivial⟩
     case zJ=>simp only[show u 2=_ from i 2];exact .inr ⟨by kernel_rfl,_,rfl,aD,rfl,trivial⟩
     case zK=>simp only[show u 2=_ from i 2];exact .inr ⟨by kernel_rfl,_,rfl,aD,rfl,trivial⟩
     case zL=>simp only[show u 2=_ from i 2];exact .inr ⟨by kernel_rfl,_,rfl,aD,rfl,trivial⟩
     case zM=>simp only[show u 2=_ from i 2];exact .inr ⟨by kernel_rfl,_,rfl,aD,rfl,trivial⟩
     case zN=>simp only[show u 2=_ from i 2];exact .inr ⟨by kernel_rfl,_,rfl,aD,rfl,trivial⟩
     case zO=>simp only[show u 2=_ from i 2];exact .inr ⟨by kernel_rfl,_,rfl,aD,rfl,trivial⟩
     case zA=>simp only[show u 2=_ from i 2];exact .inr ⟨by kernel_rfl,_,rfl,aD,rfl,trivial⟩
     case zB=>simp only[show u 2=_ from i 2];exact .inr ⟨by kernel_rfl,_,rfl,aD,rfl,trivial⟩
     case zC=>simp only[show u 2=_ from i 2];exact .inr ⟨by kernel_rfl,_,rfl,aD,rfl,trivial⟩
     case zD=>simp only[show u 2=_ from i 2];exact .inr ⟨by kernel_rfl,_,rfl,aD,rfl,trivial⟩
     case' zE=>simp only[show u 2=_ from i 2,show u 13=_ from i 13]
     case' zF=>simp only[show u 14=_ from i 14]
     all_goals
      clear i n m k;refine aj ?_;go_simp;exact⟨_,rfl,al⟩
    ·intro u w' j i k;have C:u 15=_:=i 15 (by omega);clear i k;simp only[bH,bI,bJ,bK,ay,Act.put,bL,bM,bN,dD,dE,Nat.reduceAdd,Nat.zero_add,C];have J:=af (D.out.trans j);clear j C;go_wp2_with fail;refine(fm _ az ra l r g nm v (a1.out.ar J.out) (a2.out.ar J.out) (aU.out.ar J.out) (by have A:=t.out;omega) (by have B:=s.out;omega)).mono ?_;rintro e Q⟨a,rfl,o,f4⟩;have aq:=af o;have ap:=af (J.out.trans f4);clear o f4;go_wp2;go_ret;exact⟨_,_,rfl,aq.out,by simp[Tr.bC],ap.out⟩
end Go.Proofs.YtphjagkehiklkaaGreatDoor
