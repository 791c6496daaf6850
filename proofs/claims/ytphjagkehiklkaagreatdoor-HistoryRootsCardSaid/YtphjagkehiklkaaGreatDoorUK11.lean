/- Texts. -/
import Derived.Test.YtphjagkehiklkaaGreatDoorUK08
set_option linter.unusedVariables false
set_option linter.unusedSimpArgs false
set_option maxRecDepth 100000
set_option maxHeartbeats 8000000
namespace Go.Proofs.YtphjagkehiklkaaGreatDoor
open Go.RowKit Go.Shelf
def cG(L:List (aD×ByteArray)):Nat:=(L.map (fun x=>x.2.size)).sum
theorem Tr.cP:∀t:Tr,t.bytes=cG t.aW
 | .leaf=>rfl
 | .node l nm v r=>by
  rw[Tr.bytes,Tr.aW,l.cP,r.cP];simp only[cG,List.map_append,List.map_cons,List.sum_append,List.sum_cons];omega
def Balanced(w:World)(L:List (aD×ByteArray))(e:Ending)(w':World):Prop:=∃a t,e= .returned (.pointer a)∧bO w' a t∧t.aW=L∧Fr af w w'
theorem v7(aw ax:Option Addr)(l r:Tr)(g:Nat)(nm:aD)(v:ByteArray)(w:World)(bb:bO w aw l)(bc:bO w ax r)(hm:Mid w g nm v)(bo:l.size+r.size+1≤1048576)(bn:v.size+l.bytes+r.bytes≤1099511627776):
  Calls Tryz.prog 177 #[.pointer aw, .pointer (some ⟨g,0,none⟩), .pointer ax] w (Balanced w (l.aW++(nm,v)::r.aW)):=by
 have CL:=Lib.hid (eh w aw l bb);have a1:=Lib.hid (eh w ax r bc);have aY:=Lib.hid bb;have aZ:=Lib.hid bc;have aR:=Lib.hid hm;have t:=Lib.hid bo;have s:=Lib.hid bn;have b1:l.bQ≤1048576:=by have:=l.jb;omega
 have b2:r.bQ≤1048576:=by have:=r.jb;omega
 obtain⟨x,bd⟩:∃x:Int,x=(l.bQ:Nat):=⟨_,rfl⟩;obtain⟨y,be⟩:∃y:Int,y=(r.bQ:Nat):=⟨_,rfl⟩;rw[←bd]at CL;rw[←be]at a1;have bp:=Lib.hid bd;have bq:=Lib.hid be;have b3:0≤x∧x≤1048576:=by omega
 have b4:0≤y∧y≤1048576:=by omega
 clear bb bc hm bo bn bd be b1 b2;go_enter Tryz.func177,Tryz.ntmps177;go_wp2_with fail;refine CL.out.mono ?_;rintro e w'⟨rfl,rfl⟩;go_wp2_with fail;refine a1.out.mono ?_;rintro e w'⟨rfl,rfl⟩;clear CL a1;obtain⟨d,bt⟩:∃d:Int,x-y=d:=⟨_,rfl⟩;have bh:=Lib.hid bt;have b5:-1048576≤d∧d≤1048576:=by omega
 by_cases aS:1<d
 ·have bv:decide ((1:Int)<d)=true:=decide_eq_true aS;obtain⟨W,L,lv,Z,rfl⟩:∃W L lv Z,l= .node W L lv Z:=by
   cases l with
   |leaf=>have aL:=bp.out;simp only[Tr.bQ]at aL;have:=bh.out;omega
   |node a b c d=>exact⟨a,b,c,d,rfl⟩
  obtain⟨E,O,X,rfl,aT,aU,au⟩:=aY.out;have aC:=Lib.hid aT;have aE:=Lib.hid aU;have bl:Hid (Mid w E L lv):=Mid.of au;have aq:Hid (w.cell? ⟨E,0,none⟩=some (.pointer O)):=au.cell 0;have ar:Hid (w.cell? ⟨E,1,none⟩=some (.pointer X)):=au.cell 1;have ay:Hid (∀w',Fr af w w'→Calls Tryz.prog 181 #[.pointer O] w' (bj w' (.int .i64 (W.bQ:Nat)))):=fun w' f=>eh w' O W (aC.out.al f);have H1:Hid (∀w',Fr af w w'→Calls Tryz.prog 181 #[.pointer X] w' (bj w' (.int .i64 (Z.bQ:Nat)))):=fun w' f=>eh w' X Z (aE.out.al f);obtain⟨p,aM⟩:∃p:Int,p=(W.bQ:Nat):=⟨_,rfl⟩;obtain⟨q,aN⟩:∃q:Int,q=(Z.bQ:Nat):=⟨_,rfl⟩;rw[←aM]at ay;rw[←aN]at H1;have bi:=Lib.hid aM;have bk:=Lib.hid aN;have br:0≤p∧0≤q:=by omega
  clear aT aU au aM aN aS;by_cases ah:q≤p
  ·have bg:decide (q≤p)=true:=decide_eq_true ah;go_upto_region 2 with fail;refine aA 16 af [Is (.int .i64 d),Is (.bool true),Is (.bool true),Is (.pointer (some ⟨E,0,none⟩)),Is (.pointer (some ⟨E,0,none⟩)),Is (.pointer (some ⟨E,0,none⟩)),Is (.pointer O),Is (.int .i64 p),Is (.pointer (some ⟨E,0,none⟩)),Is (.pointer (some ⟨E,0,none⟩)),Is (.pointer (some ⟨E,1,none⟩)),Is (.pointer X),Is (.int .i64 q),Is (.bool true),Is (.bool true),Is (.bool true)] [] (fun _=>True) (fun _ _=>false) (by kernel_rfl) (by kernel_rfl) (by kernel_rfl) (by kernel_rfl) ⟨Is.ag _,Is.ag _,Is.ag _,Is.ag _,Is.ag _,Is.ag _,Is.ag _,Is.ag _,Is.ag _,Is.ag _,Is.ag _,Is.ag _,Is.ag _,Is.ag _,Is.ag _,Is.ag _,trivial⟩ trivial (fun _ _ _ _ h=>h) trivial ?_ ?_
   ·refine⟨?XM,?xO,?xP,?xQ,?xR,?xS,?xT,?xU,?xV,?xW,?zP,?zQ,?zR,?zS,?zT,?zU,trivial⟩;all_goals intro u w' d j i n m k
    all_goals simp only[List.take_succ_cons,List.take_zero,List.map_cons,List.map_nil,an,Act.put,List.setIfInBounds_toArray,List.set_cons_zero,List.set_cons_succ,Nat.reduceAdd,Nat.zero_add]
    case' xO=>simp only[show u 0=_ from i 0 (by kernel_rfl)]
    case' xP=>simp only[show u 1=_ from i 1 (by kernel_rfl)]
    case' xQ=>simp only[show u 2=_ from i 2 (by kernel_rfl)]
    case' xR=>simp only[show u 3=_ from i 3 (by kernel_rfl),show u 2=_ from i 2 (by kernel_rfl)]
    case' xS=>simp only[show u 4=_ from i 4 (by kernel_rfl),show u 2=_ from i 2 (by kernel_rfl)]
    case xT=>
     simp only[show u 5=_ from i 5 (by kernel_rfl),show u 2=_ from i 2 (by kernel_rfl)];clear i n m k;refine .inl ⟨by kernel_rfl,?_⟩;have q:=j.aj (aq.out) (fun x=>x);go_simp;exact⟨_,rfl,Fr.refl _ _,rfl,trivial⟩
    case xU=>
     simp only[show u 6=_ from i 6 (by kernel_rfl),show u 2=_ from i 2 (by kernel_rfl)];clear i n m k;refine .inl ⟨by kernel_rfl,?_⟩;go_simp;refine(ay.out _ j).mono ?_;rintro e Q⟨rfl,rfl⟩;exact⟨_,rfl,Fr.refl _ _,rfl,trivial⟩
    case' xV=>simp only[show u 2=_ from i 2 (by kernel_rfl)]
    case' xW=>simp only[show u 8=_ from i 8 (by kernel_rfl),show u 2=_ from i 2 (by kernel_rfl)]
    case' zP=>simp only[show u 9=_ from i 9 (by kernel_rfl),show u 2=_ from i 2 (by kernel_rfl)]
    case zQ=>
     simp only[show u 10=_ from i 10 (by kernel_rfl),show u 2=_ from i 2 (by kernel_rfl)];clear i n m k;refine .inl ⟨by kernel_rfl,?_⟩;have q:=j.aj (ar.out) (fun x=>x);go_simp;exact⟨_,rfl,Fr.refl _ _,rfl,trivial⟩
    case zR=>
     simp only[show u 11=_ from i 11 (by kernel_rfl),show u 2=_ from i 2 (by kernel_rfl)];clear i n m k;refine .inl ⟨by kernel_rfl,?_⟩;go_simp;refine(H1.out _ j).mono ?_;rintro e Q⟨rfl,rfl⟩;exact⟨_,rfl,Fr.refl _ _,rfl,trivial⟩
    case' zS=>simp only[show u 7=_ from i 7 (by kernel_rfl),show u 12=_ from i 12 (by kernel_rfl),show u 2=_ from i 2 (by kernel_rfl)]
    case' zT=>simp only[show u 2=_ from i 2 (by kernel_rfl),show u 13=_ from i 13 (by kernel_rfl)]
    case' zU=>simp only[show u 14=_ from i 14 (by kernel_rfl)]
    all_goals
     clear i n m k;refine .inl ⟨by kernel_rfl,?_⟩;go_simp;exact⟨_,rfl,Fr.refl _ _,rfl,trivial⟩
   ·intro u w' j i k;have C:u 15=_:=i 15 (by omega);clear i k;simp only[List.take_succ_cons,List.take_zero,List.map_cons,List.map_nil,an,Act.put,List.setIfInBounds_toArray,List.set_cons_zero,List.set_cons_succ,List.drop_succ_cons,List.drop_zero,Nat.reduceAdd,Nat.zero_add,C];have D:=Lib.hid j;clear j C;go_upto_region 3 with fail;refine aA 14 af [Is (.pointer (some ⟨E,0,none⟩)),Is (.pointer (some ⟨E,0,none⟩)),Is (.pointer (some ⟨E,0,none⟩)),Is (.pointer O),Is (.pointer (some ⟨E,0,none⟩)),Is (.pointer (some ⟨E,0,none⟩)),Is (.pointer (some ⟨E,0,none⟩)),Is (.pointer (some ⟨E,1,none⟩)),Is (.pointer X),Is (.pointer (some ⟨g,0,none⟩)),Is (.pointer ax),(fun I H=>∃z,I= .pointer z∧bO H z (.node Z nm v r)),(fun I H=>∃z,I= .pointer z∧bO H z (.node W L lv (.node Z nm v r))),(fun I H=>∃z,I= .pointer z∧bO H z (.node W L lv (.node Z nm v r)))] [] (fun _=>True) (fun _ _=>false) (by kernel_rfl) (by kernel_rfl) (by kernel_rfl) (by kernel_rfl) ⟨Is.ag _,Is.ag _,Is.ag _,Is.ag _,Is.ag _,Is.ag _,Is.ag _,Is.ag _,Is.ag _,Is.ag _,Is.ag _,fun v w1 w2 _ f h=>by obtain⟨a,e,o⟩:=h;exact⟨a,e,o.al f⟩,fun v w1 w2 _ f h=>by obtain⟨a,e,o⟩:=h;exact⟨a,e,o.al f⟩,fun v w1 w2 _ f h=>by obtain⟨a,e,o⟩:=h;exact⟨a,e,o.al f⟩,trivial⟩ trivial (fun _ _ _ _ h=>h) trivial ?_ ?_
    ·refine⟨?XN,?xX,?xY,?xZ,?XO,?XP,?ZA,?ZB,?ZC,?XQ,?XF,?zV,?zW,?zX,trivial⟩;all_goals intro u w' d j i n m k
     all_goals simp only[List.take_succ_cons,List.take_zero,List.map_cons,List.map_nil,an,Act.put,List.setIfInBounds_toArray,List.set_cons_zero,List.set_cons_succ,Nat.reduceAdd,Nat.zero_add]
     case' xX=>simp only[show u 0=_ from i 0 (by kernel_rfl)]
     case' xY=>simp only[show u 1=_ from i 1 (by kernel_rfl)]
     case xZ=>
      simp only[show u 2=_ from i 2 (by kernel_rfl)];clear i n m k;refine .inl ⟨by kernel_rfl,?_⟩;have q:=j.aj (D.out.aj (aq.out) (fun x=>x)) (fun x=>x);go_simp;exact⟨_,rfl,Fr.refl _ _,rfl,trivial⟩
     case' ZA=>simp only[show u 5=_ from i 5 (by kernel_rfl)]
     case' ZB=>simp only[show u 6=_ from i 6 (by kernel_rfl)]
     case ZC=>
      simp only[show u 7=_ from i 7 (by kernel_rfl)];clear i n m k;refine .inl ⟨by kernel_rfl,?_⟩;have q:=j.aj (D.out.aj (ar.out) (fun x=>x)) (fun x=>x);go_simp;exact⟨_,rfl,Fr.refl _ _,rfl,trivial⟩
     case zV=>
      simp only[show u 8=_ from i 8 (by kernel_rfl),show u 9=_ from i 9 (by kernel_rfl),show u 10=_ from i 10 (by kernel_rfl)];clear i n m k;refine .inl ⟨by kernel_rfl,?_⟩;go_simp;refine(ep _ X ax Z r g nm v (aE.out.al (D.out.trans j)) (aZ.out.al (D.out.trans j)) (aR.out.al (D.out.trans j)) (by have A:=t.out;have B:=s.out;simp only[Tr.size,Tr.bytes]at A B⊢;omega) (by have A:=t.out;have B:=s.out;simp only[Tr.size,Tr.bytes]at A B⊢;omega)).mono ?_;rintro e Q⟨a,rfl,o,f4⟩;exact⟨_,rfl,f4.bA,⟨a,rfl,o⟩,trivial⟩
     case zW=>
      obtain⟨a3,a8,bf⟩:=i 11 (by kernel_rfl);simp only[show u 3=_ from i 3 (by kernel_rfl),show u 4=_ from i 4 (by kernel_rfl),a8];clear i n m k;refine .inl ⟨by kernel_rfl,?_⟩;go_simp;refine(ep _ O a3 W (.node Z nm v r) E L lv (aC.out.al (D.out.trans j)) bf (bl.out.al (D.out.trans j)) (by have A:=t.out;have B:=s.out;simp only[Tr.size,Tr.bytes]at A B⊢;omega) (by have A:=t.out;have B:=s.out;simp only[Tr.size,Tr.bytes]at A B⊢;omega)).mono ?_;rintro e Q⟨a,rfl,o,f4⟩;exact⟨_,rfl,f4.bA,⟨a,rfl,o⟩,trivial⟩
     case zX=>
      obtain⟨a12,aI,aO⟩:=i 12 (by kernel_rfl);simp only[aI];clear i n m k;refine .inl ⟨by kernel_rfl,?_⟩;go_simp;exact⟨_,rfl,Fr.refl _ _,⟨_,rfl,aO⟩,trivial⟩
     all_goals
      clear i n m k;refine .inl ⟨by kernel_rfl,?_⟩;go_simp;exact⟨_,rfl,Fr.refl _ _,rfl,trivial⟩
    ·intro u w' j i k;obtain⟨a4,ab,ai⟩:=i 13 (by omega);clear i k;simp only[List.take_succ_cons,List.take_zero,List.map_cons,List.map_nil,an,Act.put,List.setIfInBounds_toArray,List.set_cons_zero,List.set_cons_succ,List.drop_succ_cons,List.drop_zero,Nat.reduceAdd,Nat.zero_add,ab];have ao:=Lib.hid (D.out.trans j);have ap:=Lib.hid ai;clear j ai ab;go_wp2;go_ret;exact⟨_,_,rfl,ap.out,by simp[Tr.aW],ao.out⟩
  ·have bg:decide (q≤p)=false:=decide_eq_false ah;obtain⟨R,G,V,T,rfl⟩:∃R G V T,Z= .node R G V T:=by
    cases Z with
    |leaf=>have aL:=bk.out;simp only[Tr.bQ]at aL;omega
    |node a b c d=>exact⟨a,b,c,d,rfl⟩
   obtain⟨K,S,U,rfl,ad,ae,N⟩:=aE.out;have az:=Lib.hid ad;have aB:=Lib.hid ae;have a2:Hid (Mid w K G V):=Mid.of N;have d0:Hid (w.cell? ⟨K,0,none⟩=some (.pointer S)):=N.cell 0;have d1:Hid (w.cell? ⟨K,1,none⟩=some (.pointer U)):=N.cell 1;clear ad ae N;go_upto_region 2 with fail;refine aA 16 af [Is (.int .i64 d),Is (.bool true),Is (.bool true),Is (.pointer (some ⟨E,0,none⟩)),Is (.pointer (some ⟨E,0,none⟩)),Is (.pointer (some ⟨E,0,none⟩)),Is (.pointer O),Is (.int .i64 p),Is (.pointer (some ⟨E,0,none⟩)),Is (.pointer (some ⟨E,0,none⟩)),Is (.pointer (some ⟨E,1,none⟩)),Is (.pointer (some ⟨K,0,none⟩)),Is (.int .i64 q),Is (.bool false),Is (.bool false),Is (.bool false)] [] (fun _=>True) (fun _ _=>false) (by kernel_rfl) (by kernel_rfl) (by kernel_rfl) (by kernel_rfl) ⟨Is.ag _,Is.ag _,Is.ag _,Is.ag _,Is.ag _,Is.ag _,Is.ag _,Is.ag _,Is.ag _,Is.ag _,Is.ag _,Is.ag _,Is.ag _,Is.ag _,Is.ag _,Is.ag _,trivial⟩ trivial (fun _ _ _ _ h=>h) trivial ?_ ?_
   ·refine⟨?XR,?ZD,?ZE,?ZF,?ZG,?ZH,?ZI,?ZJ,?ZK,?ZL,?zY,?zZ,?yA,?yB,?yC,?yD,trivial⟩;all_goals intro u w' d j i n m k
    all_goals simp only[List.take_succ_cons,List.take_zero,List.map_cons,List.map_nil,an,Act.put,List.setIfInBounds_toArray,List.set_cons_zero,List.set_cons_succ,Nat.reduceAdd,Nat.zero_add]
    case' ZD=>simp only[show u 0=_ from i 0 (by kernel_rfl)]
    case' ZE=>simp only[show u 1=_ from i 1 (by kernel_rfl)]
    case' ZF=>simp only[show u 2=_ from i 2 (by kernel_rfl)]
    case' ZG=>simp only[show u 3=_ from i 3 (by kernel_rfl),show u 2=_ from i 2 (by kernel_rfl)]
    case' ZH=>simp only[show u 4=_ from i 4 (by kernel_rfl),show u 2=_ from i 2 (by kernel_rfl)]
    case ZI=>
     simp only[show u 5=_ from i 5 (by kernel_rfl),show u 2=_ from i 2 (by kernel_rfl)];clear i n m k;refine .inl ⟨by kernel_rfl,?_⟩;have q:=j.aj (aq.out) (fun x=>x);go_simp;exact⟨_,rfl,Fr.refl _ _,rfl,trivial⟩
    case ZJ=>
     simp only[show u 6=_ from i 6 (by kernel_rfl),show u 2=_ from i 2 (by kernel_rfl)];clear i n m k;refine .inl ⟨by kernel_rfl,?_⟩;go_simp;refine(ay.out _ j).mono ?_;rintro e Q⟨rfl,rfl⟩;exact⟨_,rfl,Fr.refl _ _,rfl,trivial⟩
    case' ZK=>simp only[show u 2=_ from i 2 (by kernel_rfl)]
    case' ZL=>simp only[show u 8=_ from i 8 (by kernel_rfl),show u 2=_ from i 2 (by kernel_rfl)]
    case' zY=>simp only[show u 9=_ from i 9 (by kernel_rfl),show u 2=_ from i 2 (by kernel_rfl)]
    case zZ=>
     simp only[show u 10=_ from i 10 (by kernel_rfl),show u 2=_ from i 2 (by kernel_rfl)];clear i n m k;refine .inl ⟨by kernel_rfl,?_⟩;have q:=j.aj (ar.out) (fun x=>x);go_simp;exact⟨_,rfl,Fr.refl _ _,rfl,trivial⟩
    case yA=>
     simp only[show u 11=_ from i 11 (by kernel_rfl),show u 2=_ from i 2 (by kernel_rfl)];clear i n m k;refine .inl ⟨by kernel_rfl,?_⟩;go_simp;refine(H1.out _ j).mono ?_;rintro e Q⟨rfl,rfl⟩;exact⟨_,rfl,Fr.refl _ _,rfl,trivial⟩
    case' yB=>simp only[show u 7=_ from i 7 (by kernel_rfl),show u 12=_ from i 12 (by kernel_rfl),show u 2=_ from i 2 (by kernel_rfl)]
    case' yC=>simp only[show u 2=_ from i 2 (by kernel_rfl),show u 13=_ from i 13 (by kernel_rfl)]
    case' yD=>simp only[show u 14=_ from i 14 (by kernel_rfl)]
    all_goals
     clear i n m k;refine .inl ⟨by kernel_rfl,?_⟩;go_simp;exact⟨_,rfl,Fr.refl _ _,rfl,trivial⟩
   ·intro u w' j i k;have C:u 15=_:=i 15 (by omega);clear i k;simp only[List.take_succ_cons,List.take_zero,List.map_cons,List.map_nil,an,Act.put,List.setIfInBounds_toArray,List.set_cons_zero,List.set_cons_succ,List.drop_succ_cons,List.drop_zero,Nat.reduceAdd,Nat.zero_add,C];have D:=Lib.hid j;have bz:=j.aj ar.out (fun x=>x);clear j C;go_upto_region 6 with fail;refine aA 20 af [Is (.pointer (some ⟨E,0,none⟩)),Is (.pointer (some ⟨E,0,none⟩)),Is (.pointer (some ⟨E,0,none⟩)),Is (.pointer O),Is (.pointer (some ⟨E,0,none⟩)),Is (.pointer (some ⟨K,0,none⟩)),Is (.pointer (some ⟨K,0,none⟩)),Is (.pointer (some ⟨K,0,none⟩)),Is (.pointer S),(fun I H=>∃z,I= .pointer z∧bO H z (.node W L lv R)),Is (.pointer (some ⟨K,0,none⟩)),Is (.pointer (some ⟨K,0,none⟩)),Is (.pointer (some ⟨K,0,none⟩)),Is (.pointer (some ⟨K,1,none⟩)),Is (.pointer U),Is (.pointer (some ⟨g,0,none⟩)),Is (.pointer ax),(fun I H=>∃z,I= .pointer z∧bO H z (.node T nm v r)),(fun I H=>∃z,I= .pointer z∧bO H z (.node (.node W L lv R) G V (.node T nm v r))),(fun I H=>∃z,I= .pointer z∧bO H z (.node (.node W L lv R) G V (.node T nm v r)))] [] (fun _=>True) (fun _ _=>false) (by kernel_rfl) (by kernel_rfl) (by kernel_rfl) (by kernel_rfl) ⟨Is.ag _,Is.ag _,Is.ag _,Is.ag _,Is.ag _,Is.ag _,Is.ag _,Is.ag _,Is.ag _,fun v w1 w2 _ f h=>by obtain⟨a,e,o⟩:=h;exact⟨a,e,o.al f⟩,Is.ag _,Is.ag _,Is.ag _,Is.ag _,Is.ag _,Is.ag _,Is.ag _,fun v w1 w2 _ f h=>by obtain⟨a,e,o⟩:=h;exact⟨a,e,o.al f⟩,fun v w1 w2 _ f h=>by obtain⟨a,e,o⟩:=h;exact⟨a,e,o.al f⟩,fun v w1 w2 _ f h=>by obtain⟨a,e,o⟩:=h;exact⟨a,e,o.al f⟩,trivial⟩ trivial (fun _ _ _ _ h=>h) trivial ?_ ?_
    ·refine⟨?XS,?ZM,?ZN,?ZO,?XT,?XU,?ZP,?ZQ,?ZR,?ZS,?XG,?XH,?yE,?yF,?yG,?XI,?XJ,?yH,?yI,?yJ,trivial⟩;all_goals intro u w' d j i n m k
     all_goals simp only[List.take_succ_cons,List.take_zero,List.map_cons,List.map_nil,an,Act.put,List.setIfInBounds_toArray,List.set_cons_zero,List.set_cons_succ,Nat.reduceAdd,Nat.zero_add]
     case' ZM=>simp only[show u 0=_ from i 0 (by kernel_rfl)]
     case' ZN=>simp only[show u 1=_ from i 1 (by kernel_rfl)]
     case ZO=>
      simp only[show u 2=_ from i 2 (by kernel_rfl)];clear i n m k;refine .inl ⟨by kernel_rfl,?_⟩;have q:=j.aj (D.out.aj aq.out (fun x=>x)) (fun x=>x);go_simp;exact⟨_,rfl,Fr.refl _ _,rfl,trivial⟩
     case' ZP=>simp only[show u 5=_ from i 5 (by kernel_rfl)]
     case' ZQ=>simp only[show u 6=_ from i 6 (by kernel_rfl)]
     case ZR=>
      simp only[show u 7=_ from i 7 (by kernel_rfl)];clear i n m k;refine .inl ⟨by kernel_rfl,?_⟩;have q:=j.aj (D.out.aj d0.out (fun x=>x)) (fun x=>x);go_simp;exact⟨_,rfl,Fr.refl _ _,rfl,trivial⟩
     case ZS=>
      simp only[show u 3=_ from i 3 (by kernel_rfl),show u 4=_ from i 4 (by kernel_rfl),show u 8=_ from i 8 (by kernel_rfl)];clear i n m k;refine .inl ⟨by kernel_rfl,?_⟩;go_simp;refine(ep _ O S W R E L lv (aC.out.al (D.out.trans j)) (az.out.al (D.out.trans j)) (bl.out.al (D.out.trans j)) (by have A:=t.out;have B:=s.out;simp only[Tr.size,Tr.bytes]at A B⊢;omega) (by have A:=t.out;have B:=s.out;simp only[Tr.size,Tr.bytes]at A B⊢;omega)).mono ?_;rintro e Q⟨a,rfl,o,f4⟩;exact⟨_,rfl,f4.bA,⟨a,rfl,o⟩,trivial⟩
     case' yE=>simp only[show u 11=_ from i 11 (by kernel_rfl)]
     case' yF=>simp only[show u 12=_ from i 12 (by kernel_rfl)]
     case yG=>
      simp only[show u 13=_ from i 13 (by kernel_rfl)];clear i n m k;refine .inl ⟨by kernel_rfl,?_⟩;have q:=j.aj (D.out.aj d1.out (fun x=>x)) (fun x=>x);go_simp;exact⟨_,rfl,Fr.refl _ _,rfl,trivial⟩
     case yH=>
      simp only[show u 14=_ from i 14 (by kernel_rfl),show u 15=_ from i 15 (by kernel_rfl),show u 16=_ from i 16 (by kernel_rfl)];clear i n m k;refine .inl ⟨by kernel_rfl,?_⟩;go_simp;refine(ep _ U ax T r g nm v (aB.out.al (D.out.trans j)) (aZ.out.al (D.out.trans j)) (aR.out.al (D.out.trans j)) (by have A:=t.out;have B:=s.out;simp only[Tr.size,Tr.bytes]at A B⊢;omega) (by have A:=t.out;have B:=s.out;simp only[Tr.size,Tr.bytes]at A B⊢;omega)).mono ?_;rintro e Q⟨a,rfl,o,f4⟩;exact⟨_,rfl,f4.bA,⟨a,rfl,o⟩,trivial⟩
     case yI=>
      obtain⟨a9,bs,bu⟩:=i 9 (by kernel_rfl);obtain⟨aH,aJ,aP⟩:=i 17 (by kernel_rfl);simp only[bs,show u 10=_ from i 10 (by kernel_rfl),aJ];clear i n m k;refine .inl ⟨by kernel_rfl,?_⟩;go_simp;refine(ep _ a9 aH (.node W L lv R) (.node T nm v r) K G V bu aP (a2.out.al (D.out.trans j)) (by have A:=t.out;have B:=s.out;simp only[Tr.size,Tr.bytes]at A B⊢;omega) (by have A:=t.out;have B:=s.out;simp only[Tr.size,Tr.bytes]at A B⊢;omega)).mono ?_;rintro e Q⟨a,rfl,o,f4⟩;exact⟨_,rfl,f4.bA,⟨a,rfl,o⟩,trivial⟩
     case yJ=>
      obtain⟨a5,aK,aQ⟩:=i 18 (by kernel_rfl);simp only[aK];clear i n m k;refine .inl ⟨by kernel_rfl,?_⟩;go_simp;exact⟨_,rfl,Fr.refl _ _,⟨_,rfl,aQ⟩,trivial⟩
     all_goals
      clear i n m k;refine .inl ⟨by kernel_rfl,?_⟩;go_simp;exact⟨_,rfl,Fr.refl _ _,rfl,trivial⟩
    ·intro u w' j i k;obtain⟨a6,ac,ak⟩:=i 19 (by omega);clear i k;simp only[List.take_succ_cons,List.take_zero,List.map_cons,List.map_nil,an,Act.put,List.setIfInBounds_toArray,List.set_cons_zero,List.set_cons_succ,List.drop_succ_cons,List.drop_zero,Nat.reduceAdd,Nat.zero_add,ac];have ao:=Lib.hid (D.out.trans j);have ap:=Lib.hid ak;clear j ak ac;go_wp2;go_ret;exact⟨_,_,rfl,ap.out,by simp[Tr.aW],ao.out⟩
 ·have bv:decide ((1:Int)<d)=false:=decide_eq_false aS;go_upto_region 2 with fail;refine aA 16 af [Is (.int .i64 d),Is (.bool false),Is (.bool false),Is (undef),Is (undef),Is (undef),Is (undef),Is (undef),Is (undef),Is (undef),Is (undef),Is (undef),Is (undef),Is (undef),Is (.bool false),Is (.bool false)] [] (fun _=>True) (fun _ _=>false) (by kernel_rfl) (by kernel_rfl) (by kernel_rfl) (by kernel_rfl) ⟨Is.ag _,Is.ag _,Is.ag _,Is.ag _,Is.ag _,Is.ag _,Is.ag _,Is.ag _,Is.ag _,Is.ag _,Is.ag _,Is.ag _,Is.ag _,Is.ag _,Is.ag _,Is.ag _,trivial⟩ trivial (fun _ _ _ _ h=>h) trivial ?_ ?_
  ·refine⟨?XV,?ZT,?ZU,?ZV,?ZW,?ZX,?ZY,?ZZ,?YA,?YB,?yK,?yL,?yM,?yN,?yO,?yP,trivial⟩;all_goals intro u w' d j i n m k
   all_goals simp only[List.take_succ_cons,List.take_zero,List.map_cons,List.map_nil,an,Act.put,List.setIfInBounds_toArray,List.set_cons_zero,List.set_cons_succ,Nat.reduceAdd,Nat.zero_add]
   case' ZT=>simp only[show u 0=_ from i 0 (by kernel_rfl)]
   case' ZU=>simp only[show u 1=_ from i 1 (by kernel_rfl)]
   case ZV=>simp only[show u 2=_ from i 2 (by kernel_rfl)];exact .inr ⟨by kernel_rfl,_,rfl,Fr.refl _ _,rfl,trivial⟩
   case ZW=>simp only[show u 2=_ from i 2 (by kernel_rfl)];exact .inr ⟨by kernel_rfl,_,rfl,Fr.refl _ _,rfl,trivial⟩
   case ZX=>simp only[show u 2=_ from i 2 (by kernel_rfl)];exact .inr ⟨by kernel_rfl,_,rfl,Fr.refl _ _,rfl,trivial⟩
   case ZY=>simp only[show u 2=_ from i 2 (by kernel_rfl)];exact .inr ⟨by kernel_rfl,_,rfl,Fr.refl _ _,rfl,trivial⟩
   case ZZ=>simp only[show u 2=_ from i 2 (by kernel_rfl)];exact .inr ⟨by kernel_rfl,_,rfl,Fr.refl _ _,rfl,trivial⟩
   case YA=>simp only[show u 2=_ from i 2 (by kernel_rfl)];exact .inr ⟨by kernel_rfl,_,rfl,Fr.refl _ _,rfl,trivial⟩
   case YB=>simp only[show u 2=_ from i 2 (by kernel_rfl)];exact .inr ⟨by kernel_rfl,_,rfl,Fr.refl _ _,rfl,trivial⟩
   case yK=>simp only[show u 2=_ from i 2 (by kernel_rfl)];exact .inr ⟨by kernel_rfl,_,rfl,Fr.refl _ _,rfl,trivial⟩
   case yL=>simp only[show u 2=_ from i 2 (by kernel_rfl)];exact .inr ⟨by kernel_rfl,_,rfl,Fr.refl _ _,rfl,trivial⟩
   case yM=>simp only[show u 2=_ from i 2 (by kernel_rfl)];exact .inr ⟨by kernel_rfl,_,rfl,Fr.refl _ _,rfl,trivial⟩
   case yN=>simp only[show u 2=_ from i 2 (by kernel_rfl)];exact .inr ⟨by kernel_rfl,_,rfl,Fr.refl _ _,rfl,trivial⟩
   case' yO=>simp only[show u 2=_ from i 2 (by kernel_rfl),show u 13=_ from i 13 (by kernel_rfl)]
   case' yP=>simp only[show u 14=_ from i 14 (by kernel_rfl)]
   all_goals
    clear i n m k;refine .inl ⟨by kernel_rfl,?_⟩;go_simp;exact⟨_,rfl,Fr.refl _ _,rfl,trivial⟩
  ·intro u w' j i k;have C:u 15=_:=i 15 (by omega);clear i k;simp only[List.take_succ_cons,List.take_zero,List.map_cons,List.map_nil,an,Act.put,List.setIfInBounds_toArray,List.set_cons_zero,List.set_cons_succ,List.drop_succ_cons,List.drop_zero,Nat.reduceAdd,Nat.zero_add,C];have D:=Lib.hid j;clear j C;by_cases a0:d< -1
   ·have bw:decide (d<(-1:Int))=true:=decide_eq_true a0;obtain⟨aa,M,am,rr,rfl⟩:∃aa M am rr,r= .node aa M am rr:=by
     cases r with
     |leaf=>have aL:=bq.out;simp only[Tr.bQ]at aL;have:=bh.out;omega
     |node a b c d=>exact⟨a,b,c,d,rfl⟩
    obtain⟨F,Y,P,rfl,aV,aX,av⟩:=aZ.out;have aF:=Lib.hid aV;have aG:=Lib.hid aX;have bm:Hid (Mid w F M am):=Mid.of av;have aq:Hid (w.cell? ⟨F,0,none⟩=some (.pointer Y)):=av.cell 0;have ar:Hid (w.cell? ⟨F,1,none⟩=some (.pointer P)):=av.cell 1;have ay:Hid (∀w',Fr af w w'→Calls Tryz.prog 181 #[.pointer Y] w' (bj w' (.int .i64 (aa.bQ:Nat)))):=fun w' f=>eh w' Y aa (aF.out.al f);have H1:Hid (∀w',Fr af w w'→Calls Tryz.prog 181 #[.pointer P] w' (bj w' (.int .i64 (rr.bQ:Nat)))):=fun w' f=>eh w' P rr (aG.out.al f);obtain⟨p,aM⟩:∃p:Int,p=(aa.bQ:Nat):=⟨_,rfl⟩;obtain⟨q,aN⟩:∃q:Int,q=(rr.bQ:Nat):=⟨_,rfl⟩;rw[←aM]at ay;rw[←aN]at H1;have bi:=Lib.hid aM;have bk:=Lib.hid aN;have br:0≤p∧0≤q:=by omega
    clear aV aX av aM aN aS a0;by_cases ah:p≤q
    ·have bg:decide (p≤q)=true:=decide_eq_true ah;go_upto_region 7 with fail;refine aA 16 af [Is (.int .i64 d),Is (.bool true),Is (.bool true),Is (.pointer (some ⟨F,0,none⟩)),Is (.pointer (some ⟨F,0,none⟩)),Is (.pointer (some ⟨F,1,none⟩)),Is (.pointer P),Is (.int .i64 q),Is (.pointer (some ⟨F,0,none⟩)),Is (.pointer (some ⟨F,0,none⟩)),Is (.pointer (some ⟨F,0,none⟩)),Is (.pointer Y),Is (.int .i64 p),Is (.bool true),Is (.bool true),Is (.bool true)] [] (fun _=>True) (fun _ _=>false) (by kernel_rfl) (by kernel_rfl) (by kernel_rfl) (by kernel_rfl) ⟨Is.ag _,Is.ag _,Is.ag _,Is.ag _,Is.ag _,Is.ag _,Is.ag _,Is.ag _,Is.ag _,Is.ag _,Is.ag _,Is.ag _,Is.ag _,Is.ag _,Is.ag _,Is.ag _,trivial⟩ trivial (fun _ _ _ _ h=>h) trivial ?_ ?_
     ·refine⟨?XW,?YC,?YD,?YE,?YF,?YG,?YH,?YI,?YJ,?YK,?yQ,?yR,?yS,?yT,?yU,?yV,trivial⟩;all_goals intro u w' d j i n m k
      all_goals simp only[List.take_succ_cons,List.take_zero,List.map_cons,List.map_nil,an,Act.put,List.setIfInBounds_toArray,List.set_cons_zero,List.set_cons_succ,Nat.reduceAdd,Nat.zero_add]
      case' YC=>simp only[show u 0=_ from i 0 (by kernel_rfl)]
      case' YD=>simp only[show u 1=_ from i 1 (by kernel_rfl)]
      case' YE=>simp only[show u 2=_ from i 2 (by kernel_rfl)]
      case' YF=>simp only[show u 3=_ from i 3 (by kernel_rfl),show u 2=_ from i 2 (by kernel_rfl)]
      case' YG=>simp only[show u 4=_ from i 4 (by kernel_rfl),show u 2=_ from i 2 (by kernel_rfl)]
      case YH=>
       simp only[show u 5=_ from i 5 (by kernel_rfl),show u 2=_ from i 2 (by kernel_rfl)];clear i n m k;refine .inl ⟨by kernel_rfl,?_⟩;have q:=j.aj (D.out.aj ar.out (fun x=>x)) (fun x=>x);go_simp;exact⟨_,rfl,Fr.refl _ _,rfl,trivial⟩
      case YI=>
       simp only[show u 6=_ from i 6 (by kernel_rfl),show u 2=_ from i 2 (by kernel_rfl)];clear i n m k;refine .inl ⟨by kernel_rfl,?_⟩;go_simp;refine(H1.out _ (D.out.trans j)).mono ?_;rintro e Q⟨rfl,rfl⟩;exact⟨_,rfl,Fr.refl _ _,rfl,trivial⟩
      case' YJ=>simp only[show u 2=_ from i 2 (by kernel_rfl)]
      case' YK=>simp only[show u 8=_ from i 8 (by kernel_rfl),show u 2=_ from i 2 (by kernel_rfl)]
      case' yQ=>simp only[show u 9=_ from i 9 (by kernel_rfl),show u 2=_ from i 2 (by kernel_rfl)]
      case yR=>
       simp only[show u 10=_ from i 10 (by kernel_rfl),show u 2=_ from i 2 (by kernel_rfl)];clear i n m k;refine .inl ⟨by kernel_rfl,?_⟩;have q:=j.aj (D.out.aj aq.out (fun x=>x)) (fun x=>x);go_simp;exact⟨_,rfl,Fr.refl _ _,rfl,trivial⟩
      case yS=>
       simp only[show u 11=_ from i 11 (by kernel_rfl),show u 2=_ from i 2 (by kernel_rfl)];clear i n m k;refine .inl ⟨by kernel_rfl,?_⟩;go_simp;refine(ay.out _ (D.out.trans j)).mono ?_;rintro e Q⟨rfl,rfl⟩;exact⟨_,rfl,Fr.refl _ _,rfl,trivial⟩
      case' yT=>simp only[show u 7=_ from i 7 (by kernel_rfl),show u 12=_ from i 12 (by kernel_rfl),show u 2=_ from i 2 (by kernel_rfl)]
      case' yU=>simp only[show u 2=_ from i 2 (by kernel_rfl),show u 13=_ from i 13 (by kernel_rfl)]
      case' yV=>simp only[show u 14=_ from i 14 (by kernel_rfl)]
      all_goals
       clear i n m k;refine .inl ⟨by kernel_rfl,?_⟩;go_simp;exact⟨_,rfl,Fr.refl _ _,rfl,trivial⟩
     ·intro u w' j i k;have C:u 15=_:=i 15 (by omega);clear i k;simp only[List.take_succ_cons,List.take_zero,List.map_cons,List.map_nil,an,Act.put,List.setIfInBounds_toArray,List.set_cons_zero,List.set_cons_succ,List.drop_succ_cons,List.drop_zero,Nat.reduceAdd,Nat.zero_add,C];have J:=Lib.hid (D.out.trans j);clear j C;go_upto_region 8 with fail;refine aA 14 af [Is (.pointer aw),Is (.pointer (some ⟨g,0,none⟩)),Is (.pointer (some ⟨F,0,none⟩)),Is (.pointer (some ⟨F,0,none⟩)),Is (.pointer (some ⟨F,0,none⟩)),Is (.pointer Y),(fun I H=>∃z,I= .pointer z∧bO H z (.node l nm v aa)),Is (.pointer (some ⟨F,0,none⟩)),Is (.pointer (some ⟨F,0,none⟩)),Is (.pointer (some ⟨F,0,none⟩)),Is (.pointer (some ⟨F,1,none⟩)),Is (.pointer P),(fun I H=>∃z,I= .pointer z∧bO H z (.node (.node l nm v aa) M am rr)),(fun I H=>∃z,I= .pointer z∧bO H z (.node (.node l nm v aa) M am rr))] [] (fun _=>True) (fun _ _=>false) (by kernel_rfl) (by kernel_rfl) (by kernel_rfl) (by kernel_rfl) ⟨Is.ag _,Is.ag _,Is.ag _,Is.ag _,Is.ag _,Is.ag _,fun v w1 w2 _ f h=>by obtain⟨a,e,o⟩:=h;exact⟨a,e,o.al f⟩,Is.ag _,Is.ag _,Is.ag _,Is.ag _,Is.ag _,fun v w1 w2 _ f h=>by obtain⟨a,e,o⟩:=h;exact⟨a,e,o.al f⟩,fun v w1 w2 _ f h=>by obtain⟨a,e,o⟩:=h;exact⟨a,e,o.al f⟩,trivial⟩ trivial (fun _ _ _ _ h=>h) trivial ?_ ?_
      ·refine⟨?XX,?XY,?XZ,?YL,?YM,?YN,?YO,?z0,?z1,?YP,?yW,?yX,?yY,?yZ,trivial⟩;all_goals intro u w' d j i n m k
       all_goals simp only[List.take_succ_cons,List.take_zero,List.map_cons,List.map_nil,an,Act.put,List.setIfInBounds_toArray,List.set_cons_zero,List.set_cons_succ,Nat.reduceAdd,Nat.zero_add]
       case' YL=>simp only[show u 2=_ from i 2 (by kernel_rfl)]
       case' YM=>simp only[show u 3=_ from i 3 (by kernel_rfl)]
       case YN=>
        simp only[show u 4=_ from i 4 (by kernel_rfl)];clear i n m k;refine .inl ⟨by kernel_rfl,?_⟩;have q:=j.aj (J.out.aj aq.out (fun x=>x)) (fun x=>x);go_simp;exact⟨_,rfl,Fr.refl _ _,rfl,trivial⟩
       case YO=>
        simp only[show u 0=_ from i 0 (by kernel_rfl),show u 1=_ from i 1 (by kernel_rfl),show u 5=_ from i 5 (by kernel_rfl)];clear i n m k;refine .inl ⟨by kernel_rfl,?_⟩;go_simp;refine(ep _ aw Y l aa g nm v (aY.out.al (J.out.trans j)) (aF.out.al (J.out.trans j)) (aR.out.al (J.out.trans j)) (by have A:=t.out;have B:=s.out;simp only[Tr.size,Tr.bytes]at A B⊢;omega) (by have A:=t.out;have B:=s.out;simp only[Tr.size,Tr.bytes]at A B⊢;omega)).mono ?_;rintro e Q⟨a,rfl,o,f4⟩;exact⟨_,rfl,f4.bA,⟨a,rfl,o⟩,trivial⟩
       case' YP=>simp only[show u 8=_ from i 8 (by kernel_rfl)]
       case' yW=>simp only[show u 9=_ from i 9 (by kernel_rfl)]
       case yX=>
        simp only[show u 10=_ from i 10 (by kernel_rfl)];clear i n m k;refine .inl ⟨by kernel_rfl,?_⟩;have q:=j.aj (J.out.aj ar.out (fun x=>x)) (fun x=>x);go_simp;exact⟨_,rfl,Fr.refl _ _,rfl,trivial⟩
       case yY=>
        obtain⟨a7,ba,n6⟩:=i 6 (by kernel_rfl);simp only[ba,show u 7=_ from i 7 (by kernel_rfl),show u 11=_ from i 11 (by kernel_rfl)];clear i n m k;refine .inl ⟨by kernel_rfl,?_⟩;go_simp;refine(ep _ a7 P (.node l nm v aa) rr F M am n6 (aG.out.al (J.out.trans j)) (bm.out.al (J.out.trans j)) (by have A:=t.out;have B:=s.out;simp only[Tr.size,Tr.bytes]at A B⊢;omega) (by have A:=t.out;have B:=s.out;simp only[Tr.size,Tr.bytes]at A B⊢;omega)).mono ?_;rintro e Q⟨a,rfl,o,f4⟩;exact⟨_,rfl,f4.bA,⟨a,rfl,o⟩,trivial⟩
       case yZ=>
        obtain⟨a12,aI,aO⟩:=i 12 (by kernel_rfl);simp only[aI];clear i n m k;refine .inl ⟨by kernel_rfl,?_⟩;go_simp;exact⟨_,rfl,Fr.refl _ _,⟨_,rfl,aO⟩,trivial⟩
       all_goals
        clear i n m k;refine .inl ⟨by kernel_rfl,?_⟩;go_simp;exact⟨_,rfl,Fr.refl _ _,rfl,trivial⟩
      ·intro u w' j i k;obtain⟨a4,ab,ai⟩:=i 13 (by omega);clear i k;simp only[List.take_succ_cons,List.take_zero,List.map_cons,List.map_nil,an,Act.put,List.setIfInBounds_toArray,List.set_cons_zero,List.set_cons_succ,List.drop_succ_cons,List.drop_zero,Nat.reduceAdd,Nat.zero_add,ab];have ao:=Lib.hid (J.out.trans j);have ap:=Lib.hid ai;clear j ai ab;go_wp2;go_ret;exact⟨_,_,rfl,ap.out,by simp[Tr.aW],ao.out⟩
    ·have bg:decide (p≤q)=false:=decide_eq_false ah;obtain⟨R,G,V,T,rfl⟩:∃R G V T,aa= .node R G V T:=by
      cases aa with
      |leaf=>have aL:=bi.out;simp only[Tr.bQ]at aL;omega
      |node a b c d=>exact⟨a,b,c,d,rfl⟩
     obtain⟨K,S,U,rfl,ad,ae,N⟩:=aF.out;have az:=Lib.hid ad;have aB:=Lib.hid ae;have a2:Hid (Mid w K G V):=Mid.of N;have d0:Hid (w.cell? ⟨K,0,none⟩=some (.pointer S)):=N.cell 0;have d1:Hid (w.cell? ⟨K,1,none⟩=some (.pointer U)):=N.cell 1;clear ad ae N;go_upto_region 7 with fail;refine aA 16 af [Is (.int .i64 d),Is (.bool true),Is (.bool true),Is (.pointer (some ⟨F,0,none⟩)),Is (.pointer (some ⟨F,0,none⟩)),Is (.pointer (some ⟨F,1,none⟩)),Is (.pointer P),Is (.int .i64 q),Is (.pointer (some ⟨F,0,none⟩)),Is (.pointer (some ⟨F,0,none⟩)),Is (.pointer (some ⟨F,0,none⟩)),Is (.pointer (some ⟨K,0,none⟩)),Is (.int .i64 p),Is (.bool false),Is (.bool false),Is (.bool false)] [] (fun _=>True) (fun _ _=>false) (by kernel_rfl) (by kernel_rfl) (by kernel_rfl) (by kernel_rfl) ⟨Is.ag _,Is.ag _,Is.ag _,Is.ag _,Is.ag _,Is.ag _,Is.ag _,Is.ag _,Is.ag _,Is.ag _,Is.ag _,Is.ag _,Is.ag _,Is.ag _,Is.ag _,Is.ag _,trivial⟩ trivial (fun _ _ _ _ h=>h) trivial ?_ ?_
     ·refine⟨?z2,?YQ,?YR,?YS,?YT,?YU,?YV,?YW,?YX,?YY,?xA,?xB,?xC,?xD,?xE,?xF,trivial⟩;all_goals intro u w' d j i n m k
      all_goals simp only[List.take_succ_cons,List.take_zero,List.map_cons,List.map_nil,an,Act.put,List.setIfInBounds_toArray,List.set_cons_zero,List.set_cons_succ,Nat.reduceAdd,Nat.zero_add]
      case' YQ=>simp only[show u 0=_ from i 0 (by kernel_rfl)]
      case' YR=>simp only[show u 1=_ from i 1 (by kernel_rfl)]
      case' YS=>simp only[show u 2=_ from i 2 (by kernel_rfl)]
      case' YT=>simp only[show u 3=_ from i 3 (by kernel_rfl),show u 2=_ from i 2 (by kernel_rfl)]
      case' YU=>simp only[show u 4=_ from i 4 (by kernel_rfl),show u 2=_ from i 2 (by kernel_rfl)]
      case YV=>
       simp only[show u 5=_ from i 5 (by kernel_rfl),show u 2=_ from i 2 (by kernel_rfl)];clear i n m k;refine .inl ⟨by kernel_rfl,?_⟩;have q:=j.aj (D.out.aj ar.out (fun x=>x)) (fun x=>x);go_simp;exact⟨_,rfl,Fr.refl _ _,rfl,trivial⟩
      case YW=>
       simp only[show u 6=_ from i 6 (by kernel_rfl),show u 2=_ from i 2 (by kernel_rfl)];clear i n m k;refine .inl ⟨by kernel_rfl,?_⟩;go_simp;refine(H1.out _ (D.out.trans j)).mono ?_;rintro e Q⟨rfl,rfl⟩;exact⟨_,rfl,Fr.refl _ _,rfl,trivial⟩
      case' YX=>simp only[show u 2=_ from i 2 (by kernel_rfl)]
      case' YY=>simp only[show u 8=_ from i 8 (by kernel_rfl),show u 2=_ from i 2 (by kernel_rfl)]
      case' xA=>simp only[show u 9=_ from i 9 (by kernel_rfl),show u 2=_ from i 2 (by kernel_rfl)]
      case xB=>
       simp only[show u 10=_ from i 10 (by kernel_rfl),show u 2=_ from i 2 (by kernel_rfl)];clear i n m k;refine .inl ⟨by kernel_rfl,?_⟩;have q:=j.aj (D.out.aj aq.out (fun x=>x)) (fun x=>x);go_simp;exact⟨_,rfl,Fr.refl _ _,rfl,trivial⟩
      case xC=>
       simp only[show u 11=_ from i 11 (by kernel_rfl),show u 2=_ from i 2 (by kernel_rfl)];clear i n m k;refine .inl ⟨by kernel_rfl,?_⟩;go_simp;refine(ay.out _ (D.out.trans j)).mono ?_;rintro e Q⟨rfl,rfl⟩;exact⟨_,rfl,Fr.refl _ _,rfl,trivial⟩
      case' xD=>simp only[show u 7=_ from i 7 (by kernel_rfl),show u 12=_ from i 12 (by kernel_rfl),show u 2=_ from i 2 (by kernel_rfl)]
      case' xE=>simp only[show u 2=_ from i 2 (by kernel_rfl),show u 13=_ from i 13 (by kernel_rfl)]
      case' xF=>simp only[show u 14=_ from i 14 (by kernel_rfl)]
      all_goals
       clear i n m k;refine .inl ⟨by kernel_rfl,?_⟩;go_simp;exact⟨_,rfl,Fr.refl _ _,rfl,trivial⟩
     ·intro u w' j i k;have C:u 15=_:=i 15 (by omega);clear i k;simp only[List.take_succ_cons,List.take_zero,List.map_cons,List.map_nil,an,Act.put,List.setIfInBounds_toArray,List.set_cons_zero,List.set_cons_succ,List.drop_succ_cons,List.drop_zero,Nat.reduceAdd,Nat.zero_add,C];have J:=Lib.hid (D.out.trans j);have bx:=J.out.aj aq.out (fun x=>x);clear j C;go_upto_region 11 with fail;refine aA 20 af [Is (.pointer aw),Is (.pointer (some ⟨g,0,none⟩)),Is (.pointer (some ⟨K,0,none⟩)),Is (.pointer (some ⟨K,0,none⟩)),Is (.pointer (some ⟨K,0,none⟩)),Is (.pointer S),(fun I H=>∃z,I= .pointer z∧bO H z (.node l nm v R)),Is (.pointer (some ⟨K,0,none⟩)),Is (.pointer (some ⟨K,0,none⟩)),Is (.pointer (some ⟨K,0,none⟩)),Is (.pointer (some ⟨K,1,none⟩)),Is (.pointer U),Is (.pointer (some ⟨F,0,none⟩)),Is (.pointer (some ⟨F,0,none⟩)),Is (.pointer (some ⟨F,0,none⟩)),Is (.pointer (some ⟨F,1,none⟩)),Is (.pointer P),(fun I H=>∃z,I= .pointer z∧bO H z (.node T M am rr)),(fun I H=>∃z,I= .pointer z∧bO H z (.node (.node l nm v R) G V (.node T M am rr))),(fun I H=>∃z,I= .pointer z∧bO H z (.node (.node l nm v R) G V (.node T M am rr)))] [] (fun _=>True) (fun _ _=>false) (by kernel_rfl) (by kernel_rfl) (by kernel_rfl) (by kernel_rfl) ⟨Is.ag _,Is.ag _,Is.ag _,Is.ag _,Is.ag _,Is.ag _,fun v w1 w2 _ f h=>by obtain⟨a,e,o⟩:=h;exact⟨a,e,o.al f⟩,Is.ag _,Is.ag _,Is.ag _,Is.ag _,Is.ag _,Is.ag _,Is.ag _,Is.ag _,Is.ag _,Is.ag _,fun v w1 w2 _ f h=>by obtain⟨a,e,o⟩:=h;exact⟨a,e,o.al f⟩,fun v w1 w2 _ f h=>by obtain⟨a,e,o⟩:=h;exact⟨a,e,o.al f⟩,fun v w1 w2 _ f h=>by obtain⟨a,e,o⟩:=h;exact⟨a,e,o.al f⟩,trivial⟩ trivial (fun _ _ _ _ h=>h) trivial ?_ ?_
      ·refine⟨?z3,?z4,?z5,?YZ,?XA,?XB,?XC,?z6,?z7,?XD,?xG,?xH,?XK,?XL,?xI,?xJ,?xK,?xL,?xM,?xN,trivial⟩;all_goals intro u w' d j i n m k
       all_goals simp only[List.take_succ_cons,List.take_zero,List.map_cons,List.map_nil,an,Act.put,List.setIfInBounds_toArray,List.set_cons_zero,List.set_cons_succ,Nat.reduceAdd,Nat.zero_add]
       case' YZ=>simp only[show u 2=_ from i 2 (by kernel_rfl)]
       case' XA=>simp only[show u 3=_ from i 3 (by kernel_rfl)]
       case XB=>
        simp only[show u 4=_ from i 4 (by kernel_rfl)];clear i n m k;refine .inl ⟨by kernel_rfl,?_⟩;have q:=j.aj (J.out.aj d0.out (fun x=>x)) (fun x=>x);go_simp;exact⟨_,rfl,Fr.refl _ _,rfl,trivial⟩
       case XC=>
        simp only[show u 0=_ from i 0 (by kernel_rfl),show u 1=_ from i 1 (by kernel_rfl),show u 5=_ from i 5 (by kernel_rfl)];clear i n m k;refine .inl ⟨by kernel_rfl,?_⟩;go_simp;refine(ep _ aw S l R g nm v (aY.out.al (J.out.trans j)) (az.out.al (J.out.trans j)) (aR.out.al (J.out.trans j)) (by have A:=t.out;have B:=s.out;simp only[Tr.size,Tr.bytes]at A B⊢;omega) (by have A:=t.out;have B:=s.out;simp only[Tr.size,Tr.bytes]at A B⊢;omega)).mono ?_;rintro e Q⟨a,rfl,o,f4⟩;exact⟨_,rfl,f4.bA,⟨a,rfl,o⟩,trivial⟩
       case' XD=>simp only[show u 8=_ from i 8 (by kernel_rfl)]
       case' xG=>simp only[show u 9=_ from i 9 (by kernel_rfl)]
       case xH=>
        simp only[show u 10=_ from i 10 (by kernel_rfl)];clear i n m k;refine .inl ⟨by kernel_rfl,?_⟩;have q:=j.aj (J.out.aj d1.out (fun x=>x)) (fun x=>x);go_simp;exact⟨_,rfl,Fr.refl _ _,rfl,trivial⟩
       case' xI=>simp only[show u 13=_ from i 13 (by kernel_rfl)]
       case' xJ=>simp only[show u 14=_ from i 14 (by kernel_rfl)]
       case xK=>
        simp only[show u 15=_ from i 15 (by kernel_rfl)];clear i n m k;refine .inl ⟨by kernel_rfl,?_⟩;have q:=j.aj (J.out.aj ar.out (fun x=>x)) (fun x=>x);go_simp;exact⟨_,rfl,Fr.refl _ _,rfl,trivial⟩
       case xL=>
        simp only[show u 11=_ from i 11 (by kernel_rfl),show u 12=_ from i 12 (by kernel_rfl),show u 16=_ from i 16 (by kernel_rfl)];clear i n m k;refine .inl ⟨by kernel_rfl,?_⟩;go_simp;refine(ep _ U P T rr F M am (aB.out.al (J.out.trans j)) (aG.out.al (J.out.trans j)) (bm.out.al (J.out.trans j)) (by have A:=t.out;have B:=s.out;simp only[Tr.size,Tr.bytes]at A B⊢;omega) (by have A:=t.out;have B:=s.out;simp only[Tr.size,Tr.bytes]at A B⊢;omega)).mono ?_;rintro e Q⟨a,rfl,o,f4⟩;exact⟨_,rfl,f4.bA,⟨a,rfl,o⟩,trivial⟩
       case xM=>
        obtain⟨a7,ba,n6⟩:=i 6 (by kernel_rfl);obtain⟨aH,aJ,aP⟩:=i 17 (by kernel_rfl);simp only[ba,show u 7=_ from i 7 (by kernel_rfl),aJ];clear i n m k;refine .inl ⟨by kernel_rfl,?_⟩;go_simp;refine(ep _ a7 aH (.node l nm v R) (.node T M am rr) K G V n6 aP (a2.out.al (J.out.trans j)) (by have A:=t.out;have B:=s.out;simp only[Tr.size,Tr.bytes]at A B⊢;omega) (by have A:=t.out;have B:=s.out;simp only[Tr.size,Tr.bytes]at A B⊢;omega)).mono ?_;rintro e Q⟨a,rfl,o,f4⟩;exact⟨_,rfl,f4.bA,⟨a,rfl,o⟩,trivial⟩
       case xN=>
        obtain⟨a5,aK,aQ⟩:=i 18 (by kernel_rfl);simp only[aK];clear i n m k;refine .inl ⟨by kernel_rfl,?_⟩;go_simp;exact⟨_,rfl,Fr.refl _ _,⟨_,rfl,aQ⟩,trivial⟩
       all_goals
        clear i n m k;refine .inl ⟨by kernel_rfl,?_⟩;go_simp;exact⟨_,rfl,Fr.refl _ _,rfl,trivial⟩
      ·intro u w' j i k;obtain⟨a6,ac,ak⟩:=i 19 (by omega);clear i k;simp only[List.take_succ_cons,List.take_zero,List.map_cons,List.map_nil,an,Act.put,List.setIfInBounds_toArray,List.set_cons_zero,List.set_cons_succ,List.drop_succ_cons,List.drop_zero,Nat.reduceAdd,Nat.zero_add,ac];have ao:=Lib.hid (J.out.trans j);have ap:=Lib.hid ak;clear j ak ac;go_wp2;go_ret;exact⟨_,_,rfl,ap.out,by simp[Tr.aW],ao.out⟩
   ·have bw:decide (d<(-1:Int))=false:=decide_eq_false a0;clear aS a0;go_upto_region 7 with fail;refine aA 16 af [Is (.int .i64 d),Is (.bool false),Is (.bool false),Is (undef),Is (undef),Is (undef),Is (undef),Is (undef),Is (undef),Is (undef),Is (undef),Is (undef),Is (undef),Is (undef),Is (.bool false),Is (.bool false)] [] (fun _=>True) (fun _ _=>false) (by kernel_rfl) (by kernel_rfl) (by kernel_rfl) (by kernel_rfl) ⟨Is.ag _,Is.ag _,Is.ag _,Is.ag _,Is.ag _,Is.ag _,Is.ag _,Is.ag _,Is.ag _,Is.ag _,Is.ag _,Is.ag _,Is.ag _,Is.ag _,Is.ag _,Is.ag _,trivial⟩ trivial (fun _ _ _ _ h=>h) trivial ?_ ?_
    ·refine⟨?XE,?zG,?zH,?zI,?zJ,?zK,?zL,?zM,?zN,?zO,?zA,?zB,?zC,?zD,?zE,?zF,trivial⟩;all_goals intro u w' d j i n m k
     all_goals simp only[List.take_succ_cons,List.take_zero,List.map_cons,List.map_nil,an,Act.put,List.setIfInBounds_toArray,List.set_cons_zero,List.set_cons_succ,Nat.reduceAdd,Nat.zero_add]
     case' zG=>simp only[show u 0=_ from i 0 (by kernel_rfl)]
     case' zH=>simp only[show u 1=_ from i 1 (by kernel_rfl)]
     case zI=>simp only[show u 2=_ from i 2 (by kernel_rfl)];exact .inr ⟨by kernel_rfl,_,rfl,Fr.refl _ _,rfl,trivial⟩
     case zJ=>simp only[show u 2=_ from i 2 (by kernel_rfl)];exact .inr ⟨by kernel_rfl,_,rfl,Fr.refl _ _,rfl,trivial⟩
     case zK=>simp only[show u 2=_ from i 2 (by kernel_rfl)];exact .inr ⟨by kernel_rfl,_,rfl,Fr.refl _ _,rfl,trivial⟩
     case zL=>simp only[show u 2=_ from i 2 (by kernel_rfl)];exact .inr ⟨by kernel_rfl,_,rfl,Fr.refl _ _,rfl,trivial⟩
     case zM=>simp only[show u 2=_ from i 2 (by kernel_rfl)];exact .inr ⟨by kernel_rfl,_,rfl,Fr.refl _ _,rfl,trivial⟩
     case zN=>simp only[show u 2=_ from i 2 (by kernel_rfl)];exact .inr ⟨by kernel_rfl,_,rfl,Fr.refl _ _,rfl,trivial⟩
     case zO=>simp only[show u 2=_ from i 2 (by kernel_rfl)];exact .inr ⟨by kernel_rfl,_,rfl,Fr.refl _ _,rfl,trivial⟩
     case zA=>simp only[show u 2=_ from i 2 (by kernel_rfl)];exact .inr ⟨by kernel_rfl,_,rfl,Fr.refl _ _,rfl,trivial⟩
     case zB=>simp only[show u 2=_ from i 2 (by kernel_rfl)];exact .inr ⟨by kernel_rfl,_,rfl,Fr.refl _ _,rfl,trivial⟩
     case zC=>simp only[show u 2=_ from i 2 (by kernel_rfl)];exact .inr ⟨by kernel_rfl,_,rfl,Fr.refl _ _,rfl,trivial⟩
     case zD=>simp only[show u 2=_ from i 2 (by kernel_rfl)];exact .inr ⟨by kernel_rfl,_,rfl,Fr.refl _ _,rfl,trivial⟩
     case' zE=>simp only[show u 2=_ from i 2 (by kernel_rfl),show u 13=_ from i 13 (by kernel_rfl)]
     case' zF=>simp only[show u 14=_ from i 14 (by kernel_rfl)]
     all_goals
      clear i n m k;refine .inl ⟨by kernel_rfl,?_⟩;go_simp;exact⟨_,rfl,Fr.refl _ _,rfl,trivial⟩
    ·intro u w' j i k;have C:u 15=_:=i 15 (by omega);clear i k;simp only[List.take_succ_cons,List.take_zero,List.map_cons,List.map_nil,an,Act.put,List.setIfInBounds_toArray,List.set_cons_zero,List.set_cons_succ,List.drop_succ_cons,List.drop_zero,Nat.reduceAdd,Nat.zero_add,C];have J:=Lib.hid (D.out.trans j);clear j C;go_wp2_with fail;refine(ep _ aw ax l r g nm v (aY.out.al J.out) (aZ.out.al J.out) (aR.out.al J.out) (by have A:=t.out;omega) (by have B:=s.out;omega)).mono ?_;rintro e Q⟨a,rfl,o,f4⟩;have ap:=Lib.hid o;have ao:=Lib.hid (J.out.trans f4);clear o f4;go_wp2;go_ret;exact⟨_,_,rfl,ap.out,by simp[Tr.aW],ao.out⟩
end Go.Proofs.YtphjagkehiklkaaGreatDoor
